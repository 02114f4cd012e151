/- ShaBits: the law's walk. -/
import Derived.Test.YtocjjojjkcilbaaDoorRow
import Derived.Deep.RegionHeld3
import Derived.Deep.MidRow
namespace Go.Proofs.YtocjjojjkcilbaaDoor
open Go.RowKit Go.Proofs.YtocjjojjkcilbaaDoorW.PrintWords Go.Proofs.YtocjjojjkcilbaaDoorW.PrintLast Go.Proofs.YtocjjojjkcilbaaDoorW.PrintMore
set_option linter.unusedVariables false
theorem rd_app_right (b a c : List Int) (j : Nat) (h : j < a.length) : rd (b ++ a ++ c) ((b.length + j : Nat) : Int) = rd a j := by
  simp only [rd, List.getD, Int.toNat_natCast]
  rw [List.append_assoc, List.getElem?_append_right (by omega), show b.length + j - b.length = j by omega, List.getElem?_append_left h]
set_option maxHeartbeats 1000000 in
theorem shaBits.big (A B : Option Addr) (cA cB : Nat) (a b : List Int) (w : World) (hG : Glob w) (hr : Kd.C (Kd.int .u8) w A a.length a) (hrb : Kd.C (Kd.int .u8) w B b.length b) (hc : a.length ≤ cA) (hcb : b.length ≤ cB) (hbig : 400 < a.length + b.length) (hla : a.length ≤ 140737488351232) (hlb : b.length ≤ 140737488351232) :
    Calls Tryd.prog 5 #[.slice A a.length cA, .slice B b.length cB] w fun e w' => e = .returned (.bool true) ∧ Below w.heap.size w w' := by
  have e1 : decide ((400 : Int) < (a.length : Int) + (b.length : Int)) = true := decide_eq_true (by omega)
  go_enter Tryd.func5, Tryd.ntmps5
  go_wp2_with fail
  refine (known.calls w hG).mono ?_
  rintro e w3 ⟨rfl, hd⟩
  go_wp2
  go_ret
  exact ⟨rfl, hd⟩
set_option maxHeartbeats 1000000 in
theorem shaBits.small (A B : Option Addr) (cA cB : Nat) (a b : List Int) (w : World) (hG : Glob w) (hr : Kd.C (Kd.int .u8) w A a.length a) (hrb : Kd.C (Kd.int .u8) w B b.length b) (hc : a.length ≤ cA) (hcb : b.length ≤ cB) (hbig : a.length + b.length ≤ 400) :
    Calls Tryd.prog 5 #[.slice A a.length cA, .slice B b.length cB] w fun e w' => e = .returned (.bool true) ∧ Below w.heap.size w w' := by
  have e1 : decide ((400 : Int) < (a.length : Int) + (b.length : Int)) = false := decide_eq_false (by omega)
  have HG := Aside0.mk hG
  obtain ⟨D, hD⟩ : ∃ D, part8u 32 (digest a) = D.toArray := ⟨(part8u 32 (digest a)).toList, by simp⟩
  have heq : ∀ w, (binOp .eql 24 (.agg D.toArray) (.agg D.toArray)).run Tryd.prog w = .ok (.bool true) w := by rw [← hD]; exact eql_part _
  have hDl : D.length = 32 := by have := p8_size 32 (digest a); rw [hD] at this; simpa using this
  have hDone : D.toArray.all (·.oneCell') = true := by rw [← hD]; exact p8_one _ _
  have HD := Aside0.mk hD
  clear hD
  have HA := Aside0.mk hr
  have HBb := Aside0.mk hrb
  clear hG hr hrb
  go_enter Tryd.func5, Tryd.ntmps5
  go_upto_region 7 with (first
    | ((with_reducible refine gate_builtin (b := .append) (xs := #[.tmp 15, .tmp 16]) rfl ?_); at_builtin; refine Kd.R_append_rows (Kd.int .u8) (w0 := w) w.heap.size rfl (.tmp 15) (.tmp 16) 22 5 (.int .u8 0) 1 rfl Tryd.underlying22 info5 rfl (by decide) (by omega) (.slice none 0 0) ([] : List Int) b _ _ _ (fun _ => True) (fun _ => False) rfl rfl ?aO ?aR (fun _ _ h => h) (fun _ h => h.elim) ?aF ?aB ?aS ?aL ?_; (case aR => exact HBb.out); (case aB => exact Below.refl _ _); (case aF => exact (fun _ _ => trivial)); (case aO => exact Kd.R_nil _ _ _ _ _); (case aS => exact Nat.le_refl _); (case aL => simp; omega); intro v1 w1 ho hb hg hat; have HO1 := Aside0.mk ho; have HB1 := Aside0.mk hb; clear ho hb hg hat)
    | ((with_reducible refine gate_builtin (b := .append) (xs := #[.tmp 18, .tmp 19]) rfl ?_); at_builtin; refine Kd.R_append_rows (Kd.int .u8) (w0 := w) w.heap.size rfl (.tmp 18) (.tmp 19) 22 5 (.int .u8 0) 1 rfl Tryd.underlying22 info5 rfl (by decide) (by omega) v1 ([] ++ b) a _ _ _ (fun _ => True) (fun _ => False) rfl rfl ?aO ?aR (fun _ _ h => h) (fun _ h => h.elim) ?aF ?aB ?aS ?aL ?_; (case aR => exact Kd.C_below HA.out HB1.out); (case aB => exact HB1.out); (case aF => exact (fun _ _ => trivial)); (case aO => exact HO1.out); (case aS => exact HB1.out.size); (case aL => simp; omega); intro v2 w2 ho hb hg hat; have HO2 := Aside0.mk ho; have HB2 := Aside0.mk hb; clear ho hb hg hat)
    | ((with_reducible refine gate_builtin (b := .append) (xs := #[.tmp 21, .tmp 22]) rfl ?_); at_builtin; refine Kd.R_append (Kd.int .u8) (w0 := w) w.heap.size rfl (.tmp 21) (.tmp 22) 22 5 (.int .u8 0) 1 rfl Tryd.underlying22 info5 rfl (by decide) (by omega) v2 ([] ++ b ++ a) 7 [.int .u8 7] (fun _ => True) (fun _ => False) rfl rfl ?aP (fun _ hk => hk.elim) ?aF ?aO ?aB ?aS ?aL ?_; (case aP => exact rfl); (case aB => exact HB2.out); (case aF => exact (fun _ _ => trivial)); (case aO => exact HO2.out); (case aS => exact HB2.out.size); (case aL => simp; omega); intro v3 w3 ho hb hg hat; have HO3 := Aside0.mk ho; have HB3 := Aside0.mk hb; clear ho hb hg hat))
  clear HO1 HB1 HO2 HB2
  rw [List.nil_append] at HO3
  have hl3 : (b ++ a ++ [7] : List Int).length = b.length + a.length + 1 := by simp; omega
  obtain ⟨A3, c3, rfl⟩ := Kd.R_slice HO3.out
  have hrd := Kd.R_reads' HO3.out
  generalize hX : (b ++ a ++ [7] : List Int) = X at *
  have HX := Aside0.mk hX
  clear hX
  rw [hl3]
  rw [hl3] at hrd
  have hc3 := hrd.2.1
  obtain ⟨ad, rfl, _⟩ := Kd.at_int hrd.2.2 0 (by omega) (by omega)
  have hcells : ∀ j : Nat, j < b.length + a.length + 1 → w3.cell? (ad.add j) = some (.int .u8 (rd X j)) := by
    intro j hj
    obtain ⟨ad', e', hc'⟩ := Kd.at_int hrd.2.2 (j : Int) (by omega) (by omega)
    cases e'
    simpa using hc'
  have HC := Aside0.mk hcells
  clear hcells hrd HO3
  go_wp2_with fail
  rw [show b.length + a.length - b.length = a.length by omega]
  have hcy : ∀ j : Nat, j < a.length → w3.cell? ((ad.add b.length).add j) = some (.int .u8 (rd a j)) := by
    intro j hj
    rw [add_add, HC.out (b.length + j) (by omega), ← HX.out, rd_app_right b a [7] j hj]
  have hy : Kd.C (Kd.int .u8) w3 (some (ad.add b.length)) a.length a := by
    refine Kd.C_of_reads (d := 0) (h1 := fun _ => rfl) ⟨rfl, by omega, fun _ => ⟨_, rfl, fun j hj => ?_⟩⟩
    rw [hcy j hj]
    simp [rd, List.getD, hj]
  have HCY := Aside0.mk hcy
  refine (sha_Sum.calls _ _ a _ (HG.out.below HB3.out) hy (by omega) (by omega)).mono ?_
  rintro e w4 ⟨rfl, hb⟩
  have HB4 := Aside0.mk (below_step HB3.out hb)
  have HBy := Aside0.mk hb
  clear hb hcy
  rw [HD.out]
  go_wp2_with (first | (refine wpList_alloc_row rfl 24 rfl _ info24' ?_) | (refine wpList_store_row rfl 24 _ _ rfl _ D.toArray rfl rfl 24 (part8u 32 []) (heap_alloc_new _ _) (by simp only [List.size_toArray, hDl]; kernel_rfl) (by simp only [List.size_toArray, hDl]; kernel_rfl) hDone ?_))
  have hb5 := below_setRow (HB4.out.alloc HB4.out.size (.cells (part8u 32 []) 24)) HB4.out.size D.toArray
  have hb53 := below_setRow (HBy.out.alloc HBy.out.size (.cells (part8u 32 []) 24)) HBy.out.size D.toArray
  have hrow := setRow_heap _ _ _ D.toArray _ _ (heap_alloc_new w4 (.cells (part8u 32 []) 24))
  generalize (w4.alloc (.cells (part8u 32 []) 24)).setRow w4.heap.size D.toArray = w5 at *
  generalize w4.heap.size = g at *
  clear w4 HB4 HBy
  have hc7 : w3.cell? (ad.add (b.length + a.length)) = some (.int .u8 7) := by
    rw [HC.out _ (by omega), ← HX.out]
    simp only [rd, List.getD, Int.toNat_natCast]
    rw [List.getElem?_append_right (by simp)]
    simp
  have hk : ∀ w', Below w5.heap.size w5 w' → Glob w' ∧ Kd.C (Kd.int .u8) w' A a.length a ∧ w'.rangeAt g 0 D ∧ (convert 22 9 (.slice (some (ad.add b.length)) a.length (c3 - b.length))).run Tryd.prog w' = .ok (.string (strOfNums a)) w' ∧ (convert 22 9 (.slice A a.length cA)).run Tryd.prog w' = .ok (.string (strOfNums a)) w' ∧ w'.cell? (ad.add (b.length + a.length)) = some (.int .u8 7) ∧ Below w5.heap.size w5 w' := by
    intro w' hb
    have h1 := below_step hb5 hb
    have h2 := below_step hb53 hb
    have hA := Kd.C_below HA.out h1
    have hY := Kd.C_below hy h2
    have hg := (hb.block g (Array.getElem?_eq_some_iff.1 hrow).1).trans hrow
    refine ⟨HG.out.below h1, hA, ?_, conv_row _ _ _ _ hY, conv_row _ _ _ _ hA, ?_, hb⟩
    · intro j v hv
      rw [Nat.zero_add, cell_of_row _ _ _ _ _ _ hg]
      simpa using hv
    · rw [← hc7]
      have hlt := block_lt_of_cell hc7
      unfold World.cell?
      rw [h2.block _ hlt]
  generalize hN : b.length + a.length + 1 = N at *
  generalize hm : b.length + a.length = m at *
  have hNm : IntKind.i64.wrap ((N : Int) - 1) = (m : Int) := by rw [IntKind.wrap_i64]; omega
  have hm0 : (0 : Int) ≤ (m : Int) := by omega
  have hmN : (m : Int) < (N : Int) := by omega
  have hmN' : m < N := by omega
  have hu24 := Tryd.underlying24
  have hi24 : (Tryd.prog.info? 24).map (·.size) = some D.length := by rw [hDl]; kernel_rfl
  go_region_held3 (fun w' => Glob w' ∧ Kd.C (Kd.int .u8) w' A a.length a ∧ w'.rangeAt g 0 D ∧ (convert 22 9 (.slice (some (ad.add b.length)) a.length (c3 - b.length))).run Tryd.prog w' = .ok (.string (strOfNums a)) w' ∧ (convert 22 9 (.slice A a.length cA)).run Tryd.prog w' = .ok (.string (strOfNums a)) w' ∧ w'.cell? (ad.add m) = some (.int .u8 7) ∧ Below w5.heap.size w5 w') (first | exact hk _ (by assumption) | exact hk _ (Below.refl _ _).drew | (go_split_ands; exact hk _ (by assumption)) | (go_split_ands; exact hk _ (Below.drew (by assumption)))) (first | (go_at_call 6; go_split_ands; refine (known.calls _ (by assumption)).mono ?_; rintro e w' ⟨rfl, hb⟩; have hbb := below_step (by assumption) hb; clear hb) | (go_at_call 7; go_split_ands; refine (sha_Sum.calls _ _ a _ (by assumption) (by assumption) (by omega) (by omega)).mono ?_; rintro e w' ⟨rfl, hb⟩; have hbb := below_step (by assumption) hb; clear hb; rw [HD.out]))
  go_wp2
  go_ret
  exact ⟨by first | rfl | simp, below_step hb5 (by assumption)⟩
end Go.Proofs.YtocjjojjkcilbaaDoor
