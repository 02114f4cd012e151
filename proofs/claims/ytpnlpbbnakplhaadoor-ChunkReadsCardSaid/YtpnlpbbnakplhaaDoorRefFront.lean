/- roadsteadref18.front of the given program: the walk. -/
import Derived.Test.YtpnlpbbnakplhaaDoorRefPart
namespace Go.Proofs.YtpnlpbbnakplhaaDoor
open Go.RowKit Go.Proofs.YtpnlpbbnakplhaaDoorW.PrintWords Go.Proofs.YtpnlpbbnakplhaaDoorW.PrintLast Go.Proofs.YtpnlpbbnakplhaaDoorW.PrintMore Go.Proofs.YtpnlpbbnakplhaaDoor.RRight
set_option linter.unusedVariables false
/-- The head, and the first chunks. -/
def frontOf (l : List Int) (i : Nat) : List Int := ChunkPure.head Z l.length ++ ((ChunkPure.parts Z l.length 0 l).take i).flatten
theorem frontOf_zero (l : List Int) : frontOf l 0 = ChunkPure.head Z l.length := by simp [frontOf]
theorem frontOf_succ (l : List Int) (i : Nat) (h : 100 * i < l.length) : frontOf l (i + 1) = frontOf l i ++ ChunkPure.part Z i ((l.drop (100 * i)).take 100) := by
  have hg := ChunkPure.parts_get Z l.length 0 l i (Nat.le_refl _) (by omega)
  unfold frontOf
  rw [List.take_add_one, hg, List.flatten_append, Nat.zero_add]
  simp
theorem frontOf_all (l : List Int) (i : Nat) (h : l.length ≤ 100 * i) : frontOf l i = ChunkPure.front Z l := by
  unfold frontOf ChunkPure.front
  rw [List.take_of_length_le]
  rw [ChunkPure.parts_count Z _ _ _ (Nat.le_refl _)]
  omega
theorem frontOf_len (l : List Int) (i : Nat) : (frontOf l i).length ≤ 12 + 107 * i := by
  unfold frontOf
  rw [List.length_append, ChunkPure.head_length]
  have : ∀ (L : List (List Int)), (∀ x ∈ L, x.length ≤ 107) → L.flatten.length ≤ 107 * L.length := by
    intro L h
    induction L with
    | nil => simp
    | cons a L ih =>
      rw [List.flatten_cons, List.length_append, List.length_cons]
      have := ih (fun x hx => h x (List.mem_cons_of_mem _ hx))
      have := h a List.mem_cons_self
      omega
  have hall : ∀ (d j : Nat) (m : List Int), ∀ x ∈ ChunkPure.parts Z d j m, x.length ≤ 107 := by
    intro d
    induction d with
    | zero => intro j m x hx; simp [ChunkPure.parts] at hx
    | succ d ih =>
      intro j m x hx
      rw [ChunkPure.parts] at hx
      split at hx
      · cases hx
      · rcases List.mem_cons.1 hx with rfl | hx
        · rw [ChunkPure.part_length, List.length_take]; omega
        · exact ih _ _ x hx
  have h2 := this ((ChunkPure.parts Z l.length 0 l).take i) (fun x hx => hall _ _ _ x (List.mem_of_mem_take hx))
  have h3 : ((ChunkPure.parts Z l.length 0 l).take i).length ≤ i := by rw [List.length_take]; omega
  have := Nat.mul_le_mul_left 107 h3
  omega
set_option maxRecDepth 100000 in
set_option maxHeartbeats 4000000 in
theorem ref_front_calls (A : Option Addr) (c : Nat) (l : List Int) (w : World) (hR : Reads w A l) (hc : l.length ≤ c) (hl : l.length ≤ 1048576) (hb : Bytes l) :
    Calls Tryd.prog 21 #[.slice A l.length c] w fun e w' => ∃ v, e = .returned v ∧ Row w' w.heap.size (fun _ => True) v (ChunkPure.front Z l) ∧ Below w.heap.size w w' := by
  have HR := Aside0.mk hR
  have HBY := Aside0.mk hb
  clear hR hb
  go_enter Tryd.func21, Tryd.ntmps21
  go_wp2_with fail
  refine (Rfront.roadsteadref18_head.calls 200 (l.length : Int) _ w (rhead l.length hl 200 (by decide))).mono ?_
  rintro e w1 ⟨v1, rfl, ho1, hb1⟩
  have HO1 := Aside0.mk ho1
  have HB1 := Aside0.mk hb1
  clear ho1 hb1
  go_wp2_with fail
  go_loopw [3, 4] (fun v3 v4 wr => ∃ i : Nat, i ≤ (l.length + 99) / 100 ∧ v4 = .int .i64 i ∧ Aside0 (Row wr w.heap.size (fun _ => True) v3 (frontOf l i)) ∧ Aside0 (Below w.heap.size w wr)) (fun _ v4 _ => (l.length + 99) / 100 - (intOf v4).toNat)
  case atStart => exact ⟨0, Nat.zero_le _, rfl, ⟨by rw [frontOf_zero]; exact HO1.out⟩, HB1⟩
  case round =>
    obtain ⟨i, hi, rfl, HO, HB⟩ := hrel
    clear HO1 HB1
    by_cases h : 100 * i < l.length
    · have HFS := Aside0.mk (frontOf_succ l i h)
      have hpc := ref_part_calls A c l i wr (Kd.C_below HR.out HB.out) hc h hl HBY.out
      have hpl : (ChunkPure.part Z i ((l.drop (100 * i)).take 100)).length ≤ 107 := by rw [ChunkPure.part_length, List.length_take]; omega
      have hfl := frontOf_len l i
      obtain ⟨P, hP⟩ : ∃ P, P = ChunkPure.part Z i ((l.drop (100 * i)).take 100) := ⟨_, rfl⟩
      obtain ⟨F, hF⟩ : ∃ F, F = frontOf l i := ⟨_, rfl⟩
      rw [← hP] at hpc hpl HFS
      rw [← hF] at hfl HFS HO
      clear hP hF
      have HPL := Aside0.mk hpl
      have HFL := Aside0.mk hfl
      clear hpl hfl
      go_wp2_with fail
      refine hpc.mono ?_
      rintro e w2 ⟨v2, rfl, ho2, hb2⟩
      have HB2 := Aside0.mk (below_step HB.out hb2)
      have HO2 := Aside0.mk (Kd.R_below HO.out hb2)
      obtain ⟨A2, c2, rfl⟩ := Kd.R_slice ho2
      have HR2 := Aside0.mk (Kd.R_reads' ho2)
      obtain ⟨A3, c3, rfl⟩ := Kd.R_slice HO.out
      clear ho2 hb2 hpc
      go_wp2_with ((with_reducible refine gate_builtin (b := .append) (xs := #[.tmp 19, .tmp 20]) rfl ?_); at_builtin; refine Kd.R_append_rows (Kd.int .u8) (w0 := w) w.heap.size rfl (.tmp 19) (.tmp 20) 22 5 (.int .u8 0) 1 rfl Tryd.underlying22 info5 rfl (by decide) (by omega) (.slice A3 F.length c3) F P A2 P.length c2 (fun _ => True) (fun _ => False) rfl rfl ?aO ?aR (fun _ _ h => h) (fun _ h => h.elim) ?aF ?aB ?aS ?aL ?_; (case aR => exact HR2.out.2.2); (case aB => exact HB2.out); (case aF => exact (fun _ _ => trivial)); (case aO => exact HO2.out); (case aS => exact HB2.out.size); (case aL => have := HPL.out; have := HFL.out; omega); intro v9 w9 ho9 hb9 hg9 hat9; have HO9 := Aside0.mk ho9; have HB9 := Aside0.mk hb9; clear ho9 hb9 hg9 hat9)
      go_roundw
      case rel => exact ⟨i + 1, by omega, by go_num, ⟨by rw [HFS.out]; exact HO9.out⟩, HB9⟩
      case measure => simp [intOf]; omega
    · have hf := frontOf_all l i (by omega)
      rw [hf] at HO
      clear hf
      go_wp2
      go_ret
      exact ⟨_, rfl, HO.out, HB.out⟩
end Go.Proofs.YtpnlpbbnakplhaaDoor
