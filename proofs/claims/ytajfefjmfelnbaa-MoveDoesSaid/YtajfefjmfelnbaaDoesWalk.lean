/- MoveDoes: the law's walk. -/
import Derived.Test.YtajfefjmfelnbaaDoes
import Derived.Test.YtajfefjmfelnbaaKnown
import Derived.Test.YtajfefjmfelnbaaStateUse
namespace Go.Proofs.Ytajfefjmfelnbaa
open Go.RowKit Go.Proofs.YtajfefjmfelnbaaW.PrintWords Go.Proofs.YtajfefjmfelnbaaW.PrintLast Go.Proofs.YtajfefjmfelnbaaW.PrintMore BState Go.ChangeShapes Go.WideShapes
attribute [local go_sem] min2_int   -- for this text's walk alone
set_option linter.unusedVariables false
set_option linter.unusedSimpArgs false
set_option maxRecDepth 100000 in
set_option maxHeartbeats 8000000 in
theorem moveDoes.walk (f t c : Int) (d : Bool) (s0 s1 s2 : Int) (AS : Option Addr) (cS : Nat) (S : List S46) (v m : Int) (A : Option Addr) (cc : Nat) (l : List Int) (k j : Int) (w : World) (hCS : Kd.C k46 w AS S.length S) (hcS : S.length ≤ cS) (hN : Nums S) (hC : Kd.C (Kd.int .u8) w A l.length l) (hc : l.length ≤ cc) (hb : Bytes l) (hk : 0 ≤ k ∧ k ≤ 255) (hj : 0 ≤ j ∧ j ≤ 255) :
 Calls Try.prog 8 #[.agg #[.int .i64 f, .int .i64 t, .int .i64 c, .bool d], .agg #[.int .i64 s0, .int .i64 s1, .int .i64 s2, .slice AS S.length cS], .int .i64 v, .int .i64 m, .slice A l.length cc, .int .u8 k, .int .u8 j] w fun e w' => e = .returned (.bool true) ∧ Below w.heap.size w w' := by
 obtain ⟨q0, q1, q2, T, hF, hst⟩ := state_use l hb
 have HF := Aside0.mk hF
 have HST := Aside0.mk hst
 have HC := Aside0.mk hC
 have HCC := Aside0.mk hc
 have HCS := Aside0.mk hCS
 have HcS := Aside0.mk hcS
 have HNN := Aside0.mk hN
 have HK := Aside0.mk hk
 have HJ := Aside0.mk hj
 clear hF hst hC hc hCS hcS hN hk hj hb
 have hu34 := Try.underlying34
 have hu23 := Try.underlying23
 have Rm : Aside0 (((w.alloc (.cells #[.int .i64 f, .int .i64 t, .int .i64 c, .bool d] 23)).alloc (.cells #[.int .i64 s0, .int .i64 s1, .int .i64 s2, .slice AS S.length cS] 34)).heap[w.heap.size]? = some (.cells #[.int .i64 f, .int .i64 t, .int .i64 c, .bool d] 23 (0, 0))) := ⟨row_alloc (heap_alloc_new _ _) _⟩
 have Rs : Aside0 (((w.alloc (.cells #[.int .i64 f, .int .i64 t, .int .i64 c, .bool d] 23)).alloc (.cells #[.int .i64 s0, .int .i64 s1, .int .i64 s2, .slice AS S.length cS] 34)).heap[w.heap.size + 1]? = some (.cells #[.int .i64 s0, .int .i64 s1, .int .i64 s2, .slice AS S.length cS] 34 (0, 0))) := ⟨by
  have h := heap_alloc_new (w.alloc (.cells #[.int .i64 f, .int .i64 t, .int .i64 c, .bool d] 23)) (.cells #[.int .i64 s0, .int .i64 s1, .int .i64 s2, .slice AS S.length cS] 34)
  rwa [size_alloc] at h⟩
 have HB : Aside0 (Below w.heap.size w ((w.alloc (.cells #[.int .i64 f, .int .i64 t, .int .i64 c, .bool d] 23)).alloc (.cells #[.int .i64 s0, .int .i64 s1, .int .i64 s2, .slice AS S.length cS] 34))) := ⟨((Below.refl _ _).alloc (Nat.le_refl _) _).alloc (by rw [size_alloc]; omega) _⟩
 go_enter Try.func8, Try.ntmps8
 go_upto_region 1 with fail
 generalize ((w.alloc (.cells #[.int .i64 f, .int .i64 t, .int .i64 c, .bool d] 23)).alloc (.cells #[.int .i64 s0, .int .i64 s1, .int .i64 s2, .slice AS S.length cS] 34)) = w2 at *
 have c3_ := row_cell Rs.out (Below.refl _ _) 3 _ rfl
 by_cases hlt : 60 < S.length
 ·have hdl : decide ((60 : Int) < (S.length : Int)) = true := decide_eq_true (by omega)
  go_wp2_with fail
  refine (known.walk _).mono ?_
  rintro e w9 ⟨rfl, hb⟩
  go_wp2
  go_ret
  exact ⟨by first | rfl | simp, below_step HB.out hb⟩
 ·have hdl : decide ((60 : Int) < (S.length : Int)) = false := decide_eq_false (by omega)
  go_upto_region 3 with (first | ((with_reducible refine gate_callee (f := 10) rfl ?_); refine gate_guard rfl ?_; refine goesL_ (some 21) rfl rfl Try.func10 (by kernel_rfl) rfl #[] rfl (by (try simp only [List.map_toArray, List.map_cons, List.map_nil]); first | done | rfl) ?_; refine (known.walk _).mono ?_; rintro e w3 ⟨rfl, hb⟩; refine ⟨_, rfl, ?_⟩; have Rm' := Aside0.mk (row_below Rm.out hb); have Rs' := Aside0.mk (row_below Rs.out hb); have HB' := Aside0.mk (below_step HB.out hb); clear hb))
  (try simp only [Act.put, List.setIfInBounds_toArray, List.set_cons_zero, List.set_cons_succ])
  clear c3_ hdl Rm Rs HB
  have Rm := Rm'
  have Rs := Rs'
  have HB := HB'
  clear Rm' Rs' HB'
  go_wp2_with fail
  refine (HST.out A cc _ (Kd.C_below HC.out HB.out) HCC.out).mono ?_
  rintro e w4 ⟨AT, cT, rfl, hcT, hCT, hb⟩
  have HcT := Aside0.mk hcT
  have Rm' : Aside0 ((w4.alloc (.cells #[.int .i64 q0, .int .i64 q1, .int .i64 q2, .slice AT T.length cT] 34)).heap[w.heap.size]? = _) := ⟨row_alloc (row_below Rm.out hb) _⟩
  have Rs' : Aside0 ((w4.alloc (.cells #[.int .i64 q0, .int .i64 q1, .int .i64 q2, .slice AT T.length cT] 34)).heap[w.heap.size + 1]? = _) := ⟨row_alloc (row_below Rs.out hb) _⟩
  have Rt' : Aside0 ((w4.alloc (.cells #[.int .i64 q0, .int .i64 q1, .int .i64 q2, .slice AT T.length cT] 34)).heap[w4.heap.size]? = _) := ⟨heap_alloc_new _ _⟩
  have HBa := Aside0.mk (below_step HB.out hb)
  have HBb := Aside0.mk ((Below.refl w4.heap.size w4).alloc (Nat.le_refl _) (.cells #[.int .i64 q0, .int .i64 q1, .int .i64 q2, .slice AT T.length cT] 34))
  have HCT := Aside0.mk (Kd.C_below hCT HBb.out)
  clear hb hCT hcT
  go_upto_region 4 with fail
  clear Rm Rs HB
  have Rm := Rm'
  have Rs := Rs'
  have Rt := Rt'
  have HB := Aside0.mk (below_step HBa.out HBb.out)
  clear Rm' Rs' Rt' HBa HBb
  generalize hg_ : w4.heap.size = gt at *
  generalize (w4.alloc (.cells #[.int .i64 q0, .int .i64 q1, .int .i64 q2, .slice AT T.length cT] 34)) = w5 at *
  clear hg_ w4
  have HCS5 := Aside0.mk (Kd.C_below HCS.out HB.out)
  have HD : Aside0 (∀ (w' : World) (f' t' c' : Int) (d' : Bool) (y : Value) (v' m' : Int), Below w5.heap.size w5 w' → (y = .agg #[.int .i64 s0, .int .i64 s1, .int .i64 s2, .slice AS S.length cS] ∨ y = .agg #[.int .i64 q0, .int .i64 q1, .int .i64 q2, .slice AT T.length cT]) → m' ≤ 50 → Calls Try.prog 19 #[.agg #[.int .i64 f', .int .i64 t', .int .i64 c', .bool d'], y, .int .i64 v', .int .i64 m'] w' fun e w'' => e = .returned (.bool true) ∧ Below w'.heap.size w' w'') := ⟨by
   rintro w' f' t' c' d' y v' m' hb (rfl | rfl) hm'
   ·exact does.walk f' t' c' d' s0 s1 s2 AS cS S v' m' w' (Kd.C_below HCS5.out hb) HcS.out (by omega) HNN.out hm'
   ·exact does.walk f' t' c' d' q0 q1 q2 AT cT T v' m' w' (Kd.C_below HCT.out hb) HcT.out (by have := HF.out.1; omega) (fine_nums HF.out) hm'⟩
  have HMX : Aside0 (∀ w' : World, Calls Try.prog 12 #[.int .u8 k] w' fun e w'' => e = .returned (.agg #[.int .i64 (mixI k).1, .int .i64 (mixI k).2.1, .int .i64 (mixI k).2.2.1, .bool (mixI k).2.2.2]) ∧ Below w'.heap.size w' w'') := ⟨fun w' => mix.walk k HK.out.1 HK.out.2 w'⟩
  have h40 : wrap64 (k.tmod 40) ≤ 50 := by have := HK.out; rw [Int.tmod_eq_emod_of_nonneg this.1]; unfold wrap64; omega
  have h40b : IntKind.i64.wrap (k.tmod 40) ≤ 50 := by rw [i64_w]; exact h40
  have hm50 : min m 50 ≤ 50 := by omega
  have hm20 : min m 20 ≤ 50 := by omega
  have h4050 : (40 : Int) ≤ 50 := by decide
  have hk_ : ∀ w', Below w5.heap.size w5 w' → w'.cell? ⟨w.heap.size, 0, none⟩ = some (.int .i64 f) ∧ w'.cell? ⟨w.heap.size, 1, none⟩ = some (.int .i64 t) ∧ w'.cell? ⟨w.heap.size, 2, none⟩ = some (.int .i64 c) ∧ w'.cell? ⟨w.heap.size, 3, none⟩ = some (.bool d) ∧ w'.cell? ⟨w.heap.size + 1, 0, none⟩ = some (.int .i64 s0) ∧ w'.cell? ⟨w.heap.size + 1, 1, none⟩ = some (.int .i64 s1) ∧ w'.cell? ⟨w.heap.size + 1, 2, none⟩ = some (.int .i64 s2) ∧ w'.cell? ⟨w.heap.size + 1, 3, none⟩ = some (.slice AS S.length cS) ∧ w'.cell? ⟨gt, 0, none⟩ = some (.int .i64 q0) ∧ w'.cell? ⟨gt, 1, none⟩ = some (.int .i64 q1) ∧ w'.cell? ⟨gt, 2, none⟩ = some (.int .i64 q2) ∧ w'.cell? ⟨gt, 3, none⟩ = some (.slice AT T.length cT) ∧ Below w5.heap.size w5 w' := fun w' hb => ⟨row_cell Rm.out hb 0 _ rfl, row_cell Rm.out hb 1 _ rfl, row_cell Rm.out hb 2 _ rfl, row_cell Rm.out hb 3 _ rfl, row_cell Rs.out hb 0 _ rfl, row_cell Rs.out hb 1 _ rfl, row_cell Rs.out hb 2 _ rfl, row_cell Rs.out hb 3 _ rfl, row_cell Rt.out hb 0 _ rfl, row_cell Rt.out hb 1 _ rfl, row_cell Rt.out hb 2 _ rfl, row_cell Rt.out hb 3 _ rfl, hb⟩
  generalize hmx : mixI k = mx at *
  clear hmx HF HST HC HCC HNN HCS HcS HCT HcT HCS5 Rm Rs Rt HK HJ
  go_region_held3 (fun w' => w'.cell? ⟨w.heap.size, 0, none⟩ = some (.int .i64 f) ∧ w'.cell? ⟨w.heap.size, 1, none⟩ = some (.int .i64 t) ∧ w'.cell? ⟨w.heap.size, 2, none⟩ = some (.int .i64 c) ∧ w'.cell? ⟨w.heap.size, 3, none⟩ = some (.bool d) ∧ w'.cell? ⟨w.heap.size + 1, 0, none⟩ = some (.int .i64 s0) ∧ w'.cell? ⟨w.heap.size + 1, 1, none⟩ = some (.int .i64 s1) ∧ w'.cell? ⟨w.heap.size + 1, 2, none⟩ = some (.int .i64 s2) ∧ w'.cell? ⟨w.heap.size + 1, 3, none⟩ = some (.slice AS S.length cS) ∧ w'.cell? ⟨gt, 0, none⟩ = some (.int .i64 q0) ∧ w'.cell? ⟨gt, 1, none⟩ = some (.int .i64 q1) ∧ w'.cell? ⟨gt, 2, none⟩ = some (.int .i64 q2) ∧ w'.cell? ⟨gt, 3, none⟩ = some (.slice AT T.length cT) ∧ Below w5.heap.size w5 w') (first | exact hk_ _ (by assumption) | exact hk_ _ (Below.refl _ _).drew | (go_split_ands; exact hk_ _ (by assumption)) | (go_split_ands; exact hk_ _ (Below.drew (by assumption)))) (first | (go_at_call 12; go_split_ands; refine (HMX.out _).mono ?_; rintro e w' ⟨rfl, hb⟩; have hbb := below_step (by assumption) hb; clear hb) | (go_at_call 19; go_split_ands; refine (HD.out _ _ _ _ _ _ _ _ (by assumption) (by first | exact Or.inl (by with_reducible rfl) | exact Or.inr (by with_reducible rfl)) (by first | assumption | omega)).mono ?_; rintro e w' ⟨rfl, hb⟩; have hbb := below_step (by assumption) hb; clear hb))
  go_wp2
  go_ret
  exact ⟨by first | rfl | simp, below_step HB.out (by assumption)⟩
theorem bytes_of' {l : List Int} (h : ∀ n ∈ l, (Lit.int .u8 n).wf = true) : Bytes l := by
 intro i
 unfold rd
 rw [List.getD_eq_getElem?_getD]
 cases e : l[i.toNat]? with
 | none => simp
 | some v =>
  have := bounds_u8 (h v (List.mem_of_getElem? e))
  simp only [Option.getD_some]
  omega
theorem moveDoes.row (f t c : Int) (d : Bool) (s0 s1 s2 : Int) (AS : Option Addr) (cS : Nat) (S : List S46) (v m : Int) (a4 : Option Addr) (len4 cap4 : Nat) (z4 : List Int) (a5 a6 : Int) (w : World) (hCS : Kd.C k46 w AS S.length S) (hcS : S.length ≤ cS) (hN : ∀ a ∈ S, a.f0 ≤ 9223372036854775807) (w4 : (a4 = none ∧ len4 = 0 ∧ cap4 = 0 ∧ z4 = []) ∨ ∃ x, a4 = some x ∧ len4 ≤ cap4 ∧ cap4 ≤ maxLen ∧ z4.length = cap4 ∧ (∀ i, i < z4.length → w.cell? (x.add i) = some (.int .u8 (z4.getD i 0))) ∧ ∀ n ∈ z4, (Lit.int .u8 n).wf = true) (w5 : (Lit.int .u8 a5).wf = true) (w6 : (Lit.int .u8 a6).wf = true) :
 Calls Try.prog 8 #[.agg #[.int .i64 f, .int .i64 t, .int .i64 c, .bool d], .agg #[.int .i64 s0, .int .i64 s1, .int .i64 s2, .slice AS S.length cS], .int .i64 v, .int .i64 m, .slice a4 len4 cap4, .int .u8 a5, .int .u8 a6] w fun e w' => e = .returned (.bool true) ∧ Below w.heap.size w w' := by
 obtain ⟨l0, rfl, hr0, hm0, hw0, hc0⟩ := ReadsInt.ofRowC w4
 exact moveDoes.walk f t c d s0 s1 s2 AS cS S v m a4 cap4 l0 a5 a6 w hCS hcS (fun x hx => by obtain ⟨y, hy, rfl⟩ := List.mem_map.1 hx; exact hN y hy) (Kd.C_of_reads (d := (0 : Int)) (h1 := fun _ => rfl) hr0) hc0 (bytes_of' hw0) (bounds_u8 w5) (bounds_u8 w6)
end Go.Proofs.Ytajfefjmfelnbaa
