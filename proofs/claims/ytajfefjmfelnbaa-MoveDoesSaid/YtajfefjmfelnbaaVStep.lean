/- The reference's Step: its contract, by hand. -/
import Derived.Test.YtajfefjmfelnbaaVWalkx1
import Derived.Test.YtajfefjmfelnbaaStep
namespace Go.Proofs.Ytajfefjmfelnbaa.VWalk
open Go.RowKit Go.Proofs.Ytajfefjmfelnbaa Go.Proofs.Ytajfefjmfelnbaa.BState Go.Proofs.YtajfefjmfelnbaaW.PrintWords Go.Proofs.YtajfefjmfelnbaaW.PrintLast Go.Proofs.YtajfefjmfelnbaaW.PrintMore
attribute [local go_sem] max2_int min2_int max_two min_two max_three min_three max_four min_four   -- for this text's walks alone
set_option linter.unusedVariables false
set_option linter.unusedSimpArgs false

/-! ### roadsteadref16_Step: function 30 -/
def roadsteadref16_Step.f (k : Nat) (a0_0 : Int) (a0_1 : Int) (a0_2 : Int) (a0_3 : Bool) (a1_0 : Int) (a1_1 : Int) (a1_2 : Int) (l1_3 : List (S46)) : Option (Int × Int × Int × Bool × Bool) := if a0_0 = a0_1 then (some (a0_0, a0_1, a0_2, a0_3, false)) else (if a0_3 = true then ((roadsteadref16_under.f k a1_0 a1_1 a1_2 l1_3 a0_2).bind fun t110 => (if t110 < 0 then (some (a0_0, a0_0, 0, false, true)) else (some (a0_0, a0_1, wrap64 (t110 - 1), a0_3, true)))) else ((roadsteadref16_above.f k a1_0 a1_1 a1_2 l1_3 a0_2).bind fun t111 => (if t111 < 0 then (some (a0_1, a0_1, 0, false, true)) else (some (a0_0, a0_1, t111, a0_3, true)))))
theorem roadsteadref16_Step.mono : ∀ a0 a1 a2 a3 a4 a5 a6 a7 k, LeO (roadsteadref16_Step.f k a0 a1 a2 a3 a4 a5 a6 a7) (roadsteadref16_Step.f (k + 1) a0 a1 a2 a3 a4 a5 a6 a7) := by
 intro a0 a1 a2 a3 a4 a5 a6 a7 k
 unfold roadsteadref16_Step.f
 repeat' first
  | (with_reducible exact roadsteadref16_above.mono _ _ _ _ _ _)
  | (with_reducible exact roadsteadref16_under.mono _ _ _ _ _ _)
  | (with_reducible exact LeO.refl _)
  | (with_reducible exact LeO.none _)
  | (with_reducible refine LeO.ite ?_ ?_)
  | (with_reducible refine LeO.bind ?_ (fun _ => ?_))
  | exact roadsteadref16_above.mono _ _ _ _ _ _
  | exact roadsteadref16_under.mono _ _ _ _ _ _
  | exact LeO.none _
  | refine LeO.ite ?_ ?_
  | refine LeO.bind ?_ (fun _ => ?_)
set_option maxRecDepth 100000 in
set_option maxHeartbeats 8000000 in
theorem roadsteadref16_Step.calls (k : Nat) (a0_0 : Int) (a0_1 : Int) (a0_2 : Int) (a0_3 : Bool) (a1_0 : Int) (a1_1 : Int) (a1_2 : Int) (A1_3 : Option Addr) (c1_3 : Nat) (l1_3 : List (S46)) (r1 : Int) (r2 : Int) (r3 : Int) (r4 : Bool) (r5 : Bool) (w : World) (hr1_3 : Kd.C k46 w A1_3 l1_3.length l1_3) (hc1_3 : l1_3.length ≤ c1_3) (h : roadsteadref16_Step.f k a0_0 a0_1 a0_2 a0_3 a1_0 a1_1 a1_2 l1_3 = some (r1, r2, r3, r4, r5)) :
 Calls Try.prog 30 #[.agg #[.int .i64 a0_0, .int .i64 a0_1, .int .i64 a0_2, .bool a0_3], .agg #[.int .i64 a1_0, .int .i64 a1_1, .int .i64 a1_2, .slice A1_3 l1_3.length c1_3]] w fun e w' => e = .returned (.tuple #[.agg #[.int .i64 r1, .int .i64 r2, .int .i64 r3, .bool r4], .bool r5]) ∧ Below w.heap.size w w' := by
 have HC := Aside0.mk hr1_3
 have HCC := Aside0.mk hc1_3
 clear hr1_3 hc1_3
 have hu23 := Try.underlying23
 have hu34 := Try.underlying34
 unfold roadsteadref16_Step.f at h
 have HR0 : Aside0 ((((w.alloc (.cells #[.int .i64 a0_0, .int .i64 a0_1, .int .i64 a0_2, .bool a0_3] 23)).alloc (.cells #[.int .i64 a1_0, .int .i64 a1_1, .int .i64 a1_2, .slice A1_3 l1_3.length c1_3] 34)).alloc (.cells #[.int .i64 0, .int .i64 0, .int .i64 0, .bool false] 23)).heap[w.heap.size]? = some (.cells #[.int .i64 a0_0, .int .i64 a0_1, .int .i64 a0_2, .bool a0_3] 23 (0, 0))) := ⟨by
  rw [_root_.Go.heap_alloc_old _ _ (by rw [size_alloc, size_alloc]; omega), _root_.Go.heap_alloc_old _ _ (by rw [size_alloc]; omega)]; exact heap_alloc_new _ _⟩
 have HR1 : Aside0 ((((w.alloc (.cells #[.int .i64 a0_0, .int .i64 a0_1, .int .i64 a0_2, .bool a0_3] 23)).alloc (.cells #[.int .i64 a1_0, .int .i64 a1_1, .int .i64 a1_2, .slice A1_3 l1_3.length c1_3] 34)).alloc (.cells #[.int .i64 0, .int .i64 0, .int .i64 0, .bool false] 23)).heap[w.heap.size + 1]? = some (.cells #[.int .i64 a1_0, .int .i64 a1_1, .int .i64 a1_2, .slice A1_3 l1_3.length c1_3] 34 (0, 0))) := ⟨by
  rw [_root_.Go.heap_alloc_old _ _ (by rw [size_alloc, size_alloc]; omega)]
  have := heap_alloc_new (w.alloc (.cells #[.int .i64 a0_0, .int .i64 a0_1, .int .i64 a0_2, .bool a0_3] 23)) (.cells #[.int .i64 a1_0, .int .i64 a1_1, .int .i64 a1_2, .slice A1_3 l1_3.length c1_3] 34)
  rwa [show (w.alloc (.cells #[.int .i64 a0_0, .int .i64 a0_1, .int .i64 a0_2, .bool a0_3] 23)).heap.size = w.heap.size + 1 by rw [size_alloc]] at this⟩
 have HR2 : Aside0 ((((w.alloc (.cells #[.int .i64 a0_0, .int .i64 a0_1, .int .i64 a0_2, .bool a0_3] 23)).alloc (.cells #[.int .i64 a1_0, .int .i64 a1_1, .int .i64 a1_2, .slice A1_3 l1_3.length c1_3] 34)).alloc (.cells #[.int .i64 0, .int .i64 0, .int .i64 0, .bool false] 23)).heap[w.heap.size + 1 + 1]? = some (.cells #[.int .i64 0, .int .i64 0, .int .i64 0, .bool false] 23 (0, 0))) := ⟨by
  have := heap_alloc_new ((w.alloc (.cells #[.int .i64 a0_0, .int .i64 a0_1, .int .i64 a0_2, .bool a0_3] 23)).alloc (.cells #[.int .i64 a1_0, .int .i64 a1_1, .int .i64 a1_2, .slice A1_3 l1_3.length c1_3] 34)) (.cells #[.int .i64 0, .int .i64 0, .int .i64 0, .bool false] 23)
  rwa [show ((w.alloc (.cells #[.int .i64 a0_0, .int .i64 a0_1, .int .i64 a0_2, .bool a0_3] 23)).alloc (.cells #[.int .i64 a1_0, .int .i64 a1_1, .int .i64 a1_2, .slice A1_3 l1_3.length c1_3] 34)).heap.size = w.heap.size + 1 + 1 by rw [size_alloc, size_alloc]] at this⟩
 have HB3 : Aside0 (Below w.heap.size w (((w.alloc (.cells #[.int .i64 a0_0, .int .i64 a0_1, .int .i64 a0_2, .bool a0_3] 23)).alloc (.cells #[.int .i64 a1_0, .int .i64 a1_1, .int .i64 a1_2, .slice A1_3 l1_3.length c1_3] 34)).alloc (.cells #[.int .i64 0, .int .i64 0, .int .i64 0, .bool false] 23))) := ⟨(((Below.refl w.heap.size w).alloc (Nat.le_refl _) _).alloc (by rw [size_alloc]; omega) _).alloc (by rw [size_alloc, size_alloc]; omega) _⟩
 go_enter Try.func30, Try.ntmps30
 go_upto_region 1 with fail
 generalize (((w.alloc (.cells #[.int .i64 a0_0, .int .i64 a0_1, .int .i64 a0_2, .bool a0_3] 23)).alloc (.cells #[.int .i64 a1_0, .int .i64 a1_1, .int .i64 a1_2, .slice A1_3 l1_3.length c1_3] 34)).alloc (.cells #[.int .i64 0, .int .i64 0, .int .i64 0, .bool false] 23)) = w3 at *
 have k0_ : w3.cell? ⟨w.heap.size, 0, none⟩ = some (.int .i64 a0_0) := by rw [cell_of_row _ _ _ _ _ _ HR0.out]; rfl
 have k1_ : w3.cell? ⟨w.heap.size, 1, none⟩ = some (.int .i64 a0_1) := by rw [cell_of_row _ _ _ _ _ _ HR0.out]; rfl
 have k2_ : w3.cell? ⟨w.heap.size, 2, none⟩ = some (.int .i64 a0_2) := by rw [cell_of_row _ _ _ _ _ _ HR0.out]; rfl
 have k3_ : w3.cell? ⟨w.heap.size, 3, none⟩ = some (.bool a0_3) := by rw [cell_of_row _ _ _ _ _ _ HR0.out]; rfl
 by_cases hft : a0_0 = a0_1
 ·rw [if_pos hft] at h
  injection h with h
  injection h with e1 h
  injection h with e2 h
  injection h with e3 h
  injection h with e4 e5
  subst e1 e2 e3 e4 e5
  have he : (a0_0 == a0_1) = true := by simp [hft]
  clear hft
  go_wp2_with (first | (refine wpList_load_row rfl 23 _ rfl (w.heap.size) rfl 23 #[.int .i64 a0_0, .int .i64 a0_1, .int .i64 a0_2, .bool a0_3] (0, 0) _ HR0.out Try.underlying23 rfl size23 ?_) | (refine wpList_store_row rfl 23 _ _ rfl (w.heap.size + 1 + 1) #[.int .i64 a0_0, .int .i64 a0_1, .int .i64 a0_2, .bool a0_3] rfl rfl 23 #[.int .i64 0, .int .i64 0, .int .i64 0, .bool false] HR2.out size23 rfl (mixOne _ _ _ _) ?_))
  exact bodyPost_ret (results_ct rfl _ _ (w.heap.size + 1 + 1) 23 #[.int .i64 a0_0, .int .i64 a0_1, .int .i64 a0_2, .bool a0_3] (0, 0) _ rfl (setRow_heap _ _ _ _ _ _ HR2.out) Try.underlying23 rfl size23) rfl ⟨rfl, below_setRow HB3.out (by omega) _⟩
 ·rw [if_neg hft] at h
  have he : (a0_0 == a0_1) = false := by simp [hft]
  clear hft
  cases a0_3 with
  | true =>
   rw [if_pos rfl] at h
   obtain ⟨r, hr, h⟩ := Option.bind_eq_some_iff.1 h
   have HR := Aside0.mk hr
   clear hr
   go_wp2_with (first | (refine wpList_load_row rfl 34 _ rfl (w.heap.size + 1) rfl 34 #[.int .i64 a1_0, .int .i64 a1_1, .int .i64 a1_2, .slice A1_3 l1_3.length c1_3] (0, 0) _ HR1.out Try.underlying34 rfl size34 ?_))
   refine (roadsteadref16_under.calls k a1_0 a1_1 a1_2 A1_3 c1_3 l1_3 a0_2 r _ (Kd.C_below HC.out HB3.out) HCC.out HR.out).mono ?_
   rintro e w5 ⟨rfl, hb⟩
   have HT0 := Aside0.mk ((hb.block _ (Array.getElem?_eq_some_iff.1 HR0.out).1).trans HR0.out)
   have HT2 := Aside0.mk ((hb.block _ (Array.getElem?_eq_some_iff.1 HR2.out).1).trans HR2.out)
   have HB5 := Aside0.mk (below_step HB3.out hb)
   clear hb HR0 HR1 HR2 HB3 HR k0_ k1_ k2_ k3_ he
   have k0_ : w5.cell? ⟨w.heap.size, 0, none⟩ = some (.int .i64 a0_0) := by rw [cell_of_row _ _ _ _ _ _ HT0.out]; rfl
   have k1_ : w5.cell? ⟨w.heap.size, 1, none⟩ = some (.int .i64 a0_1) := by rw [cell_of_row _ _ _ _ _ _ HT0.out]; rfl
   have k2_ : w5.cell? ⟨w.heap.size, 2, none⟩ = some (.int .i64 a0_2) := by rw [cell_of_row _ _ _ _ _ _ HT0.out]; rfl
   have k3_ : w5.cell? ⟨w.heap.size, 3, none⟩ = some (.bool true) := by rw [cell_of_row _ _ _ _ _ _ HT0.out]; rfl
   by_cases h0 : r < 0
   ·rw [if_pos h0] at h
    injection h with h
    injection h with e1 h
    injection h with e2 h
    injection h with e3 h
    injection h with e4 e5
    subst e1 e2 e3 e4 e5
    have hd : decide (r < 0) = true := decide_eq_true h0
    clear h0
    go_wp2_with (first | (refine wpList_store_row rfl 23 _ _ rfl (w.heap.size + 1 + 1) #[.int .i64 a0_0, .int .i64 a0_0, .int .i64 0, .bool false] rfl rfl 23 #[.int .i64 0, .int .i64 0, .int .i64 0, .bool false] HT2.out size23 rfl (mixOne _ _ _ _) ?_))
    exact bodyPost_ret (results_ct rfl _ _ (w.heap.size + 1 + 1) 23 #[.int .i64 a0_0, .int .i64 a0_0, .int .i64 0, .bool false] (0, 0) _ rfl (setRow_heap _ _ _ _ _ _ HT2.out) Try.underlying23 rfl size23) rfl ⟨rfl, below_setRow HB5.out (by omega) _⟩
   ·rw [if_neg h0] at h
    injection h with h
    injection h with e1 h
    injection h with e2 h
    injection h with e3 h
    injection h with e4 e5
    subst e1 e2 e3 e4 e5
    have hd : decide (r < 0) = false := decide_eq_false h0
    have df := frozen_of_row _ _ 2 _ _ HT0.out
    clear h0
    go_upto_region 8 with (fail)
    have HV0 : Aside0 ((w5.setCell ⟨w.heap.size, 2, none⟩ (.int .i64 (wrap64 (r - 1)))).heap[w.heap.size]? = some (.cells #[.int .i64 a0_0, .int .i64 a0_1, .int .i64 (wrap64 (r - 1)), .bool true] 23 (0, 0))) := ⟨(heap_setCell_same _ _ _ _ _ _ HT0.out).trans rfl⟩
    have HV2 : Aside0 ((w5.setCell ⟨w.heap.size, 2, none⟩ (.int .i64 (wrap64 (r - 1)))).heap[w.heap.size + 1 + 1]? = some (.cells #[.int .i64 0, .int .i64 0, .int .i64 0, .bool false] 23 (0, 0))) := ⟨(heap_setCell_other _ _ _ _ (by show w.heap.size + 1 + 1 ≠ w.heap.size; omega)).trans HT2.out⟩
    have HB7 := Aside0.mk (HB5.out.setCell (p := ⟨w.heap.size, 2, none⟩) (Nat.le_refl _) (.int .i64 (wrap64 (r - 1))))
    clear HT0 HT2 HB5 k0_ k1_ k2_ k3_ df
    generalize w5.setCell ⟨w.heap.size, 2, none⟩ (.int .i64 (wrap64 (r - 1))) = w7 at *
    go_wp2_with (first | (refine wpList_load_row rfl 23 _ rfl (w.heap.size) rfl 23 #[.int .i64 a0_0, .int .i64 a0_1, .int .i64 (wrap64 (r - 1)), .bool true] (0, 0) _ HV0.out Try.underlying23 rfl size23 ?_) | (refine wpList_store_row rfl 23 _ _ rfl (w.heap.size + 1 + 1) #[.int .i64 a0_0, .int .i64 a0_1, .int .i64 (wrap64 (r - 1)), .bool true] rfl rfl 23 #[.int .i64 0, .int .i64 0, .int .i64 0, .bool false] HV2.out size23 rfl (mixOne _ _ _ _) ?_))
    exact bodyPost_ret (results_ct rfl _ _ (w.heap.size + 1 + 1) 23 #[.int .i64 a0_0, .int .i64 a0_1, .int .i64 (wrap64 (r - 1)), .bool true] (0, 0) _ rfl (setRow_heap _ _ _ _ _ _ HV2.out) Try.underlying23 rfl size23) rfl ⟨rfl, below_setRow HB7.out (by omega) _⟩
  | false =>
   rw [if_neg (by decide)] at h
   obtain ⟨r, hr, h⟩ := Option.bind_eq_some_iff.1 h
   have HR := Aside0.mk hr
   clear hr
   go_wp2_with (first | (refine wpList_load_row rfl 34 _ rfl (w.heap.size + 1) rfl 34 #[.int .i64 a1_0, .int .i64 a1_1, .int .i64 a1_2, .slice A1_3 l1_3.length c1_3] (0, 0) _ HR1.out Try.underlying34 rfl size34 ?_))
   refine (roadsteadref16_above.calls k a1_0 a1_1 a1_2 A1_3 c1_3 l1_3 a0_2 r _ (Kd.C_below HC.out HB3.out) HCC.out HR.out).mono ?_
   rintro e w5 ⟨rfl, hb⟩
   have HT0 := Aside0.mk ((hb.block _ (Array.getElem?_eq_some_iff.1 HR0.out).1).trans HR0.out)
   have HT2 := Aside0.mk ((hb.block _ (Array.getElem?_eq_some_iff.1 HR2.out).1).trans HR2.out)
   have HB5 := Aside0.mk (below_step HB3.out hb)
   clear hb HR0 HR1 HR2 HB3 HR k0_ k1_ k2_ k3_ he
   have k0_ : w5.cell? ⟨w.heap.size, 0, none⟩ = some (.int .i64 a0_0) := by rw [cell_of_row _ _ _ _ _ _ HT0.out]; rfl
   have k1_ : w5.cell? ⟨w.heap.size, 1, none⟩ = some (.int .i64 a0_1) := by rw [cell_of_row _ _ _ _ _ _ HT0.out]; rfl
   have k2_ : w5.cell? ⟨w.heap.size, 2, none⟩ = some (.int .i64 a0_2) := by rw [cell_of_row _ _ _ _ _ _ HT0.out]; rfl
   have k3_ : w5.cell? ⟨w.heap.size, 3, none⟩ = some (.bool false) := by rw [cell_of_row _ _ _ _ _ _ HT0.out]; rfl
   by_cases h0 : r < 0
   ·rw [if_pos h0] at h
    injection h with h
    injection h with e1 h
    injection h with e2 h
    injection h with e3 h
    injection h with e4 e5
    subst e1 e2 e3 e4 e5
    have hd : decide (r < 0) = true := decide_eq_true h0
    clear h0
    go_wp2_with (first | (refine wpList_store_row rfl 23 _ _ rfl (w.heap.size + 1 + 1) #[.int .i64 a0_1, .int .i64 a0_1, .int .i64 0, .bool false] rfl rfl 23 #[.int .i64 0, .int .i64 0, .int .i64 0, .bool false] HT2.out size23 rfl (mixOne _ _ _ _) ?_))
    exact bodyPost_ret (results_ct rfl _ _ (w.heap.size + 1 + 1) 23 #[.int .i64 a0_1, .int .i64 a0_1, .int .i64 0, .bool false] (0, 0) _ rfl (setRow_heap _ _ _ _ _ _ HT2.out) Try.underlying23 rfl size23) rfl ⟨rfl, below_setRow HB5.out (by omega) _⟩
   ·rw [if_neg h0] at h
    injection h with h
    injection h with e1 h
    injection h with e2 h
    injection h with e3 h
    injection h with e4 e5
    subst e1 e2 e3 e4 e5
    have hd : decide (r < 0) = false := decide_eq_false h0
    have df := frozen_of_row _ _ 2 _ _ HT0.out
    clear h0
    go_upto_region 13 with (fail)
    have HV0 : Aside0 ((w5.setCell ⟨w.heap.size, 2, none⟩ (.int .i64 (r))).heap[w.heap.size]? = some (.cells #[.int .i64 a0_0, .int .i64 a0_1, .int .i64 (r), .bool false] 23 (0, 0))) := ⟨(heap_setCell_same _ _ _ _ _ _ HT0.out).trans rfl⟩
    have HV2 : Aside0 ((w5.setCell ⟨w.heap.size, 2, none⟩ (.int .i64 (r))).heap[w.heap.size + 1 + 1]? = some (.cells #[.int .i64 0, .int .i64 0, .int .i64 0, .bool false] 23 (0, 0))) := ⟨(heap_setCell_other _ _ _ _ (by show w.heap.size + 1 + 1 ≠ w.heap.size; omega)).trans HT2.out⟩
    have HB7 := Aside0.mk (HB5.out.setCell (p := ⟨w.heap.size, 2, none⟩) (Nat.le_refl _) (.int .i64 (r)))
    clear HT0 HT2 HB5 k0_ k1_ k2_ k3_ df
    generalize w5.setCell ⟨w.heap.size, 2, none⟩ (.int .i64 (r)) = w7 at *
    go_wp2_with (first | (refine wpList_load_row rfl 23 _ rfl (w.heap.size) rfl 23 #[.int .i64 a0_0, .int .i64 a0_1, .int .i64 (r), .bool false] (0, 0) _ HV0.out Try.underlying23 rfl size23 ?_) | (refine wpList_store_row rfl 23 _ _ rfl (w.heap.size + 1 + 1) #[.int .i64 a0_0, .int .i64 a0_1, .int .i64 (r), .bool false] rfl rfl 23 #[.int .i64 0, .int .i64 0, .int .i64 0, .bool false] HV2.out size23 rfl (mixOne _ _ _ _) ?_))
    exact bodyPost_ret (results_ct rfl _ _ (w.heap.size + 1 + 1) 23 #[.int .i64 a0_0, .int .i64 a0_1, .int .i64 (r), .bool false] (0, 0) _ rfl (setRow_heap _ _ _ _ _ _ HV2.out) Try.underlying23 rfl size23) rfl ⟨rfl, below_setRow HB7.out (by omega) _⟩
end Go.Proofs.Ytajfefjmfelnbaa.VWalk
