/- move.moves, move.all, move.Step: the walks. -/
import Derived.Test.YtajfefjmfelnbaaIds
import Derived.Laws.CopyOwn
namespace Go.Proofs.Ytajfefjmfelnbaa
open Go.RowKit Go.Proofs.YtajfefjmfelnbaaW.PrintWords Go.Proofs.YtajfefjmfelnbaaW.PrintLast Go.Proofs.YtajfefjmfelnbaaW.PrintMore BState
set_option linter.unusedVariables false
theorem moves.walk (f t c : Int) (b : Bool) (w : World) : Calls Try.prog 20 #[.agg #[.int .i64 f, .int .i64 t, .int .i64 c, .bool b]] w fun e w' => e = .returned (.bool (f != t)) ∧ Below w.heap.size w w' := by
 have hu23 := Try.underlying23
 go_enter Try.func20, Try.ntmps20
 go_wp2
 go_ret
 exact ⟨by first | rfl | simp, (Below.refl _ _).alloc (Nat.le_refl _) _⟩
theorem all.walk (v : Int) (w : World) : Calls Try.prog 27 #[.int .i64 v] w fun e w' => e = .returned (.agg #[.int .i64 v, .int .i64 v, .int .i64 0, .bool false]) ∧ Below w.heap.size w w' := by
 have hu23 := Try.underlying23
 go_enter Try.func27, Try.ntmps27
 go_wp2
 exact bodyPost_ret (v := .agg #[.int .i64 v, .int .i64 v, .int .i64 0, .bool false]) (by simp [results, Try.results27, go_sem]) rfl ⟨rfl, (Below.refl _ _).alloc (Nat.le_refl _) _⟩
theorem size_alloc (w : World) (o : Obj) : (w.alloc o).heap.size = w.heap.size + 1 := by show (w.heap.push o).size = _; simp
theorem size23 : (Try.prog.info? 23).map (·.size) = some 4 := by kernel_rfl
theorem size34 : (Try.prog.info? 34).map (·.size) = some 4 := by kernel_rfl
theorem mixOne (f t c : Int) (b : Bool) : (#[.int .i64 f, .int .i64 t, .int .i64 c, .bool b] : Array Value).all (·.oneCell') = true := by simp [Value.oneCell']
def lastI (l : List Int) : Int := rd l ((l.length : Int) - 1)
def stepI (f t c : Int) (b : Bool) (l : List S46) : Int × Int × Int × Bool × Bool :=
 if f = t then (f, t, c, b, false)
 else if (sorted (pick c b l)).length = 0 then (if b = true then (f, f, 0, false, true) else (t, t, 0, false, true))
 else if b = true then (f, t, wrap64 (lastI (sorted (pick c b l)) - 1), b, true)
 else (f, t, rd (sorted (pick c b l)) 0, b, true)
def move_Step.f (a0_0 : Int) (a0_1 : Int) (a0_2 : Int) (a0_3 : Bool) (a1_0 : Int) (a1_1 : Int) (a1_2 : Int) (l1_3 : List S46) : Option (Int × Int × Int × Bool × Bool) :=
 if l1_3.length ≤ 1000000 then some (stepI a0_0 a0_1 a0_2 a0_3 l1_3) else none
set_option maxRecDepth 100000 in
set_option maxHeartbeats 2000000 in
theorem step.walk (f t c : Int) (b : Bool) (c0 c1 c2 : Int) (A : Option Addr) (cap : Nat) (l : List S46) (w : World) (hC : Kd.C k46 w A l.length l) (hc : l.length ≤ cap) (hn : l.length ≤ 1000000) :
 Calls Try.prog 15 #[.agg #[.int .i64 f, .int .i64 t, .int .i64 c, .bool b], .agg #[.int .i64 c0, .int .i64 c1, .int .i64 c2, .slice A l.length cap]] w fun e w' =>
  e = .returned (.tuple #[.agg #[.int .i64 (stepI f t c b l).1, .int .i64 (stepI f t c b l).2.1, .int .i64 (stepI f t c b l).2.2.1, .bool (stepI f t c b l).2.2.2.1], .bool (stepI f t c b l).2.2.2.2]) ∧ Below w.heap.size w w' := by
 have hmf : ∀ (fn : Fn) (first cap : Array Value) (w : World), (Instr.makeFunc fn first cap).run Try.prog w = .ok (.func fn first cap) w := fun _ _ _ _ => rfl
 have HC := Aside0.mk hC
 have HCC := Aside0.mk hc
 clear hC hc
 have hu23 := Try.underlying23
 have hu34 := Try.underlying34
 obtain ⟨q, hq⟩ : ∃ q, (f != t) = q := ⟨_, rfl⟩
 have HQ := Aside0.mk hq
 clear hq
 go_enter Try.func15, Try.ntmps15
 go_wp2_with fail
 have HR0 : Aside0 ((((w.alloc (.cells #[.int .i64 f, .int .i64 t, .int .i64 c, .bool b] 23)).alloc (.cells #[.int .i64 c0, .int .i64 c1, .int .i64 c2, .slice A l.length cap] 34)).alloc (.cells #[.int .i64 0, .int .i64 0, .int .i64 0, .bool false] 23)).heap[w.heap.size]? = some (.cells #[.int .i64 f, .int .i64 t, .int .i64 c, .bool b] 23 (0, 0))) := ⟨by
  rw [_root_.Go.heap_alloc_old _ _ (by rw [size_alloc, size_alloc]; omega), _root_.Go.heap_alloc_old _ _ (by rw [size_alloc]; omega)]; exact heap_alloc_new _ _⟩
 have HR1 : Aside0 ((((w.alloc (.cells #[.int .i64 f, .int .i64 t, .int .i64 c, .bool b] 23)).alloc (.cells #[.int .i64 c0, .int .i64 c1, .int .i64 c2, .slice A l.length cap] 34)).alloc (.cells #[.int .i64 0, .int .i64 0, .int .i64 0, .bool false] 23)).heap[w.heap.size + 1]? = some (.cells #[.int .i64 c0, .int .i64 c1, .int .i64 c2, .slice A l.length cap] 34 (0, 0))) := ⟨by
  rw [_root_.Go.heap_alloc_old _ _ (by rw [size_alloc, size_alloc]; omega)]
  have := heap_alloc_new (w.alloc (.cells #[.int .i64 f, .int .i64 t, .int .i64 c, .bool b] 23)) (.cells #[.int .i64 c0, .int .i64 c1, .int .i64 c2, .slice A l.length cap] 34)
  rwa [show (w.alloc (.cells #[.int .i64 f, .int .i64 t, .int .i64 c, .bool b] 23)).heap.size = w.heap.size + 1 by rw [size_alloc]] at this⟩
 have HR2 : Aside0 ((((w.alloc (.cells #[.int .i64 f, .int .i64 t, .int .i64 c, .bool b] 23)).alloc (.cells #[.int .i64 c0, .int .i64 c1, .int .i64 c2, .slice A l.length cap] 34)).alloc (.cells #[.int .i64 0, .int .i64 0, .int .i64 0, .bool false] 23)).heap[w.heap.size + 1 + 1]? = some (.cells #[.int .i64 0, .int .i64 0, .int .i64 0, .bool false] 23 (0, 0))) := ⟨by
  have := heap_alloc_new ((w.alloc (.cells #[.int .i64 f, .int .i64 t, .int .i64 c, .bool b] 23)).alloc (.cells #[.int .i64 c0, .int .i64 c1, .int .i64 c2, .slice A l.length cap] 34)) (.cells #[.int .i64 0, .int .i64 0, .int .i64 0, .bool false] 23)
  rwa [show ((w.alloc (.cells #[.int .i64 f, .int .i64 t, .int .i64 c, .bool b] 23)).alloc (.cells #[.int .i64 c0, .int .i64 c1, .int .i64 c2, .slice A l.length cap] 34)).heap.size = w.heap.size + 1 + 1 by rw [size_alloc, size_alloc]] at this⟩
 have HB3 := Aside0.mk ((((Below.refl w.heap.size w).alloc (Nat.le_refl _) (.cells #[.int .i64 f, .int .i64 t, .int .i64 c, .bool b] 23)).alloc (by rw [size_alloc]; omega) (.cells #[.int .i64 c0, .int .i64 c1, .int .i64 c2, .slice A l.length cap] 34)).alloc (by rw [size_alloc, size_alloc]; omega) (.cells #[.int .i64 0, .int .i64 0, .int .i64 0, .bool false] 23))
 generalize ((w.alloc (.cells #[.int .i64 f, .int .i64 t, .int .i64 c, .bool b] 23)).alloc (.cells #[.int .i64 c0, .int .i64 c1, .int .i64 c2, .slice A l.length cap] 34)).alloc (.cells #[.int .i64 0, .int .i64 0, .int .i64 0, .bool false] 23) = w3 at *
 refine (moves.walk _ _ _ _ _).mono ?_
 rintro e w5 ⟨rfl, hb⟩
 have hlt2 := (Array.getElem?_eq_some_iff.1 HR2.out).1
 have HS0 := Aside0.mk ((hb.block _ (Array.getElem?_eq_some_iff.1 HR0.out).1).trans HR0.out)
 have HS1 := Aside0.mk ((hb.block _ (Array.getElem?_eq_some_iff.1 HR1.out).1).trans HR1.out)
 have HS2 := Aside0.mk ((hb.block _ hlt2).trans HR2.out)
 have HB5 := Aside0.mk (below_step HB3.out hb)
 clear hb hlt2 HR0 HR1 HR2 HB3
 rw [HQ.out]
 cases q with
 | false =>
  have hft : f = t := by simpa using HQ.out
  have e2 : stepI f t c b l = (f, t, c, b, false) := by unfold stepI; rw [if_pos hft]
  have HE2 := Aside0.mk e2
  clear e2 hft HQ
  go_wp2_with (first | (refine wpList_load_row rfl 23 _ rfl w.heap.size rfl 23 #[.int .i64 f, .int .i64 t, .int .i64 c, .bool b] (0, 0) _ HS0.out Try.underlying23 rfl size23 ?_) | (refine wpList_store_row rfl 23 _ _ rfl (w.heap.size + 1 + 1) #[.int .i64 f, .int .i64 t, .int .i64 c, .bool b] rfl rfl 23 #[.int .i64 0, .int .i64 0, .int .i64 0, .bool false] HS2.out size23 rfl (mixOne _ _ _ _) ?_))
  exact bodyPost_ret (results_ct rfl _ _ (w.heap.size + 1 + 1) 23 #[.int .i64 f, .int .i64 t, .int .i64 c, .bool b] (0, 0) _ rfl (setRow_heap _ _ _ _ _ _ HS2.out) Try.underlying23 rfl size23) rfl ⟨by rw [HE2.out]; rfl, below_setRow HB5.out (by omega) _⟩
 | true =>
  have hft : f ≠ t := by simpa using HQ.out
  have HFT := Aside0.mk hft
  clear hft HQ
  have c30 : w5.cell? ⟨w.heap.size + 1, 0, none⟩ = some (.int .i64 c0) := by rw [cell_of_row _ _ _ _ _ _ HS1.out]; rfl
  have c31 : w5.cell? ⟨w.heap.size + 1, 1, none⟩ = some (.int .i64 c1) := by rw [cell_of_row _ _ _ _ _ _ HS1.out]; rfl
  have c32 : w5.cell? ⟨w.heap.size + 1, 2, none⟩ = some (.int .i64 c2) := by rw [cell_of_row _ _ _ _ _ _ HS1.out]; rfl
  have c33 : w5.cell? ⟨w.heap.size + 1, 3, none⟩ = some (.slice A l.length cap) := by rw [cell_of_row _ _ _ _ _ _ HS1.out]; rfl
  go_wp2_with fail
  refine (move_ids.calls w.heap.size f t c b c0 c1 c2 A cap l _ HS0.out (Kd.C_below HC.out HB5.out) HCC.out hn).mono ?_
  rintro e w6 ⟨v6, rfl, ho, hb⟩
  have HT0 := Aside0.mk ((hb.block _ (Array.getElem?_eq_some_iff.1 HS0.out).1).trans HS0.out)
  have HT2 := Aside0.mk ((hb.block _ (Array.getElem?_eq_some_iff.1 HS2.out).1).trans HS2.out)
  have HB6 := Aside0.mk (below_step HB5.out hb)
  obtain ⟨A6, k6, rfl⟩ := Kd.R_slice ho
  have hrd := Kd.R_reads' ho
  have hll : (sorted (pick c b l)).length ≤ 1000000 := by rw [sorted_length]; have := pick_le c b l; omega
  have HST : Aside0 (stepI f t c b l = if (sorted (pick c b l)).length = 0 then (if b = true then (f, f, 0, false, true) else (t, t, 0, false, true)) else if b = true then (f, t, wrap64 (lastI (sorted (pick c b l)) - 1), b, true) else (f, t, rd (sorted (pick c b l)) 0, b, true)) := ⟨by unfold stepI; rw [if_neg HFT.out]⟩
  have HRD := Aside0.mk hrd.2
  clear ho hb hrd c30 c31 c32 c33 HS0 HS1 HS2 HB5 HFT HC HCC
  generalize sorted (pick c b l) = L at *
  have d3 : w6.cell? ⟨w.heap.size, 3, none⟩ = some (.bool b) := by rw [cell_of_row _ _ _ _ _ _ HT0.out]; rfl
  have d0 : w6.cell? ⟨w.heap.size, 0, none⟩ = some (.int .i64 f) := by rw [cell_of_row _ _ _ _ _ _ HT0.out]; rfl
  have d1 : w6.cell? ⟨w.heap.size, 1, none⟩ = some (.int .i64 t) := by rw [cell_of_row _ _ _ _ _ _ HT0.out]; rfl
  have d2 : w6.cell? ⟨w.heap.size, 2, none⟩ = some (.int .i64 c) := by rw [cell_of_row _ _ _ _ _ _ HT0.out]; rfl
  have df : w6.frozen? ⟨w.heap.size, 2, none⟩ = false := frozen_of_row _ _ _ _ _ HT0.out
  by_cases h0 : L.length = 0
  ·rw [h0]
   cases b with
   | true =>
    have HEQ : Aside0 (stepI f t c true l = (f, f, 0, false, true)) := ⟨by rw [HST.out, if_pos h0, if_pos rfl]⟩
    clear HST h0 hll
    go_wp2_with (first | (go_at_call 27; refine (all.walk _ _).mono ?_; rintro e w7 ⟨rfl, hb⟩; have HB7 := Aside0.mk (below_step HB6.out hb); have HU2 := Aside0.mk ((hb.block _ (Array.getElem?_eq_some_iff.1 HT2.out).1).trans HT2.out); clear hb) | (refine wpList_store_row rfl 23 _ _ rfl (w.heap.size + 1 + 1) #[.int .i64 f, .int .i64 f, .int .i64 0, .bool false] rfl rfl 23 #[.int .i64 0, .int .i64 0, .int .i64 0, .bool false] HU2.out size23 rfl (mixOne _ _ _ _) ?_))
    exact bodyPost_ret (results_ct rfl _ _ (w.heap.size + 1 + 1) 23 #[.int .i64 f, .int .i64 f, .int .i64 0, .bool false] (0, 0) _ rfl (setRow_heap _ _ _ _ _ _ HU2.out) Try.underlying23 rfl size23) rfl ⟨by rw [HEQ.out]; rfl, below_setRow HB7.out (by omega) _⟩
   | false =>
    have HEQ : Aside0 (stepI f t c false l = (t, t, 0, false, true)) := ⟨by rw [HST.out, if_pos h0, if_neg (by decide)]⟩
    clear HST h0 hll
    go_wp2_with (first | (go_at_call 27; refine (all.walk _ _).mono ?_; rintro e w7 ⟨rfl, hb⟩; have HB7 := Aside0.mk (below_step HB6.out hb); have HU2 := Aside0.mk ((hb.block _ (Array.getElem?_eq_some_iff.1 HT2.out).1).trans HT2.out); clear hb) | (refine wpList_store_row rfl 23 _ _ rfl (w.heap.size + 1 + 1) #[.int .i64 t, .int .i64 t, .int .i64 0, .bool false] rfl rfl 23 #[.int .i64 0, .int .i64 0, .int .i64 0, .bool false] HU2.out size23 rfl (mixOne _ _ _ _) ?_))
    exact bodyPost_ret (results_ct rfl _ _ (w.heap.size + 1 + 1) 23 #[.int .i64 t, .int .i64 t, .int .i64 0, .bool false] (0, 0) _ rfl (setRow_heap _ _ _ _ _ _ HU2.out) Try.underlying23 rfl size23) rfl ⟨by rw [HEQ.out]; rfl, below_setRow HB7.out (by omega) _⟩
  ·obtain ⟨m, hm⟩ : ∃ m, L.length = m + 1 := ⟨L.length - 1, by omega⟩
   have hg := Kd.at_int HRD.out.2 0 (by omega) (by omega)
   obtain ⟨ad, rfl, h00⟩ := hg
   obtain ⟨ad', e', hml⟩ := Kd.at_int HRD.out.2 (m : Int) (by omega) (by omega)
   cases e'
   simp only [Int.toNat_natCast] at hml
   have h00' : w6.cell? ad = some (.int .i64 (rd L 0)) := by simpa [Addr.add] using h00
   have HL0 := Aside0.mk h00'
   have HLM := Aside0.mk hml
   have hmm : m + 1 ≤ 1000000 := by omega
   have HM := Aside0.mk hm
   rw [hm]
   clear h00 h00' hml hll hm HRD
   cases b with
   | true =>
    have HEQ : Aside0 (stepI f t c true l = (f, t, wrap64 (rd L (m : Int) - 1), true, true)) := ⟨by rw [HST.out, if_neg h0, if_pos rfl]; unfold lastI; rw [HM.out]; congr; omega⟩
    clear HST h0
    have hml := HLM.out
    generalize rd L (m : Int) = x at *
    go_upto_region 11 with (fail)
    have HV0 : Aside0 ((w6.setCell ⟨w.heap.size, 2, none⟩ (.int .i64 (wrap64 (x - 1)))).heap[w.heap.size]? = some (.cells #[.int .i64 f, .int .i64 t, .int .i64 (wrap64 (x - 1)), .bool true] 23 (0, 0))) := ⟨(heap_setCell_same _ _ _ _ _ _ HT0.out).trans rfl⟩
    have HV2 : Aside0 ((w6.setCell ⟨w.heap.size, 2, none⟩ (.int .i64 (wrap64 (x - 1)))).heap[w.heap.size + 1 + 1]? = some (.cells #[.int .i64 0, .int .i64 0, .int .i64 0, .bool false] 23 (0, 0))) := ⟨(heap_setCell_other _ _ _ _ (by show w.heap.size + 1 + 1 ≠ w.heap.size; omega)).trans HT2.out⟩
    have HB7 := Aside0.mk (HB6.out.setCell (p := ⟨w.heap.size, 2, none⟩) (Nat.le_refl _) (.int .i64 (wrap64 (x - 1))))
    clear HT0 HT2 HB6 d0 d1 d2 d3 df
    generalize w6.setCell ⟨w.heap.size, 2, none⟩ (.int .i64 (wrap64 (x - 1))) = w7 at *
    go_wp2_with (first | (refine wpList_load_row rfl 23 _ rfl w.heap.size rfl 23 #[.int .i64 f, .int .i64 t, .int .i64 (wrap64 (x - 1)), .bool true] (0, 0) _ HV0.out Try.underlying23 rfl size23 ?_) | (refine wpList_store_row rfl 23 _ _ rfl (w.heap.size + 1 + 1) #[.int .i64 f, .int .i64 t, .int .i64 (wrap64 (x - 1)), .bool true] rfl rfl 23 #[.int .i64 0, .int .i64 0, .int .i64 0, .bool false] HV2.out size23 rfl (mixOne _ _ _ _) ?_))
    exact bodyPost_ret (results_ct rfl _ _ (w.heap.size + 1 + 1) 23 #[.int .i64 f, .int .i64 t, .int .i64 (wrap64 (x - 1)), .bool true] (0, 0) _ rfl (setRow_heap _ _ _ _ _ _ HV2.out) Try.underlying23 rfl size23) rfl ⟨by rw [HEQ.out]; rfl, below_setRow HB7.out (by omega) _⟩
   | false =>
    have HEQ : Aside0 (stepI f t c false l = (f, t, rd L 0, false, true)) := ⟨by rw [HST.out, if_neg h0, if_neg (by decide)]⟩
    clear HST h0
    have h00 := HL0.out
    generalize rd L 0 = x at *
    go_upto_region 11 with (fail)
    have HV0 : Aside0 ((w6.setCell ⟨w.heap.size, 2, none⟩ (.int .i64 (x))).heap[w.heap.size]? = some (.cells #[.int .i64 f, .int .i64 t, .int .i64 (x), .bool false] 23 (0, 0))) := ⟨(heap_setCell_same _ _ _ _ _ _ HT0.out).trans rfl⟩
    have HV2 : Aside0 ((w6.setCell ⟨w.heap.size, 2, none⟩ (.int .i64 (x))).heap[w.heap.size + 1 + 1]? = some (.cells #[.int .i64 0, .int .i64 0, .int .i64 0, .bool false] 23 (0, 0))) := ⟨(heap_setCell_other _ _ _ _ (by show w.heap.size + 1 + 1 ≠ w.heap.size; omega)).trans HT2.out⟩
    have HB7 := Aside0.mk (HB6.out.setCell (p := ⟨w.heap.size, 2, none⟩) (Nat.le_refl _) (.int .i64 (x)))
    clear HT0 HT2 HB6 d0 d1 d2 d3 df
    generalize w6.setCell ⟨w.heap.size, 2, none⟩ (.int .i64 (x)) = w7 at *
    go_wp2_with (first | (refine wpList_load_row rfl 23 _ rfl w.heap.size rfl 23 #[.int .i64 f, .int .i64 t, .int .i64 (x), .bool false] (0, 0) _ HV0.out Try.underlying23 rfl size23 ?_) | (refine wpList_store_row rfl 23 _ _ rfl (w.heap.size + 1 + 1) #[.int .i64 f, .int .i64 t, .int .i64 (x), .bool false] rfl rfl 23 #[.int .i64 0, .int .i64 0, .int .i64 0, .bool false] HV2.out size23 rfl (mixOne _ _ _ _) ?_))
    exact bodyPost_ret (results_ct rfl _ _ (w.heap.size + 1 + 1) 23 #[.int .i64 f, .int .i64 t, .int .i64 (x), .bool false] (0, 0) _ rfl (setRow_heap _ _ _ _ _ _ HV2.out) Try.underlying23 rfl size23) rfl ⟨by rw [HEQ.out]; rfl, below_setRow HB7.out (by omega) _⟩
theorem move_Step.calls (a0_0 : Int) (a0_1 : Int) (a0_2 : Int) (a0_3 : Bool) (a1_0 : Int) (a1_1 : Int) (a1_2 : Int) (A1_3 : Option Addr) (c1_3 : Nat) (l1_3 : List (S46)) (r1 : Int) (r2 : Int) (r3 : Int) (r4 : Bool) (r5 : Bool) (w : World) (hr1_3 : Kd.C k46 w A1_3 l1_3.length l1_3) (hc1_3 : l1_3.length ≤ c1_3) (h : move_Step.f a0_0 a0_1 a0_2 a0_3 a1_0 a1_1 a1_2 l1_3 = some (r1, r2, r3, r4, r5)) :
 Calls Try.prog 15 #[.agg #[.int .i64 a0_0, .int .i64 a0_1, .int .i64 a0_2, .bool a0_3], .agg #[.int .i64 a1_0, .int .i64 a1_1, .int .i64 a1_2, .slice A1_3 l1_3.length c1_3]] w fun e w' => e = .returned (.tuple #[.agg #[.int .i64 r1, .int .i64 r2, .int .i64 r3, .bool r4], .bool r5]) ∧ Below w.heap.size w w' := by
 unfold move_Step.f at h
 by_cases hn : l1_3.length ≤ 1000000
 ·rw [if_pos hn] at h
  have e := Option.some.inj h
  have := step.walk a0_0 a0_1 a0_2 a0_3 a1_0 a1_1 a1_2 A1_3 c1_3 l1_3 w hr1_3 hc1_3 hn
  rw [e] at this
  exact this
 ·rw [if_neg hn] at h
  cases h
end Go.Proofs.Ytajfefjmfelnbaa
