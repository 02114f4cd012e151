/- Printed (wip/gprint.py). -/
import Derived.Test.YtajfefjmfelnbaaVWalkx0
import Derived.Test.YtajfefjmfelnbaaVStep
namespace Go.Proofs.Ytajfefjmfelnbaa.VWalk
open Go.RowKit Go.Proofs.Ytajfefjmfelnbaa.BState Go.Proofs.YtajfefjmfelnbaaW.PrintWords Go.Proofs.YtajfefjmfelnbaaW.PrintLast Go.Proofs.YtajfefjmfelnbaaW.PrintMore
attribute [local go_sem] max2_int min2_int max_two min_two max_three min_three max_four min_four   -- for this text's walks alone
set_option linter.unusedVariables false
set_option linter.unusedSimpArgs false

/-! ### roadsteadref16_Walk: function 31 -/
mutual
def roadsteadref16_Walk.l0 : Nat → Int → Int → Int → Int → Int → Int → Bool → Int → Int → Int → List (S46) → Option (Int × Int × Int × Bool × Int)
 | 0, _, _, _, _, _, _, _, _, _, _, _ => none
 | k + 1, x2, x3, x10, x113000, x113001, x113002, x113003, x114000, x114001, x114002, x114003 => if x10 < x3 then (if x2 ≥ 1 then (if x2 ≤ 3 then (if x113000 = x113001 then (roadsteadref16_Walk.j1 k x2 x3 x10 (x113000 != x2) x113000 x113001 x113002 x113003 x114000 x114001 x114002 x114003) else (roadsteadref16_Walk.j1 k x2 x3 x10 true x113000 x113001 x113002 x113003 x114000 x114001 x114002 x114003)) else (roadsteadref16_Walk.j1 k x2 x3 x10 false x113000 x113001 x113002 x113003 x114000 x114001 x114002 x114003)) else (roadsteadref16_Walk.j1 k x2 x3 x10 false x113000 x113001 x113002 x113003 x114000 x114001 x114002 x114003)) else (roadsteadref16_Walk.j1 k x2 x3 x10 false x113000 x113001 x113002 x113003 x114000 x114001 x114002 x114003)
def roadsteadref16_Walk.j1 : Nat → Int → Int → Int → Bool → Int → Int → Int → Bool → Int → Int → Int → List (S46) → Option (Int × Int × Int × Bool × Int)
 | 0, _, _, _, _, _, _, _, _, _, _, _, _ => none
 | k + 1, x2, x3, x10, x38, x113000, x113001, x113002, x113003, x114000, x114001, x114002, x114003 => if x38 = true then (if x113000 = x113001 then ((roadsteadref16_Begin.f k x113000 x113001 x113002 x113003 x2).bind fun bt115 => ((roadsteadref16_Step.f k bt115.1 bt115.2.1 bt115.2.2.1 bt115.2.2.2.1 x114000 x114001 x114002 x114003).bind fun bt121 => (roadsteadref16_Walk.l0 k x2 x3 (wrap64 (x10 + 1)) bt121.1 bt121.2.1 bt121.2.2.1 bt121.2.2.2.1 x114000 x114001 x114002 x114003))) else ((roadsteadref16_Step.f k x113000 x113001 x113002 x113003 x114000 x114001 x114002 x114003).bind fun bt127 => (roadsteadref16_Walk.l0 k x2 x3 (wrap64 (x10 + 1)) bt127.1 bt127.2.1 bt127.2.2.1 bt127.2.2.2.1 x114000 x114001 x114002 x114003))) else (some (x113000, x113001, x113002, x113003, x10))
end
def roadsteadref16_Walk.f (k : Nat) (a0_0 : Int) (a0_1 : Int) (a0_2 : Int) (a0_3 : Bool) (a1_0 : Int) (a1_1 : Int) (a1_2 : Int) (l1_3 : List (S46)) (a2 : Int) (a3 : Int) : Option (Int × Int × Int × Bool × Int) := roadsteadref16_Walk.l0 k a2 a3 0 a0_0 a0_1 a0_2 a0_3 a1_0 a1_1 a1_2 l1_3
theorem roadsteadref16_Walk.mono_l : ∀ k, (∀ y0 y1 y2 y3 y4 y5 y6 y7 y8 y9 y10, LeO (roadsteadref16_Walk.l0 k y0 y1 y2 y3 y4 y5 y6 y7 y8 y9 y10) (roadsteadref16_Walk.l0 (k + 1) y0 y1 y2 y3 y4 y5 y6 y7 y8 y9 y10)) ∧ (∀ y0 y1 y2 y3 y4 y5 y6 y7 y8 y9 y10 y11, LeO (roadsteadref16_Walk.j1 k y0 y1 y2 y3 y4 y5 y6 y7 y8 y9 y10 y11) (roadsteadref16_Walk.j1 (k + 1) y0 y1 y2 y3 y4 y5 y6 y7 y8 y9 y10 y11))
 | 0 => ⟨fun _ _ _ _ _ _ _ _ _ _ _ r h => by simp [roadsteadref16_Walk.l0] at h, fun _ _ _ _ _ _ _ _ _ _ _ _ r h => by simp [roadsteadref16_Walk.j1] at h⟩
 | k + 1 => by
  obtain ⟨ih0, ih1⟩ := roadsteadref16_Walk.mono_l k
  refine ⟨?_, ?_⟩
  ·intro y0 y1 y2 y3 y4 y5 y6 y7 y8 y9 y10
   unfold roadsteadref16_Walk.l0
   repeat' first
   | (with_reducible exact ih0 _ _ _ _ _ _ _ _ _ _ _)
   | (with_reducible exact ih1 _ _ _ _ _ _ _ _ _ _ _ _)
   | (with_reducible exact roadsteadref16_Begin.mono _ _ _ _ _ _)
   | (with_reducible exact roadsteadref16_Step.mono _ _ _ _ _ _ _ _ _)
   | (with_reducible exact LeO.refl _)
   | (with_reducible exact LeO.none _)
   | (with_reducible refine LeO.ite ?_ ?_)
   | (with_reducible refine LeO.bind ?_ (fun _ => ?_))
   | exact ih0 _ _ _ _ _ _ _ _ _ _ _
   | exact ih1 _ _ _ _ _ _ _ _ _ _ _ _
   | exact roadsteadref16_Begin.mono _ _ _ _ _ _
   | exact roadsteadref16_Step.mono _ _ _ _ _ _ _ _ _
   | exact LeO.none _
   | refine LeO.ite ?_ ?_
   | refine LeO.bind ?_ (fun _ => ?_)
  ·intro y0 y1 y2 y3 y4 y5 y6 y7 y8 y9 y10 y11
   unfold roadsteadref16_Walk.j1
   repeat' first
   | (with_reducible exact ih0 _ _ _ _ _ _ _ _ _ _ _)
   | (with_reducible exact ih1 _ _ _ _ _ _ _ _ _ _ _ _)
   | (with_reducible exact roadsteadref16_Begin.mono _ _ _ _ _ _)
   | (with_reducible exact roadsteadref16_Step.mono _ _ _ _ _ _ _ _ _)
   | (with_reducible exact LeO.refl _)
   | (with_reducible exact LeO.none _)
   | (with_reducible refine LeO.ite ?_ ?_)
   | (with_reducible refine LeO.bind ?_ (fun _ => ?_))
   | exact ih0 _ _ _ _ _ _ _ _ _ _ _
   | exact ih1 _ _ _ _ _ _ _ _ _ _ _ _
   | exact roadsteadref16_Begin.mono _ _ _ _ _ _
   | exact roadsteadref16_Step.mono _ _ _ _ _ _ _ _ _
   | exact LeO.none _
   | refine LeO.ite ?_ ?_
   | refine LeO.bind ?_ (fun _ => ?_)
theorem roadsteadref16_Walk.mono : ∀ a0 a1 a2 a3 a4 a5 a6 a7 a8 a9 k, LeO (roadsteadref16_Walk.f k a0 a1 a2 a3 a4 a5 a6 a7 a8 a9) (roadsteadref16_Walk.f (k + 1) a0 a1 a2 a3 a4 a5 a6 a7 a8 a9) := by
 intro a0 a1 a2 a3 a4 a5 a6 a7 a8 a9 k
 obtain ⟨ih0, ih1⟩ := roadsteadref16_Walk.mono_l k
 unfold roadsteadref16_Walk.f
 repeat' first
  | (with_reducible exact ih0 _ _ _ _ _ _ _ _ _ _ _)
  | (with_reducible exact ih1 _ _ _ _ _ _ _ _ _ _ _ _)
  | (with_reducible exact roadsteadref16_Begin.mono _ _ _ _ _ _)
  | (with_reducible exact roadsteadref16_Step.mono _ _ _ _ _ _ _ _ _)
  | (with_reducible exact LeO.refl _)
  | (with_reducible exact LeO.none _)
  | (with_reducible refine LeO.ite ?_ ?_)
  | (with_reducible refine LeO.bind ?_ (fun _ => ?_))
  | exact ih0 _ _ _ _ _ _ _ _ _ _ _
  | exact ih1 _ _ _ _ _ _ _ _ _ _ _ _
  | exact roadsteadref16_Begin.mono _ _ _ _ _ _
  | exact roadsteadref16_Step.mono _ _ _ _ _ _ _ _ _
  | exact LeO.none _
  | refine LeO.ite ?_ ?_
  | refine LeO.bind ?_ (fun _ => ?_)
set_option maxHeartbeats 8000000 in
set_option maxRecDepth 100000 in
theorem roadsteadref16_Walk.calls (k : Nat) (a0_0 : Int) (a0_1 : Int) (a0_2 : Int) (a0_3 : Bool) (a1_0 : Int) (a1_1 : Int) (a1_2 : Int) (A1_3 : Option Addr) (c1_3 : Nat) (l1_3 : List (S46)) (a2 : Int) (a3 : Int) (r1 : Int) (r2 : Int) (r3 : Int) (r4 : Bool) (r5 : Int) (w : World) (hr1_3 : Kd.C k46 w A1_3 l1_3.length l1_3) (hc1_3 : l1_3.length ≤ c1_3) (h : roadsteadref16_Walk.f k a0_0 a0_1 a0_2 a0_3 a1_0 a1_1 a1_2 l1_3 a2 a3 = some (r1, r2, r3, r4, r5)) :
 Calls Try.prog 31 #[.agg #[.int .i64 a0_0, .int .i64 a0_1, .int .i64 a0_2, .bool a0_3], .agg #[.int .i64 a1_0, .int .i64 a1_1, .int .i64 a1_2, .slice A1_3 l1_3.length c1_3], .int .i64 a2, .int .i64 a3] w fun e w' => e = .returned (.tuple #[.agg #[.int .i64 r1, .int .i64 r2, .int .i64 r3, .bool r4], .int .i64 r5]) ∧ Below w.heap.size w w' := by
 have hu23 := Try.underlying23
 have hu34 := Try.underlying34
 have HR1_3 := Aside0.mk hr1_3
 have HC1_3 := Aside0.mk hc1_3
 clear hr1_3 hc1_3
 have HB := Aside0.mk (Below.refl w.heap.size w)
 have H : (roadsteadref16_Walk.l0 k a2 a3 0 a0_0 a0_1 a0_2 a0_3 a1_0 a1_1 a1_2 l1_3) = some (r1, r2, r3, r4, r5) := h
 clear h
 have H' := Aside0.mk H
 clear H
 go_enter Try.func31, Try.ntmps31
 go_wp2_with (first | ((with_reducible refine gate_dst (N := 4) rfl ?_); refine box_event ?hg (N := 4) ?hd (cs := #[.int .i64 a0_0, .int .i64 a0_1, .int .i64 a0_2, .bool a0_3]) (t := 23) ?hr ?_; (case hd => rfl); (case hg => rfl); (case hr => first | (go_simp; done) | (go_simp; rfl)); intro gb112 hg w5 hbox hb; have n0_ := Aside0.mk (below_step (by repeat (with_reducible first | exact HB.out | apply below_alloc | apply pw_below_drewN | apply below_drew1)) hb); have n1_ := Aside0.mk (hbox); have n2_ := Aside0.mk ((by rw [hg]; exact (below_size (by repeat (with_reducible first | exact HB.out | apply below_alloc | apply pw_below_drewN | apply below_drew1))) : w.heap.size ≤ gb112)); have n3_ := Aside0.mk ((by rw [hg]; exact (below_size (by repeat (with_reducible first | exact HB.out | apply below_alloc | apply pw_below_drewN | apply below_drew1))) : w.heap.size ≤ gb112)); clear HB; have HB := n0_; have BK112 := n1_; have GW112 := n2_; have GE112 := n3_; clear n0_ n1_ n2_ n3_; clear hb hbox hg) | ((with_reducible refine gate_dst (N := 5) rfl ?_); refine box_event ?hg (N := 5) ?hd (cs := #[.int .i64 a1_0, .int .i64 a1_1, .int .i64 a1_2, .slice A1_3 l1_3.length c1_3]) (t := 34) ?hr ?_; (case hd => rfl); (case hg => rfl); (case hr => first | (go_simp; done) | (go_simp; rfl)); intro gb113 hg w6 hbox hb; have n0_ := Aside0.mk (blk_below (g := gb112) (o := .cells #[.int .i64 a0_0, .int .i64 a0_1, .int .i64 a0_2, .bool a0_3] 23 (0, 0)) (by (with_reducible repeat (first | refine blk_drewN ?_ _ | refine blk_drew ?_ | refine blk_alloc ?_ _)); exact BK112.out) hb); have n1_ := Aside0.mk (below_step (by repeat (with_reducible first | exact HB.out | apply below_alloc | apply pw_below_drewN | apply below_drew1 | refine below_set ?_ GE112.out)) hb); have n2_ := Aside0.mk (hbox); have n3_ := Aside0.mk ((by rw [hg]; exact (below_size (by repeat (with_reducible first | exact HB.out | apply below_alloc | apply pw_below_drewN | apply below_drew1 | refine below_set ?_ GE112.out))) : w.heap.size ≤ gb113)); have n4_ := Aside0.mk ((by rw [hg]; exact (below_size (by repeat (with_reducible first | exact HB.out | apply below_alloc | apply pw_below_drewN | apply below_drew1 | refine below_set ?_ GE112.out))) : w.heap.size ≤ gb113)); have n5_ := Aside0.mk ((by rw [hg]; exact Nat.ne_of_lt (blk_lt (g := gb112) (o := .cells #[.int .i64 a0_0, .int .i64 a0_1, .int .i64 a0_2, .bool a0_3] 23 (0, 0)) (by (with_reducible repeat (first | refine blk_drewN ?_ _ | refine blk_drew ?_ | refine blk_alloc ?_ _)); exact BK112.out)) : gb112 ≠ gb113)); have n6_ := Aside0.mk ((by rw [hg]; exact Nat.ne_of_gt (blk_lt (g := gb112) (o := .cells #[.int .i64 a0_0, .int .i64 a0_1, .int .i64 a0_2, .bool a0_3] 23 (0, 0)) (by (with_reducible repeat (first | refine blk_drewN ?_ _ | refine blk_drew ?_ | refine blk_alloc ?_ _)); exact BK112.out)) : gb113 ≠ gb112)); clear BK112; clear HB; have BK112 := n0_; have HB := n1_; have BK113 := n2_; have GW113 := n3_; have GE113 := n4_; have NB112_113 := n5_; have NB113_112 := n6_; clear n0_ n1_ n2_ n3_ n4_ n5_ n6_; clear hb hbox hg) | ((with_reducible refine gate_dst (N := 8) rfl ?_); refine box_event ?hg (N := 8) ?hd (cs := #[.int .i64 0, .int .i64 0, .int .i64 0, .bool false]) (t := 23) ?hr ?_; (case hd => rfl); (case hg => rfl); (case hr => first | (go_simp; done) | (go_simp; rfl)); intro gb114 hg w7 hbox hb; have n0_ := Aside0.mk (blk_below (g := gb112) (o := .cells #[.int .i64 a0_0, .int .i64 a0_1, .int .i64 a0_2, .bool a0_3] 23 (0, 0)) (by (with_reducible repeat (first | refine blk_drewN ?_ _ | refine blk_drew ?_ | refine blk_alloc ?_ _)); exact BK112.out) hb); have n1_ := Aside0.mk (blk_below (g := gb113) (o := .cells #[.int .i64 a1_0, .int .i64 a1_1, .int .i64 a1_2, .slice A1_3 l1_3.length c1_3] 34 (0, 0)) (by (with_reducible repeat (first | refine blk_drewN ?_ _ | refine blk_drew ?_ | refine blk_alloc ?_ _)); exact BK113.out) hb); have n2_ := Aside0.mk (below_step (by repeat (with_reducible first | exact HB.out | apply below_alloc | apply pw_below_drewN | apply below_drew1 | refine below_set ?_ GE112.out | refine below_set ?_ GE113.out)) hb); have n3_ := Aside0.mk (hbox); have n4_ := Aside0.mk ((by rw [hg]; exact (below_size (by repeat (with_reducible first | exact HB.out | apply below_alloc | apply pw_below_drewN | apply below_drew1 | refine below_set ?_ GE112.out | refine below_set ?_ GE113.out))) : w.heap.size ≤ gb114)); have n5_ := Aside0.mk ((by rw [hg]; exact (below_size (by repeat (with_reducible first | exact HB.out | apply below_alloc | apply pw_below_drewN | apply below_drew1 | refine below_set ?_ GE112.out | refine below_set ?_ GE113.out))) : w.heap.size ≤ gb114)); have n6_ := Aside0.mk ((by rw [hg]; exact Nat.ne_of_lt (blk_lt (g := gb112) (o := .cells #[.int .i64 a0_0, .int .i64 a0_1, .int .i64 a0_2, .bool a0_3] 23 (0, 0)) (by (with_reducible repeat (first | refine blk_drewN ?_ _ | refine blk_drew ?_ | refine blk_alloc ?_ _)); exact BK112.out)) : gb112 ≠ gb114)); have n7_ := Aside0.mk ((by rw [hg]; exact Nat.ne_of_gt (blk_lt (g := gb112) (o := .cells #[.int .i64 a0_0, .int .i64 a0_1, .int .i64 a0_2, .bool a0_3] 23 (0, 0)) (by (with_reducible repeat (first | refine blk_drewN ?_ _ | refine blk_drew ?_ | refine blk_alloc ?_ _)); exact BK112.out)) : gb114 ≠ gb112)); have n8_ := Aside0.mk ((by rw [hg]; exact Nat.ne_of_lt (blk_lt (g := gb113) (o := .cells #[.int .i64 a1_0, .int .i64 a1_1, .int .i64 a1_2, .slice A1_3 l1_3.length c1_3] 34 (0, 0)) (by (with_reducible repeat (first | refine blk_drewN ?_ _ | refine blk_drew ?_ | refine blk_alloc ?_ _)); exact BK113.out)) : gb113 ≠ gb114)); have n9_ := Aside0.mk ((by rw [hg]; exact Nat.ne_of_gt (blk_lt (g := gb113) (o := .cells #[.int .i64 a1_0, .int .i64 a1_1, .int .i64 a1_2, .slice A1_3 l1_3.length c1_3] 34 (0, 0)) (by (with_reducible repeat (first | refine blk_drewN ?_ _ | refine blk_drew ?_ | refine blk_alloc ?_ _)); exact BK113.out)) : gb114 ≠ gb113)); clear BK112; clear BK113; clear HB; have BK112 := n0_; have BK113 := n1_; have HB := n2_; have BK114 := n3_; have GW114 := n4_; have GE114 := n5_; have NB112_114 := n6_; have NB114_112 := n7_; have NB113_114 := n8_; have NB114_113 := n9_; clear n0_ n1_ n2_ n3_ n4_ n5_ n6_ n7_ n8_ n9_; clear hb hbox hg))
 go_loopg [10] k (fun kq v10 w' => ∃ (x10_1 : Int) (x113000_1 : Int) (x113001_1 : Int) (x113002_1 : Int) (x113003_1 : Bool), v10 = .int .i64 x10_1 ∧ Aside0 (roadsteadref16_Walk.l0 kq a2 a3 x10_1 x113000_1 x113001_1 x113002_1 x113003_1 a1_0 a1_1 a1_2 l1_3 = some (r1, r2, r3, r4, r5)) ∧ Aside0 (kq ≤ k) ∧ Aside0 (w'.heap[gb112]? = some (.cells #[.int .i64 x113000_1, .int .i64 x113001_1, .int .i64 x113002_1, .bool x113003_1] 23 (0, 0))) ∧ Aside0 (w'.heap[gb113]? = some (.cells #[.int .i64 a1_0, .int .i64 a1_1, .int .i64 a1_2, (.slice A1_3 l1_3.length c1_3)] 34 (0, 0))) ∧ Aside0 (w'.heap[gb114]? = some (.cells #[.int .i64 0, .int .i64 0, .int .i64 0, .bool false] 23 (0, 0))) ∧ Aside0 (Below w.heap.size w w'))
 case atStart => exact ⟨(0), (a0_0), (a0_1), (a0_2), (a0_3), (by first | rfl | (simp; done) | (simp [*]; done)), H', ⟨Nat.le_refl _⟩, ⟨by (with_reducible repeat (first | refine blk_drewN ?_ _ | refine blk_drew ?_ | refine blk_alloc ?_ _)); exact BK112.out⟩, ⟨by (with_reducible repeat (first | refine blk_drewN ?_ _ | refine blk_drew ?_ | refine blk_alloc ?_ _)); exact BK113.out⟩, ⟨by (with_reducible repeat (first | refine blk_drewN ?_ _ | refine blk_drew ?_ | refine blk_alloc ?_ _)); exact BK114.out⟩, ⟨by repeat (with_reducible first | exact HB.out | apply below_alloc | apply pw_below_drewN | apply below_drew1 | refine below_set ?_ GE112.out | refine below_set ?_ GE113.out | refine below_set ?_ GE114.out)⟩⟩
 case round =>
  clear H'
  try clear c1
  try clear p2
  try clear c3
  obtain ⟨x10_1, x113000_1, x113001_1, x113002_1, x113003_1, rfl, HA, HK1, BK112, BK113, BK114, HB⟩ := hrel
  cases gk with
  | zero => exact absurd HA.out (by simp [roadsteadref16_Walk.l0])
  | succ k1 =>
   have H := HA.out
   clear HA
   simp only [roadsteadref16_Walk.l0] at H
   have HC8 := Aside0.mk H
   clear H
   go_upto_region 2 with (fail)
   go_cut [38] (fun v38 wc => ∃ (kq : Nat) (x38_7 : Bool), v38 = .bool x38_7 ∧ Aside0 (roadsteadref16_Walk.j1 kq a2 a3 x10_1 x38_7 x113000_1 x113001_1 x113002_1 x113003_1 a1_0 a1_1 a1_2 l1_3 = some (r1, r2, r3, r4, r5)) ∧ Aside0 (kq ≤ k1) ∧ Aside0 (wc.heap[gb112]? = some (.cells #[.int .i64 x113000_1, .int .i64 x113001_1, .int .i64 x113002_1, .bool x113003_1] 23 (0, 0))) ∧ Aside0 (wc.heap[gb113]? = some (.cells #[.int .i64 a1_0, .int .i64 a1_1, .int .i64 a1_2, (.slice A1_3 l1_3.length c1_3)] 34 (0, 0))) ∧ Aside0 (wc.heap[gb114]? = some (.cells #[.int .i64 0, .int .i64 0, .int .i64 0, .bool false] 23 (0, 0))) ∧ Aside0 (Below w.heap.size w wc))
   case first =>
    have H := HC8.out
    clear HC8
    by_cases c9 : x10_1 < a3
    ·rw [if_pos c9] at H
     have c9b0 : decide (x10_1 < a3) = true := decide_eq_true c9
     clear c9
     (first | rw [c9b0] | (simp only [i64_w, i32_w]; rw [c9b0]) | skip)
     by_cases c10 : a2 ≥ 1
     ·rw [if_pos c10] at H
      have c10b0 : decide (1 ≤ a2) = true := decide_eq_true c10
      clear c10
      by_cases c11 : a2 ≤ 3
      ·rw [if_pos c11] at H
       have c11b0 : decide (a2 ≤ 3) = true := decide_eq_true c11
       clear c11
       by_cases c12 : x113000_1 = x113001_1
       ·rw [if_pos c12] at H
        have c12b0 : (x113000_1 == x113001_1) = true := beq_iff_eq.mpr c12
        have c12b1 : (x113000_1 != x113001_1) = false := bne_eq_false_iff_eq.mpr c12
        clear c12
        have H' := Aside0.mk H
        clear H
        have hnb13 := NB112_113.out
        have hnc13 := NB113_112.out
        have hnb14 := NB112_114.out
        have hnc14 := NB114_112.out
        have hcz15_0 : wr.cell? ⟨gb112, 0, none⟩ = some (.int .i64 x113000_1) := (blk_cell BK112.out 0).trans rfl
        have hcz15_1 : wr.cell? ⟨gb112, 1, none⟩ = some (.int .i64 x113001_1) := (blk_cell BK112.out 1).trans rfl
        have hcz15_2 : wr.cell? ⟨gb112, 2, none⟩ = some (.int .i64 x113002_1) := (blk_cell BK112.out 2).trans rfl
        have hcz15_3 : wr.cell? ⟨gb112, 3, none⟩ = some (.bool x113003_1) := (blk_cell BK112.out 3).trans rfl
        have hfz15_0 := blk_frozen BK112.out 0
        have hfz15_1 := blk_frozen BK112.out 1
        have hfz15_2 := blk_frozen BK112.out 2
        have hfz15_3 := blk_frozen BK112.out 3
        go_wp2
        go_meet
        case rel => exact ⟨_, ((x113000_1 != a2)), (by first | rfl | (simp; done) | (simp [*]; done)), H', ⟨by have := HK1.out; first | omega | exact Nat.le_refl _⟩, ⟨by (with_reducible repeat (first | refine blk_drewN ?_ _ | refine blk_drew ?_ | refine blk_alloc ?_ _)); exact BK112.out⟩, ⟨by (with_reducible repeat (first | refine blk_drewN ?_ _ | refine blk_drew ?_ | refine blk_alloc ?_ _)); exact BK113.out⟩, ⟨by (with_reducible repeat (first | refine blk_drewN ?_ _ | refine blk_drew ?_ | refine blk_alloc ?_ _)); exact BK114.out⟩, ⟨by repeat (with_reducible first | exact HB.out | apply below_alloc | apply pw_below_drewN | apply below_drew1 | refine below_set ?_ GE112.out | refine below_set ?_ GE113.out | refine below_set ?_ GE114.out)⟩⟩
       ·rw [if_neg c12] at H
        have c12b0 : (x113000_1 == x113001_1) = false := beq_eq_false_iff_ne.mpr c12
        have c12b1 : (x113000_1 != x113001_1) = true := bne_iff_ne.mpr c12
        have H' := Aside0.mk H
        clear H
        have hnb16 := NB112_113.out
        have hnc16 := NB113_112.out
        have hnb17 := NB112_114.out
        have hnc17 := NB114_112.out
        have hcz18_0 : wr.cell? ⟨gb112, 0, none⟩ = some (.int .i64 x113000_1) := (blk_cell BK112.out 0).trans rfl
        have hcz18_1 : wr.cell? ⟨gb112, 1, none⟩ = some (.int .i64 x113001_1) := (blk_cell BK112.out 1).trans rfl
        have hcz18_2 : wr.cell? ⟨gb112, 2, none⟩ = some (.int .i64 x113002_1) := (blk_cell BK112.out 2).trans rfl
        have hcz18_3 : wr.cell? ⟨gb112, 3, none⟩ = some (.bool x113003_1) := (blk_cell BK112.out 3).trans rfl
        have hfz18_0 := blk_frozen BK112.out 0
        have hfz18_1 := blk_frozen BK112.out 1
        have hfz18_2 := blk_frozen BK112.out 2
        have hfz18_3 := blk_frozen BK112.out 3
        go_wp2
        go_meet
        case rel => exact ⟨_, (true), (by first | rfl | (simp; done) | (simp [*]; done)), H', ⟨by have := HK1.out; first | omega | exact Nat.le_refl _⟩, ⟨by (with_reducible repeat (first | refine blk_drewN ?_ _ | refine blk_drew ?_ | refine blk_alloc ?_ _)); exact BK112.out⟩, ⟨by (with_reducible repeat (first | refine blk_drewN ?_ _ | refine blk_drew ?_ | refine blk_alloc ?_ _)); exact BK113.out⟩, ⟨by (with_reducible repeat (first | refine blk_drewN ?_ _ | refine blk_drew ?_ | refine blk_alloc ?_ _)); exact BK114.out⟩, ⟨by repeat (with_reducible first | exact HB.out | apply below_alloc | apply pw_below_drewN | apply below_drew1 | refine below_set ?_ GE112.out | refine below_set ?_ GE113.out | refine below_set ?_ GE114.out)⟩⟩
      ·rw [if_neg c11] at H
       have c11b0 : decide (a2 ≤ 3) = false := decide_eq_false c11
       clear c11
       have H' := Aside0.mk H
       clear H
       go_wp2
       go_meet
       case rel => exact ⟨_, (false), (by first | rfl | (simp; done) | (simp [*]; done)), H', ⟨by have := HK1.out; first | omega | exact Nat.le_refl _⟩, ⟨by (with_reducible repeat (first | refine blk_drewN ?_ _ | refine blk_drew ?_ | refine blk_alloc ?_ _)); exact BK112.out⟩, ⟨by (with_reducible repeat (first | refine blk_drewN ?_ _ | refine blk_drew ?_ | refine blk_alloc ?_ _)); exact BK113.out⟩, ⟨by (with_reducible repeat (first | refine blk_drewN ?_ _ | refine blk_drew ?_ | refine blk_alloc ?_ _)); exact BK114.out⟩, ⟨by repeat (with_reducible first | exact HB.out | apply below_alloc | apply pw_below_drewN | apply below_drew1 | refine below_set ?_ GE112.out | refine below_set ?_ GE113.out | refine below_set ?_ GE114.out)⟩⟩
     ·rw [if_neg c10] at H
      have c10b0 : decide (1 ≤ a2) = false := decide_eq_false c10
      clear c10
      have H' := Aside0.mk H
      clear H
      go_wp2
      go_meet
      case rel => exact ⟨_, (false), (by first | rfl | (simp; done) | (simp [*]; done)), H', ⟨by have := HK1.out; first | omega | exact Nat.le_refl _⟩, ⟨by (with_reducible repeat (first | refine blk_drewN ?_ _ | refine blk_drew ?_ | refine blk_alloc ?_ _)); exact BK112.out⟩, ⟨by (with_reducible repeat (first | refine blk_drewN ?_ _ | refine blk_drew ?_ | refine blk_alloc ?_ _)); exact BK113.out⟩, ⟨by (with_reducible repeat (first | refine blk_drewN ?_ _ | refine blk_drew ?_ | refine blk_alloc ?_ _)); exact BK114.out⟩, ⟨by repeat (with_reducible first | exact HB.out | apply below_alloc | apply pw_below_drewN | apply below_drew1 | refine below_set ?_ GE112.out | refine below_set ?_ GE113.out | refine below_set ?_ GE114.out)⟩⟩
    ·rw [if_neg c9] at H
     have c9b0 : decide (x10_1 < a3) = false := decide_eq_false c9
     clear c9
     (first | rw [c9b0] | (simp only [i64_w, i32_w]; rw [c9b0]) | skip)
     have H' := Aside0.mk H
     clear H
     go_wp2
     go_meet
     case rel => exact ⟨_, (false), (by first | rfl | (simp; done) | (simp [*]; done)), H', ⟨by have := HK1.out; first | omega | exact Nat.le_refl _⟩, ⟨by (with_reducible repeat (first | refine blk_drewN ?_ _ | refine blk_drew ?_ | refine blk_alloc ?_ _)); exact BK112.out⟩, ⟨by (with_reducible repeat (first | refine blk_drewN ?_ _ | refine blk_drew ?_ | refine blk_alloc ?_ _)); exact BK113.out⟩, ⟨by (with_reducible repeat (first | refine blk_drewN ?_ _ | refine blk_drew ?_ | refine blk_alloc ?_ _)); exact BK114.out⟩, ⟨by repeat (with_reducible first | exact HB.out | apply below_alloc | apply pw_below_drewN | apply below_drew1 | refine below_set ?_ GE112.out | refine below_set ?_ GE113.out | refine below_set ?_ GE114.out)⟩⟩
   case rest =>
    clear HC8
    try clear c1
    try clear p2
    try clear c3
    try clear c9
    try clear c9b0
    try clear c10
    try clear c10b0
    try clear c11
    try clear c11b0
    try clear c12
    try clear c12b0
    try clear c12b1
    try clear c13
    try clear c14
    try clear c16
    try clear c17
    try clear hcz15_0
    try clear hcz15_1
    try clear hcz15_2
    try clear hcz15_3
    try clear hcz18_0
    try clear hcz18_1
    try clear hcz18_2
    try clear hcz18_3
    try clear hfz15_0
    try clear hfz15_1
    try clear hfz15_2
    try clear hfz15_3
    try clear hfz18_0
    try clear hfz18_1
    try clear hfz18_2
    try clear hfz18_3
    try clear p2
    obtain ⟨kq, x38_7, rfl, HA, HJ7, BK112, BK113, BK114, HB⟩ := hcut
    cases kq with
    | zero => exact absurd HA.out (by simp [roadsteadref16_Walk.j1])
    | succ kj7 =>
     have H := HA.out
     clear HA
     simp only [roadsteadref16_Walk.j1] at H
     by_cases c19 : x38_7 = true
     ·subst c19
      have H1 : (if x113000_1 = x113001_1 then ((roadsteadref16_Begin.f kj7 x113000_1 x113001_1 x113002_1 x113003_1 a2).bind fun bt115 => ((roadsteadref16_Step.f kj7 bt115.1 bt115.2.1 bt115.2.2.1 bt115.2.2.2.1 a1_0 a1_1 a1_2 l1_3).bind fun bt121 => (roadsteadref16_Walk.l0 kj7 a2 a3 (wrap64 (x10_1 + 1)) bt121.1 bt121.2.1 bt121.2.2.1 bt121.2.2.2.1 a1_0 a1_1 a1_2 l1_3))) else ((roadsteadref16_Step.f kj7 x113000_1 x113001_1 x113002_1 x113003_1 a1_0 a1_1 a1_2 l1_3).bind fun bt127 => (roadsteadref16_Walk.l0 kj7 a2 a3 (wrap64 (x10_1 + 1)) bt127.1 bt127.2.1 bt127.2.2.1 bt127.2.2.2.1 a1_0 a1_1 a1_2 l1_3))) = some (r1, r2, r3, r4, r5) := by rw [if_pos rfl] at H; exact H
      clear H
      have H := H1
      clear H1
      by_cases c20 : x113000_1 = x113001_1
      ·rw [if_pos c20] at H
       have c20b0 : (x113000_1 == x113001_1) = true := beq_iff_eq.mpr c20
       have c20b1 : (x113000_1 != x113001_1) = false := bne_eq_false_iff_eq.mpr c20
       clear c20
       replace H := Option.bind_eq_some_iff.mp H
       obtain ⟨⟨t115, t116, t117, t118, t119⟩, A210, H⟩ := H
       replace H : ((roadsteadref16_Step.f kj7 t115 t116 t117 t118 a1_0 a1_1 a1_2 l1_3).bind fun bt121 => (roadsteadref16_Walk.l0 kj7 a2 a3 (wrap64 (x10_1 + 1)) bt121.1 bt121.2.1 bt121.2.2.1 bt121.2.2.2.1 a1_0 a1_1 a1_2 l1_3)) = some (r1, r2, r3, r4, r5) := H
       have A21 := Aside0.mk A210
       clear A210
       replace H := Option.bind_eq_some_iff.mp H
       obtain ⟨⟨t121, t122, t123, t124, t125⟩, A220, H⟩ := H
       replace H : (roadsteadref16_Walk.l0 kj7 a2 a3 (wrap64 (x10_1 + 1)) t121 t122 t123 t124 a1_0 a1_1 a1_2 l1_3) = some (r1, r2, r3, r4, r5) := H
       have A22 := Aside0.mk A220
       clear A220
       have H' := Aside0.mk H
       clear H
       have hnb23 := NB112_113.out
       have hnc23 := NB113_112.out
       have hnb24 := NB112_114.out
       have hnc24 := NB114_112.out
       have hcz25_0 : wc.cell? ⟨gb112, 0, none⟩ = some (.int .i64 x113000_1) := (blk_cell BK112.out 0).trans rfl
       have hcz25_1 : wc.cell? ⟨gb112, 1, none⟩ = some (.int .i64 x113001_1) := (blk_cell BK112.out 1).trans rfl
       have hcz25_2 : wc.cell? ⟨gb112, 2, none⟩ = some (.int .i64 x113002_1) := (blk_cell BK112.out 2).trans rfl
       have hcz25_3 : wc.cell? ⟨gb112, 3, none⟩ = some (.bool x113003_1) := (blk_cell BK112.out 3).trans rfl
       have hfz25_0 := blk_frozen BK112.out 0
       have hfz25_1 := blk_frozen BK112.out 1
       have hfz25_2 := blk_frozen BK112.out 2
       have hfz25_3 := blk_frozen BK112.out 3
       go_wp2_with (first | ((with_reducible refine gate_callee (f := 28) rfl ?_); refine goesL_ (some 47) rfl rfl Try.func28 (by kernel_rfl) rfl #[.agg #[.int .i64 x113000_1, .int .i64 x113001_1, .int .i64 x113002_1, .bool x113003_1], .int .i64 a2] rfl (by (try simp only [List.map_toArray, List.map_cons, List.map_nil]); first | done | rfl) ?_; (with_reducible refine (roadsteadref16_Begin.calls kj7 x113000_1 x113001_1 x113002_1 x113003_1 a2 t115 t116 t117 t118 t119 _ A21.out).mono ?_); rintro e w26 ⟨rfl, hb⟩; refine ⟨_, rfl, ?_⟩; have n0_ := Aside0.mk (blk_below (g := gb112) (o := .cells #[.int .i64 x113000_1, .int .i64 x113001_1, .int .i64 x113002_1, .bool x113003_1] 23 (0, 0)) (by (with_reducible repeat (first | refine blk_drewN ?_ _ | refine blk_drew ?_ | refine blk_alloc ?_ _)); exact BK112.out) hb); have n1_ := Aside0.mk (blk_below (g := gb113) (o := .cells #[.int .i64 a1_0, .int .i64 a1_1, .int .i64 a1_2, .slice A1_3 l1_3.length c1_3] 34 (0, 0)) (by (with_reducible repeat (first | refine blk_drewN ?_ _ | refine blk_drew ?_ | refine blk_alloc ?_ _)); exact BK113.out) hb); have n2_ := Aside0.mk (blk_below (g := gb114) (o := .cells #[.int .i64 0, .int .i64 0, .int .i64 0, .bool false] 23 (0, 0)) (by (with_reducible repeat (first | refine blk_drewN ?_ _ | refine blk_drew ?_ | refine blk_alloc ?_ _)); exact BK114.out) hb); have n3_ := Aside0.mk (below_step (by repeat (with_reducible first | exact HB.out | apply below_alloc | apply pw_below_drewN | apply below_drew1 | refine below_set ?_ GE112.out | refine below_set ?_ GE113.out | refine below_set ?_ GE114.out)) hb); clear BK112; clear BK113; clear BK114; clear HB; have BK112 := n0_; have BK113 := n1_; have BK114 := n2_; have HB := n3_; clear n0_ n1_ n2_ n3_; (try clear hb)) | ((with_reducible refine gate_dst (N := 11) rfl ?_); refine box_event ?hg (N := 11) ?hd (cs := #[.int .i64 0, .int .i64 0, .int .i64 0, .bool false]) (t := 23) ?hr ?_; (case hd => rfl); (case hg => rfl); (case hr => first | (go_simp; done) | (go_simp; rfl)); intro gb120 hg w27 hbox hb; have n0_ := Aside0.mk (blk_below (g := gb112) (o := .cells #[.int .i64 x113000_1, .int .i64 x113001_1, .int .i64 x113002_1, .bool x113003_1] 23 (0, 0)) (by (with_reducible repeat (first | refine blk_drewN ?_ _ | refine blk_drew ?_ | refine blk_alloc ?_ _)); exact BK112.out) hb); have n1_ := Aside0.mk (blk_below (g := gb113) (o := .cells #[.int .i64 a1_0, .int .i64 a1_1, .int .i64 a1_2, .slice A1_3 l1_3.length c1_3] 34 (0, 0)) (by (with_reducible repeat (first | refine blk_drewN ?_ _ | refine blk_drew ?_ | refine blk_alloc ?_ _)); exact BK113.out) hb); have n2_ := Aside0.mk (blk_below (g := gb114) (o := .cells #[.int .i64 0, .int .i64 0, .int .i64 0, .bool false] 23 (0, 0)) (by (with_reducible repeat (first | refine blk_drewN ?_ _ | refine blk_drew ?_ | refine blk_alloc ?_ _)); exact BK114.out) hb); have n3_ := Aside0.mk (below_step (by repeat (with_reducible first | exact HB.out | apply below_alloc | apply pw_below_drewN | apply below_drew1 | refine below_set ?_ GE112.out | refine below_set ?_ GE113.out | refine below_set ?_ GE114.out)) hb); have n4_ := Aside0.mk (hbox); have n5_ := Aside0.mk ((by rw [hg]; exact (below_size (by repeat (with_reducible first | exact HB.out | apply below_alloc | apply pw_below_drewN | apply below_drew1 | refine below_set ?_ GE112.out | refine below_set ?_ GE113.out | refine below_set ?_ GE114.out))) : w.heap.size ≤ gb120)); have n6_ := Aside0.mk ((by rw [hg]; exact (below_size (by repeat (with_reducible first | exact HB.out | apply below_alloc | apply pw_below_drewN | apply below_drew1 | refine below_set ?_ GE112.out | refine below_set ?_ GE113.out | refine below_set ?_ GE114.out))) : w.heap.size ≤ gb120)); have n7_ := Aside0.mk ((by rw [hg]; exact Nat.ne_of_lt (blk_lt (g := gb112) (o := .cells #[.int .i64 x113000_1, .int .i64 x113001_1, .int .i64 x113002_1, .bool x113003_1] 23 (0, 0)) (by (with_reducible repeat (first | refine blk_drewN ?_ _ | refine blk_drew ?_ | refine blk_alloc ?_ _)); exact BK112.out)) : gb112 ≠ gb120)); have n8_ := Aside0.mk ((by rw [hg]; exact Nat.ne_of_gt (blk_lt (g := gb112) (o := .cells #[.int .i64 x113000_1, .int .i64 x113001_1, .int .i64 x113002_1, .bool x113003_1] 23 (0, 0)) (by (with_reducible repeat (first | refine blk_drewN ?_ _ | refine blk_drew ?_ | refine blk_alloc ?_ _)); exact BK112.out)) : gb120 ≠ gb112)); have n9_ := Aside0.mk ((by rw [hg]; exact Nat.ne_of_lt (blk_lt (g := gb113) (o := .cells #[.int .i64 a1_0, .int .i64 a1_1, .int .i64 a1_2, .slice A1_3 l1_3.length c1_3] 34 (0, 0)) (by (with_reducible repeat (first | refine blk_drewN ?_ _ | refine blk_drew ?_ | refine blk_alloc ?_ _)); exact BK113.out)) : gb113 ≠ gb120)); have n10_ := Aside0.mk ((by rw [hg]; exact Nat.ne_of_gt (blk_lt (g := gb113) (o := .cells #[.int .i64 a1_0, .int .i64 a1_1, .int .i64 a1_2, .slice A1_3 l1_3.length c1_3] 34 (0, 0)) (by (with_reducible repeat (first | refine blk_drewN ?_ _ | refine blk_drew ?_ | refine blk_alloc ?_ _)); exact BK113.out)) : gb120 ≠ gb113)); have n11_ := Aside0.mk ((by rw [hg]; exact Nat.ne_of_lt (blk_lt (g := gb114) (o := .cells #[.int .i64 0, .int .i64 0, .int .i64 0, .bool false] 23 (0, 0)) (by (with_reducible repeat (first | refine blk_drewN ?_ _ | refine blk_drew ?_ | refine blk_alloc ?_ _)); exact BK114.out)) : gb114 ≠ gb120)); have n12_ := Aside0.mk ((by rw [hg]; exact Nat.ne_of_gt (blk_lt (g := gb114) (o := .cells #[.int .i64 0, .int .i64 0, .int .i64 0, .bool false] 23 (0, 0)) (by (with_reducible repeat (first | refine blk_drewN ?_ _ | refine blk_drew ?_ | refine blk_alloc ?_ _)); exact BK114.out)) : gb120 ≠ gb114)); clear BK112; clear BK113; clear BK114; clear HB; have BK112 := n0_; have BK113 := n1_; have BK114 := n2_; have HB := n3_; have BK120 := n4_; have GW120 := n5_; have GE120 := n6_; have NB112_120 := n7_; have NB120_112 := n8_; have NB113_120 := n9_; have NB120_113 := n10_; have NB114_120 := n11_; have NB120_114 := n12_; clear n0_ n1_ n2_ n3_ n4_ n5_ n6_ n7_ n8_ n9_ n10_ n11_ n12_; clear hb hbox hg; have hnb28 := NB120_112.out; have hnc28 := NB112_120.out; have hnb29 := NB120_113.out; have hnc29 := NB113_120.out; have hnb30 := NB120_114.out; have hnc30 := NB114_120.out; have hcz31_0 : w27.cell? ⟨gb120, 0, none⟩ = some (.int .i64 0) := (blk_cell BK120.out 0).trans rfl; have hcz31_1 : w27.cell? ⟨gb120, 1, none⟩ = some (.int .i64 0) := (blk_cell BK120.out 1).trans rfl; have hcz31_2 : w27.cell? ⟨gb120, 2, none⟩ = some (.int .i64 0) := (blk_cell BK120.out 2).trans rfl; have hcz31_3 : w27.cell? ⟨gb120, 3, none⟩ = some (.bool false) := (blk_cell BK120.out 3).trans rfl; have hfz31_0 := blk_frozen BK120.out 0; have hfz31_1 := blk_frozen BK120.out 1; have hfz31_2 := blk_frozen BK120.out 2; have hfz31_3 := blk_frozen BK120.out 3; have hcz32_0 : w27.cell? ⟨gb112, 0, none⟩ = some (.int .i64 x113000_1) := (blk_cell BK112.out 0).trans rfl; have hcz32_1 : w27.cell? ⟨gb112, 1, none⟩ = some (.int .i64 x113001_1) := (blk_cell BK112.out 1).trans rfl; have hcz32_2 : w27.cell? ⟨gb112, 2, none⟩ = some (.int .i64 x113002_1) := (blk_cell BK112.out 2).trans rfl; have hcz32_3 : w27.cell? ⟨gb112, 3, none⟩ = some (.bool x113003_1) := (blk_cell BK112.out 3).trans rfl; have hfz32_0 := blk_frozen BK112.out 0; have hfz32_1 := blk_frozen BK112.out 1; have hfz32_2 := blk_frozen BK112.out 2; have hfz32_3 := blk_frozen BK112.out 3; have hnb33 := NB113_114.out; have hnc33 := NB114_113.out; have hcz34_0 : w27.cell? ⟨gb113, 0, none⟩ = some (.int .i64 a1_0) := (blk_cell BK113.out 0).trans rfl; have hcz34_1 : w27.cell? ⟨gb113, 1, none⟩ = some (.int .i64 a1_1) := (blk_cell BK113.out 1).trans rfl; have hcz34_2 : w27.cell? ⟨gb113, 2, none⟩ = some (.int .i64 a1_2) := (blk_cell BK113.out 2).trans rfl; have hcz34_3 : w27.cell? ⟨gb113, 3, none⟩ = some (.slice A1_3 l1_3.length c1_3) := (blk_cell BK113.out 3).trans rfl; have hfz34_0 := blk_frozen BK113.out 0; have hfz34_1 := blk_frozen BK113.out 1; have hfz34_2 := blk_frozen BK113.out 2; have hfz34_3 := blk_frozen BK113.out 3) | ((with_reducible refine gate_callee (f := 30) rfl ?_); refine goesL_ (some 54) rfl rfl Try.func30 (by kernel_rfl) rfl #[.agg #[.int .i64 t115, .int .i64 t116, .int .i64 t117, .bool t118], .agg #[.int .i64 a1_0, .int .i64 a1_1, .int .i64 a1_2, .slice A1_3 l1_3.length c1_3]] rfl (by (try simp only [List.map_toArray, List.map_cons, List.map_nil]); first | done | rfl) ?_; (with_reducible refine (roadsteadref16_Step.calls kj7 t115 t116 t117 t118 a1_0 a1_1 a1_2 _ _ l1_3 t121 t122 t123 t124 t125 _ ?side1 ?side2 A22.out).mono ?_); (case side1 => exact Kd.C_below HR1_3.out (by repeat (with_reducible first | exact HB.out | apply below_alloc | apply pw_below_drewN | apply below_drew1 | refine below_set ?_ GE112.out | refine below_set ?_ GE113.out | refine below_set ?_ GE114.out | refine below_set ?_ GE120.out))); (case side2 => exact HC1_3.out); rintro e w35 ⟨rfl, hb⟩; refine ⟨_, rfl, ?_⟩; have n0_ := Aside0.mk (blk_below (g := gb112) (o := .cells #[.int .i64 t115, .int .i64 t116, .int .i64 t117, .bool t118] 23 (0, 0)) (by (with_reducible repeat (first | refine blk_drewN ?_ _ | refine blk_drew ?_ | refine blk_alloc ?_ _)); refine blk_put (cs := #[.int .i64 t115, .int .i64 t116, .int .i64 t117, .bool x113003_1]) ?_ 3 _ rfl; refine blk_put (cs := #[.int .i64 t115, .int .i64 t116, .int .i64 x113002_1, .bool x113003_1]) ?_ 2 _ rfl; refine blk_put (cs := #[.int .i64 t115, .int .i64 x113001_1, .int .i64 x113002_1, .bool x113003_1]) ?_ 1 _ rfl; refine blk_put (cs := #[.int .i64 x113000_1, .int .i64 x113001_1, .int .i64 x113002_1, .bool x113003_1]) ?_ 0 _ rfl; refine blk_far ?_ NB112_120.out _; refine blk_far ?_ NB112_120.out _; refine blk_far ?_ NB112_120.out _; refine blk_far ?_ NB112_120.out _; exact BK112.out) hb); have n1_ := Aside0.mk (blk_below (g := gb113) (o := .cells #[.int .i64 a1_0, .int .i64 a1_1, .int .i64 a1_2, .slice A1_3 l1_3.length c1_3] 34 (0, 0)) (by (with_reducible repeat (first | refine blk_drewN ?_ _ | refine blk_drew ?_ | refine blk_alloc ?_ _)); refine blk_far ?_ NB113_112.out _; refine blk_far ?_ NB113_112.out _; refine blk_far ?_ NB113_112.out _; refine blk_far ?_ NB113_112.out _; refine blk_far ?_ NB113_120.out _; refine blk_far ?_ NB113_120.out _; refine blk_far ?_ NB113_120.out _; refine blk_far ?_ NB113_120.out _; exact BK113.out) hb); have n2_ := Aside0.mk (blk_below (g := gb114) (o := .cells #[.int .i64 0, .int .i64 0, .int .i64 0, .bool false] 23 (0, 0)) (by (with_reducible repeat (first | refine blk_drewN ?_ _ | refine blk_drew ?_ | refine blk_alloc ?_ _)); refine blk_far ?_ NB114_112.out _; refine blk_far ?_ NB114_112.out _; refine blk_far ?_ NB114_112.out _; refine blk_far ?_ NB114_112.out _; refine blk_far ?_ NB114_120.out _; refine blk_far ?_ NB114_120.out _; refine blk_far ?_ NB114_120.out _; refine blk_far ?_ NB114_120.out _; exact BK114.out) hb); have n3_ := Aside0.mk (blk_below (g := gb120) (o := .cells #[.int .i64 t115, .int .i64 t116, .int .i64 t117, .bool t118] 23 (0, 0)) (by (with_reducible repeat (first | refine blk_drewN ?_ _ | refine blk_drew ?_ | refine blk_alloc ?_ _)); refine blk_far ?_ NB120_112.out _; refine blk_far ?_ NB120_112.out _; refine blk_far ?_ NB120_112.out _; refine blk_far ?_ NB120_112.out _; refine blk_put (cs := #[.int .i64 t115, .int .i64 t116, .int .i64 t117, .bool false]) ?_ 3 _ rfl; refine blk_put (cs := #[.int .i64 t115, .int .i64 t116, .int .i64 0, .bool false]) ?_ 2 _ rfl; refine blk_put (cs := #[.int .i64 t115, .int .i64 0, .int .i64 0, .bool false]) ?_ 1 _ rfl; refine blk_put (cs := #[.int .i64 0, .int .i64 0, .int .i64 0, .bool false]) ?_ 0 _ rfl; exact BK120.out) hb); have n4_ := Aside0.mk (below_step (by repeat (with_reducible first | exact HB.out | apply below_alloc | apply pw_below_drewN | apply below_drew1 | refine below_set ?_ GE112.out | refine below_set ?_ GE113.out | refine below_set ?_ GE114.out | refine below_set ?_ GE120.out)) hb); clear BK112; clear BK113; clear BK114; clear BK120; clear HB; have BK112 := n0_; have BK113 := n1_; have BK114 := n2_; have BK120 := n3_; have HB := n4_; clear n0_ n1_ n2_ n3_ n4_; (try clear hb)) | ((with_reducible refine gate_dst (N := 13) rfl ?_); refine box_event ?hg (N := 13) ?hd (cs := #[.int .i64 0, .int .i64 0, .int .i64 0, .bool false]) (t := 23) ?hr ?_; (case hd => rfl); (case hg => rfl); (case hr => first | (go_simp; done) | (go_simp; rfl)); intro gb126 hg w36 hbox hb; have n0_ := Aside0.mk (blk_below (g := gb112) (o := .cells #[.int .i64 t115, .int .i64 t116, .int .i64 t117, .bool t118] 23 (0, 0)) (by (with_reducible repeat (first | refine blk_drewN ?_ _ | refine blk_drew ?_ | refine blk_alloc ?_ _)); exact BK112.out) hb); have n1_ := Aside0.mk (blk_below (g := gb113) (o := .cells #[.int .i64 a1_0, .int .i64 a1_1, .int .i64 a1_2, .slice A1_3 l1_3.length c1_3] 34 (0, 0)) (by (with_reducible repeat (first | refine blk_drewN ?_ _ | refine blk_drew ?_ | refine blk_alloc ?_ _)); exact BK113.out) hb); have n2_ := Aside0.mk (blk_below (g := gb114) (o := .cells #[.int .i64 0, .int .i64 0, .int .i64 0, .bool false] 23 (0, 0)) (by (with_reducible repeat (first | refine blk_drewN ?_ _ | refine blk_drew ?_ | refine blk_alloc ?_ _)); exact BK114.out) hb); have n3_ := Aside0.mk (blk_below (g := gb120) (o := .cells #[.int .i64 t115, .int .i64 t116, .int .i64 t117, .bool t118] 23 (0, 0)) (by (with_reducible repeat (first | refine blk_drewN ?_ _ | refine blk_drew ?_ | refine blk_alloc ?_ _)); exact BK120.out) hb); have n4_ := Aside0.mk (below_step (by repeat (with_reducible first | exact HB.out | apply below_alloc | apply pw_below_drewN | apply below_drew1 | refine below_set ?_ GE112.out | refine below_set ?_ GE113.out | refine below_set ?_ GE114.out | refine below_set ?_ GE120.out)) hb); have n5_ := Aside0.mk (hbox); have n6_ := Aside0.mk ((by rw [hg]; exact (below_size (by repeat (with_reducible first | exact HB.out | apply below_alloc | apply pw_below_drewN | apply below_drew1 | refine below_set ?_ GE112.out | refine below_set ?_ GE113.out | refine below_set ?_ GE114.out | refine below_set ?_ GE120.out))) : w.heap.size ≤ gb126)); have n7_ := Aside0.mk ((by rw [hg]; exact (below_size (by repeat (with_reducible first | exact HB.out | apply below_alloc | apply pw_below_drewN | apply below_drew1 | refine below_set ?_ GE112.out | refine below_set ?_ GE113.out | refine below_set ?_ GE114.out | refine below_set ?_ GE120.out))) : w.heap.size ≤ gb126)); have n8_ := Aside0.mk ((by rw [hg]; exact Nat.ne_of_lt (blk_lt (g := gb112) (o := .cells #[.int .i64 t115, .int .i64 t116, .int .i64 t117, .bool t118] 23 (0, 0)) (by (with_reducible repeat (first | refine blk_drewN ?_ _ | refine blk_drew ?_ | refine blk_alloc ?_ _)); exact BK112.out)) : gb112 ≠ gb126)); have n9_ := Aside0.mk ((by rw [hg]; exact Nat.ne_of_gt (blk_lt (g := gb112) (o := .cells #[.int .i64 t115, .int .i64 t116, .int .i64 t117, .bool t118] 23 (0, 0)) (by (with_reducible repeat (first | refine blk_drewN ?_ _ | refine blk_drew ?_ | refine blk_alloc ?_ _)); exact BK112.out)) : gb126 ≠ gb112)); have n10_ := Aside0.mk ((by rw [hg]; exact Nat.ne_of_lt (blk_lt (g := gb113) (o := .cells #[.int .i64 a1_0, .int .i64 a1_1, .int .i64 a1_2, .slice A1_3 l1_3.length c1_3] 34 (0, 0)) (by (with_reducible repeat (first | refine blk_drewN ?_ _ | refine blk_drew ?_ | refine blk_alloc ?_ _)); exact BK113.out)) : gb113 ≠ gb126)); have n11_ := Aside0.mk ((by rw [hg]; exact Nat.ne_of_gt (blk_lt (g := gb113) (o := .cells #[.int .i64 a1_0, .int .i64 a1_1, .int .i64 a1_2, .slice A1_3 l1_3.length c1_3] 34 (0, 0)) (by (with_reducible repeat (first | refine blk_drewN ?_ _ | refine blk_drew ?_ | refine blk_alloc ?_ _)); exact BK113.out)) : gb126 ≠ gb113)); have n12_ := Aside0.mk ((by rw [hg]; exact Nat.ne_of_lt (blk_lt (g := gb114) (o := .cells #[.int .i64 0, .int .i64 0, .int .i64 0, .bool false] 23 (0, 0)) (by (with_reducible repeat (first | refine blk_drewN ?_ _ | refine blk_drew ?_ | refine blk_alloc ?_ _)); exact BK114.out)) : gb114 ≠ gb126)); have n13_ := Aside0.mk ((by rw [hg]; exact Nat.ne_of_gt (blk_lt (g := gb114) (o := .cells #[.int .i64 0, .int .i64 0, .int .i64 0, .bool false] 23 (0, 0)) (by (with_reducible repeat (first | refine blk_drewN ?_ _ | refine blk_drew ?_ | refine blk_alloc ?_ _)); exact BK114.out)) : gb126 ≠ gb114)); have n14_ := Aside0.mk ((by rw [hg]; exact Nat.ne_of_lt (blk_lt (g := gb120) (o := .cells #[.int .i64 t115, .int .i64 t116, .int .i64 t117, .bool t118] 23 (0, 0)) (by (with_reducible repeat (first | refine blk_drewN ?_ _ | refine blk_drew ?_ | refine blk_alloc ?_ _)); exact BK120.out)) : gb120 ≠ gb126)); have n15_ := Aside0.mk ((by rw [hg]; exact Nat.ne_of_gt (blk_lt (g := gb120) (o := .cells #[.int .i64 t115, .int .i64 t116, .int .i64 t117, .bool t118] 23 (0, 0)) (by (with_reducible repeat (first | refine blk_drewN ?_ _ | refine blk_drew ?_ | refine blk_alloc ?_ _)); exact BK120.out)) : gb126 ≠ gb120)); clear BK112; clear BK113; clear BK114; clear BK120; clear HB; have BK112 := n0_; have BK113 := n1_; have BK114 := n2_; have BK120 := n3_; have HB := n4_; have BK126 := n5_; have GW126 := n6_; have GE126 := n7_; have NB112_126 := n8_; have NB126_112 := n9_; have NB113_126 := n10_; have NB126_113 := n11_; have NB114_126 := n12_; have NB126_114 := n13_; have NB120_126 := n14_; have NB126_120 := n15_; clear n0_ n1_ n2_ n3_ n4_ n5_ n6_ n7_ n8_ n9_ n10_ n11_ n12_ n13_ n14_ n15_; clear hb hbox hg; have hnb37 := NB126_112.out; have hnc37 := NB112_126.out; have hnb38 := NB126_113.out; have hnc38 := NB113_126.out; have hnb39 := NB126_114.out; have hnc39 := NB114_126.out; have hnb40 := NB126_120.out; have hnc40 := NB120_126.out; have hcz41_0 : w36.cell? ⟨gb126, 0, none⟩ = some (.int .i64 0) := (blk_cell BK126.out 0).trans rfl; have hcz41_1 : w36.cell? ⟨gb126, 1, none⟩ = some (.int .i64 0) := (blk_cell BK126.out 1).trans rfl; have hcz41_2 : w36.cell? ⟨gb126, 2, none⟩ = some (.int .i64 0) := (blk_cell BK126.out 2).trans rfl; have hcz41_3 : w36.cell? ⟨gb126, 3, none⟩ = some (.bool false) := (blk_cell BK126.out 3).trans rfl; have hfz41_0 := blk_frozen BK126.out 0; have hfz41_1 := blk_frozen BK126.out 1; have hfz41_2 := blk_frozen BK126.out 2; have hfz41_3 := blk_frozen BK126.out 3; have hcz42_0 : w36.cell? ⟨gb112, 0, none⟩ = some (.int .i64 t115) := (blk_cell BK112.out 0).trans rfl; have hcz42_1 : w36.cell? ⟨gb112, 1, none⟩ = some (.int .i64 t116) := (blk_cell BK112.out 1).trans rfl; have hcz42_2 : w36.cell? ⟨gb112, 2, none⟩ = some (.int .i64 t117) := (blk_cell BK112.out 2).trans rfl; have hcz42_3 : w36.cell? ⟨gb112, 3, none⟩ = some (.bool t118) := (blk_cell BK112.out 3).trans rfl; have hfz42_0 := blk_frozen BK112.out 0; have hfz42_1 := blk_frozen BK112.out 1; have hfz42_2 := blk_frozen BK112.out 2; have hfz42_3 := blk_frozen BK112.out 3))
       go_roundg kj7
       case measure => have := HK1.out; have := HJ7.out; omega
       case rel => exact ⟨(wrap64 (x10_1 + 1)), (t121), (t122), (t123), (t124), (by first | rfl | (simp; done) | (simp [*]; done)), H', ⟨by have := HK1.out; have := HJ7.out; omega⟩, ⟨by (with_reducible repeat (first | refine blk_drewN ?_ _ | refine blk_drew ?_ | refine blk_alloc ?_ _)); refine blk_put (cs := #[.int .i64 t121, .int .i64 t122, .int .i64 t123, .bool t118]) ?_ 3 _ rfl; refine blk_put (cs := #[.int .i64 t121, .int .i64 t122, .int .i64 t117, .bool t118]) ?_ 2 _ rfl; refine blk_put (cs := #[.int .i64 t121, .int .i64 t116, .int .i64 t117, .bool t118]) ?_ 1 _ rfl; refine blk_put (cs := #[.int .i64 t115, .int .i64 t116, .int .i64 t117, .bool t118]) ?_ 0 _ rfl; refine blk_far ?_ NB112_126.out _; refine blk_far ?_ NB112_126.out _; refine blk_far ?_ NB112_126.out _; refine blk_far ?_ NB112_126.out _; exact BK112.out⟩, ⟨by (with_reducible repeat (first | refine blk_drewN ?_ _ | refine blk_drew ?_ | refine blk_alloc ?_ _)); refine blk_far ?_ NB113_112.out _; refine blk_far ?_ NB113_112.out _; refine blk_far ?_ NB113_112.out _; refine blk_far ?_ NB113_112.out _; refine blk_far ?_ NB113_126.out _; refine blk_far ?_ NB113_126.out _; refine blk_far ?_ NB113_126.out _; refine blk_far ?_ NB113_126.out _; exact BK113.out⟩, ⟨by (with_reducible repeat (first | refine blk_drewN ?_ _ | refine blk_drew ?_ | refine blk_alloc ?_ _)); refine blk_far ?_ NB114_112.out _; refine blk_far ?_ NB114_112.out _; refine blk_far ?_ NB114_112.out _; refine blk_far ?_ NB114_112.out _; refine blk_far ?_ NB114_126.out _; refine blk_far ?_ NB114_126.out _; refine blk_far ?_ NB114_126.out _; refine blk_far ?_ NB114_126.out _; exact BK114.out⟩, ⟨by repeat (with_reducible first | exact HB.out | apply below_alloc | apply pw_below_drewN | apply below_drew1 | refine below_set ?_ GE112.out | refine below_set ?_ GE113.out | refine below_set ?_ GE114.out | refine below_set ?_ GE120.out | refine below_set ?_ GE126.out)⟩⟩
      ·rw [if_neg c20] at H
       have c20b0 : (x113000_1 == x113001_1) = false := beq_eq_false_iff_ne.mpr c20
       have c20b1 : (x113000_1 != x113001_1) = true := bne_iff_ne.mpr c20
       replace H := Option.bind_eq_some_iff.mp H
       obtain ⟨⟨t127, t128, t129, t130, t131⟩, A430, H⟩ := H
       replace H : (roadsteadref16_Walk.l0 kj7 a2 a3 (wrap64 (x10_1 + 1)) t127 t128 t129 t130 a1_0 a1_1 a1_2 l1_3) = some (r1, r2, r3, r4, r5) := H
       have A43 := Aside0.mk A430
       clear A430
       have H' := Aside0.mk H
       clear H
       have hnb44 := NB112_113.out
       have hnc44 := NB113_112.out
       have hnb45 := NB112_114.out
       have hnc45 := NB114_112.out
       have hcz46_0 : wc.cell? ⟨gb112, 0, none⟩ = some (.int .i64 x113000_1) := (blk_cell BK112.out 0).trans rfl
       have hcz46_1 : wc.cell? ⟨gb112, 1, none⟩ = some (.int .i64 x113001_1) := (blk_cell BK112.out 1).trans rfl
       have hcz46_2 : wc.cell? ⟨gb112, 2, none⟩ = some (.int .i64 x113002_1) := (blk_cell BK112.out 2).trans rfl
       have hcz46_3 : wc.cell? ⟨gb112, 3, none⟩ = some (.bool x113003_1) := (blk_cell BK112.out 3).trans rfl
       have hfz46_0 := blk_frozen BK112.out 0
       have hfz46_1 := blk_frozen BK112.out 1
       have hfz46_2 := blk_frozen BK112.out 2
       have hfz46_3 := blk_frozen BK112.out 3
       have hnb47 := NB113_114.out
       have hnc47 := NB114_113.out
       have hcz48_0 : wc.cell? ⟨gb113, 0, none⟩ = some (.int .i64 a1_0) := (blk_cell BK113.out 0).trans rfl
       have hcz48_1 : wc.cell? ⟨gb113, 1, none⟩ = some (.int .i64 a1_1) := (blk_cell BK113.out 1).trans rfl
       have hcz48_2 : wc.cell? ⟨gb113, 2, none⟩ = some (.int .i64 a1_2) := (blk_cell BK113.out 2).trans rfl
       have hcz48_3 : wc.cell? ⟨gb113, 3, none⟩ = some (.slice A1_3 l1_3.length c1_3) := (blk_cell BK113.out 3).trans rfl
       have hfz48_0 := blk_frozen BK113.out 0
       have hfz48_1 := blk_frozen BK113.out 1
       have hfz48_2 := blk_frozen BK113.out 2
       have hfz48_3 := blk_frozen BK113.out 3
       go_wp2_with (first | ((with_reducible refine gate_callee (f := 30) rfl ?_); refine goesL_ (some 54) rfl rfl Try.func30 (by kernel_rfl) rfl #[.agg #[.int .i64 x113000_1, .int .i64 x113001_1, .int .i64 x113002_1, .bool x113003_1], .agg #[.int .i64 a1_0, .int .i64 a1_1, .int .i64 a1_2, .slice A1_3 l1_3.length c1_3]] rfl (by (try simp only [List.map_toArray, List.map_cons, List.map_nil]); first | done | rfl) ?_; (with_reducible refine (roadsteadref16_Step.calls kj7 x113000_1 x113001_1 x113002_1 x113003_1 a1_0 a1_1 a1_2 _ _ l1_3 t127 t128 t129 t130 t131 _ ?side1 ?side2 A43.out).mono ?_); (case side1 => repeat (first | exact (Kd.C_below HR1_3.out HB.out) | (with_reducible refine Kd.C_alloc ?_ _) | (with_reducible refine Kd.C_drewN ?_ _) | (with_reducible refine Kd.C_drew ?_))); (case side2 => exact HC1_3.out); rintro e w49 ⟨rfl, hb⟩; refine ⟨_, rfl, ?_⟩; have n0_ := Aside0.mk (blk_below (g := gb112) (o := .cells #[.int .i64 x113000_1, .int .i64 x113001_1, .int .i64 x113002_1, .bool x113003_1] 23 (0, 0)) (by (with_reducible repeat (first | refine blk_drewN ?_ _ | refine blk_drew ?_ | refine blk_alloc ?_ _)); exact BK112.out) hb); have n1_ := Aside0.mk (blk_below (g := gb113) (o := .cells #[.int .i64 a1_0, .int .i64 a1_1, .int .i64 a1_2, .slice A1_3 l1_3.length c1_3] 34 (0, 0)) (by (with_reducible repeat (first | refine blk_drewN ?_ _ | refine blk_drew ?_ | refine blk_alloc ?_ _)); exact BK113.out) hb); have n2_ := Aside0.mk (blk_below (g := gb114) (o := .cells #[.int .i64 0, .int .i64 0, .int .i64 0, .bool false] 23 (0, 0)) (by (with_reducible repeat (first | refine blk_drewN ?_ _ | refine blk_drew ?_ | refine blk_alloc ?_ _)); exact BK114.out) hb); have n3_ := Aside0.mk (below_step (by repeat (with_reducible first | exact HB.out | apply below_alloc | apply pw_below_drewN | apply below_drew1 | refine below_set ?_ GE112.out | refine below_set ?_ GE113.out | refine below_set ?_ GE114.out)) hb); clear BK112; clear BK113; clear BK114; clear HB; have BK112 := n0_; have BK113 := n1_; have BK114 := n2_; have HB := n3_; clear n0_ n1_ n2_ n3_; (try clear hb)) | ((with_reducible refine gate_dst (N := 13) rfl ?_); refine box_event ?hg (N := 13) ?hd (cs := #[.int .i64 0, .int .i64 0, .int .i64 0, .bool false]) (t := 23) ?hr ?_; (case hd => rfl); (case hg => rfl); (case hr => first | (go_simp; done) | (go_simp; rfl)); intro gb132 hg w50 hbox hb; have n0_ := Aside0.mk (blk_below (g := gb112) (o := .cells #[.int .i64 x113000_1, .int .i64 x113001_1, .int .i64 x113002_1, .bool x113003_1] 23 (0, 0)) (by (with_reducible repeat (first | refine blk_drewN ?_ _ | refine blk_drew ?_ | refine blk_alloc ?_ _)); exact BK112.out) hb); have n1_ := Aside0.mk (blk_below (g := gb113) (o := .cells #[.int .i64 a1_0, .int .i64 a1_1, .int .i64 a1_2, .slice A1_3 l1_3.length c1_3] 34 (0, 0)) (by (with_reducible repeat (first | refine blk_drewN ?_ _ | refine blk_drew ?_ | refine blk_alloc ?_ _)); exact BK113.out) hb); have n2_ := Aside0.mk (blk_below (g := gb114) (o := .cells #[.int .i64 0, .int .i64 0, .int .i64 0, .bool false] 23 (0, 0)) (by (with_reducible repeat (first | refine blk_drewN ?_ _ | refine blk_drew ?_ | refine blk_alloc ?_ _)); exact BK114.out) hb); have n3_ := Aside0.mk (below_step (by repeat (with_reducible first | exact HB.out | apply below_alloc | apply pw_below_drewN | apply below_drew1 | refine below_set ?_ GE112.out | refine below_set ?_ GE113.out | refine below_set ?_ GE114.out)) hb); have n4_ := Aside0.mk (hbox); have n5_ := Aside0.mk ((by rw [hg]; exact (below_size (by repeat (with_reducible first | exact HB.out | apply below_alloc | apply pw_below_drewN | apply below_drew1 | refine below_set ?_ GE112.out | refine below_set ?_ GE113.out | refine below_set ?_ GE114.out))) : w.heap.size ≤ gb132)); have n6_ := Aside0.mk ((by rw [hg]; exact (below_size (by repeat (with_reducible first | exact HB.out | apply below_alloc | apply pw_below_drewN | apply below_drew1 | refine below_set ?_ GE112.out | refine below_set ?_ GE113.out | refine below_set ?_ GE114.out))) : w.heap.size ≤ gb132)); have n7_ := Aside0.mk ((by rw [hg]; exact Nat.ne_of_lt (blk_lt (g := gb112) (o := .cells #[.int .i64 x113000_1, .int .i64 x113001_1, .int .i64 x113002_1, .bool x113003_1] 23 (0, 0)) (by (with_reducible repeat (first | refine blk_drewN ?_ _ | refine blk_drew ?_ | refine blk_alloc ?_ _)); exact BK112.out)) : gb112 ≠ gb132)); have n8_ := Aside0.mk ((by rw [hg]; exact Nat.ne_of_gt (blk_lt (g := gb112) (o := .cells #[.int .i64 x113000_1, .int .i64 x113001_1, .int .i64 x113002_1, .bool x113003_1] 23 (0, 0)) (by (with_reducible repeat (first | refine blk_drewN ?_ _ | refine blk_drew ?_ | refine blk_alloc ?_ _)); exact BK112.out)) : gb132 ≠ gb112)); have n9_ := Aside0.mk ((by rw [hg]; exact Nat.ne_of_lt (blk_lt (g := gb113) (o := .cells #[.int .i64 a1_0, .int .i64 a1_1, .int .i64 a1_2, .slice A1_3 l1_3.length c1_3] 34 (0, 0)) (by (with_reducible repeat (first | refine blk_drewN ?_ _ | refine blk_drew ?_ | refine blk_alloc ?_ _)); exact BK113.out)) : gb113 ≠ gb132)); have n10_ := Aside0.mk ((by rw [hg]; exact Nat.ne_of_gt (blk_lt (g := gb113) (o := .cells #[.int .i64 a1_0, .int .i64 a1_1, .int .i64 a1_2, .slice A1_3 l1_3.length c1_3] 34 (0, 0)) (by (with_reducible repeat (first | refine blk_drewN ?_ _ | refine blk_drew ?_ | refine blk_alloc ?_ _)); exact BK113.out)) : gb132 ≠ gb113)); have n11_ := Aside0.mk ((by rw [hg]; exact Nat.ne_of_lt (blk_lt (g := gb114) (o := .cells #[.int .i64 0, .int .i64 0, .int .i64 0, .bool false] 23 (0, 0)) (by (with_reducible repeat (first | refine blk_drewN ?_ _ | refine blk_drew ?_ | refine blk_alloc ?_ _)); exact BK114.out)) : gb114 ≠ gb132)); have n12_ := Aside0.mk ((by rw [hg]; exact Nat.ne_of_gt (blk_lt (g := gb114) (o := .cells #[.int .i64 0, .int .i64 0, .int .i64 0, .bool false] 23 (0, 0)) (by (with_reducible repeat (first | refine blk_drewN ?_ _ | refine blk_drew ?_ | refine blk_alloc ?_ _)); exact BK114.out)) : gb132 ≠ gb114)); clear BK112; clear BK113; clear BK114; clear HB; have BK112 := n0_; have BK113 := n1_; have BK114 := n2_; have HB := n3_; have BK132 := n4_; have GW132 := n5_; have GE132 := n6_; have NB112_132 := n7_; have NB132_112 := n8_; have NB113_132 := n9_; have NB132_113 := n10_; have NB114_132 := n11_; have NB132_114 := n12_; clear n0_ n1_ n2_ n3_ n4_ n5_ n6_ n7_ n8_ n9_ n10_ n11_ n12_; clear hb hbox hg; have hnb51 := NB132_112.out; have hnc51 := NB112_132.out; have hnb52 := NB132_113.out; have hnc52 := NB113_132.out; have hnb53 := NB132_114.out; have hnc53 := NB114_132.out; have hcz54_0 : w50.cell? ⟨gb132, 0, none⟩ = some (.int .i64 0) := (blk_cell BK132.out 0).trans rfl; have hcz54_1 : w50.cell? ⟨gb132, 1, none⟩ = some (.int .i64 0) := (blk_cell BK132.out 1).trans rfl; have hcz54_2 : w50.cell? ⟨gb132, 2, none⟩ = some (.int .i64 0) := (blk_cell BK132.out 2).trans rfl; have hcz54_3 : w50.cell? ⟨gb132, 3, none⟩ = some (.bool false) := (blk_cell BK132.out 3).trans rfl; have hfz54_0 := blk_frozen BK132.out 0; have hfz54_1 := blk_frozen BK132.out 1; have hfz54_2 := blk_frozen BK132.out 2; have hfz54_3 := blk_frozen BK132.out 3; have hcz55_0 : w50.cell? ⟨gb112, 0, none⟩ = some (.int .i64 x113000_1) := (blk_cell BK112.out 0).trans rfl; have hcz55_1 : w50.cell? ⟨gb112, 1, none⟩ = some (.int .i64 x113001_1) := (blk_cell BK112.out 1).trans rfl; have hcz55_2 : w50.cell? ⟨gb112, 2, none⟩ = some (.int .i64 x113002_1) := (blk_cell BK112.out 2).trans rfl; have hcz55_3 : w50.cell? ⟨gb112, 3, none⟩ = some (.bool x113003_1) := (blk_cell BK112.out 3).trans rfl; have hfz55_0 := blk_frozen BK112.out 0; have hfz55_1 := blk_frozen BK112.out 1; have hfz55_2 := blk_frozen BK112.out 2; have hfz55_3 := blk_frozen BK112.out 3))
       go_roundg kj7
       case measure => have := HK1.out; have := HJ7.out; omega
       case rel => exact ⟨(wrap64 (x10_1 + 1)), (t127), (t128), (t129), (t130), (by first | rfl | (simp; done) | (simp [*]; done)), H', ⟨by have := HK1.out; have := HJ7.out; omega⟩, ⟨by (with_reducible repeat (first | refine blk_drewN ?_ _ | refine blk_drew ?_ | refine blk_alloc ?_ _)); refine blk_put (cs := #[.int .i64 t127, .int .i64 t128, .int .i64 t129, .bool x113003_1]) ?_ 3 _ rfl; refine blk_put (cs := #[.int .i64 t127, .int .i64 t128, .int .i64 x113002_1, .bool x113003_1]) ?_ 2 _ rfl; refine blk_put (cs := #[.int .i64 t127, .int .i64 x113001_1, .int .i64 x113002_1, .bool x113003_1]) ?_ 1 _ rfl; refine blk_put (cs := #[.int .i64 x113000_1, .int .i64 x113001_1, .int .i64 x113002_1, .bool x113003_1]) ?_ 0 _ rfl; refine blk_far ?_ NB112_132.out _; refine blk_far ?_ NB112_132.out _; refine blk_far ?_ NB112_132.out _; refine blk_far ?_ NB112_132.out _; exact BK112.out⟩, ⟨by (with_reducible repeat (first | refine blk_drewN ?_ _ | refine blk_drew ?_ | refine blk_alloc ?_ _)); refine blk_far ?_ NB113_112.out _; refine blk_far ?_ NB113_112.out _; refine blk_far ?_ NB113_112.out _; refine blk_far ?_ NB113_112.out _; refine blk_far ?_ NB113_132.out _; refine blk_far ?_ NB113_132.out _; refine blk_far ?_ NB113_132.out _; refine blk_far ?_ NB113_132.out _; exact BK113.out⟩, ⟨by (with_reducible repeat (first | refine blk_drewN ?_ _ | refine blk_drew ?_ | refine blk_alloc ?_ _)); refine blk_far ?_ NB114_112.out _; refine blk_far ?_ NB114_112.out _; refine blk_far ?_ NB114_112.out _; refine blk_far ?_ NB114_112.out _; refine blk_far ?_ NB114_132.out _; refine blk_far ?_ NB114_132.out _; refine blk_far ?_ NB114_132.out _; refine blk_far ?_ NB114_132.out _; exact BK114.out⟩, ⟨by repeat (with_reducible first | exact HB.out | apply below_alloc | apply pw_below_drewN | apply below_drew1 | refine below_set ?_ GE112.out | refine below_set ?_ GE113.out | refine below_set ?_ GE114.out | refine below_set ?_ GE132.out)⟩⟩
     ·replace c19 := Bool.eq_false_iff.mpr c19
      subst c19
      have H1 : (some (x113000_1, x113001_1, x113002_1, x113003_1, x10_1)) = some (r1, r2, r3, r4, r5) := by rw [if_neg (show ¬ (false = true) by decide)] at H; exact H
      clear H
      have H := H1
      clear H1
      simp only [Option.some.injEq, Prod.mk.injEq] at H
      obtain ⟨rfl, rfl, rfl, rfl, rfl⟩ := H
      have hnb56 := NB112_113.out
      have hnc56 := NB113_112.out
      have hnb57 := NB112_114.out
      have hnc57 := NB114_112.out
      have hcz58_0 : wc.cell? ⟨gb112, 0, none⟩ = some (.int .i64 x113000_1) := (blk_cell BK112.out 0).trans rfl
      have hcz58_1 : wc.cell? ⟨gb112, 1, none⟩ = some (.int .i64 x113001_1) := (blk_cell BK112.out 1).trans rfl
      have hcz58_2 : wc.cell? ⟨gb112, 2, none⟩ = some (.int .i64 x113002_1) := (blk_cell BK112.out 2).trans rfl
      have hcz58_3 : wc.cell? ⟨gb112, 3, none⟩ = some (.bool x113003_1) := (blk_cell BK112.out 3).trans rfl
      have hfz58_0 := blk_frozen BK112.out 0
      have hfz58_1 := blk_frozen BK112.out 1
      have hfz58_2 := blk_frozen BK112.out 2
      have hfz58_3 := blk_frozen BK112.out 3
      have hnb59 := NB114_113.out
      have hnc59 := NB113_114.out
      have hcz60_0 : wc.cell? ⟨gb114, 0, none⟩ = some (.int .i64 0) := (blk_cell BK114.out 0).trans rfl
      have hcz60_1 : wc.cell? ⟨gb114, 1, none⟩ = some (.int .i64 0) := (blk_cell BK114.out 1).trans rfl
      have hcz60_2 : wc.cell? ⟨gb114, 2, none⟩ = some (.int .i64 0) := (blk_cell BK114.out 2).trans rfl
      have hcz60_3 : wc.cell? ⟨gb114, 3, none⟩ = some (.bool false) := (blk_cell BK114.out 3).trans rfl
      have hfz60_0 := blk_frozen BK114.out 0
      have hfz60_1 := blk_frozen BK114.out 1
      have hfz60_2 := blk_frozen BK114.out 2
      have hfz60_3 := blk_frozen BK114.out 3
      go_wp2
      refine bodyPost_ret (results_ct rfl _ _ gb114 23 #[.int .i64 x113000_1, .int .i64 x113001_1, .int .i64 x113002_1, .bool x113003_1] (0, 0) _ rfl (by (with_reducible repeat (first | refine blk_drewN ?_ _ | refine blk_drew ?_ | refine blk_alloc ?_ _)); refine blk_put (cs := #[.int .i64 x113000_1, .int .i64 x113001_1, .int .i64 x113002_1, .bool false]) ?_ 3 _ rfl; refine blk_put (cs := #[.int .i64 x113000_1, .int .i64 x113001_1, .int .i64 0, .bool false]) ?_ 2 _ rfl; refine blk_put (cs := #[.int .i64 x113000_1, .int .i64 0, .int .i64 0, .bool false]) ?_ 1 _ rfl; refine blk_put (cs := #[.int .i64 0, .int .i64 0, .int .i64 0, .bool false]) ?_ 0 _ rfl; exact BK114.out) Try.underlying23 rfl (by kernel_rfl)) rfl ?_
      exact ⟨by first | rfl | (simp [errW_none, errW_some] <;> rfl) | (simp [*, errW_none, errW_some] <;> rfl), by repeat (with_reducible first | exact HB.out | apply below_alloc | apply pw_below_drewN | apply below_drew1 | refine below_set ?_ GE112.out | refine below_set ?_ GE113.out | refine below_set ?_ GE114.out)⟩

end Go.Proofs.Ytajfefjmfelnbaa.VWalk
