/- Printed (wip/gprint.py). -/
import Derived.Test.YtajfefjmfelnbaaVWalkx0
namespace Go.Proofs.Ytajfefjmfelnbaa.VWalk
open Go.RowKit Go.Proofs.Ytajfefjmfelnbaa.BState Go.Proofs.YtajfefjmfelnbaaW.PrintWords Go.Proofs.YtajfefjmfelnbaaW.PrintLast Go.Proofs.YtajfefjmfelnbaaW.PrintMore
attribute [local go_sem] max2_int min2_int max_two min_two max_three min_three max_four min_four   -- for this text's walks alone
set_option linter.unusedVariables false
set_option linter.unusedSimpArgs false

/-! ### roadsteadref16_Begin: function 28 -/
def roadsteadref16_Begin.j0 : Nat → Int → Bool → Int → Int → Int → Bool → Option (Int × Int × Int × Bool × Int)
 | 0, _, _, _, _, _, _ => none
 | k + 1, x1, x11, x102000, x102001, x102002, x102003 => if x11 = true then (some (x102000, x102001, x102002, x102003, 50)) else (if x102000 = x102001 then (if x1 > x102000 then (some (x102000, wrap64 (x102000 + 1), 0, false, 0)) else (if x1 < x102000 then (some (x102000, wrap64 (x102000 - 1), 0, false, 0)) else (some (x102000, x102000, 0, false, 0)))) else (some (x102000, x102001, x102002, x102003, 51)))
def roadsteadref16_Begin.f (k : Nat) (a0_0 : Int) (a0_1 : Int) (a0_2 : Int) (a0_3 : Bool) (a1 : Int) : Option (Int × Int × Int × Bool × Int) := if a1 < 1 then (roadsteadref16_Begin.j0 k a1 true a0_0 a0_1 a0_2 a0_3) else (roadsteadref16_Begin.j0 k a1 (decide (a1 > 3)) a0_0 a0_1 a0_2 a0_3)
theorem roadsteadref16_Begin.mono_l : ∀ k, (∀ y0 y1 y2 y3 y4 y5, LeO (roadsteadref16_Begin.j0 k y0 y1 y2 y3 y4 y5) (roadsteadref16_Begin.j0 (k + 1) y0 y1 y2 y3 y4 y5))
 | 0 => fun _ _ _ _ _ _ r h => by simp [roadsteadref16_Begin.j0] at h
 | k + 1 => by
  have ih0 := roadsteadref16_Begin.mono_l k
  ·intro y0 y1 y2 y3 y4 y5
   unfold roadsteadref16_Begin.j0
   repeat' first
   | (with_reducible exact ih0 _ _ _ _ _ _)
   | (with_reducible exact LeO.refl _)
   | (with_reducible exact LeO.none _)
   | (with_reducible refine LeO.ite ?_ ?_)
   | (with_reducible refine LeO.bind ?_ (fun _ => ?_))
   | exact ih0 _ _ _ _ _ _
   | exact LeO.none _
   | refine LeO.ite ?_ ?_
   | refine LeO.bind ?_ (fun _ => ?_)
theorem roadsteadref16_Begin.mono : ∀ a0 a1 a2 a3 a4 k, LeO (roadsteadref16_Begin.f k a0 a1 a2 a3 a4) (roadsteadref16_Begin.f (k + 1) a0 a1 a2 a3 a4) := by
 intro a0 a1 a2 a3 a4 k
 have ih0 := roadsteadref16_Begin.mono_l k
 unfold roadsteadref16_Begin.f
 repeat' first
  | (with_reducible exact ih0 _ _ _ _ _ _)
  | (with_reducible exact LeO.refl _)
  | (with_reducible exact LeO.none _)
  | (with_reducible refine LeO.ite ?_ ?_)
  | (with_reducible refine LeO.bind ?_ (fun _ => ?_))
  | exact ih0 _ _ _ _ _ _
  | exact LeO.none _
  | refine LeO.ite ?_ ?_
  | refine LeO.bind ?_ (fun _ => ?_)
set_option maxHeartbeats 8000000 in
set_option maxRecDepth 100000 in
theorem roadsteadref16_Begin.calls (k : Nat) (a0_0 : Int) (a0_1 : Int) (a0_2 : Int) (a0_3 : Bool) (a1 : Int) (r1 : Int) (r2 : Int) (r3 : Int) (r4 : Bool) (r5 : Int) (w : World) (h : roadsteadref16_Begin.f k a0_0 a0_1 a0_2 a0_3 a1 = some (r1, r2, r3, r4, r5)) :
 Calls Try.prog 28 #[.agg #[.int .i64 a0_0, .int .i64 a0_1, .int .i64 a0_2, .bool a0_3], .int .i64 a1] w fun e w' => e = .returned (.tuple #[.agg #[.int .i64 r1, .int .i64 r2, .int .i64 r3, .bool r4], .int .i64 r5]) ∧ Below w.heap.size w w' := by
 have hu23 := Try.underlying23
 have HB := Aside0.mk (Below.refl w.heap.size w)
 have H : (if a1 < 1 then (roadsteadref16_Begin.j0 k a1 true a0_0 a0_1 a0_2 a0_3) else (roadsteadref16_Begin.j0 k a1 (decide (a1 > 3)) a0_0 a0_1 a0_2 a0_3)) = some (r1, r2, r3, r4, r5) := h
 clear h
 have HC3 := Aside0.mk H
 clear H
 go_enter Try.func28, Try.ntmps28
 go_upto_region 1 with (first | ((with_reducible refine gate_dst (N := 2) rfl ?_); refine box_event ?hg (N := 2) ?hd (cs := #[.int .i64 a0_0, .int .i64 a0_1, .int .i64 a0_2, .bool a0_3]) (t := 23) ?hr ?_; (case hd => rfl); (case hg => rfl); (case hr => first | (go_simp; done) | (go_simp; rfl)); intro gb101 hg w4 hbox hb; have n0_ := Aside0.mk (below_step (by repeat (with_reducible first | exact HB.out | apply below_alloc | apply pw_below_drewN | apply below_drew1)) hb); have n1_ := Aside0.mk (hbox); have n2_ := Aside0.mk ((by rw [hg]; exact (below_size (by repeat (with_reducible first | exact HB.out | apply below_alloc | apply pw_below_drewN | apply below_drew1))) : w.heap.size ≤ gb101)); have n3_ := Aside0.mk ((by rw [hg]; exact (below_size (by repeat (with_reducible first | exact HB.out | apply below_alloc | apply pw_below_drewN | apply below_drew1))) : w.heap.size ≤ gb101)); clear HB; have HB := n0_; have BK101 := n1_; have GW101 := n2_; have GE101 := n3_; clear n0_ n1_ n2_ n3_; clear hb hbox hg) | ((with_reducible refine gate_dst (N := 4) rfl ?_); refine box_event ?hg (N := 4) ?hd (cs := #[.int .i64 0, .int .i64 0, .int .i64 0, .bool false]) (t := 23) ?hr ?_; (case hd => rfl); (case hg => rfl); (case hr => first | (go_simp; done) | (go_simp; rfl)); intro gb102 hg w5 hbox hb; have n0_ := Aside0.mk (blk_below (g := gb101) (o := .cells #[.int .i64 a0_0, .int .i64 a0_1, .int .i64 a0_2, .bool a0_3] 23 (0, 0)) (by (with_reducible repeat (first | refine blk_drewN ?_ _ | refine blk_drew ?_ | refine blk_alloc ?_ _)); exact BK101.out) hb); have n1_ := Aside0.mk (below_step (by repeat (with_reducible first | exact HB.out | apply below_alloc | apply pw_below_drewN | apply below_drew1 | refine below_set ?_ GE101.out)) hb); have n2_ := Aside0.mk (hbox); have n3_ := Aside0.mk ((by rw [hg]; exact (below_size (by repeat (with_reducible first | exact HB.out | apply below_alloc | apply pw_below_drewN | apply below_drew1 | refine below_set ?_ GE101.out))) : w.heap.size ≤ gb102)); have n4_ := Aside0.mk ((by rw [hg]; exact (below_size (by repeat (with_reducible first | exact HB.out | apply below_alloc | apply pw_below_drewN | apply below_drew1 | refine below_set ?_ GE101.out))) : w.heap.size ≤ gb102)); have n5_ := Aside0.mk ((by rw [hg]; exact Nat.ne_of_lt (blk_lt (g := gb101) (o := .cells #[.int .i64 a0_0, .int .i64 a0_1, .int .i64 a0_2, .bool a0_3] 23 (0, 0)) (by (with_reducible repeat (first | refine blk_drewN ?_ _ | refine blk_drew ?_ | refine blk_alloc ?_ _)); exact BK101.out)) : gb101 ≠ gb102)); have n6_ := Aside0.mk ((by rw [hg]; exact Nat.ne_of_gt (blk_lt (g := gb101) (o := .cells #[.int .i64 a0_0, .int .i64 a0_1, .int .i64 a0_2, .bool a0_3] 23 (0, 0)) (by (with_reducible repeat (first | refine blk_drewN ?_ _ | refine blk_drew ?_ | refine blk_alloc ?_ _)); exact BK101.out)) : gb102 ≠ gb101)); clear BK101; clear HB; have BK101 := n0_; have HB := n1_; have BK102 := n2_; have GW102 := n3_; have GE102 := n4_; have NB101_102 := n5_; have NB102_101 := n6_; clear n0_ n1_ n2_ n3_ n4_ n5_ n6_; clear hb hbox hg))
 (try simp only [Act.put, List.setIfInBounds_toArray, List.set_cons_zero, List.set_cons_succ])
 go_cut [11] (fun v11 wc => ∃ (kq : Nat) (x11_2 : Bool), v11 = .bool x11_2 ∧ Aside0 (roadsteadref16_Begin.j0 kq a1 x11_2 a0_0 a0_1 a0_2 a0_3 = some (r1, r2, r3, r4, r5)) ∧ Aside0 (kq ≤ k) ∧ Aside0 (wc.heap[gb101]? = some (.cells #[.int .i64 a0_0, .int .i64 a0_1, .int .i64 a0_2, .bool a0_3] 23 (0, 0))) ∧ Aside0 (wc.heap[gb102]? = some (.cells #[.int .i64 0, .int .i64 0, .int .i64 0, .bool false] 23 (0, 0))) ∧ Aside0 (Below w.heap.size w wc))
 case first =>
  have H := HC3.out
  clear HC3
  by_cases c6 : a1 < 1
  ·rw [if_pos c6] at H
   have c6b0 : decide (a1 < 1) = true := decide_eq_true c6
   clear c6
   (first | rw [c6b0] | (simp only [i64_w, i32_w]; rw [c6b0]) | skip)
   have H' := Aside0.mk H
   clear H
   go_wp2
   go_meet
   case rel => exact ⟨_, (true), (by first | rfl | (simp; done) | (simp [*]; done)), H', ⟨by first | omega | exact Nat.le_refl _⟩, ⟨by (with_reducible repeat (first | refine blk_drewN ?_ _ | refine blk_drew ?_ | refine blk_alloc ?_ _)); exact BK101.out⟩, ⟨by (with_reducible repeat (first | refine blk_drewN ?_ _ | refine blk_drew ?_ | refine blk_alloc ?_ _)); exact BK102.out⟩, ⟨by repeat (with_reducible first | exact HB.out | apply below_alloc | apply pw_below_drewN | apply below_drew1 | refine below_set ?_ GE101.out | refine below_set ?_ GE102.out)⟩⟩
  ·rw [if_neg c6] at H
   have c6b0 : decide (a1 < 1) = false := decide_eq_false c6
   clear c6
   (first | rw [c6b0] | (simp only [i64_w, i32_w]; rw [c6b0]) | skip)
   have H' := Aside0.mk H
   clear H
   go_wp2
   go_meet
   case rel => exact ⟨_, (decide (a1 > 3)), (by first | rfl | (simp; done) | (simp [*]; done)), H', ⟨by first | omega | exact Nat.le_refl _⟩, ⟨by (with_reducible repeat (first | refine blk_drewN ?_ _ | refine blk_drew ?_ | refine blk_alloc ?_ _)); exact BK101.out⟩, ⟨by (with_reducible repeat (first | refine blk_drewN ?_ _ | refine blk_drew ?_ | refine blk_alloc ?_ _)); exact BK102.out⟩, ⟨by repeat (with_reducible first | exact HB.out | apply below_alloc | apply pw_below_drewN | apply below_drew1 | refine below_set ?_ GE101.out | refine below_set ?_ GE102.out)⟩⟩
 case rest =>
  clear HC3
  try clear c2
  try clear p2
  try clear c6
  try clear c6b0
  obtain ⟨kq, x11_2, rfl, HA, HJ2, BK101, BK102, HB⟩ := hcut
  cases kq with
  | zero => exact absurd HA.out (by simp [roadsteadref16_Begin.j0])
  | succ kj2 =>
   have H := HA.out
   clear HA
   simp only [roadsteadref16_Begin.j0] at H
   by_cases c7 : x11_2 = true
   ·subst c7
    have H1 : (some (a0_0, a0_1, a0_2, a0_3, 50)) = some (r1, r2, r3, r4, r5) := by rw [if_pos rfl] at H; exact H
    clear H
    have H := H1
    clear H1
    simp only [Option.some.injEq, Prod.mk.injEq] at H
    obtain ⟨rfl, rfl, rfl, rfl, rfl⟩ := H
    have hnb8 := NB101_102.out
    have hnc8 := NB102_101.out
    have hcz9_0 : wc.cell? ⟨gb101, 0, none⟩ = some (.int .i64 a0_0) := (blk_cell BK101.out 0).trans rfl
    have hcz9_1 : wc.cell? ⟨gb101, 1, none⟩ = some (.int .i64 a0_1) := (blk_cell BK101.out 1).trans rfl
    have hcz9_2 : wc.cell? ⟨gb101, 2, none⟩ = some (.int .i64 a0_2) := (blk_cell BK101.out 2).trans rfl
    have hcz9_3 : wc.cell? ⟨gb101, 3, none⟩ = some (.bool a0_3) := (blk_cell BK101.out 3).trans rfl
    have hfz9_0 := blk_frozen BK101.out 0
    have hfz9_1 := blk_frozen BK101.out 1
    have hfz9_2 := blk_frozen BK101.out 2
    have hfz9_3 := blk_frozen BK101.out 3
    have hcz10_0 : wc.cell? ⟨gb102, 0, none⟩ = some (.int .i64 0) := (blk_cell BK102.out 0).trans rfl
    have hcz10_1 : wc.cell? ⟨gb102, 1, none⟩ = some (.int .i64 0) := (blk_cell BK102.out 1).trans rfl
    have hcz10_2 : wc.cell? ⟨gb102, 2, none⟩ = some (.int .i64 0) := (blk_cell BK102.out 2).trans rfl
    have hcz10_3 : wc.cell? ⟨gb102, 3, none⟩ = some (.bool false) := (blk_cell BK102.out 3).trans rfl
    have hfz10_0 := blk_frozen BK102.out 0
    have hfz10_1 := blk_frozen BK102.out 1
    have hfz10_2 := blk_frozen BK102.out 2
    have hfz10_3 := blk_frozen BK102.out 3
    go_wp2
    refine bodyPost_ret (results_ct rfl _ _ gb102 23 #[.int .i64 a0_0, .int .i64 a0_1, .int .i64 a0_2, .bool a0_3] (0, 0) _ rfl (by (with_reducible repeat (first | refine blk_drewN ?_ _ | refine blk_drew ?_ | refine blk_alloc ?_ _)); refine blk_put (cs := #[.int .i64 a0_0, .int .i64 a0_1, .int .i64 a0_2, .bool false]) ?_ 3 _ rfl; refine blk_put (cs := #[.int .i64 a0_0, .int .i64 a0_1, .int .i64 0, .bool false]) ?_ 2 _ rfl; refine blk_put (cs := #[.int .i64 a0_0, .int .i64 0, .int .i64 0, .bool false]) ?_ 1 _ rfl; refine blk_put (cs := #[.int .i64 0, .int .i64 0, .int .i64 0, .bool false]) ?_ 0 _ rfl; exact BK102.out) Try.underlying23 rfl (by kernel_rfl)) rfl ?_
    exact ⟨by first | rfl | (simp [errW_none, errW_some] <;> rfl) | (simp [*, errW_none, errW_some] <;> rfl), by repeat (with_reducible first | exact HB.out | apply below_alloc | apply pw_below_drewN | apply below_drew1 | refine below_set ?_ GE101.out | refine below_set ?_ GE102.out)⟩
   ·replace c7 := Bool.eq_false_iff.mpr c7
    subst c7
    have H1 : (if a0_0 = a0_1 then (if a1 > a0_0 then (some (a0_0, wrap64 (a0_0 + 1), 0, false, 0)) else (if a1 < a0_0 then (some (a0_0, wrap64 (a0_0 - 1), 0, false, 0)) else (some (a0_0, a0_0, 0, false, 0)))) else (some (a0_0, a0_1, a0_2, a0_3, 51))) = some (r1, r2, r3, r4, r5) := by rw [if_neg (show ¬ (false = true) by decide)] at H; exact H
    clear H
    have H := H1
    clear H1
    by_cases c11 : a0_0 = a0_1
    ·rw [if_pos c11] at H
     have c11b0 : (a0_0 == a0_1) = true := beq_iff_eq.mpr c11
     have c11b1 : (a0_0 != a0_1) = false := bne_eq_false_iff_eq.mpr c11
     clear c11
     by_cases c12 : a1 > a0_0
     ·rw [if_pos c12] at H
      have c12b0 : decide (a0_0 < a1) = true := decide_eq_true c12
      clear c12
      simp only [Option.some.injEq, Prod.mk.injEq] at H
      obtain ⟨rfl, rfl, rfl, rfl, rfl⟩ := H
      have hnb13 := NB101_102.out
      have hnc13 := NB102_101.out
      have hcz14_0 : wc.cell? ⟨gb101, 0, none⟩ = some (.int .i64 a0_0) := (blk_cell BK101.out 0).trans rfl
      have hcz14_1 : wc.cell? ⟨gb101, 1, none⟩ = some (.int .i64 a0_1) := (blk_cell BK101.out 1).trans rfl
      have hcz14_2 : wc.cell? ⟨gb101, 2, none⟩ = some (.int .i64 a0_2) := (blk_cell BK101.out 2).trans rfl
      have hcz14_3 : wc.cell? ⟨gb101, 3, none⟩ = some (.bool a0_3) := (blk_cell BK101.out 3).trans rfl
      have hfz14_0 := blk_frozen BK101.out 0
      have hfz14_1 := blk_frozen BK101.out 1
      have hfz14_2 := blk_frozen BK101.out 2
      have hfz14_3 := blk_frozen BK101.out 3
      have hcz15_0 : wc.cell? ⟨gb102, 0, none⟩ = some (.int .i64 0) := (blk_cell BK102.out 0).trans rfl
      have hcz15_1 : wc.cell? ⟨gb102, 1, none⟩ = some (.int .i64 0) := (blk_cell BK102.out 1).trans rfl
      have hcz15_2 : wc.cell? ⟨gb102, 2, none⟩ = some (.int .i64 0) := (blk_cell BK102.out 2).trans rfl
      have hcz15_3 : wc.cell? ⟨gb102, 3, none⟩ = some (.bool false) := (blk_cell BK102.out 3).trans rfl
      have hfz15_0 := blk_frozen BK102.out 0
      have hfz15_1 := blk_frozen BK102.out 1
      have hfz15_2 := blk_frozen BK102.out 2
      have hfz15_3 := blk_frozen BK102.out 3
      go_wp2
      refine bodyPost_ret (results_ct rfl _ _ gb102 23 #[.int .i64 a0_0, .int .i64 (wrap64 (a0_0 + 1)), .int .i64 0, .bool false] (0, 0) _ rfl (by (with_reducible repeat (first | refine blk_drewN ?_ _ | refine blk_drew ?_ | refine blk_alloc ?_ _)); refine blk_put (cs := #[.int .i64 a0_0, .int .i64 (wrap64 (a0_0 + 1)), .int .i64 0, .bool false]) ?_ 3 _ rfl; refine blk_put (cs := #[.int .i64 a0_0, .int .i64 (wrap64 (a0_0 + 1)), .int .i64 0, .bool false]) ?_ 2 _ rfl; refine blk_put (cs := #[.int .i64 a0_0, .int .i64 0, .int .i64 0, .bool false]) ?_ 1 _ rfl; refine blk_put (cs := #[.int .i64 0, .int .i64 0, .int .i64 0, .bool false]) ?_ 0 _ rfl; exact BK102.out) Try.underlying23 rfl (by kernel_rfl)) rfl ?_
      exact ⟨by first | rfl | (simp [errW_none, errW_some] <;> rfl) | (simp [*, errW_none, errW_some] <;> rfl), by repeat (with_reducible first | exact HB.out | apply below_alloc | apply pw_below_drewN | apply below_drew1 | refine below_set ?_ GE101.out | refine below_set ?_ GE102.out)⟩
     ·rw [if_neg c12] at H
      have c12b0 : decide (a0_0 < a1) = false := decide_eq_false c12
      clear c12
      by_cases c16 : a1 < a0_0
      ·rw [if_pos c16] at H
       have c16b0 : decide (a1 < a0_0) = true := decide_eq_true c16
       clear c16
       simp only [Option.some.injEq, Prod.mk.injEq] at H
       obtain ⟨rfl, rfl, rfl, rfl, rfl⟩ := H
       have hnb17 := NB101_102.out
       have hnc17 := NB102_101.out
       have hcz18_0 : wc.cell? ⟨gb101, 0, none⟩ = some (.int .i64 a0_0) := (blk_cell BK101.out 0).trans rfl
       have hcz18_1 : wc.cell? ⟨gb101, 1, none⟩ = some (.int .i64 a0_1) := (blk_cell BK101.out 1).trans rfl
       have hcz18_2 : wc.cell? ⟨gb101, 2, none⟩ = some (.int .i64 a0_2) := (blk_cell BK101.out 2).trans rfl
       have hcz18_3 : wc.cell? ⟨gb101, 3, none⟩ = some (.bool a0_3) := (blk_cell BK101.out 3).trans rfl
       have hfz18_0 := blk_frozen BK101.out 0
       have hfz18_1 := blk_frozen BK101.out 1
       have hfz18_2 := blk_frozen BK101.out 2
       have hfz18_3 := blk_frozen BK101.out 3
       have hcz19_0 : wc.cell? ⟨gb102, 0, none⟩ = some (.int .i64 0) := (blk_cell BK102.out 0).trans rfl
       have hcz19_1 : wc.cell? ⟨gb102, 1, none⟩ = some (.int .i64 0) := (blk_cell BK102.out 1).trans rfl
       have hcz19_2 : wc.cell? ⟨gb102, 2, none⟩ = some (.int .i64 0) := (blk_cell BK102.out 2).trans rfl
       have hcz19_3 : wc.cell? ⟨gb102, 3, none⟩ = some (.bool false) := (blk_cell BK102.out 3).trans rfl
       have hfz19_0 := blk_frozen BK102.out 0
       have hfz19_1 := blk_frozen BK102.out 1
       have hfz19_2 := blk_frozen BK102.out 2
       have hfz19_3 := blk_frozen BK102.out 3
       go_wp2
       refine bodyPost_ret (results_ct rfl _ _ gb102 23 #[.int .i64 a0_0, .int .i64 (wrap64 (a0_0 - 1)), .int .i64 0, .bool false] (0, 0) _ rfl (by (with_reducible repeat (first | refine blk_drewN ?_ _ | refine blk_drew ?_ | refine blk_alloc ?_ _)); refine blk_put (cs := #[.int .i64 a0_0, .int .i64 (wrap64 (a0_0 - 1)), .int .i64 0, .bool false]) ?_ 3 _ rfl; refine blk_put (cs := #[.int .i64 a0_0, .int .i64 (wrap64 (a0_0 - 1)), .int .i64 0, .bool false]) ?_ 2 _ rfl; refine blk_put (cs := #[.int .i64 a0_0, .int .i64 0, .int .i64 0, .bool false]) ?_ 1 _ rfl; refine blk_put (cs := #[.int .i64 0, .int .i64 0, .int .i64 0, .bool false]) ?_ 0 _ rfl; exact BK102.out) Try.underlying23 rfl (by kernel_rfl)) rfl ?_
       exact ⟨by first | rfl | (simp [errW_none, errW_some] <;> rfl) | (simp [*, errW_none, errW_some] <;> rfl), by repeat (with_reducible first | exact HB.out | apply below_alloc | apply pw_below_drewN | apply below_drew1 | refine below_set ?_ GE101.out | refine below_set ?_ GE102.out)⟩
      ·rw [if_neg c16] at H
       have c16b0 : decide (a1 < a0_0) = false := decide_eq_false c16
       clear c16
       simp only [Option.some.injEq, Prod.mk.injEq] at H
       obtain ⟨rfl, rfl, rfl, rfl, rfl⟩ := H
       have hnb20 := NB101_102.out
       have hnc20 := NB102_101.out
       have hcz21_0 : wc.cell? ⟨gb101, 0, none⟩ = some (.int .i64 a0_0) := (blk_cell BK101.out 0).trans rfl
       have hcz21_1 : wc.cell? ⟨gb101, 1, none⟩ = some (.int .i64 a0_1) := (blk_cell BK101.out 1).trans rfl
       have hcz21_2 : wc.cell? ⟨gb101, 2, none⟩ = some (.int .i64 a0_2) := (blk_cell BK101.out 2).trans rfl
       have hcz21_3 : wc.cell? ⟨gb101, 3, none⟩ = some (.bool a0_3) := (blk_cell BK101.out 3).trans rfl
       have hfz21_0 := blk_frozen BK101.out 0
       have hfz21_1 := blk_frozen BK101.out 1
       have hfz21_2 := blk_frozen BK101.out 2
       have hfz21_3 := blk_frozen BK101.out 3
       have hcz22_0 : wc.cell? ⟨gb102, 0, none⟩ = some (.int .i64 0) := (blk_cell BK102.out 0).trans rfl
       have hcz22_1 : wc.cell? ⟨gb102, 1, none⟩ = some (.int .i64 0) := (blk_cell BK102.out 1).trans rfl
       have hcz22_2 : wc.cell? ⟨gb102, 2, none⟩ = some (.int .i64 0) := (blk_cell BK102.out 2).trans rfl
       have hcz22_3 : wc.cell? ⟨gb102, 3, none⟩ = some (.bool false) := (blk_cell BK102.out 3).trans rfl
       have hfz22_0 := blk_frozen BK102.out 0
       have hfz22_1 := blk_frozen BK102.out 1
       have hfz22_2 := blk_frozen BK102.out 2
       have hfz22_3 := blk_frozen BK102.out 3
       go_wp2
       refine bodyPost_ret (results_ct rfl _ _ gb102 23 #[.int .i64 a0_0, .int .i64 a0_0, .int .i64 0, .bool false] (0, 0) _ rfl (by (with_reducible repeat (first | refine blk_drewN ?_ _ | refine blk_drew ?_ | refine blk_alloc ?_ _)); refine blk_put (cs := #[.int .i64 a0_0, .int .i64 a0_0, .int .i64 0, .bool false]) ?_ 3 _ rfl; refine blk_put (cs := #[.int .i64 a0_0, .int .i64 a0_0, .int .i64 0, .bool false]) ?_ 2 _ rfl; refine blk_put (cs := #[.int .i64 a0_0, .int .i64 0, .int .i64 0, .bool false]) ?_ 1 _ rfl; refine blk_put (cs := #[.int .i64 0, .int .i64 0, .int .i64 0, .bool false]) ?_ 0 _ rfl; exact BK102.out) Try.underlying23 rfl (by kernel_rfl)) rfl ?_
       exact ⟨by first | rfl | (simp [errW_none, errW_some] <;> rfl) | (simp [*, errW_none, errW_some] <;> rfl), by repeat (with_reducible first | exact HB.out | apply below_alloc | apply pw_below_drewN | apply below_drew1 | refine below_set ?_ GE101.out | refine below_set ?_ GE102.out)⟩
    ·rw [if_neg c11] at H
     have c11b0 : (a0_0 == a0_1) = false := beq_eq_false_iff_ne.mpr c11
     have c11b1 : (a0_0 != a0_1) = true := bne_iff_ne.mpr c11
     simp only [Option.some.injEq, Prod.mk.injEq] at H
     obtain ⟨rfl, rfl, rfl, rfl, rfl⟩ := H
     have hnb23 := NB101_102.out
     have hnc23 := NB102_101.out
     have hcz24_0 : wc.cell? ⟨gb101, 0, none⟩ = some (.int .i64 a0_0) := (blk_cell BK101.out 0).trans rfl
     have hcz24_1 : wc.cell? ⟨gb101, 1, none⟩ = some (.int .i64 a0_1) := (blk_cell BK101.out 1).trans rfl
     have hcz24_2 : wc.cell? ⟨gb101, 2, none⟩ = some (.int .i64 a0_2) := (blk_cell BK101.out 2).trans rfl
     have hcz24_3 : wc.cell? ⟨gb101, 3, none⟩ = some (.bool a0_3) := (blk_cell BK101.out 3).trans rfl
     have hfz24_0 := blk_frozen BK101.out 0
     have hfz24_1 := blk_frozen BK101.out 1
     have hfz24_2 := blk_frozen BK101.out 2
     have hfz24_3 := blk_frozen BK101.out 3
     have hcz25_0 : wc.cell? ⟨gb102, 0, none⟩ = some (.int .i64 0) := (blk_cell BK102.out 0).trans rfl
     have hcz25_1 : wc.cell? ⟨gb102, 1, none⟩ = some (.int .i64 0) := (blk_cell BK102.out 1).trans rfl
     have hcz25_2 : wc.cell? ⟨gb102, 2, none⟩ = some (.int .i64 0) := (blk_cell BK102.out 2).trans rfl
     have hcz25_3 : wc.cell? ⟨gb102, 3, none⟩ = some (.bool false) := (blk_cell BK102.out 3).trans rfl
     have hfz25_0 := blk_frozen BK102.out 0
     have hfz25_1 := blk_frozen BK102.out 1
     have hfz25_2 := blk_frozen BK102.out 2
     have hfz25_3 := blk_frozen BK102.out 3
     go_wp2
     refine bodyPost_ret (results_ct rfl _ _ gb102 23 #[.int .i64 a0_0, .int .i64 a0_1, .int .i64 a0_2, .bool a0_3] (0, 0) _ rfl (by (with_reducible repeat (first | refine blk_drewN ?_ _ | refine blk_drew ?_ | refine blk_alloc ?_ _)); refine blk_put (cs := #[.int .i64 a0_0, .int .i64 a0_1, .int .i64 a0_2, .bool false]) ?_ 3 _ rfl; refine blk_put (cs := #[.int .i64 a0_0, .int .i64 a0_1, .int .i64 0, .bool false]) ?_ 2 _ rfl; refine blk_put (cs := #[.int .i64 a0_0, .int .i64 0, .int .i64 0, .bool false]) ?_ 1 _ rfl; refine blk_put (cs := #[.int .i64 0, .int .i64 0, .int .i64 0, .bool false]) ?_ 0 _ rfl; exact BK102.out) Try.underlying23 rfl (by kernel_rfl)) rfl ?_
     exact ⟨by first | rfl | (simp [errW_none, errW_some] <;> rfl) | (simp [*, errW_none, errW_some] <;> rfl), by repeat (with_reducible first | exact HB.out | apply below_alloc | apply pw_below_drewN | apply below_drew1 | refine below_set ?_ GE101.out | refine below_set ?_ GE102.out)⟩

/-! ### roadsteadref16_under: function 37 -/
def roadsteadref16_under.l0 : Nat → Int → Int → Int → Int → Int → Int → List (S46) → Option (Int)
 | 0, _, _, _, _, _, _, _ => none
 | k + 1, x1, x5, x6, x104000, x104001, x104002, x104003 => if x6 < (x104003.length : Int) then (if 0 ≤ x6 then (if ((rd_T46 x104003 x6).f0) ≤ x1 then (if ((rd_T46 x104003 x6).f0) > x5 then (roadsteadref16_under.l0 k x1 ((rd_T46 x104003 x6).f0) (wrap64 (x6 + 1)) x104000 x104001 x104002 x104003) else (roadsteadref16_under.l0 k x1 x5 (wrap64 (x6 + 1)) x104000 x104001 x104002 x104003)) else (roadsteadref16_under.l0 k x1 x5 (wrap64 (x6 + 1)) x104000 x104001 x104002 x104003)) else (none)) else (some x5)
def roadsteadref16_under.f (k : Nat) (a0_0 : Int) (a0_1 : Int) (a0_2 : Int) (l0_3 : List (S46)) (a1 : Int) : Option (Int) := roadsteadref16_under.l0 k a1 (-1) 0 a0_0 a0_1 a0_2 l0_3
theorem roadsteadref16_under.mono_l : ∀ k, (∀ y0 y1 y2 y3 y4 y5 y6, LeO (roadsteadref16_under.l0 k y0 y1 y2 y3 y4 y5 y6) (roadsteadref16_under.l0 (k + 1) y0 y1 y2 y3 y4 y5 y6))
 | 0 => fun _ _ _ _ _ _ _ r h => by simp [roadsteadref16_under.l0] at h
 | k + 1 => by
  have ih0 := roadsteadref16_under.mono_l k
  ·intro y0 y1 y2 y3 y4 y5 y6
   unfold roadsteadref16_under.l0
   repeat' first
   | (with_reducible exact ih0 _ _ _ _ _ _ _)
   | (with_reducible exact LeO.refl _)
   | (with_reducible exact LeO.none _)
   | (with_reducible refine LeO.ite ?_ ?_)
   | (with_reducible refine LeO.bind ?_ (fun _ => ?_))
   | exact ih0 _ _ _ _ _ _ _
   | exact LeO.none _
   | refine LeO.ite ?_ ?_
   | refine LeO.bind ?_ (fun _ => ?_)
theorem roadsteadref16_under.mono : ∀ a0 a1 a2 a3 a4 k, LeO (roadsteadref16_under.f k a0 a1 a2 a3 a4) (roadsteadref16_under.f (k + 1) a0 a1 a2 a3 a4) := by
 intro a0 a1 a2 a3 a4 k
 have ih0 := roadsteadref16_under.mono_l k
 unfold roadsteadref16_under.f
 repeat' first
  | (with_reducible exact ih0 _ _ _ _ _ _ _)
  | (with_reducible exact LeO.refl _)
  | (with_reducible exact LeO.none _)
  | (with_reducible refine LeO.ite ?_ ?_)
  | (with_reducible refine LeO.bind ?_ (fun _ => ?_))
  | exact ih0 _ _ _ _ _ _ _
  | exact LeO.none _
  | refine LeO.ite ?_ ?_
  | refine LeO.bind ?_ (fun _ => ?_)
set_option maxHeartbeats 8000000 in
set_option maxRecDepth 100000 in
theorem roadsteadref16_under.calls (k : Nat) (a0_0 : Int) (a0_1 : Int) (a0_2 : Int) (A0_3 : Option Addr) (c0_3 : Nat) (l0_3 : List (S46)) (a1 : Int) (r : Int) (w : World) (hr0_3 : Kd.C k46 w A0_3 l0_3.length l0_3) (hc0_3 : l0_3.length ≤ c0_3) (h : roadsteadref16_under.f k a0_0 a0_1 a0_2 l0_3 a1 = some r) :
 Calls Try.prog 37 #[.agg #[.int .i64 a0_0, .int .i64 a0_1, .int .i64 a0_2, .slice A0_3 l0_3.length c0_3], .int .i64 a1] w fun e w' => e = .returned (.int .i64 r) ∧ Below w.heap.size w w' := by
 have hu34 := Try.underlying34
 have HR0_3 := Aside0.mk hr0_3
 have HC0_3 := Aside0.mk hc0_3
 clear hr0_3 hc0_3
 have HB := Aside0.mk (Below.refl w.heap.size w)
 have H : (roadsteadref16_under.l0 k a1 (-1) 0 a0_0 a0_1 a0_2 l0_3) = some r := h
 clear h
 have H' := Aside0.mk H
 clear H
 go_enter Try.func37, Try.ntmps37
 go_wp2_with (first | ((with_reducible refine gate_dst (N := 2) rfl ?_); refine box_event ?hg (N := 2) ?hd (cs := #[.int .i64 a0_0, .int .i64 a0_1, .int .i64 a0_2, .slice A0_3 l0_3.length c0_3]) (t := 34) ?hr ?_; (case hd => rfl); (case hg => rfl); (case hr => first | (go_simp; done) | (go_simp; rfl)); intro gb103 hg w3 hbox hb; have n0_ := Aside0.mk (below_step (by repeat (with_reducible first | exact HB.out | apply below_alloc | apply pw_below_drewN | apply below_drew1)) hb); have n1_ := Aside0.mk (hbox); have n2_ := Aside0.mk ((by rw [hg]; exact (below_size (by repeat (with_reducible first | exact HB.out | apply below_alloc | apply pw_below_drewN | apply below_drew1))) : w.heap.size ≤ gb103)); have n3_ := Aside0.mk ((by rw [hg]; exact (below_size (by repeat (with_reducible first | exact HB.out | apply below_alloc | apply pw_below_drewN | apply below_drew1))) : w.heap.size ≤ gb103)); clear HB; have HB := n0_; have BK103 := n1_; have GW103 := n2_; have GE103 := n3_; clear n0_ n1_ n2_ n3_; clear hb hbox hg))
 go_loopg [5, 6] k (fun kq v5 v6 w' => ∃ (x5_1 : Int) (x6_1 : Int), v5 = .int .i64 x5_1 ∧ v6 = .int .i64 x6_1 ∧ Aside0 (roadsteadref16_under.l0 kq a1 x5_1 x6_1 a0_0 a0_1 a0_2 l0_3 = some r) ∧ Aside0 (kq ≤ k) ∧ Aside0 (w'.heap[gb103]? = some (.cells #[.int .i64 a0_0, .int .i64 a0_1, .int .i64 a0_2, (.slice A0_3 l0_3.length c0_3)] 34 (0, 0))) ∧ Aside0 (Below w.heap.size w w'))
 case atStart => exact ⟨((-1)), (0), (by first | rfl | (simp; done) | (simp [*]; done)), (by first | rfl | (simp; done) | (simp [*]; done)), H', ⟨Nat.le_refl _⟩, ⟨by (with_reducible repeat (first | refine blk_drewN ?_ _ | refine blk_drew ?_ | refine blk_alloc ?_ _)); exact BK103.out⟩, ⟨by repeat (with_reducible first | exact HB.out | apply below_alloc | apply pw_below_drewN | apply below_drew1 | refine below_set ?_ GE103.out)⟩⟩
 case round =>
  clear H'
  try clear p2
  try clear c3
  obtain ⟨x5_1, x6_1, rfl, rfl, HA, HK1, BK103, HB⟩ := hrel
  cases gk with
  | zero => exact absurd HA.out (by simp [roadsteadref16_under.l0])
  | succ k1 =>
   have H := HA.out
   clear HA
   simp only [roadsteadref16_under.l0] at H
   by_cases c4 : x6_1 < (l0_3.length : Int)
   ·rw [if_pos c4] at H
    have c4b0 : decide (x6_1 < (l0_3.length : Int)) = true := decide_eq_true c4
    clear c4
    by_cases c5 : 0 ≤ x6_1
    ·rw [if_pos c5] at H
     have c5b0 : decide (0 ≤ x6_1) = true := decide_eq_true c5
     clear c5
     by_cases c6 : ((rd_T46 l0_3 x6_1).f0) ≤ a1
     ·rw [if_pos c6] at H
      have c6b0 : decide (((rd_T46 l0_3 x6_1).f0) ≤ a1) = true := decide_eq_true c6
      clear c6
      by_cases c7 : ((rd_T46 l0_3 x6_1).f0) > x5_1
      ·rw [if_pos c7] at H
       have c7b0 : decide (x5_1 < ((rd_T46 l0_3 x6_1).f0)) = true := decide_eq_true c7
       clear c7
       have H' := Aside0.mk H
       clear H
       have hcz8_0 : wr.cell? ⟨gb103, 0, none⟩ = some (.int .i64 a0_0) := (blk_cell BK103.out 0).trans rfl
       have hcz8_1 : wr.cell? ⟨gb103, 1, none⟩ = some (.int .i64 a0_1) := (blk_cell BK103.out 1).trans rfl
       have hcz8_2 : wr.cell? ⟨gb103, 2, none⟩ = some (.int .i64 a0_2) := (blk_cell BK103.out 2).trans rfl
       have hcz8_3 : wr.cell? ⟨gb103, 3, none⟩ = some (.slice A0_3 l0_3.length c0_3) := (blk_cell BK103.out 3).trans rfl
       have hfz8_0 := blk_frozen BK103.out 0
       have hfz8_1 := blk_frozen BK103.out 1
       have hfz8_2 := blk_frozen BK103.out 2
       have hfz8_3 := blk_frozen BK103.out 3
       have p104 : 0 ≤ (x6_1 : Int) := of_decide_eq_true (by first | (with_reducible assumption) | assumption)
       have q104 : x6_1 < (l0_3.length : Int) := of_decide_eq_true (by first | (with_reducible assumption) | assumption)
       obtain ⟨ad104, A104_7, c104_7, A104_8, c104_8, e104, hx104_0, hx104_1, hx104_2, hx104_3, hx104_4, hx104_5, hx104_6, hx104_7, hx104_8, hx104_9, hl104_7, hi104_7, hl104_8, hi104_8⟩ := at_T46 HR0_3.out x6_1 p104 q104
       cases e104
       replace hx104_0 := (HB.out.cell (World.block_lt_of_cell? w _ hx104_0)).trans hx104_0
       replace hx104_1 := (HB.out.cell (World.block_lt_of_cell? w _ hx104_1)).trans hx104_1
       replace hx104_2 := (HB.out.cell (World.block_lt_of_cell? w _ hx104_2)).trans hx104_2
       replace hx104_3 := (HB.out.cell (World.block_lt_of_cell? w _ hx104_3)).trans hx104_3
       replace hx104_4 := (HB.out.cell (World.block_lt_of_cell? w _ hx104_4)).trans hx104_4
       replace hx104_5 := (HB.out.cell (World.block_lt_of_cell? w _ hx104_5)).trans hx104_5
       replace hx104_6 := (HB.out.cell (World.block_lt_of_cell? w _ hx104_6)).trans hx104_6
       replace hx104_7 := (HB.out.cell (World.block_lt_of_cell? w _ hx104_7)).trans hx104_7
       replace hx104_8 := (HB.out.cell (World.block_lt_of_cell? w _ hx104_8)).trans hx104_8
       replace hx104_9 := (HB.out.cell (World.block_lt_of_cell? w _ hx104_9)).trans hx104_9
       have HR104_7 := Aside0.mk hi104_7
       have HC104_7 := Aside0.mk hl104_7
       clear hi104_7 hl104_7
       have HR104_8 := Aside0.mk hi104_8
       have HC104_8 := Aside0.mk hl104_8
       clear hi104_8 hl104_8
       replace p104 := eq_true p104
       replace q104 := eq_true q104
       go_wp2
       go_roundg k1
       case measure => have := HK1.out; omega
       case rel => exact ⟨((rd_T46 l0_3 x6_1).f0), (wrap64 (x6_1 + 1)), (by first | rfl | (simp; done) | (simp [*]; done)), (by first | rfl | (simp; done) | (simp [*]; done)), H', ⟨by have := HK1.out; omega⟩, ⟨by (with_reducible repeat (first | refine blk_drewN ?_ _ | refine blk_drew ?_ | refine blk_alloc ?_ _)); exact BK103.out⟩, ⟨by repeat (with_reducible first | exact HB.out | apply below_alloc | apply pw_below_drewN | apply below_drew1 | refine below_set ?_ GE103.out)⟩⟩
      ·rw [if_neg c7] at H
       have c7b0 : decide (x5_1 < ((rd_T46 l0_3 x6_1).f0)) = false := decide_eq_false c7
       clear c7
       have H' := Aside0.mk H
       clear H
       have hcz9_0 : wr.cell? ⟨gb103, 0, none⟩ = some (.int .i64 a0_0) := (blk_cell BK103.out 0).trans rfl
       have hcz9_1 : wr.cell? ⟨gb103, 1, none⟩ = some (.int .i64 a0_1) := (blk_cell BK103.out 1).trans rfl
       have hcz9_2 : wr.cell? ⟨gb103, 2, none⟩ = some (.int .i64 a0_2) := (blk_cell BK103.out 2).trans rfl
       have hcz9_3 : wr.cell? ⟨gb103, 3, none⟩ = some (.slice A0_3 l0_3.length c0_3) := (blk_cell BK103.out 3).trans rfl
       have hfz9_0 := blk_frozen BK103.out 0
       have hfz9_1 := blk_frozen BK103.out 1
       have hfz9_2 := blk_frozen BK103.out 2
       have hfz9_3 := blk_frozen BK103.out 3
       have p104 : 0 ≤ (x6_1 : Int) := of_decide_eq_true (by first | (with_reducible assumption) | assumption)
       have q104 : x6_1 < (l0_3.length : Int) := of_decide_eq_true (by first | (with_reducible assumption) | assumption)
       obtain ⟨ad104, A104_7, c104_7, A104_8, c104_8, e104, hx104_0, hx104_1, hx104_2, hx104_3, hx104_4, hx104_5, hx104_6, hx104_7, hx104_8, hx104_9, hl104_7, hi104_7, hl104_8, hi104_8⟩ := at_T46 HR0_3.out x6_1 p104 q104
       cases e104
       replace hx104_0 := (HB.out.cell (World.block_lt_of_cell? w _ hx104_0)).trans hx104_0
       replace hx104_1 := (HB.out.cell (World.block_lt_of_cell? w _ hx104_1)).trans hx104_1
       replace hx104_2 := (HB.out.cell (World.block_lt_of_cell? w _ hx104_2)).trans hx104_2
       replace hx104_3 := (HB.out.cell (World.block_lt_of_cell? w _ hx104_3)).trans hx104_3
       replace hx104_4 := (HB.out.cell (World.block_lt_of_cell? w _ hx104_4)).trans hx104_4
       replace hx104_5 := (HB.out.cell (World.block_lt_of_cell? w _ hx104_5)).trans hx104_5
       replace hx104_6 := (HB.out.cell (World.block_lt_of_cell? w _ hx104_6)).trans hx104_6
       replace hx104_7 := (HB.out.cell (World.block_lt_of_cell? w _ hx104_7)).trans hx104_7
       replace hx104_8 := (HB.out.cell (World.block_lt_of_cell? w _ hx104_8)).trans hx104_8
       replace hx104_9 := (HB.out.cell (World.block_lt_of_cell? w _ hx104_9)).trans hx104_9
       have HR104_7 := Aside0.mk hi104_7
       have HC104_7 := Aside0.mk hl104_7
       clear hi104_7 hl104_7
       have HR104_8 := Aside0.mk hi104_8
       have HC104_8 := Aside0.mk hl104_8
       clear hi104_8 hl104_8
       replace p104 := eq_true p104
       replace q104 := eq_true q104
       go_wp2
       go_roundg k1
       case measure => have := HK1.out; omega
       case rel => exact ⟨(x5_1), (wrap64 (x6_1 + 1)), (by first | rfl | (simp; done) | (simp [*]; done)), (by first | rfl | (simp; done) | (simp [*]; done)), H', ⟨by have := HK1.out; omega⟩, ⟨by (with_reducible repeat (first | refine blk_drewN ?_ _ | refine blk_drew ?_ | refine blk_alloc ?_ _)); exact BK103.out⟩, ⟨by repeat (with_reducible first | exact HB.out | apply below_alloc | apply pw_below_drewN | apply below_drew1 | refine below_set ?_ GE103.out)⟩⟩
     ·rw [if_neg c6] at H
      have c6b0 : decide (((rd_T46 l0_3 x6_1).f0) ≤ a1) = false := decide_eq_false c6
      clear c6
      have H' := Aside0.mk H
      clear H
      have hcz10_0 : wr.cell? ⟨gb103, 0, none⟩ = some (.int .i64 a0_0) := (blk_cell BK103.out 0).trans rfl
      have hcz10_1 : wr.cell? ⟨gb103, 1, none⟩ = some (.int .i64 a0_1) := (blk_cell BK103.out 1).trans rfl
      have hcz10_2 : wr.cell? ⟨gb103, 2, none⟩ = some (.int .i64 a0_2) := (blk_cell BK103.out 2).trans rfl
      have hcz10_3 : wr.cell? ⟨gb103, 3, none⟩ = some (.slice A0_3 l0_3.length c0_3) := (blk_cell BK103.out 3).trans rfl
      have hfz10_0 := blk_frozen BK103.out 0
      have hfz10_1 := blk_frozen BK103.out 1
      have hfz10_2 := blk_frozen BK103.out 2
      have hfz10_3 := blk_frozen BK103.out 3
      have p104 : 0 ≤ (x6_1 : Int) := of_decide_eq_true (by first | (with_reducible assumption) | assumption)
      have q104 : x6_1 < (l0_3.length : Int) := of_decide_eq_true (by first | (with_reducible assumption) | assumption)
      obtain ⟨ad104, A104_7, c104_7, A104_8, c104_8, e104, hx104_0, hx104_1, hx104_2, hx104_3, hx104_4, hx104_5, hx104_6, hx104_7, hx104_8, hx104_9, hl104_7, hi104_7, hl104_8, hi104_8⟩ := at_T46 HR0_3.out x6_1 p104 q104
      cases e104
      replace hx104_0 := (HB.out.cell (World.block_lt_of_cell? w _ hx104_0)).trans hx104_0
      replace hx104_1 := (HB.out.cell (World.block_lt_of_cell? w _ hx104_1)).trans hx104_1
      replace hx104_2 := (HB.out.cell (World.block_lt_of_cell? w _ hx104_2)).trans hx104_2
      replace hx104_3 := (HB.out.cell (World.block_lt_of_cell? w _ hx104_3)).trans hx104_3
      replace hx104_4 := (HB.out.cell (World.block_lt_of_cell? w _ hx104_4)).trans hx104_4
      replace hx104_5 := (HB.out.cell (World.block_lt_of_cell? w _ hx104_5)).trans hx104_5
      replace hx104_6 := (HB.out.cell (World.block_lt_of_cell? w _ hx104_6)).trans hx104_6
      replace hx104_7 := (HB.out.cell (World.block_lt_of_cell? w _ hx104_7)).trans hx104_7
      replace hx104_8 := (HB.out.cell (World.block_lt_of_cell? w _ hx104_8)).trans hx104_8
      replace hx104_9 := (HB.out.cell (World.block_lt_of_cell? w _ hx104_9)).trans hx104_9
      have HR104_7 := Aside0.mk hi104_7
      have HC104_7 := Aside0.mk hl104_7
      clear hi104_7 hl104_7
      have HR104_8 := Aside0.mk hi104_8
      have HC104_8 := Aside0.mk hl104_8
      clear hi104_8 hl104_8
      replace p104 := eq_true p104
      replace q104 := eq_true q104
      go_wp2
      go_roundg k1
      case measure => have := HK1.out; omega
      case rel => exact ⟨(x5_1), (wrap64 (x6_1 + 1)), (by first | rfl | (simp; done) | (simp [*]; done)), (by first | rfl | (simp; done) | (simp [*]; done)), H', ⟨by have := HK1.out; omega⟩, ⟨by (with_reducible repeat (first | refine blk_drewN ?_ _ | refine blk_drew ?_ | refine blk_alloc ?_ _)); exact BK103.out⟩, ⟨by repeat (with_reducible first | exact HB.out | apply below_alloc | apply pw_below_drewN | apply below_drew1 | refine below_set ?_ GE103.out)⟩⟩
    ·rw [if_neg c5] at H
     exact absurd H (by simp)
   ·rw [if_neg c4] at H
    have c4b0 : decide (x6_1 < (l0_3.length : Int)) = false := decide_eq_false c4
    clear c4
    obtain rfl := Option.some.inj H
    have hcz11_0 : wr.cell? ⟨gb103, 0, none⟩ = some (.int .i64 a0_0) := (blk_cell BK103.out 0).trans rfl
    have hcz11_1 : wr.cell? ⟨gb103, 1, none⟩ = some (.int .i64 a0_1) := (blk_cell BK103.out 1).trans rfl
    have hcz11_2 : wr.cell? ⟨gb103, 2, none⟩ = some (.int .i64 a0_2) := (blk_cell BK103.out 2).trans rfl
    have hcz11_3 : wr.cell? ⟨gb103, 3, none⟩ = some (.slice A0_3 l0_3.length c0_3) := (blk_cell BK103.out 3).trans rfl
    have hfz11_0 := blk_frozen BK103.out 0
    have hfz11_1 := blk_frozen BK103.out 1
    have hfz11_2 := blk_frozen BK103.out 2
    have hfz11_3 := blk_frozen BK103.out 3
    go_wp2
    go_ret
    exact ⟨by first | rfl | (simp [errW_none, errW_some] <;> rfl) | (simp [*, errW_none, errW_some] <;> rfl), by repeat (with_reducible first | exact HB.out | apply below_alloc | apply pw_below_drewN | apply below_drew1 | refine below_set ?_ GE103.out)⟩

/-! ### roadsteadref16_above: function 38 -/
def roadsteadref16_above.l0 : Nat → Int → Int → Int → Int → Int → Int → List (S46) → Option (Int)
 | 0, _, _, _, _, _, _, _ => none
 | k + 1, x1, x5, x6, x106000, x106001, x106002, x106003 => if x6 < (x106003.length : Int) then (if 0 ≤ x6 then (if ((rd_T46 x106003 x6).f0) ≥ 0 then (if ((rd_T46 x106003 x6).f0) > x1 then (if x5 < 0 then (roadsteadref16_above.l0 k x1 ((rd_T46 x106003 x6).f0) (wrap64 (x6 + 1)) x106000 x106001 x106002 x106003) else (if ((rd_T46 x106003 x6).f0) < x5 then (roadsteadref16_above.l0 k x1 ((rd_T46 x106003 x6).f0) (wrap64 (x6 + 1)) x106000 x106001 x106002 x106003) else (roadsteadref16_above.l0 k x1 x5 (wrap64 (x6 + 1)) x106000 x106001 x106002 x106003))) else (roadsteadref16_above.l0 k x1 x5 (wrap64 (x6 + 1)) x106000 x106001 x106002 x106003)) else (roadsteadref16_above.l0 k x1 x5 (wrap64 (x6 + 1)) x106000 x106001 x106002 x106003)) else (none)) else (some x5)
def roadsteadref16_above.f (k : Nat) (a0_0 : Int) (a0_1 : Int) (a0_2 : Int) (l0_3 : List (S46)) (a1 : Int) : Option (Int) := roadsteadref16_above.l0 k a1 (-1) 0 a0_0 a0_1 a0_2 l0_3
theorem roadsteadref16_above.mono_l : ∀ k, (∀ y0 y1 y2 y3 y4 y5 y6, LeO (roadsteadref16_above.l0 k y0 y1 y2 y3 y4 y5 y6) (roadsteadref16_above.l0 (k + 1) y0 y1 y2 y3 y4 y5 y6))
 | 0 => fun _ _ _ _ _ _ _ r h => by simp [roadsteadref16_above.l0] at h
 | k + 1 => by
  have ih0 := roadsteadref16_above.mono_l k
  ·intro y0 y1 y2 y3 y4 y5 y6
   unfold roadsteadref16_above.l0
   repeat' first
   | (with_reducible exact ih0 _ _ _ _ _ _ _)
   | (with_reducible exact LeO.refl _)
   | (with_reducible exact LeO.none _)
   | (with_reducible refine LeO.ite ?_ ?_)
   | (with_reducible refine LeO.bind ?_ (fun _ => ?_))
   | exact ih0 _ _ _ _ _ _ _
   | exact LeO.none _
   | refine LeO.ite ?_ ?_
   | refine LeO.bind ?_ (fun _ => ?_)
theorem roadsteadref16_above.mono : ∀ a0 a1 a2 a3 a4 k, LeO (roadsteadref16_above.f k a0 a1 a2 a3 a4) (roadsteadref16_above.f (k + 1) a0 a1 a2 a3 a4) := by
 intro a0 a1 a2 a3 a4 k
 have ih0 := roadsteadref16_above.mono_l k
 unfold roadsteadref16_above.f
 repeat' first
  | (with_reducible exact ih0 _ _ _ _ _ _ _)
  | (with_reducible exact LeO.refl _)
  | (with_reducible exact LeO.none _)
  | (with_reducible refine LeO.ite ?_ ?_)
  | (with_reducible refine LeO.bind ?_ (fun _ => ?_))
  | exact ih0 _ _ _ _ _ _ _
  | exact LeO.none _
  | refine LeO.ite ?_ ?_
  | refine LeO.bind ?_ (fun _ => ?_)
set_option maxHeartbeats 8000000 in
set_option maxRecDepth 100000 in
theorem roadsteadref16_above.calls (k : Nat) (a0_0 : Int) (a0_1 : Int) (a0_2 : Int) (A0_3 : Option Addr) (c0_3 : Nat) (l0_3 : List (S46)) (a1 : Int) (r : Int) (w : World) (hr0_3 : Kd.C k46 w A0_3 l0_3.length l0_3) (hc0_3 : l0_3.length ≤ c0_3) (h : roadsteadref16_above.f k a0_0 a0_1 a0_2 l0_3 a1 = some r) :
 Calls Try.prog 38 #[.agg #[.int .i64 a0_0, .int .i64 a0_1, .int .i64 a0_2, .slice A0_3 l0_3.length c0_3], .int .i64 a1] w fun e w' => e = .returned (.int .i64 r) ∧ Below w.heap.size w w' := by
 have hu34 := Try.underlying34
 have HR0_3 := Aside0.mk hr0_3
 have HC0_3 := Aside0.mk hc0_3
 clear hr0_3 hc0_3
 have HB := Aside0.mk (Below.refl w.heap.size w)
 have H : (roadsteadref16_above.l0 k a1 (-1) 0 a0_0 a0_1 a0_2 l0_3) = some r := h
 clear h
 have H' := Aside0.mk H
 clear H
 go_enter Try.func38, Try.ntmps38
 go_wp2_with (first | ((with_reducible refine gate_dst (N := 2) rfl ?_); refine box_event ?hg (N := 2) ?hd (cs := #[.int .i64 a0_0, .int .i64 a0_1, .int .i64 a0_2, .slice A0_3 l0_3.length c0_3]) (t := 34) ?hr ?_; (case hd => rfl); (case hg => rfl); (case hr => first | (go_simp; done) | (go_simp; rfl)); intro gb105 hg w3 hbox hb; have n0_ := Aside0.mk (below_step (by repeat (with_reducible first | exact HB.out | apply below_alloc | apply pw_below_drewN | apply below_drew1)) hb); have n1_ := Aside0.mk (hbox); have n2_ := Aside0.mk ((by rw [hg]; exact (below_size (by repeat (with_reducible first | exact HB.out | apply below_alloc | apply pw_below_drewN | apply below_drew1))) : w.heap.size ≤ gb105)); have n3_ := Aside0.mk ((by rw [hg]; exact (below_size (by repeat (with_reducible first | exact HB.out | apply below_alloc | apply pw_below_drewN | apply below_drew1))) : w.heap.size ≤ gb105)); clear HB; have HB := n0_; have BK105 := n1_; have GW105 := n2_; have GE105 := n3_; clear n0_ n1_ n2_ n3_; clear hb hbox hg))
 go_loopg [5, 6] k (fun kq v5 v6 w' => ∃ (x5_1 : Int) (x6_1 : Int), v5 = .int .i64 x5_1 ∧ v6 = .int .i64 x6_1 ∧ Aside0 (roadsteadref16_above.l0 kq a1 x5_1 x6_1 a0_0 a0_1 a0_2 l0_3 = some r) ∧ Aside0 (kq ≤ k) ∧ Aside0 (w'.heap[gb105]? = some (.cells #[.int .i64 a0_0, .int .i64 a0_1, .int .i64 a0_2, (.slice A0_3 l0_3.length c0_3)] 34 (0, 0))) ∧ Aside0 (Below w.heap.size w w'))
 case atStart => exact ⟨((-1)), (0), (by first | rfl | (simp; done) | (simp [*]; done)), (by first | rfl | (simp; done) | (simp [*]; done)), H', ⟨Nat.le_refl _⟩, ⟨by (with_reducible repeat (first | refine blk_drewN ?_ _ | refine blk_drew ?_ | refine blk_alloc ?_ _)); exact BK105.out⟩, ⟨by repeat (with_reducible first | exact HB.out | apply below_alloc | apply pw_below_drewN | apply below_drew1 | refine below_set ?_ GE105.out)⟩⟩
 case round =>
  clear H'
  try clear p2
  try clear c3
  obtain ⟨x5_1, x6_1, rfl, rfl, HA, HK1, BK105, HB⟩ := hrel
  cases gk with
  | zero => exact absurd HA.out (by simp [roadsteadref16_above.l0])
  | succ k1 =>
   have H := HA.out
   clear HA
   simp only [roadsteadref16_above.l0] at H
   by_cases c4 : x6_1 < (l0_3.length : Int)
   ·rw [if_pos c4] at H
    have c4b0 : decide (x6_1 < (l0_3.length : Int)) = true := decide_eq_true c4
    clear c4
    by_cases c5 : 0 ≤ x6_1
    ·rw [if_pos c5] at H
     have c5b0 : decide (0 ≤ x6_1) = true := decide_eq_true c5
     clear c5
     by_cases c6 : ((rd_T46 l0_3 x6_1).f0) ≥ 0
     ·rw [if_pos c6] at H
      have c6b0 : decide (0 ≤ ((rd_T46 l0_3 x6_1).f0)) = true := decide_eq_true c6
      clear c6
      by_cases c7 : ((rd_T46 l0_3 x6_1).f0) > a1
      ·rw [if_pos c7] at H
       have c7b0 : decide (a1 < ((rd_T46 l0_3 x6_1).f0)) = true := decide_eq_true c7
       clear c7
       by_cases c8 : x5_1 < 0
       ·rw [if_pos c8] at H
        have c8b0 : decide (x5_1 < 0) = true := decide_eq_true c8
        clear c8
        have H' := Aside0.mk H
        clear H
        have hcz9_0 : wr.cell? ⟨gb105, 0, none⟩ = some (.int .i64 a0_0) := (blk_cell BK105.out 0).trans rfl
        have hcz9_1 : wr.cell? ⟨gb105, 1, none⟩ = some (.int .i64 a0_1) := (blk_cell BK105.out 1).trans rfl
        have hcz9_2 : wr.cell? ⟨gb105, 2, none⟩ = some (.int .i64 a0_2) := (blk_cell BK105.out 2).trans rfl
        have hcz9_3 : wr.cell? ⟨gb105, 3, none⟩ = some (.slice A0_3 l0_3.length c0_3) := (blk_cell BK105.out 3).trans rfl
        have hfz9_0 := blk_frozen BK105.out 0
        have hfz9_1 := blk_frozen BK105.out 1
        have hfz9_2 := blk_frozen BK105.out 2
        have hfz9_3 := blk_frozen BK105.out 3
        have p106 : 0 ≤ (x6_1 : Int) := of_decide_eq_true (by first | (with_reducible assumption) | assumption)
        have q106 : x6_1 < (l0_3.length : Int) := of_decide_eq_true (by first | (with_reducible assumption) | assumption)
        obtain ⟨ad106, A106_7, c106_7, A106_8, c106_8, e106, hx106_0, hx106_1, hx106_2, hx106_3, hx106_4, hx106_5, hx106_6, hx106_7, hx106_8, hx106_9, hl106_7, hi106_7, hl106_8, hi106_8⟩ := at_T46 HR0_3.out x6_1 p106 q106
        cases e106
        replace hx106_0 := (HB.out.cell (World.block_lt_of_cell? w _ hx106_0)).trans hx106_0
        replace hx106_1 := (HB.out.cell (World.block_lt_of_cell? w _ hx106_1)).trans hx106_1
        replace hx106_2 := (HB.out.cell (World.block_lt_of_cell? w _ hx106_2)).trans hx106_2
        replace hx106_3 := (HB.out.cell (World.block_lt_of_cell? w _ hx106_3)).trans hx106_3
        replace hx106_4 := (HB.out.cell (World.block_lt_of_cell? w _ hx106_4)).trans hx106_4
        replace hx106_5 := (HB.out.cell (World.block_lt_of_cell? w _ hx106_5)).trans hx106_5
        replace hx106_6 := (HB.out.cell (World.block_lt_of_cell? w _ hx106_6)).trans hx106_6
        replace hx106_7 := (HB.out.cell (World.block_lt_of_cell? w _ hx106_7)).trans hx106_7
        replace hx106_8 := (HB.out.cell (World.block_lt_of_cell? w _ hx106_8)).trans hx106_8
        replace hx106_9 := (HB.out.cell (World.block_lt_of_cell? w _ hx106_9)).trans hx106_9
        have HR106_7 := Aside0.mk hi106_7
        have HC106_7 := Aside0.mk hl106_7
        clear hi106_7 hl106_7
        have HR106_8 := Aside0.mk hi106_8
        have HC106_8 := Aside0.mk hl106_8
        clear hi106_8 hl106_8
        replace p106 := eq_true p106
        replace q106 := eq_true q106
        go_wp2
        go_roundg k1
        case measure => have := HK1.out; omega
        case rel => exact ⟨((rd_T46 l0_3 x6_1).f0), (wrap64 (x6_1 + 1)), (by first | rfl | (simp; done) | (simp [*]; done)), (by first | rfl | (simp; done) | (simp [*]; done)), H', ⟨by have := HK1.out; omega⟩, ⟨by (with_reducible repeat (first | refine blk_drewN ?_ _ | refine blk_drew ?_ | refine blk_alloc ?_ _)); exact BK105.out⟩, ⟨by repeat (with_reducible first | exact HB.out | apply below_alloc | apply pw_below_drewN | apply below_drew1 | refine below_set ?_ GE105.out)⟩⟩
       ·rw [if_neg c8] at H
        have c8b0 : decide (x5_1 < 0) = false := decide_eq_false c8
        clear c8
        by_cases c10 : ((rd_T46 l0_3 x6_1).f0) < x5_1
        ·rw [if_pos c10] at H
         have c10b0 : decide (((rd_T46 l0_3 x6_1).f0) < x5_1) = true := decide_eq_true c10
         clear c10
         have H' := Aside0.mk H
         clear H
         have hcz11_0 : wr.cell? ⟨gb105, 0, none⟩ = some (.int .i64 a0_0) := (blk_cell BK105.out 0).trans rfl
         have hcz11_1 : wr.cell? ⟨gb105, 1, none⟩ = some (.int .i64 a0_1) := (blk_cell BK105.out 1).trans rfl
         have hcz11_2 : wr.cell? ⟨gb105, 2, none⟩ = some (.int .i64 a0_2) := (blk_cell BK105.out 2).trans rfl
         have hcz11_3 : wr.cell? ⟨gb105, 3, none⟩ = some (.slice A0_3 l0_3.length c0_3) := (blk_cell BK105.out 3).trans rfl
         have hfz11_0 := blk_frozen BK105.out 0
         have hfz11_1 := blk_frozen BK105.out 1
         have hfz11_2 := blk_frozen BK105.out 2
         have hfz11_3 := blk_frozen BK105.out 3
         have p106 : 0 ≤ (x6_1 : Int) := of_decide_eq_true (by first | (with_reducible assumption) | assumption)
         have q106 : x6_1 < (l0_3.length : Int) := of_decide_eq_true (by first | (with_reducible assumption) | assumption)
         obtain ⟨ad106, A106_7, c106_7, A106_8, c106_8, e106, hx106_0, hx106_1, hx106_2, hx106_3, hx106_4, hx106_5, hx106_6, hx106_7, hx106_8, hx106_9, hl106_7, hi106_7, hl106_8, hi106_8⟩ := at_T46 HR0_3.out x6_1 p106 q106
         cases e106
         replace hx106_0 := (HB.out.cell (World.block_lt_of_cell? w _ hx106_0)).trans hx106_0
         replace hx106_1 := (HB.out.cell (World.block_lt_of_cell? w _ hx106_1)).trans hx106_1
         replace hx106_2 := (HB.out.cell (World.block_lt_of_cell? w _ hx106_2)).trans hx106_2
         replace hx106_3 := (HB.out.cell (World.block_lt_of_cell? w _ hx106_3)).trans hx106_3
         replace hx106_4 := (HB.out.cell (World.block_lt_of_cell? w _ hx106_4)).trans hx106_4
         replace hx106_5 := (HB.out.cell (World.block_lt_of_cell? w _ hx106_5)).trans hx106_5
         replace hx106_6 := (HB.out.cell (World.block_lt_of_cell? w _ hx106_6)).trans hx106_6
         replace hx106_7 := (HB.out.cell (World.block_lt_of_cell? w _ hx106_7)).trans hx106_7
         replace hx106_8 := (HB.out.cell (World.block_lt_of_cell? w _ hx106_8)).trans hx106_8
         replace hx106_9 := (HB.out.cell (World.block_lt_of_cell? w _ hx106_9)).trans hx106_9
         have HR106_7 := Aside0.mk hi106_7
         have HC106_7 := Aside0.mk hl106_7
         clear hi106_7 hl106_7
         have HR106_8 := Aside0.mk hi106_8
         have HC106_8 := Aside0.mk hl106_8
         clear hi106_8 hl106_8
         replace p106 := eq_true p106
         replace q106 := eq_true q106
         go_wp2
         go_roundg k1
         case measure => have := HK1.out; omega
         case rel => exact ⟨((rd_T46 l0_3 x6_1).f0), (wrap64 (x6_1 + 1)), (by first | rfl | (simp; done) | (simp [*]; done)), (by first | rfl | (simp; done) | (simp [*]; done)), H', ⟨by have := HK1.out; omega⟩, ⟨by (with_reducible repeat (first | refine blk_drewN ?_ _ | refine blk_drew ?_ | refine blk_alloc ?_ _)); exact BK105.out⟩, ⟨by repeat (with_reducible first | exact HB.out | apply below_alloc | apply pw_below_drewN | apply below_drew1 | refine below_set ?_ GE105.out)⟩⟩
        ·rw [if_neg c10] at H
         have c10b0 : decide (((rd_T46 l0_3 x6_1).f0) < x5_1) = false := decide_eq_false c10
         clear c10
         have H' := Aside0.mk H
         clear H
         have hcz12_0 : wr.cell? ⟨gb105, 0, none⟩ = some (.int .i64 a0_0) := (blk_cell BK105.out 0).trans rfl
         have hcz12_1 : wr.cell? ⟨gb105, 1, none⟩ = some (.int .i64 a0_1) := (blk_cell BK105.out 1).trans rfl
         have hcz12_2 : wr.cell? ⟨gb105, 2, none⟩ = some (.int .i64 a0_2) := (blk_cell BK105.out 2).trans rfl
         have hcz12_3 : wr.cell? ⟨gb105, 3, none⟩ = some (.slice A0_3 l0_3.length c0_3) := (blk_cell BK105.out 3).trans rfl
         have hfz12_0 := blk_frozen BK105.out 0
         have hfz12_1 := blk_frozen BK105.out 1
         have hfz12_2 := blk_frozen BK105.out 2
         have hfz12_3 := blk_frozen BK105.out 3
         have p106 : 0 ≤ (x6_1 : Int) := of_decide_eq_true (by first | (with_reducible assumption) | assumption)
         have q106 : x6_1 < (l0_3.length : Int) := of_decide_eq_true (by first | (with_reducible assumption) | assumption)
         obtain ⟨ad106, A106_7, c106_7, A106_8, c106_8, e106, hx106_0, hx106_1, hx106_2, hx106_3, hx106_4, hx106_5, hx106_6, hx106_7, hx106_8, hx106_9, hl106_7, hi106_7, hl106_8, hi106_8⟩ := at_T46 HR0_3.out x6_1 p106 q106
         cases e106
         replace hx106_0 := (HB.out.cell (World.block_lt_of_cell? w _ hx106_0)).trans hx106_0
         replace hx106_1 := (HB.out.cell (World.block_lt_of_cell? w _ hx106_1)).trans hx106_1
         replace hx106_2 := (HB.out.cell (World.block_lt_of_cell? w _ hx106_2)).trans hx106_2
         replace hx106_3 := (HB.out.cell (World.block_lt_of_cell? w _ hx106_3)).trans hx106_3
         replace hx106_4 := (HB.out.cell (World.block_lt_of_cell? w _ hx106_4)).trans hx106_4
         replace hx106_5 := (HB.out.cell (World.block_lt_of_cell? w _ hx106_5)).trans hx106_5
         replace hx106_6 := (HB.out.cell (World.block_lt_of_cell? w _ hx106_6)).trans hx106_6
         replace hx106_7 := (HB.out.cell (World.block_lt_of_cell? w _ hx106_7)).trans hx106_7
         replace hx106_8 := (HB.out.cell (World.block_lt_of_cell? w _ hx106_8)).trans hx106_8
         replace hx106_9 := (HB.out.cell (World.block_lt_of_cell? w _ hx106_9)).trans hx106_9
         have HR106_7 := Aside0.mk hi106_7
         have HC106_7 := Aside0.mk hl106_7
         clear hi106_7 hl106_7
         have HR106_8 := Aside0.mk hi106_8
         have HC106_8 := Aside0.mk hl106_8
         clear hi106_8 hl106_8
         replace p106 := eq_true p106
         replace q106 := eq_true q106
         go_wp2
         go_roundg k1
         case measure => have := HK1.out; omega
         case rel => exact ⟨(x5_1), (wrap64 (x6_1 + 1)), (by first | rfl | (simp; done) | (simp [*]; done)), (by first | rfl | (simp; done) | (simp [*]; done)), H', ⟨by have := HK1.out; omega⟩, ⟨by (with_reducible repeat (first | refine blk_drewN ?_ _ | refine blk_drew ?_ | refine blk_alloc ?_ _)); exact BK105.out⟩, ⟨by repeat (with_reducible first | exact HB.out | apply below_alloc | apply pw_below_drewN | apply below_drew1 | refine below_set ?_ GE105.out)⟩⟩
      ·rw [if_neg c7] at H
       have c7b0 : decide (a1 < ((rd_T46 l0_3 x6_1).f0)) = false := decide_eq_false c7
       clear c7
       have H' := Aside0.mk H
       clear H
       have hcz13_0 : wr.cell? ⟨gb105, 0, none⟩ = some (.int .i64 a0_0) := (blk_cell BK105.out 0).trans rfl
       have hcz13_1 : wr.cell? ⟨gb105, 1, none⟩ = some (.int .i64 a0_1) := (blk_cell BK105.out 1).trans rfl
       have hcz13_2 : wr.cell? ⟨gb105, 2, none⟩ = some (.int .i64 a0_2) := (blk_cell BK105.out 2).trans rfl
       have hcz13_3 : wr.cell? ⟨gb105, 3, none⟩ = some (.slice A0_3 l0_3.length c0_3) := (blk_cell BK105.out 3).trans rfl
       have hfz13_0 := blk_frozen BK105.out 0
       have hfz13_1 := blk_frozen BK105.out 1
       have hfz13_2 := blk_frozen BK105.out 2
       have hfz13_3 := blk_frozen BK105.out 3
       have p106 : 0 ≤ (x6_1 : Int) := of_decide_eq_true (by first | (with_reducible assumption) | assumption)
       have q106 : x6_1 < (l0_3.length : Int) := of_decide_eq_true (by first | (with_reducible assumption) | assumption)
       obtain ⟨ad106, A106_7, c106_7, A106_8, c106_8, e106, hx106_0, hx106_1, hx106_2, hx106_3, hx106_4, hx106_5, hx106_6, hx106_7, hx106_8, hx106_9, hl106_7, hi106_7, hl106_8, hi106_8⟩ := at_T46 HR0_3.out x6_1 p106 q106
       cases e106
       replace hx106_0 := (HB.out.cell (World.block_lt_of_cell? w _ hx106_0)).trans hx106_0
       replace hx106_1 := (HB.out.cell (World.block_lt_of_cell? w _ hx106_1)).trans hx106_1
       replace hx106_2 := (HB.out.cell (World.block_lt_of_cell? w _ hx106_2)).trans hx106_2
       replace hx106_3 := (HB.out.cell (World.block_lt_of_cell? w _ hx106_3)).trans hx106_3
       replace hx106_4 := (HB.out.cell (World.block_lt_of_cell? w _ hx106_4)).trans hx106_4
       replace hx106_5 := (HB.out.cell (World.block_lt_of_cell? w _ hx106_5)).trans hx106_5
       replace hx106_6 := (HB.out.cell (World.block_lt_of_cell? w _ hx106_6)).trans hx106_6
       replace hx106_7 := (HB.out.cell (World.block_lt_of_cell? w _ hx106_7)).trans hx106_7
       replace hx106_8 := (HB.out.cell (World.block_lt_of_cell? w _ hx106_8)).trans hx106_8
       replace hx106_9 := (HB.out.cell (World.block_lt_of_cell? w _ hx106_9)).trans hx106_9
       have HR106_7 := Aside0.mk hi106_7
       have HC106_7 := Aside0.mk hl106_7
       clear hi106_7 hl106_7
       have HR106_8 := Aside0.mk hi106_8
       have HC106_8 := Aside0.mk hl106_8
       clear hi106_8 hl106_8
       replace p106 := eq_true p106
       replace q106 := eq_true q106
       go_wp2
       go_roundg k1
       case measure => have := HK1.out; omega
       case rel => exact ⟨(x5_1), (wrap64 (x6_1 + 1)), (by first | rfl | (simp; done) | (simp [*]; done)), (by first | rfl | (simp; done) | (simp [*]; done)), H', ⟨by have := HK1.out; omega⟩, ⟨by (with_reducible repeat (first | refine blk_drewN ?_ _ | refine blk_drew ?_ | refine blk_alloc ?_ _)); exact BK105.out⟩, ⟨by repeat (with_reducible first | exact HB.out | apply below_alloc | apply pw_below_drewN | apply below_drew1 | refine below_set ?_ GE105.out)⟩⟩
     ·rw [if_neg c6] at H
      have c6b0 : decide (0 ≤ ((rd_T46 l0_3 x6_1).f0)) = false := decide_eq_false c6
      clear c6
      have H' := Aside0.mk H
      clear H
      have hcz14_0 : wr.cell? ⟨gb105, 0, none⟩ = some (.int .i64 a0_0) := (blk_cell BK105.out 0).trans rfl
      have hcz14_1 : wr.cell? ⟨gb105, 1, none⟩ = some (.int .i64 a0_1) := (blk_cell BK105.out 1).trans rfl
      have hcz14_2 : wr.cell? ⟨gb105, 2, none⟩ = some (.int .i64 a0_2) := (blk_cell BK105.out 2).trans rfl
      have hcz14_3 : wr.cell? ⟨gb105, 3, none⟩ = some (.slice A0_3 l0_3.length c0_3) := (blk_cell BK105.out 3).trans rfl
      have hfz14_0 := blk_frozen BK105.out 0
      have hfz14_1 := blk_frozen BK105.out 1
      have hfz14_2 := blk_frozen BK105.out 2
      have hfz14_3 := blk_frozen BK105.out 3
      have p106 : 0 ≤ (x6_1 : Int) := of_decide_eq_true (by first | (with_reducible assumption) | assumption)
      have q106 : x6_1 < (l0_3.length : Int) := of_decide_eq_true (by first | (with_reducible assumption) | assumption)
      obtain ⟨ad106, A106_7, c106_7, A106_8, c106_8, e106, hx106_0, hx106_1, hx106_2, hx106_3, hx106_4, hx106_5, hx106_6, hx106_7, hx106_8, hx106_9, hl106_7, hi106_7, hl106_8, hi106_8⟩ := at_T46 HR0_3.out x6_1 p106 q106
      cases e106
      replace hx106_0 := (HB.out.cell (World.block_lt_of_cell? w _ hx106_0)).trans hx106_0
      replace hx106_1 := (HB.out.cell (World.block_lt_of_cell? w _ hx106_1)).trans hx106_1
      replace hx106_2 := (HB.out.cell (World.block_lt_of_cell? w _ hx106_2)).trans hx106_2
      replace hx106_3 := (HB.out.cell (World.block_lt_of_cell? w _ hx106_3)).trans hx106_3
      replace hx106_4 := (HB.out.cell (World.block_lt_of_cell? w _ hx106_4)).trans hx106_4
      replace hx106_5 := (HB.out.cell (World.block_lt_of_cell? w _ hx106_5)).trans hx106_5
      replace hx106_6 := (HB.out.cell (World.block_lt_of_cell? w _ hx106_6)).trans hx106_6
      replace hx106_7 := (HB.out.cell (World.block_lt_of_cell? w _ hx106_7)).trans hx106_7
      replace hx106_8 := (HB.out.cell (World.block_lt_of_cell? w _ hx106_8)).trans hx106_8
      replace hx106_9 := (HB.out.cell (World.block_lt_of_cell? w _ hx106_9)).trans hx106_9
      have HR106_7 := Aside0.mk hi106_7
      have HC106_7 := Aside0.mk hl106_7
      clear hi106_7 hl106_7
      have HR106_8 := Aside0.mk hi106_8
      have HC106_8 := Aside0.mk hl106_8
      clear hi106_8 hl106_8
      replace p106 := eq_true p106
      replace q106 := eq_true q106
      go_wp2
      go_roundg k1
      case measure => have := HK1.out; omega
      case rel => exact ⟨(x5_1), (wrap64 (x6_1 + 1)), (by first | rfl | (simp; done) | (simp [*]; done)), (by first | rfl | (simp; done) | (simp [*]; done)), H', ⟨by have := HK1.out; omega⟩, ⟨by (with_reducible repeat (first | refine blk_drewN ?_ _ | refine blk_drew ?_ | refine blk_alloc ?_ _)); exact BK105.out⟩, ⟨by repeat (with_reducible first | exact HB.out | apply below_alloc | apply pw_below_drewN | apply below_drew1 | refine below_set ?_ GE105.out)⟩⟩
    ·rw [if_neg c5] at H
     exact absurd H (by simp)
   ·rw [if_neg c4] at H
    have c4b0 : decide (x6_1 < (l0_3.length : Int)) = false := decide_eq_false c4
    clear c4
    obtain rfl := Option.some.inj H
    have hcz15_0 : wr.cell? ⟨gb105, 0, none⟩ = some (.int .i64 a0_0) := (blk_cell BK105.out 0).trans rfl
    have hcz15_1 : wr.cell? ⟨gb105, 1, none⟩ = some (.int .i64 a0_1) := (blk_cell BK105.out 1).trans rfl
    have hcz15_2 : wr.cell? ⟨gb105, 2, none⟩ = some (.int .i64 a0_2) := (blk_cell BK105.out 2).trans rfl
    have hcz15_3 : wr.cell? ⟨gb105, 3, none⟩ = some (.slice A0_3 l0_3.length c0_3) := (blk_cell BK105.out 3).trans rfl
    have hfz15_0 := blk_frozen BK105.out 0
    have hfz15_1 := blk_frozen BK105.out 1
    have hfz15_2 := blk_frozen BK105.out 2
    have hfz15_3 := blk_frozen BK105.out 3
    go_wp2
    go_ret
    exact ⟨by first | rfl | (simp [errW_none, errW_some] <;> rfl) | (simp [*, errW_none, errW_some] <;> rfl), by repeat (with_reducible first | exact HB.out | apply below_alloc | apply pw_below_drewN | apply below_drew1 | refine below_set ?_ GE105.out)⟩

end Go.Proofs.Ytajfefjmfelnbaa.VWalk
