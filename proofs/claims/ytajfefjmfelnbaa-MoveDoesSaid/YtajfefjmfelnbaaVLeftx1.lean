/- Printed (wip/gprint.py). -/
import Derived.Test.YtajfefjmfelnbaaVLeftx0
namespace Go.Proofs.Ytajfefjmfelnbaa.VLeft
open Go.RowKit Go.Proofs.Ytajfefjmfelnbaa.BState Go.Proofs.Ytajfefjmfelnbaa.VWalk Go.Proofs.YtajfefjmfelnbaaW.PrintWords Go.Proofs.YtajfefjmfelnbaaW.PrintLast Go.Proofs.YtajfefjmfelnbaaW.PrintMore
attribute [local go_sem] max2_int min2_int max_two min_two max_three min_three max_four min_four   -- for this text's walks alone
set_option linter.unusedVariables false
set_option linter.unusedSimpArgs false

/-! ### roadsteadref16_Left: function 32 -/
def roadsteadref16_Left.l0 : Nat → Int → Int → Int → Int → Bool → Int → Int → Int → List (S46) → Option (Int)
 | 0, _, _, _, _, _, _, _, _, _ => none
 | k + 1, x5, x111000, x111001, x111002, x111003, x112000, x112001, x112002, x112003 => (roadsteadref16_Step.f k x111000 x111001 x111002 x111003 x112000 x112001 x112002 x112003).bind fun bt112 => (if bt112.2.2.2.2 = true then (roadsteadref16_Left.l0 k (wrap64 (x5 + 1)) bt112.1 bt112.2.1 bt112.2.2.1 bt112.2.2.2.1 x112000 x112001 x112002 x112003) else (some x5))
def roadsteadref16_Left.f (k : Nat) (a0_0 : Int) (a0_1 : Int) (a0_2 : Int) (a0_3 : Bool) (a1_0 : Int) (a1_1 : Int) (a1_2 : Int) (l1_3 : List (S46)) : Option (Int) := roadsteadref16_Left.l0 k 0 a0_0 a0_1 a0_2 a0_3 a1_0 a1_1 a1_2 l1_3
theorem roadsteadref16_Left.mono_l : ∀ k, (∀ y0 y1 y2 y3 y4 y5 y6 y7 y8, LeO (roadsteadref16_Left.l0 k y0 y1 y2 y3 y4 y5 y6 y7 y8) (roadsteadref16_Left.l0 (k + 1) y0 y1 y2 y3 y4 y5 y6 y7 y8))
 | 0 => fun _ _ _ _ _ _ _ _ _ r h => by simp [roadsteadref16_Left.l0] at h
 | k + 1 => by
  have ih0 := roadsteadref16_Left.mono_l k
  ·intro y0 y1 y2 y3 y4 y5 y6 y7 y8
   unfold roadsteadref16_Left.l0
   repeat' first
   | (with_reducible exact ih0 _ _ _ _ _ _ _ _ _)
   | (with_reducible exact roadsteadref16_Step.mono _ _ _ _ _ _ _ _ _)
   | (with_reducible exact LeO.refl _)
   | (with_reducible exact LeO.none _)
   | (with_reducible refine LeO.ite ?_ ?_)
   | (with_reducible refine LeO.bind ?_ (fun _ => ?_))
   | exact ih0 _ _ _ _ _ _ _ _ _
   | exact roadsteadref16_Step.mono _ _ _ _ _ _ _ _ _
   | exact LeO.none _
   | refine LeO.ite ?_ ?_
   | refine LeO.bind ?_ (fun _ => ?_)
theorem roadsteadref16_Left.mono : ∀ a0 a1 a2 a3 a4 a5 a6 a7 k, LeO (roadsteadref16_Left.f k a0 a1 a2 a3 a4 a5 a6 a7) (roadsteadref16_Left.f (k + 1) a0 a1 a2 a3 a4 a5 a6 a7) := by
 intro a0 a1 a2 a3 a4 a5 a6 a7 k
 have ih0 := roadsteadref16_Left.mono_l k
 unfold roadsteadref16_Left.f
 repeat' first
  | (with_reducible exact ih0 _ _ _ _ _ _ _ _ _)
  | (with_reducible exact roadsteadref16_Step.mono _ _ _ _ _ _ _ _ _)
  | (with_reducible exact LeO.refl _)
  | (with_reducible exact LeO.none _)
  | (with_reducible refine LeO.ite ?_ ?_)
  | (with_reducible refine LeO.bind ?_ (fun _ => ?_))
  | exact ih0 _ _ _ _ _ _ _ _ _
  | exact roadsteadref16_Step.mono _ _ _ _ _ _ _ _ _
  | exact LeO.none _
  | refine LeO.ite ?_ ?_
  | refine LeO.bind ?_ (fun _ => ?_)
set_option maxHeartbeats 8000000 in
set_option maxRecDepth 100000 in
theorem roadsteadref16_Left.calls (k : Nat) (a0_0 : Int) (a0_1 : Int) (a0_2 : Int) (a0_3 : Bool) (a1_0 : Int) (a1_1 : Int) (a1_2 : Int) (A1_3 : Option Addr) (c1_3 : Nat) (l1_3 : List (S46)) (r : Int) (w : World) (hr1_3 : Kd.C k46 w A1_3 l1_3.length l1_3) (hc1_3 : l1_3.length ≤ c1_3) (h : roadsteadref16_Left.f k a0_0 a0_1 a0_2 a0_3 a1_0 a1_1 a1_2 l1_3 = some r) :
 Calls Try.prog 32 #[.agg #[.int .i64 a0_0, .int .i64 a0_1, .int .i64 a0_2, .bool a0_3], .agg #[.int .i64 a1_0, .int .i64 a1_1, .int .i64 a1_2, .slice A1_3 l1_3.length c1_3]] w fun e w' => e = .returned (.int .i64 r) ∧ Below w.heap.size w w' := by
 have hu23 := Try.underlying23
 have hu34 := Try.underlying34
 have HR1_3 := Aside0.mk hr1_3
 have HC1_3 := Aside0.mk hc1_3
 clear hr1_3 hc1_3
 have HB := Aside0.mk (Below.refl w.heap.size w)
 have H : (roadsteadref16_Left.l0 k 0 a0_0 a0_1 a0_2 a0_3 a1_0 a1_1 a1_2 l1_3) = some r := h
 clear h
 have H' := Aside0.mk H
 clear H
 go_enter Try.func32, Try.ntmps32
 go_wp2_with (first | ((with_reducible refine gate_dst (N := 2) rfl ?_); refine box_event ?hg (N := 2) ?hd (cs := #[.int .i64 a0_0, .int .i64 a0_1, .int .i64 a0_2, .bool a0_3]) (t := 23) ?hr ?_; (case hd => rfl); (case hg => rfl); (case hr => first | (go_simp; done) | (go_simp; rfl)); intro gb110 hg w3 hbox hb; have n0_ := Aside0.mk (below_step (by repeat (with_reducible first | exact HB.out | apply below_alloc | apply pw_below_drewN | apply below_drew1)) hb); have n1_ := Aside0.mk (hbox); have n2_ := Aside0.mk ((by rw [hg]; exact (below_size (by repeat (with_reducible first | exact HB.out | apply below_alloc | apply pw_below_drewN | apply below_drew1))) : w.heap.size ≤ gb110)); have n3_ := Aside0.mk ((by rw [hg]; exact (below_size (by repeat (with_reducible first | exact HB.out | apply below_alloc | apply pw_below_drewN | apply below_drew1))) : w.heap.size ≤ gb110)); clear HB; have HB := n0_; have BK110 := n1_; have GW110 := n2_; have GE110 := n3_; clear n0_ n1_ n2_ n3_; clear hb hbox hg) | ((with_reducible refine gate_dst (N := 3) rfl ?_); refine box_event ?hg (N := 3) ?hd (cs := #[.int .i64 a1_0, .int .i64 a1_1, .int .i64 a1_2, .slice A1_3 l1_3.length c1_3]) (t := 34) ?hr ?_; (case hd => rfl); (case hg => rfl); (case hr => first | (go_simp; done) | (go_simp; rfl)); intro gb111 hg w4 hbox hb; have n0_ := Aside0.mk (blk_below (g := gb110) (o := .cells #[.int .i64 a0_0, .int .i64 a0_1, .int .i64 a0_2, .bool a0_3] 23 (0, 0)) (by (with_reducible repeat (first | refine blk_drewN ?_ _ | refine blk_drew ?_ | refine blk_alloc ?_ _)); exact BK110.out) hb); have n1_ := Aside0.mk (below_step (by repeat (with_reducible first | exact HB.out | apply below_alloc | apply pw_below_drewN | apply below_drew1 | refine below_set ?_ GE110.out)) hb); have n2_ := Aside0.mk (hbox); have n3_ := Aside0.mk ((by rw [hg]; exact (below_size (by repeat (with_reducible first | exact HB.out | apply below_alloc | apply pw_below_drewN | apply below_drew1 | refine below_set ?_ GE110.out))) : w.heap.size ≤ gb111)); have n4_ := Aside0.mk ((by rw [hg]; exact (below_size (by repeat (with_reducible first | exact HB.out | apply below_alloc | apply pw_below_drewN | apply below_drew1 | refine below_set ?_ GE110.out))) : w.heap.size ≤ gb111)); have n5_ := Aside0.mk ((by rw [hg]; exact Nat.ne_of_lt (blk_lt (g := gb110) (o := .cells #[.int .i64 a0_0, .int .i64 a0_1, .int .i64 a0_2, .bool a0_3] 23 (0, 0)) (by (with_reducible repeat (first | refine blk_drewN ?_ _ | refine blk_drew ?_ | refine blk_alloc ?_ _)); exact BK110.out)) : gb110 ≠ gb111)); have n6_ := Aside0.mk ((by rw [hg]; exact Nat.ne_of_gt (blk_lt (g := gb110) (o := .cells #[.int .i64 a0_0, .int .i64 a0_1, .int .i64 a0_2, .bool a0_3] 23 (0, 0)) (by (with_reducible repeat (first | refine blk_drewN ?_ _ | refine blk_drew ?_ | refine blk_alloc ?_ _)); exact BK110.out)) : gb111 ≠ gb110)); clear BK110; clear HB; have BK110 := n0_; have HB := n1_; have BK111 := n2_; have GW111 := n3_; have GE111 := n4_; have NB110_111 := n5_; have NB111_110 := n6_; clear n0_ n1_ n2_ n3_ n4_ n5_ n6_; clear hb hbox hg))
 go_loopg [5] k (fun kq v5 w' => ∃ (x5_1 : Int) (x111000_1 : Int) (x111001_1 : Int) (x111002_1 : Int) (x111003_1 : Bool), v5 = .int .i64 x5_1 ∧ Aside0 (roadsteadref16_Left.l0 kq x5_1 x111000_1 x111001_1 x111002_1 x111003_1 a1_0 a1_1 a1_2 l1_3 = some r) ∧ Aside0 (kq ≤ k) ∧ Aside0 (w'.heap[gb110]? = some (.cells #[.int .i64 x111000_1, .int .i64 x111001_1, .int .i64 x111002_1, .bool x111003_1] 23 (0, 0))) ∧ Aside0 (w'.heap[gb111]? = some (.cells #[.int .i64 a1_0, .int .i64 a1_1, .int .i64 a1_2, (.slice A1_3 l1_3.length c1_3)] 34 (0, 0))) ∧ Aside0 (Below w.heap.size w w'))
 case atStart => exact ⟨(0), (a0_0), (a0_1), (a0_2), (a0_3), (by first | rfl | (simp; done) | (simp [*]; done)), H', ⟨Nat.le_refl _⟩, ⟨by (with_reducible repeat (first | refine blk_drewN ?_ _ | refine blk_drew ?_ | refine blk_alloc ?_ _)); exact BK110.out⟩, ⟨by (with_reducible repeat (first | refine blk_drewN ?_ _ | refine blk_drew ?_ | refine blk_alloc ?_ _)); exact BK111.out⟩, ⟨by repeat (with_reducible first | exact HB.out | apply below_alloc | apply pw_below_drewN | apply below_drew1 | refine below_set ?_ GE110.out | refine below_set ?_ GE111.out)⟩⟩
 case round =>
  clear H'
  try clear c1
  try clear p2
  try clear c3
  obtain ⟨x5_1, x111000_1, x111001_1, x111002_1, x111003_1, rfl, HA, HK1, BK110, BK111, HB⟩ := hrel
  cases gk with
  | zero => exact absurd HA.out (by simp [roadsteadref16_Left.l0])
  | succ k1 =>
   have H := HA.out
   clear HA
   simp only [roadsteadref16_Left.l0] at H
   replace H := Option.bind_eq_some_iff.mp H
   obtain ⟨⟨t112, t113, t114, t115, t116⟩, A50, H⟩ := H
   replace H : (if t116 = true then (roadsteadref16_Left.l0 k1 (wrap64 (x5_1 + 1)) t112 t113 t114 t115 a1_0 a1_1 a1_2 l1_3) else (some x5_1)) = some r := H
   have A5 := Aside0.mk A50
   clear A50
   by_cases c6 : t116 = true
   ·subst c6
    have H1 : (roadsteadref16_Left.l0 k1 (wrap64 (x5_1 + 1)) t112 t113 t114 t115 a1_0 a1_1 a1_2 l1_3) = some r := by rw [if_pos rfl] at H; exact H
    clear H
    have H := H1
    clear H1
    have H' := Aside0.mk H
    clear H
    have hnb7 := NB110_111.out
    have hnc7 := NB111_110.out
    have hcz8_0 : wr.cell? ⟨gb110, 0, none⟩ = some (.int .i64 x111000_1) := (blk_cell BK110.out 0).trans rfl
    have hcz8_1 : wr.cell? ⟨gb110, 1, none⟩ = some (.int .i64 x111001_1) := (blk_cell BK110.out 1).trans rfl
    have hcz8_2 : wr.cell? ⟨gb110, 2, none⟩ = some (.int .i64 x111002_1) := (blk_cell BK110.out 2).trans rfl
    have hcz8_3 : wr.cell? ⟨gb110, 3, none⟩ = some (.bool x111003_1) := (blk_cell BK110.out 3).trans rfl
    have hfz8_0 := blk_frozen BK110.out 0
    have hfz8_1 := blk_frozen BK110.out 1
    have hfz8_2 := blk_frozen BK110.out 2
    have hfz8_3 := blk_frozen BK110.out 3
    have hcz9_0 : wr.cell? ⟨gb111, 0, none⟩ = some (.int .i64 a1_0) := (blk_cell BK111.out 0).trans rfl
    have hcz9_1 : wr.cell? ⟨gb111, 1, none⟩ = some (.int .i64 a1_1) := (blk_cell BK111.out 1).trans rfl
    have hcz9_2 : wr.cell? ⟨gb111, 2, none⟩ = some (.int .i64 a1_2) := (blk_cell BK111.out 2).trans rfl
    have hcz9_3 : wr.cell? ⟨gb111, 3, none⟩ = some (.slice A1_3 l1_3.length c1_3) := (blk_cell BK111.out 3).trans rfl
    have hfz9_0 := blk_frozen BK111.out 0
    have hfz9_1 := blk_frozen BK111.out 1
    have hfz9_2 := blk_frozen BK111.out 2
    have hfz9_3 := blk_frozen BK111.out 3
    go_wp2_with (first | ((with_reducible refine gate_callee (f := 30) rfl ?_); refine goesL_ (some 11) rfl rfl Try.func30 (by kernel_rfl) rfl #[.agg #[.int .i64 x111000_1, .int .i64 x111001_1, .int .i64 x111002_1, .bool x111003_1], .agg #[.int .i64 a1_0, .int .i64 a1_1, .int .i64 a1_2, .slice A1_3 l1_3.length c1_3]] rfl (by (try simp only [List.map_toArray, List.map_cons, List.map_nil]); first | done | rfl) ?_; (with_reducible refine (roadsteadref16_Step.calls k1 x111000_1 x111001_1 x111002_1 x111003_1 a1_0 a1_1 a1_2 _ _ l1_3 t112 t113 t114 t115 true _ ?side1 ?side2 A5.out).mono ?_); (case side1 => repeat (first | exact (Kd.C_below HR1_3.out HB.out) | (with_reducible refine Kd.C_alloc ?_ _) | (with_reducible refine Kd.C_drewN ?_ _) | (with_reducible refine Kd.C_drew ?_))); (case side2 => exact HC1_3.out); rintro e w10 ⟨rfl, hb⟩; refine ⟨_, rfl, ?_⟩; have n0_ := Aside0.mk (blk_below (g := gb110) (o := .cells #[.int .i64 x111000_1, .int .i64 x111001_1, .int .i64 x111002_1, .bool x111003_1] 23 (0, 0)) (by (with_reducible repeat (first | refine blk_drewN ?_ _ | refine blk_drew ?_ | refine blk_alloc ?_ _)); exact BK110.out) hb); have n1_ := Aside0.mk (blk_below (g := gb111) (o := .cells #[.int .i64 a1_0, .int .i64 a1_1, .int .i64 a1_2, .slice A1_3 l1_3.length c1_3] 34 (0, 0)) (by (with_reducible repeat (first | refine blk_drewN ?_ _ | refine blk_drew ?_ | refine blk_alloc ?_ _)); exact BK111.out) hb); have n2_ := Aside0.mk (below_step (by repeat (with_reducible first | exact HB.out | apply below_alloc | apply pw_below_drewN | apply below_drew1 | refine below_set ?_ GE110.out | refine below_set ?_ GE111.out)) hb); clear BK110; clear BK111; clear HB; have BK110 := n0_; have BK111 := n1_; have HB := n2_; clear n0_ n1_ n2_; (try clear hb)) | ((with_reducible refine gate_dst (N := 6) rfl ?_); refine box_event ?hg (N := 6) ?hd (cs := #[.int .i64 0, .int .i64 0, .int .i64 0, .bool false]) (t := 23) ?hr ?_; (case hd => rfl); (case hg => rfl); (case hr => first | (go_simp; done) | (go_simp; rfl)); intro gb117 hg w11 hbox hb; have n0_ := Aside0.mk (blk_below (g := gb110) (o := .cells #[.int .i64 x111000_1, .int .i64 x111001_1, .int .i64 x111002_1, .bool x111003_1] 23 (0, 0)) (by (with_reducible repeat (first | refine blk_drewN ?_ _ | refine blk_drew ?_ | refine blk_alloc ?_ _)); exact BK110.out) hb); have n1_ := Aside0.mk (blk_below (g := gb111) (o := .cells #[.int .i64 a1_0, .int .i64 a1_1, .int .i64 a1_2, .slice A1_3 l1_3.length c1_3] 34 (0, 0)) (by (with_reducible repeat (first | refine blk_drewN ?_ _ | refine blk_drew ?_ | refine blk_alloc ?_ _)); exact BK111.out) hb); have n2_ := Aside0.mk (below_step (by repeat (with_reducible first | exact HB.out | apply below_alloc | apply pw_below_drewN | apply below_drew1 | refine below_set ?_ GE110.out | refine below_set ?_ GE111.out)) hb); have n3_ := Aside0.mk (hbox); have n4_ := Aside0.mk ((by rw [hg]; exact (below_size (by repeat (with_reducible first | exact HB.out | apply below_alloc | apply pw_below_drewN | apply below_drew1 | refine below_set ?_ GE110.out | refine below_set ?_ GE111.out))) : w.heap.size ≤ gb117)); have n5_ := Aside0.mk ((by rw [hg]; exact (below_size (by repeat (with_reducible first | exact HB.out | apply below_alloc | apply pw_below_drewN | apply below_drew1 | refine below_set ?_ GE110.out | refine below_set ?_ GE111.out))) : w.heap.size ≤ gb117)); have n6_ := Aside0.mk ((by rw [hg]; exact Nat.ne_of_lt (blk_lt (g := gb110) (o := .cells #[.int .i64 x111000_1, .int .i64 x111001_1, .int .i64 x111002_1, .bool x111003_1] 23 (0, 0)) (by (with_reducible repeat (first | refine blk_drewN ?_ _ | refine blk_drew ?_ | refine blk_alloc ?_ _)); exact BK110.out)) : gb110 ≠ gb117)); have n7_ := Aside0.mk ((by rw [hg]; exact Nat.ne_of_gt (blk_lt (g := gb110) (o := .cells #[.int .i64 x111000_1, .int .i64 x111001_1, .int .i64 x111002_1, .bool x111003_1] 23 (0, 0)) (by (with_reducible repeat (first | refine blk_drewN ?_ _ | refine blk_drew ?_ | refine blk_alloc ?_ _)); exact BK110.out)) : gb117 ≠ gb110)); have n8_ := Aside0.mk ((by rw [hg]; exact Nat.ne_of_lt (blk_lt (g := gb111) (o := .cells #[.int .i64 a1_0, .int .i64 a1_1, .int .i64 a1_2, .slice A1_3 l1_3.length c1_3] 34 (0, 0)) (by (with_reducible repeat (first | refine blk_drewN ?_ _ | refine blk_drew ?_ | refine blk_alloc ?_ _)); exact BK111.out)) : gb111 ≠ gb117)); have n9_ := Aside0.mk ((by rw [hg]; exact Nat.ne_of_gt (blk_lt (g := gb111) (o := .cells #[.int .i64 a1_0, .int .i64 a1_1, .int .i64 a1_2, .slice A1_3 l1_3.length c1_3] 34 (0, 0)) (by (with_reducible repeat (first | refine blk_drewN ?_ _ | refine blk_drew ?_ | refine blk_alloc ?_ _)); exact BK111.out)) : gb117 ≠ gb111)); clear BK110; clear BK111; clear HB; have BK110 := n0_; have BK111 := n1_; have HB := n2_; have BK117 := n3_; have GW117 := n4_; have GE117 := n5_; have NB110_117 := n6_; have NB117_110 := n7_; have NB111_117 := n8_; have NB117_111 := n9_; clear n0_ n1_ n2_ n3_ n4_ n5_ n6_ n7_ n8_ n9_; clear hb hbox hg; have hnb12 := NB117_110.out; have hnc12 := NB110_117.out; have hnb13 := NB117_111.out; have hnc13 := NB111_117.out; have hcz14_0 : w11.cell? ⟨gb117, 0, none⟩ = some (.int .i64 0) := (blk_cell BK117.out 0).trans rfl; have hcz14_1 : w11.cell? ⟨gb117, 1, none⟩ = some (.int .i64 0) := (blk_cell BK117.out 1).trans rfl; have hcz14_2 : w11.cell? ⟨gb117, 2, none⟩ = some (.int .i64 0) := (blk_cell BK117.out 2).trans rfl; have hcz14_3 : w11.cell? ⟨gb117, 3, none⟩ = some (.bool false) := (blk_cell BK117.out 3).trans rfl; have hfz14_0 := blk_frozen BK117.out 0; have hfz14_1 := blk_frozen BK117.out 1; have hfz14_2 := blk_frozen BK117.out 2; have hfz14_3 := blk_frozen BK117.out 3; have hcz15_0 : w11.cell? ⟨gb110, 0, none⟩ = some (.int .i64 x111000_1) := (blk_cell BK110.out 0).trans rfl; have hcz15_1 : w11.cell? ⟨gb110, 1, none⟩ = some (.int .i64 x111001_1) := (blk_cell BK110.out 1).trans rfl; have hcz15_2 : w11.cell? ⟨gb110, 2, none⟩ = some (.int .i64 x111002_1) := (blk_cell BK110.out 2).trans rfl; have hcz15_3 : w11.cell? ⟨gb110, 3, none⟩ = some (.bool x111003_1) := (blk_cell BK110.out 3).trans rfl; have hfz15_0 := blk_frozen BK110.out 0; have hfz15_1 := blk_frozen BK110.out 1; have hfz15_2 := blk_frozen BK110.out 2; have hfz15_3 := blk_frozen BK110.out 3))
    go_roundg k1
    case measure => have := HK1.out; omega
    case rel => exact ⟨(wrap64 (x5_1 + 1)), (t112), (t113), (t114), (t115), (by first | rfl | (simp; done) | (simp [*]; done)), H', ⟨by have := HK1.out; omega⟩, ⟨by (with_reducible repeat (first | refine blk_drewN ?_ _ | refine blk_drew ?_ | refine blk_alloc ?_ _)); refine blk_put (cs := #[.int .i64 t112, .int .i64 t113, .int .i64 t114, .bool x111003_1]) ?_ 3 _ rfl; refine blk_put (cs := #[.int .i64 t112, .int .i64 t113, .int .i64 x111002_1, .bool x111003_1]) ?_ 2 _ rfl; refine blk_put (cs := #[.int .i64 t112, .int .i64 x111001_1, .int .i64 x111002_1, .bool x111003_1]) ?_ 1 _ rfl; refine blk_put (cs := #[.int .i64 x111000_1, .int .i64 x111001_1, .int .i64 x111002_1, .bool x111003_1]) ?_ 0 _ rfl; refine blk_far ?_ NB110_117.out _; refine blk_far ?_ NB110_117.out _; refine blk_far ?_ NB110_117.out _; refine blk_far ?_ NB110_117.out _; exact BK110.out⟩, ⟨by (with_reducible repeat (first | refine blk_drewN ?_ _ | refine blk_drew ?_ | refine blk_alloc ?_ _)); refine blk_far ?_ NB111_110.out _; refine blk_far ?_ NB111_110.out _; refine blk_far ?_ NB111_110.out _; refine blk_far ?_ NB111_110.out _; refine blk_far ?_ NB111_117.out _; refine blk_far ?_ NB111_117.out _; refine blk_far ?_ NB111_117.out _; refine blk_far ?_ NB111_117.out _; exact BK111.out⟩, ⟨by repeat (with_reducible first | exact HB.out | apply below_alloc | apply pw_below_drewN | apply below_drew1 | refine below_set ?_ GE110.out | refine below_set ?_ GE111.out | refine below_set ?_ GE117.out)⟩⟩
   ·replace c6 := Bool.eq_false_iff.mpr c6
    subst c6
    have H1 : (some x5_1) = some r := by rw [if_neg (show ¬ (false = true) by decide)] at H; exact H
    clear H
    have H := H1
    clear H1
    obtain rfl := Option.some.inj H
    have hnb16 := NB110_111.out
    have hnc16 := NB111_110.out
    have hcz17_0 : wr.cell? ⟨gb110, 0, none⟩ = some (.int .i64 x111000_1) := (blk_cell BK110.out 0).trans rfl
    have hcz17_1 : wr.cell? ⟨gb110, 1, none⟩ = some (.int .i64 x111001_1) := (blk_cell BK110.out 1).trans rfl
    have hcz17_2 : wr.cell? ⟨gb110, 2, none⟩ = some (.int .i64 x111002_1) := (blk_cell BK110.out 2).trans rfl
    have hcz17_3 : wr.cell? ⟨gb110, 3, none⟩ = some (.bool x111003_1) := (blk_cell BK110.out 3).trans rfl
    have hfz17_0 := blk_frozen BK110.out 0
    have hfz17_1 := blk_frozen BK110.out 1
    have hfz17_2 := blk_frozen BK110.out 2
    have hfz17_3 := blk_frozen BK110.out 3
    have hcz18_0 : wr.cell? ⟨gb111, 0, none⟩ = some (.int .i64 a1_0) := (blk_cell BK111.out 0).trans rfl
    have hcz18_1 : wr.cell? ⟨gb111, 1, none⟩ = some (.int .i64 a1_1) := (blk_cell BK111.out 1).trans rfl
    have hcz18_2 : wr.cell? ⟨gb111, 2, none⟩ = some (.int .i64 a1_2) := (blk_cell BK111.out 2).trans rfl
    have hcz18_3 : wr.cell? ⟨gb111, 3, none⟩ = some (.slice A1_3 l1_3.length c1_3) := (blk_cell BK111.out 3).trans rfl
    have hfz18_0 := blk_frozen BK111.out 0
    have hfz18_1 := blk_frozen BK111.out 1
    have hfz18_2 := blk_frozen BK111.out 2
    have hfz18_3 := blk_frozen BK111.out 3
    go_wp2_with (first | ((with_reducible refine gate_callee (f := 30) rfl ?_); refine goesL_ (some 11) rfl rfl Try.func30 (by kernel_rfl) rfl #[.agg #[.int .i64 x111000_1, .int .i64 x111001_1, .int .i64 x111002_1, .bool x111003_1], .agg #[.int .i64 a1_0, .int .i64 a1_1, .int .i64 a1_2, .slice A1_3 l1_3.length c1_3]] rfl (by (try simp only [List.map_toArray, List.map_cons, List.map_nil]); first | done | rfl) ?_; (with_reducible refine (roadsteadref16_Step.calls k1 x111000_1 x111001_1 x111002_1 x111003_1 a1_0 a1_1 a1_2 _ _ l1_3 t112 t113 t114 t115 false _ ?side1 ?side2 A5.out).mono ?_); (case side1 => repeat (first | exact (Kd.C_below HR1_3.out HB.out) | (with_reducible refine Kd.C_alloc ?_ _) | (with_reducible refine Kd.C_drewN ?_ _) | (with_reducible refine Kd.C_drew ?_))); (case side2 => exact HC1_3.out); rintro e w19 ⟨rfl, hb⟩; refine ⟨_, rfl, ?_⟩; have n0_ := Aside0.mk (blk_below (g := gb110) (o := .cells #[.int .i64 x111000_1, .int .i64 x111001_1, .int .i64 x111002_1, .bool x111003_1] 23 (0, 0)) (by (with_reducible repeat (first | refine blk_drewN ?_ _ | refine blk_drew ?_ | refine blk_alloc ?_ _)); exact BK110.out) hb); have n1_ := Aside0.mk (blk_below (g := gb111) (o := .cells #[.int .i64 a1_0, .int .i64 a1_1, .int .i64 a1_2, .slice A1_3 l1_3.length c1_3] 34 (0, 0)) (by (with_reducible repeat (first | refine blk_drewN ?_ _ | refine blk_drew ?_ | refine blk_alloc ?_ _)); exact BK111.out) hb); have n2_ := Aside0.mk (below_step (by repeat (with_reducible first | exact HB.out | apply below_alloc | apply pw_below_drewN | apply below_drew1 | refine below_set ?_ GE110.out | refine below_set ?_ GE111.out)) hb); clear BK110; clear BK111; clear HB; have BK110 := n0_; have BK111 := n1_; have HB := n2_; clear n0_ n1_ n2_; (try clear hb)) | ((with_reducible refine gate_dst (N := 6) rfl ?_); refine box_event ?hg (N := 6) ?hd (cs := #[.int .i64 0, .int .i64 0, .int .i64 0, .bool false]) (t := 23) ?hr ?_; (case hd => rfl); (case hg => rfl); (case hr => first | (go_simp; done) | (go_simp; rfl)); intro gb117 hg w20 hbox hb; have n0_ := Aside0.mk (blk_below (g := gb110) (o := .cells #[.int .i64 x111000_1, .int .i64 x111001_1, .int .i64 x111002_1, .bool x111003_1] 23 (0, 0)) (by (with_reducible repeat (first | refine blk_drewN ?_ _ | refine blk_drew ?_ | refine blk_alloc ?_ _)); exact BK110.out) hb); have n1_ := Aside0.mk (blk_below (g := gb111) (o := .cells #[.int .i64 a1_0, .int .i64 a1_1, .int .i64 a1_2, .slice A1_3 l1_3.length c1_3] 34 (0, 0)) (by (with_reducible repeat (first | refine blk_drewN ?_ _ | refine blk_drew ?_ | refine blk_alloc ?_ _)); exact BK111.out) hb); have n2_ := Aside0.mk (below_step (by repeat (with_reducible first | exact HB.out | apply below_alloc | apply pw_below_drewN | apply below_drew1 | refine below_set ?_ GE110.out | refine below_set ?_ GE111.out)) hb); have n3_ := Aside0.mk (hbox); have n4_ := Aside0.mk ((by rw [hg]; exact (below_size (by repeat (with_reducible first | exact HB.out | apply below_alloc | apply pw_below_drewN | apply below_drew1 | refine below_set ?_ GE110.out | refine below_set ?_ GE111.out))) : w.heap.size ≤ gb117)); have n5_ := Aside0.mk ((by rw [hg]; exact (below_size (by repeat (with_reducible first | exact HB.out | apply below_alloc | apply pw_below_drewN | apply below_drew1 | refine below_set ?_ GE110.out | refine below_set ?_ GE111.out))) : w.heap.size ≤ gb117)); have n6_ := Aside0.mk ((by rw [hg]; exact Nat.ne_of_lt (blk_lt (g := gb110) (o := .cells #[.int .i64 x111000_1, .int .i64 x111001_1, .int .i64 x111002_1, .bool x111003_1] 23 (0, 0)) (by (with_reducible repeat (first | refine blk_drewN ?_ _ | refine blk_drew ?_ | refine blk_alloc ?_ _)); exact BK110.out)) : gb110 ≠ gb117)); have n7_ := Aside0.mk ((by rw [hg]; exact Nat.ne_of_gt (blk_lt (g := gb110) (o := .cells #[.int .i64 x111000_1, .int .i64 x111001_1, .int .i64 x111002_1, .bool x111003_1] 23 (0, 0)) (by (with_reducible repeat (first | refine blk_drewN ?_ _ | refine blk_drew ?_ | refine blk_alloc ?_ _)); exact BK110.out)) : gb117 ≠ gb110)); have n8_ := Aside0.mk ((by rw [hg]; exact Nat.ne_of_lt (blk_lt (g := gb111) (o := .cells #[.int .i64 a1_0, .int .i64 a1_1, .int .i64 a1_2, .slice A1_3 l1_3.length c1_3] 34 (0, 0)) (by (with_reducible repeat (first | refine blk_drewN ?_ _ | refine blk_drew ?_ | refine blk_alloc ?_ _)); exact BK111.out)) : gb111 ≠ gb117)); have n9_ := Aside0.mk ((by rw [hg]; exact Nat.ne_of_gt (blk_lt (g := gb111) (o := .cells #[.int .i64 a1_0, .int .i64 a1_1, .int .i64 a1_2, .slice A1_3 l1_3.length c1_3] 34 (0, 0)) (by (with_reducible repeat (first | refine blk_drewN ?_ _ | refine blk_drew ?_ | refine blk_alloc ?_ _)); exact BK111.out)) : gb117 ≠ gb111)); clear BK110; clear BK111; clear HB; have BK110 := n0_; have BK111 := n1_; have HB := n2_; have BK117 := n3_; have GW117 := n4_; have GE117 := n5_; have NB110_117 := n6_; have NB117_110 := n7_; have NB111_117 := n8_; have NB117_111 := n9_; clear n0_ n1_ n2_ n3_ n4_ n5_ n6_ n7_ n8_ n9_; clear hb hbox hg; have hnb21 := NB117_110.out; have hnc21 := NB110_117.out; have hnb22 := NB117_111.out; have hnc22 := NB111_117.out; have hcz23_0 : w20.cell? ⟨gb117, 0, none⟩ = some (.int .i64 0) := (blk_cell BK117.out 0).trans rfl; have hcz23_1 : w20.cell? ⟨gb117, 1, none⟩ = some (.int .i64 0) := (blk_cell BK117.out 1).trans rfl; have hcz23_2 : w20.cell? ⟨gb117, 2, none⟩ = some (.int .i64 0) := (blk_cell BK117.out 2).trans rfl; have hcz23_3 : w20.cell? ⟨gb117, 3, none⟩ = some (.bool false) := (blk_cell BK117.out 3).trans rfl; have hfz23_0 := blk_frozen BK117.out 0; have hfz23_1 := blk_frozen BK117.out 1; have hfz23_2 := blk_frozen BK117.out 2; have hfz23_3 := blk_frozen BK117.out 3))
    go_ret
    exact ⟨by first | rfl | (simp [errW_none, errW_some] <;> rfl) | (simp [*, errW_none, errW_some] <;> rfl), by repeat (with_reducible first | exact HB.out | apply below_alloc | apply pw_below_drewN | apply below_drew1 | refine below_set ?_ GE110.out | refine below_set ?_ GE111.out | refine below_set ?_ GE117.out)⟩

end Go.Proofs.Ytajfefjmfelnbaa.VLeft
