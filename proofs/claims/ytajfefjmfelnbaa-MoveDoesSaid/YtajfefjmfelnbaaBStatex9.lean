/- Printed (wip/gprint.py). -/
import Derived.Test.YtajfefjmfelnbaaBStatex0
import Derived.Test.YtajfefjmfelnbaaBStatex1
import Derived.Test.YtajfefjmfelnbaaBStatex5
import Derived.Test.YtajfefjmfelnbaaBStatex6
import Derived.Test.YtajfefjmfelnbaaBStatex7
import Derived.Test.YtajfefjmfelnbaaBStatex8
namespace Go.Proofs.Ytajfefjmfelnbaa.BState
open Go.RowKit Go.Proofs.YtajfefjmfelnbaaW.PrintWords Go.Proofs.YtajfefjmfelnbaaW.PrintLast Go.Proofs.YtajfefjmfelnbaaW.PrintMore
attribute [local go_sem] max2_int min2_int max_two min_two max_three min_three max_four min_four   -- for this text's walks alone
set_option linter.unusedVariables false
set_option linter.unusedSimpArgs false

def roadsteadlaw10_State.T8 : Bool × List (List Nat × List Nat) := (true, [([], []), ([], []), ([0, 1], [0, 1]), ([2], [2]), ([3], [3]), ([], []), ([5], [5]), ([4, 6], [4, 6]), ([7], [7]), ([8, 0, 1, 2, 3, 4, 5, 6, 7, 8], [8])])
def roadsteadlaw10_State.B8 : List Nat := [0, 0, 3, 7, 15, 0, 32, 127, 255, 511]
theorem roadsteadlaw10_State.tab8 : rtab .any (opsOf Try.f11 8) = roadsteadlaw10_State.T8 := by kernel_rfl
theorem roadsteadlaw10_State.bits8 : waitsOk roadsteadlaw10_State.T8.2 roadsteadlaw10_State.B8 = true := by kernel_rfl
def roadsteadlaw10_State.T9 : Bool × List (List Nat × List Nat) := (true, [([], []), ([], []), ([], []), ([], []), ([1, 2, 3], [1, 2, 3]), ([], []), ([], []), ([6], [6]), ([], []), ([8], [8]), ([4, 5, 7, 9], [4, 5, 7, 9]), ([0, 10, 10], [0, 10]), ([11, 11, 0, 1, 2, 3, 4, 5, 6, 7, 8, 9, 10, 11], [11])])
def roadsteadlaw10_State.B9 : List Nat := [0, 0, 0, 0, 14, 0, 0, 64, 0, 256, 1022, 2047, 4095]
theorem roadsteadlaw10_State.tab9 : rtab .any (opsOf Try.f11 9) = roadsteadlaw10_State.T9 := by kernel_rfl
theorem roadsteadlaw10_State.bits9 : waitsOk roadsteadlaw10_State.T9.2 roadsteadlaw10_State.B9 = true := by kernel_rfl
set_option maxHeartbeats 8000000 in
set_option maxRecDepth 100000 in
theorem roadsteadlaw10_State.calls (k : Nat) (A0 : Option Addr) (c0 : Nat) (l0 : List Int) (r1 : Int) (r2 : Int) (r3 : Int) (r4 : List (S46)) (w : World) (hr0 : Kd.C (Kd.int .u8) w A0 l0.length l0) (hc0 : l0.length ≤ c0) (h : roadsteadlaw10_State.f k l0 = some (r1, r2, r3, r4)) :
  Calls Try.prog 11 #[.slice A0 l0.length c0] w fun e w' => ∃ v3_ : Value, e = .returned (.agg #[.int .i64 r1, .int .i64 r2, .int .i64 r3, v3_]) ∧ Kd.N k46 46 w' w.heap.size (fun k_ => (w.heap.size ≤ k_)) v3_ r4 ∧ Below w.heap.size w w' := by
 have hu34 := Try.underlying34
 have HR0 := Aside0.mk hr0
 have HC0 := Aside0.mk hc0
 clear hr0 hc0
 have HB := Aside0.mk (Below.refl w.heap.size w)
 have H : ((roadsteadlaw10_g.f l0 0).bind fun t198 => ((roadsteadlaw10_g.f l0 1).bind fun t199 => ((roadsteadlaw10_g.f l0 2).bind fun t200 => (roadsteadlaw10_State.l0 k l0 0 (wrap64 (t198 * 7)) (wrap64 (1 + (wrap64 (Int.tdiv t199 4)))) (Int.tmod t200 8) ([] : List (S46)))))) = some (r1, r2, r3, r4) := h
 clear h
 replace H := Option.bind_eq_some_iff.mp H
 obtain ⟨t198, A20, H⟩ := H
 replace H : ((roadsteadlaw10_g.f l0 1).bind fun t199 => ((roadsteadlaw10_g.f l0 2).bind fun t200 => (roadsteadlaw10_State.l0 k l0 0 (wrap64 (t198 * 7)) (wrap64 (1 + (wrap64 (Int.tdiv t199 4)))) (Int.tmod t200 8) ([] : List (S46))))) = some (r1, r2, r3, r4) := H
 have A2 := Aside0.mk A20
 clear A20
 replace H := Option.bind_eq_some_iff.mp H
 obtain ⟨t199, A30, H⟩ := H
 replace H : ((roadsteadlaw10_g.f l0 2).bind fun t200 => (roadsteadlaw10_State.l0 k l0 0 (wrap64 (t198 * 7)) (wrap64 (1 + (wrap64 (Int.tdiv t199 4)))) (Int.tmod t200 8) ([] : List (S46)))) = some (r1, r2, r3, r4) := H
 have A3 := Aside0.mk A30
 clear A30
 replace H := Option.bind_eq_some_iff.mp H
 obtain ⟨t200, A40, H⟩ := H
 replace H : (roadsteadlaw10_State.l0 k l0 0 (wrap64 (t198 * 7)) (wrap64 (1 + (wrap64 (Int.tdiv t199 4)))) (Int.tmod t200 8) ([] : List (S46))) = some (r1, r2, r3, r4) := H
 have A4 := Aside0.mk A40
 clear A40
 have H' := Aside0.mk H
 clear H
 go_enter Try.func11, Try.ntmps11
 go_wp2_with (first | ((with_reducible refine gate_dst (N := 2) rfl ?_); refine box_event ?hg (N := 2) ?hd (cs := #[.int .i64 0, .int .i64 0, .int .i64 0, .slice none 0 0]) (t := 34) ?hr ?_; (case hd => rfl); (case hg => rfl); (case hr => first | (go_simp; done) | (go_simp; rfl)); intro gb197 hg w5 hbox hb; have n0_ := Aside0.mk (below_step (by repeat (with_reducible first | exact HB.out | apply below_alloc | apply pw_below_drewN | apply below_drew1)) hb); have n1_ := Aside0.mk (hbox); have n2_ := Aside0.mk ((by rw [hg]; exact (below_size (by repeat (with_reducible first | exact HB.out | apply below_alloc | apply pw_below_drewN | apply below_drew1))) : w.heap.size ≤ gb197)); have n3_ := Aside0.mk ((by rw [hg]; exact (below_size (by repeat (with_reducible first | exact HB.out | apply below_alloc | apply pw_below_drewN | apply below_drew1))) : w.heap.size ≤ gb197)); clear HB; have HB := n0_; have BK197 := n1_; have GW197 := n2_; have GE197 := n3_; clear n0_ n1_ n2_ n3_; clear hb hbox hg) | ((with_reducible refine gate_callee (f := 22) rfl ?_); refine goesL_ (some 9) rfl rfl Try.func22 (by kernel_rfl) rfl #[.slice A0 l0.length c0, .int .i64 0] rfl (by (try simp only [List.map_toArray, List.map_cons, List.map_nil]); first | done | rfl) ?_; (with_reducible refine (roadsteadlaw10_g.calls _ _ l0 0 t198 _ ?side1 ?side2 A2.out).mono ?_); (case side1 => repeat (first | exact (Kd.C_below HR0.out HB.out) | (with_reducible refine Kd.C_alloc ?_ _) | (with_reducible refine Kd.C_drewN ?_ _) | (with_reducible refine Kd.C_drew ?_))); (case side2 => exact HC0.out); rintro e w' ⟨rfl, ⟨nd, rfl⟩⟩; refine ⟨_, rfl, ?_⟩; (try (rw [drewN_self w5]; generalize hq_ : World.drewN w5 _ = w5; have n0_ : Aside0 (w5.heap[gb197]? = some (.cells #[.int .i64 0, .int .i64 0, .int .i64 0, .slice none 0 0] 34 (0, 0))) := ⟨by rw [← hq_]; exact (by (with_reducible repeat (first | refine blk_drewN ?_ _ | refine blk_drew ?_ | refine blk_alloc ?_ _)); exact BK197.out)⟩; have n1_ : Aside0 (Below w.heap.size w w5) := ⟨by rw [← hq_]; exact (by repeat (with_reducible first | exact HB.out | apply below_alloc | apply pw_below_drewN | apply below_drew1 | refine below_set ?_ GE197.out))⟩; clear BK197 HB hq_; have BK197 := n0_; have HB := n1_; clear n0_ n1_))) | ((with_reducible refine gate_callee (f := 22) rfl ?_); refine goesL_ (some 12) rfl rfl Try.func22 (by kernel_rfl) rfl #[.slice A0 l0.length c0, .int .i64 1] rfl (by (try simp only [List.map_toArray, List.map_cons, List.map_nil]); first | done | rfl) ?_; (with_reducible refine (roadsteadlaw10_g.calls _ _ l0 1 t199 _ ?side1 ?side2 A3.out).mono ?_); (case side1 => repeat (first | exact (Kd.C_below HR0.out HB.out) | (with_reducible refine Kd.C_alloc ?_ _) | (with_reducible refine Kd.C_drewN ?_ _) | (with_reducible refine Kd.C_drew ?_))); (case side2 => exact HC0.out); rintro e w' ⟨rfl, ⟨nd, rfl⟩⟩; refine ⟨_, rfl, ?_⟩; (try (rw [drewN_self w5]; generalize hq_ : World.drewN w5 _ = w5; have n0_ : Aside0 (w5.heap[gb197]? = some (.cells #[.int .i64 0, .int .i64 0, .int .i64 0, .slice none 0 0] 34 (0, 0))) := ⟨by rw [← hq_]; exact (by (with_reducible repeat (first | refine blk_drewN ?_ _ | refine blk_drew ?_ | refine blk_alloc ?_ _)); exact BK197.out)⟩; have n1_ : Aside0 (Below w.heap.size w w5) := ⟨by rw [← hq_]; exact (by repeat (with_reducible first | exact HB.out | apply below_alloc | apply pw_below_drewN | apply below_drew1 | refine below_set ?_ GE197.out))⟩; clear BK197 HB hq_; have BK197 := n0_; have HB := n1_; clear n0_ n1_))) | ((with_reducible refine gate_callee (f := 22) rfl ?_); refine goesL_ (some 16) rfl rfl Try.func22 (by kernel_rfl) rfl #[.slice A0 l0.length c0, .int .i64 2] rfl (by (try simp only [List.map_toArray, List.map_cons, List.map_nil]); first | done | rfl) ?_; (with_reducible refine (roadsteadlaw10_g.calls _ _ l0 2 t200 _ ?side1 ?side2 A4.out).mono ?_); (case side1 => repeat (first | exact (Kd.C_below HR0.out HB.out) | (with_reducible refine Kd.C_alloc ?_ _) | (with_reducible refine Kd.C_drewN ?_ _) | (with_reducible refine Kd.C_drew ?_))); (case side2 => exact HC0.out); rintro e w' ⟨rfl, ⟨nd, rfl⟩⟩; refine ⟨_, rfl, ?_⟩; (try (rw [drewN_self w5]; generalize hq_ : World.drewN w5 _ = w5; have n0_ : Aside0 (w5.heap[gb197]? = some (.cells #[.int .i64 0, .int .i64 0, .int .i64 0, .slice none 0 0] 34 (0, 0))) := ⟨by rw [← hq_]; exact (by (with_reducible repeat (first | refine blk_drewN ?_ _ | refine blk_drew ?_ | refine blk_alloc ?_ _)); exact BK197.out)⟩; have n1_ : Aside0 (Below w.heap.size w w5) := ⟨by rw [← hq_]; exact (by repeat (with_reducible first | exact HB.out | apply below_alloc | apply pw_below_drewN | apply below_drew1 | refine below_set ?_ GE197.out))⟩; clear BK197 HB hq_; have BK197 := n0_; have HB := n1_; clear n0_ n1_))) | ((with_reducible refine gate_dst (N := 3) rfl ?_); refine box_event ?hg (N := 3) ?hd (cs := #[.int .i64 0, .int .i64 0, .int .i64 0, .slice none 0 0]) (t := 34) ?hr ?_; (case hd => rfl); (case hg => rfl); (case hr => first | (go_simp; done) | (go_simp; rfl)); intro gb201 hg w6 hbox hb; have n0_ := Aside0.mk (blk_below (g := gb197) (o := .cells #[.int .i64 0, .int .i64 0, .int .i64 0, .slice none 0 0] 34 (0, 0)) (by (with_reducible repeat (first | refine blk_drewN ?_ _ | refine blk_drew ?_ | refine blk_alloc ?_ _)); exact BK197.out) hb); have n1_ := Aside0.mk (below_step (by repeat (with_reducible first | exact HB.out | apply below_alloc | apply pw_below_drewN | apply below_drew1 | refine below_set ?_ GE197.out)) hb); have n2_ := Aside0.mk (hbox); have n3_ := Aside0.mk ((by rw [hg]; exact (below_size (by repeat (with_reducible first | exact HB.out | apply below_alloc | apply pw_below_drewN | apply below_drew1 | refine below_set ?_ GE197.out))) : w.heap.size ≤ gb201)); have n4_ := Aside0.mk ((by rw [hg]; exact (below_size (by repeat (with_reducible first | exact HB.out | apply below_alloc | apply pw_below_drewN | apply below_drew1 | refine below_set ?_ GE197.out))) : w.heap.size ≤ gb201)); have n5_ := Aside0.mk ((by rw [hg]; exact Nat.ne_of_lt (blk_lt (g := gb197) (o := .cells #[.int .i64 0, .int .i64 0, .int .i64 0, .slice none 0 0] 34 (0, 0)) (by (with_reducible repeat (first | refine blk_drewN ?_ _ | refine blk_drew ?_ | refine blk_alloc ?_ _)); exact BK197.out)) : gb197 ≠ gb201)); have n6_ := Aside0.mk ((by rw [hg]; exact Nat.ne_of_gt (blk_lt (g := gb197) (o := .cells #[.int .i64 0, .int .i64 0, .int .i64 0, .slice none 0 0] 34 (0, 0)) (by (with_reducible repeat (first | refine blk_drewN ?_ _ | refine blk_drew ?_ | refine blk_alloc ?_ _)); exact BK197.out)) : gb201 ≠ gb197)); clear BK197; clear HB; have BK197 := n0_; have HB := n1_; have BK201 := n2_; have GW201 := n3_; have GE201 := n4_; have NB197_201 := n5_; have NB201_197 := n6_; clear n0_ n1_ n2_ n3_ n4_ n5_ n6_; clear hb hbox hg; have hnb7 := NB201_197.out; have hnc7 := NB197_201.out; have hcz8_0 : w6.cell? ⟨gb201, 0, none⟩ = some (.int .i64 0) := (blk_cell BK201.out 0).trans rfl; have hcz8_1 : w6.cell? ⟨gb201, 1, none⟩ = some (.int .i64 0) := (blk_cell BK201.out 1).trans rfl; have hcz8_2 : w6.cell? ⟨gb201, 2, none⟩ = some (.int .i64 0) := (blk_cell BK201.out 2).trans rfl; have hcz8_3 : w6.cell? ⟨gb201, 3, none⟩ = some (.slice none 0 0) := (blk_cell BK201.out 3).trans rfl; have hfz8_0 := blk_frozen BK201.out 0; have hfz8_1 := blk_frozen BK201.out 1; have hfz8_2 := blk_frozen BK201.out 2; have hfz8_3 := blk_frozen BK201.out 3))
 go_loopg [4] k (fun kq v4 w' => ∃ (x4_1 : Int) (x202000_1 : Int) (x202001_1 : Int) (x202002_1 : Int) (x202003_1 : List (S46)) (u202003 : Value), v4 = .int .i64 x4_1 ∧ Aside0 (roadsteadlaw10_State.l0 kq l0 x4_1 x202000_1 x202001_1 x202002_1 x202003_1 = some (r1, r2, r3, r4)) ∧ Aside0 (kq ≤ k) ∧ Aside0 (Kd.N k46 46 w' w.heap.size (fun k_ => (w.heap.size ≤ k_) ∧ k_ ≠ gb197 ∧ k_ ≠ gb201) u202003 x202003_1) ∧ Aside0 (w'.heap[gb197]? = some (.cells #[.int .i64 0, .int .i64 0, .int .i64 0, (.slice none 0 0)] 34 (0, 0))) ∧ Aside0 (w'.heap[gb201]? = some (.cells #[.int .i64 x202000_1, .int .i64 x202001_1, .int .i64 x202002_1, u202003] 34 (0, 0))) ∧ Aside0 (Below w.heap.size w w'))
 case atStart => exact ⟨(0), (wrap64 (t198 * 7)), (wrap64 (1 + (wrap64 (Int.tdiv t199 4)))), (Int.tmod t200 8), (([] : List (S46))), (.slice none 0 0), (by first | rfl | (simp; done) | (simp [*]; done)), H', ⟨Nat.le_refl _⟩, ⟨by first | exact Kd.S_nil _ _ _ _ _ | exact Kd.N_nil _ _ _ _ _ | exact Kd.V_nil _ _ _ _ _ | exact Kd.Q_nil _ _ _ _ _ | exact Kd.R_nil _ _ _ _ _⟩, ⟨by (with_reducible repeat (first | refine blk_drewN ?_ _ | refine blk_drew ?_ | refine blk_alloc ?_ _)); refine blk_far ?_ NB197_201.out _; refine blk_far ?_ NB197_201.out _; refine blk_far ?_ NB197_201.out _; refine blk_far ?_ NB197_201.out _; exact BK197.out⟩, ⟨by (with_reducible repeat (first | refine blk_drewN ?_ _ | refine blk_drew ?_ | refine blk_alloc ?_ _)); refine blk_put (cs := #[.int .i64 (wrap64 (t198 * 7)), .int .i64 (wrap64 (1 + (wrap64 (Int.tdiv t199 4)))), .int .i64 (Int.tmod t200 8), .slice none 0 0]) ?_ 3 _ rfl; refine blk_put (cs := #[.int .i64 (wrap64 (t198 * 7)), .int .i64 (wrap64 (1 + (wrap64 (Int.tdiv t199 4)))), .int .i64 0, .slice none 0 0]) ?_ 2 _ rfl; refine blk_put (cs := #[.int .i64 (wrap64 (t198 * 7)), .int .i64 0, .int .i64 0, .slice none 0 0]) ?_ 1 _ rfl; refine blk_put (cs := #[.int .i64 0, .int .i64 0, .int .i64 0, .slice none 0 0]) ?_ 0 _ rfl; exact BK201.out⟩, ⟨by repeat (with_reducible first | exact HB.out | apply below_alloc | apply pw_below_drewN | apply below_drew1 | refine below_set ?_ GE197.out | refine below_set ?_ GE201.out)⟩⟩
 case round =>
  clear H'
  try clear c1
  try clear c2
  try clear p2
  try clear p6
  try clear c7
  try clear hcz8_0
  try clear hcz8_1
  try clear hcz8_2
  try clear hcz8_3
  try clear hfz8_0
  try clear hfz8_1
  try clear hfz8_2
  try clear hfz8_3
  obtain ⟨x4_1, x202000_1, x202001_1, x202002_1, x202003_1, u202003, rfl, HA, HK1, HO_202003, BK197, BK201, HB⟩ := hrel
  cases gk with
  | zero => exact absurd HA.out (by simp [roadsteadlaw10_State.l0])
  | succ k1 =>
   have H := HA.out
   clear HA
   simp only [roadsteadlaw10_State.l0] at H
   have HC9 := Aside0.mk H
   clear H
   go_upto_region 3 with (fail)
   go_cut [25] (fun v25 wc => ∃ (kq : Nat) (x25_8 : Bool), v25 = .bool x25_8 ∧ Aside0 (roadsteadlaw10_State.j1 kq l0 x4_1 x25_8 x202000_1 x202001_1 x202002_1 x202003_1 = some (r1, r2, r3, r4)) ∧ Aside0 (kq ≤ k1) ∧ Aside0 (Kd.N k46 46 wc w.heap.size (fun k_ => (w.heap.size ≤ k_) ∧ k_ ≠ gb197 ∧ k_ ≠ gb201) u202003 x202003_1) ∧ Aside0 (wc.heap[gb197]? = some (.cells #[.int .i64 0, .int .i64 0, .int .i64 0, (.slice none 0 0)] 34 (0, 0))) ∧ Aside0 (wc.heap[gb201]? = some (.cells #[.int .i64 x202000_1, .int .i64 x202001_1, .int .i64 x202002_1, u202003] 34 (0, 0))) ∧ Aside0 (Below w.heap.size w wc))
   case first =>
    have H := HC9.out
    clear HC9
    by_cases c10 : x4_1 < 6
    ·rw [if_pos c10] at H
     have c10b0 : decide (x4_1 < 6) = true := decide_eq_true c10
     clear c10
     (first | rw [c10b0] | (simp only [i64_w, i32_w]; rw [c10b0]) | skip)
     have H' := Aside0.mk H
     clear H
     have hnb11 := NB201_197.out
     have hnc11 := NB197_201.out
     have hcz12_0 : wr.cell? ⟨gb201, 0, none⟩ = some (.int .i64 x202000_1) := (blk_cell BK201.out 0).trans rfl
     have hcz12_1 : wr.cell? ⟨gb201, 1, none⟩ = some (.int .i64 x202001_1) := (blk_cell BK201.out 1).trans rfl
     have hcz12_2 : wr.cell? ⟨gb201, 2, none⟩ = some (.int .i64 x202002_1) := (blk_cell BK201.out 2).trans rfl
     have hcz12_3 : wr.cell? ⟨gb201, 3, none⟩ = some (u202003) := (blk_cell BK201.out 3).trans rfl
     have hfz12_0 := blk_frozen BK201.out 0
     have hfz12_1 := blk_frozen BK201.out 1
     have hfz12_2 := blk_frozen BK201.out 2
     have hfz12_3 := blk_frozen BK201.out 3
     go_wp2
     go_meet
     case rel => exact ⟨_, (decide (x202002_1 > 0)), (by first | rfl | (simp; done) | (simp [*]; done)), H', ⟨by have := HK1.out; first | omega | exact Nat.le_refl _⟩, ⟨by (with_reducible repeat (first | apply Kd.N_alloc | apply Kd.N_drewN | apply Kd.N_drew)); exact HO_202003.out⟩, ⟨by (with_reducible repeat (first | refine blk_drewN ?_ _ | refine blk_drew ?_ | refine blk_alloc ?_ _)); exact BK197.out⟩, ⟨by (with_reducible repeat (first | refine blk_drewN ?_ _ | refine blk_drew ?_ | refine blk_alloc ?_ _)); exact BK201.out⟩, ⟨by repeat (with_reducible first | exact HB.out | apply below_alloc | apply pw_below_drewN | apply below_drew1 | refine below_set ?_ GE197.out | refine below_set ?_ GE201.out)⟩⟩
    ·rw [if_neg c10] at H
     have c10b0 : decide (x4_1 < 6) = false := decide_eq_false c10
     clear c10
     (first | rw [c10b0] | (simp only [i64_w, i32_w]; rw [c10b0]) | skip)
     have H' := Aside0.mk H
     clear H
     go_wp2
     go_meet
     case rel => exact ⟨_, (false), (by first | rfl | (simp; done) | (simp [*]; done)), H', ⟨by have := HK1.out; first | omega | exact Nat.le_refl _⟩, ⟨by (with_reducible repeat (first | apply Kd.N_alloc | apply Kd.N_drewN | apply Kd.N_drew)); exact HO_202003.out⟩, ⟨by (with_reducible repeat (first | refine blk_drewN ?_ _ | refine blk_drew ?_ | refine blk_alloc ?_ _)); exact BK197.out⟩, ⟨by (with_reducible repeat (first | refine blk_drewN ?_ _ | refine blk_drew ?_ | refine blk_alloc ?_ _)); exact BK201.out⟩, ⟨by repeat (with_reducible first | exact HB.out | apply below_alloc | apply pw_below_drewN | apply below_drew1 | refine below_set ?_ GE197.out | refine below_set ?_ GE201.out)⟩⟩
   case rest =>
    clear HC9
    try clear c1
    try clear c2
    try clear p2
    try clear p6
    try clear c7
    try clear c10
    try clear c10b0
    try clear c11
    try clear hcz12_0
    try clear hcz12_1
    try clear hcz12_2
    try clear hcz12_3
    try clear hcz8_0
    try clear hcz8_1
    try clear hcz8_2
    try clear hcz8_3
    try clear hfz12_0
    try clear hfz12_1
    try clear hfz12_2
    try clear hfz12_3
    try clear hfz8_0
    try clear hfz8_1
    try clear hfz8_2
    try clear hfz8_3
    try clear p2
    try clear p6
    obtain ⟨kq, x25_8, rfl, HA, HJ8, HO_202003, BK197, BK201, HB⟩ := hcut
    cases kq with
    | zero => exact absurd HA.out (by simp [roadsteadlaw10_State.j1])
    | succ kj8 =>
     have H := HA.out
     clear HA
     simp only [roadsteadlaw10_State.j1] at H
     by_cases c13 : x25_8 = true
     ·subst c13
      have H1 : (if (mn (l0.length : Int) (wrap64 (3 + (wrap64 (24 * x4_1))))) = (mn (l0.length : Int) (wrap64 (27 + (wrap64 (24 * x4_1))))) then (some (x202000_1, x202001_1, x202002_1, x202003_1)) else (if 0 ≤ (mn (l0.length : Int) (wrap64 (3 + (wrap64 (24 * x4_1))))) then (if (mn (l0.length : Int) (wrap64 (3 + (wrap64 (24 * x4_1))))) < (l0.length : Int) then (if x202002_1 = 0 then (none) else (if (mn (l0.length : Int) (wrap64 (3 + (wrap64 (24 * x4_1))))) ≤ (mn (l0.length : Int) (wrap64 (27 + (wrap64 (24 * x4_1))))) then (if (mn (l0.length : Int) (wrap64 (27 + (wrap64 (24 * x4_1))))) ≤ (l0.length : Int) then ((roadsteadlaw10_Sub.f kj8 ((l0.take ((mn (l0.length : Int) (wrap64 (27 + (wrap64 (24 * x4_1))))) : Int).toNat).drop ((mn (l0.length : Int) (wrap64 (3 + (wrap64 (24 * x4_1))))) : Int).toNat) (wrap64 (1 + (Int.tmod (wrap64 (rd l0 (mn (l0.length : Int) (wrap64 (3 + (wrap64 (24 * x4_1))))))) x202002_1))) x202000_1 x202001_1).bind fun bt204 => ((roadsteadref10_Put.f kj8 x202000_1 x202001_1 x202002_1 x202003_1 bt204.1 bt204.2.1 bt204.2.2.1 bt204.2.2.2.1 bt204.2.2.2.2.1 bt204.2.2.2.2.2.1 bt204.2.2.2.2.2.2.1 bt204.2.2.2.2.2.2.2.1 bt204.2.2.2.2.2.2.2.2.1 bt204.2.2.2.2.2.2.2.2.2).bind fun bt218 => (roadsteadlaw10_State.l0 kj8 l0 (wrap64 (x4_1 + 1)) bt218.1 bt218.2.1 bt218.2.2.1 bt218.2.2.2))) else (none)) else (none))) else (none)) else (none))) = some (r1, r2, r3, r4) := by rw [if_pos rfl] at H; exact H
      clear H
      have H := H1
      clear H1
      obtain ⟨ji14, hji14⟩ : ∃ j_ : Int, (mn (l0.length : Int) (wrap64 (3 + (wrap64 (24 * x4_1))))) = j_ := ⟨_, rfl⟩
      replace H : (if (ji14) = (mn (l0.length : Int) (wrap64 (27 + (wrap64 (24 * x4_1))))) then (some (x202000_1, x202001_1, x202002_1, x202003_1)) else (if 0 ≤ (ji14) then (if (ji14) < (l0.length : Int) then (if x202002_1 = 0 then (none) else (if (ji14) ≤ (mn (l0.length : Int) (wrap64 (27 + (wrap64 (24 * x4_1))))) then (if (mn (l0.length : Int) (wrap64 (27 + (wrap64 (24 * x4_1))))) ≤ (l0.length : Int) then ((roadsteadlaw10_Sub.f kj8 ((l0.take ((mn (l0.length : Int) (wrap64 (27 + (wrap64 (24 * x4_1))))) : Int).toNat).drop ((ji14) : Int).toNat) (wrap64 (1 + (Int.tmod (wrap64 (rd l0 (ji14))) x202002_1))) x202000_1 x202001_1).bind fun bt204 => ((roadsteadref10_Put.f kj8 x202000_1 x202001_1 x202002_1 x202003_1 bt204.1 bt204.2.1 bt204.2.2.1 bt204.2.2.2.1 bt204.2.2.2.2.1 bt204.2.2.2.2.2.1 bt204.2.2.2.2.2.2.1 bt204.2.2.2.2.2.2.2.1 bt204.2.2.2.2.2.2.2.2.1 bt204.2.2.2.2.2.2.2.2.2).bind fun bt218 => (roadsteadlaw10_State.l0 kj8 l0 (wrap64 (x4_1 + 1)) bt218.1 bt218.2.1 bt218.2.2.1 bt218.2.2.2))) else (none)) else (none))) else (none)) else (none))) = some (r1, r2, r3, r4) := by first | (rw [hji14] at H; exact H) | (simp only [hji14] at H ⊢; exact H)
      have hji14_ : (if (wrap64 (3 + (wrap64 (24 * x4_1)))) < (l0.length : Int) then (wrap64 (3 + (wrap64 (24 * x4_1)))) else (l0.length : Int)) = ji14 := hji14
      (try (have hji14n := hji14_; simp only [Int.ofNat_lt] at hji14n))
      obtain ⟨ji15, hji15⟩ : ∃ j_ : Int, (mn (l0.length : Int) (wrap64 (27 + (wrap64 (24 * x4_1))))) = j_ := ⟨_, rfl⟩
      replace H : (if (ji14) = (ji15) then (some (x202000_1, x202001_1, x202002_1, x202003_1)) else (if 0 ≤ (ji14) then (if (ji14) < (l0.length : Int) then (if x202002_1 = 0 then (none) else (if (ji14) ≤ (ji15) then (if (ji15) ≤ (l0.length : Int) then ((roadsteadlaw10_Sub.f kj8 ((l0.take ((ji15) : Int).toNat).drop ((ji14) : Int).toNat) (wrap64 (1 + (Int.tmod (wrap64 (rd l0 (ji14))) x202002_1))) x202000_1 x202001_1).bind fun bt204 => ((roadsteadref10_Put.f kj8 x202000_1 x202001_1 x202002_1 x202003_1 bt204.1 bt204.2.1 bt204.2.2.1 bt204.2.2.2.1 bt204.2.2.2.2.1 bt204.2.2.2.2.2.1 bt204.2.2.2.2.2.2.1 bt204.2.2.2.2.2.2.2.1 bt204.2.2.2.2.2.2.2.2.1 bt204.2.2.2.2.2.2.2.2.2).bind fun bt218 => (roadsteadlaw10_State.l0 kj8 l0 (wrap64 (x4_1 + 1)) bt218.1 bt218.2.1 bt218.2.2.1 bt218.2.2.2))) else (none)) else (none))) else (none)) else (none))) = some (r1, r2, r3, r4) := by first | (rw [hji15] at H; exact H) | (simp only [hji15] at H ⊢; exact H)
      have hji15_ : (if (wrap64 (27 + (wrap64 (24 * x4_1)))) < (l0.length : Int) then (wrap64 (27 + (wrap64 (24 * x4_1)))) else (l0.length : Int)) = ji15 := hji15
      (try (have hji15n := hji15_; simp only [Int.ofNat_lt] at hji15n))
      by_cases c16 : (ji14) = (ji15)
      ·rw [if_pos c16] at H
       have c16b0 : ((ji14) == (ji15)) = true := beq_iff_eq.mpr c16
       have c16b1 : ((ji14) != (ji15)) = false := bne_eq_false_iff_eq.mpr c16
       clear c16
       simp only [Option.some.injEq, Prod.mk.injEq] at H
       obtain ⟨rfl, rfl, rfl, rfl⟩ := H
       have hnb17 := NB201_197.out
       have hnc17 := NB197_201.out
       have hcz18_0 : wc.cell? ⟨gb201, 0, none⟩ = some (.int .i64 x202000_1) := (blk_cell BK201.out 0).trans rfl
       have hcz18_1 : wc.cell? ⟨gb201, 1, none⟩ = some (.int .i64 x202001_1) := (blk_cell BK201.out 1).trans rfl
       have hcz18_2 : wc.cell? ⟨gb201, 2, none⟩ = some (.int .i64 x202002_1) := (blk_cell BK201.out 2).trans rfl
       have hcz18_3 : wc.cell? ⟨gb201, 3, none⟩ = some (u202003) := (blk_cell BK201.out 3).trans rfl
       have hfz18_0 := blk_frozen BK201.out 0
       have hfz18_1 := blk_frozen BK201.out 1
       have hfz18_2 := blk_frozen BK201.out 2
       have hfz18_3 := blk_frozen BK201.out 3
       have hcz19_0 : wc.cell? ⟨gb197, 0, none⟩ = some (.int .i64 0) := (blk_cell BK197.out 0).trans rfl
       have hcz19_1 : wc.cell? ⟨gb197, 1, none⟩ = some (.int .i64 0) := (blk_cell BK197.out 1).trans rfl
       have hcz19_2 : wc.cell? ⟨gb197, 2, none⟩ = some (.int .i64 0) := (blk_cell BK197.out 2).trans rfl
       have hcz19_3 : wc.cell? ⟨gb197, 3, none⟩ = some (.slice none 0 0) := (blk_cell BK197.out 3).trans rfl
       have hfz19_0 := blk_frozen BK197.out 0
       have hfz19_1 := blk_frozen BK197.out 1
       have hfz19_2 := blk_frozen BK197.out 2
       have hfz19_3 := blk_frozen BK197.out 3
       obtain ⟨Ao20, co20, eo20⟩ := Kd.N_slice HO_202003.out
       subst eo20
       go_wp2
       refine bodyPost_ret (results_cell_row rfl _ _ gb197 34 #[.int .i64 x202000_1, .int .i64 x202001_1, .int .i64 x202002_1, .slice Ao20 x202003_1.length co20] (0, 0) _ rfl (by (with_reducible repeat (first | refine blk_drewN ?_ _ | refine blk_drew ?_ | refine blk_alloc ?_ _)); refine blk_put (cs := #[.int .i64 x202000_1, .int .i64 x202001_1, .int .i64 x202002_1, .slice none 0 0]) ?_ 3 _ rfl; refine blk_put (cs := #[.int .i64 x202000_1, .int .i64 x202001_1, .int .i64 0, .slice none 0 0]) ?_ 2 _ rfl; refine blk_put (cs := #[.int .i64 x202000_1, .int .i64 0, .int .i64 0, .slice none 0 0]) ?_ 1 _ rfl; refine blk_put (cs := #[.int .i64 0, .int .i64 0, .int .i64 0, .slice none 0 0]) ?_ 0 _ rfl; exact BK197.out) Try.underlying34 rfl (by kernel_rfl)) rfl ?_
       exact ⟨_, by first | rfl | (simp [errW_none, errW_some] <;> rfl) | (simp only [← hji14, ← hji15]; first | rfl | (simp [errW_none, errW_some] <;> rfl)) | (simp [*, errW_none, errW_some] <;> rfl), by (with_reducible repeat (first | apply Kd.N_alloc | apply Kd.N_drewN | apply Kd.N_drew)); exact Kd.N_mono (Kd.N_far (p := ⟨gb197, 3, none⟩) (Kd.N_far (p := ⟨gb197, 2, none⟩) (Kd.N_far (p := ⟨gb197, 1, none⟩) (Kd.N_far (p := ⟨gb197, 0, none⟩) (Kd.N_mono HO_202003.out (fun k_ hk => (⟨hk, hk.2.1⟩ : _ ∧ k_ ≠ gb197))) (fun _ hk => hk.2) (.int .i64 x202000_1)) (fun _ hk => hk.2) (.int .i64 x202001_1)) (fun _ hk => hk.2) (.int .i64 x202002_1)) (fun _ hk => hk.2) (.slice Ao20 x202003_1.length co20)) (fun _ hk => hk.1.1), by repeat (with_reducible first | exact HB.out | apply below_alloc | apply pw_below_drewN | apply below_drew1 | refine below_set ?_ GE197.out | refine below_set ?_ GE201.out)⟩
      ·rw [if_neg c16] at H
       have c16b0 : ((ji14) == (ji15)) = false := beq_eq_false_iff_ne.mpr c16
       have c16b1 : ((ji14) != (ji15)) = true := bne_iff_ne.mpr c16
       by_cases c21 : 0 ≤ (ji14)
       ·rw [if_pos c21] at H
        have c21b0 : decide (0 ≤ (ji14)) = true := decide_eq_true c21
        clear c21
        by_cases c22 : (ji14) < (l0.length : Int)
        ·rw [if_pos c22] at H
         have c22b0 : decide ((ji14) < (l0.length : Int)) = true := decide_eq_true c22
         clear c22
         by_cases c23 : x202002_1 = 0
         ·rw [if_pos c23] at H
          exact absurd H (by simp)
         ·rw [if_neg c23] at H
          have c23b0 : (x202002_1 == 0) = false := beq_eq_false_iff_ne.mpr c23
          have c23b1 : (x202002_1 != 0) = true := bne_iff_ne.mpr c23
          have c24b0 := eq_true (of_decide_eq_true (by first | (with_reducible assumption) | assumption) : 0 ≤ (ji14))
          by_cases c25 : (ji14) ≤ (ji15)
          ·rw [if_pos c25] at H
           have c25b0 := eq_true c25
           have c25b1 : decide ((ji14) ≤ (ji15)) = true := decide_eq_true c25
           clear c25
           by_cases c26 : (ji15) ≤ (l0.length : Int)
           ·rw [if_pos c26] at H
            have c26b0 := eq_true c26
            have c26b1 : decide ((ji15) ≤ (l0.length : Int)) = true := decide_eq_true c26
            clear c26
            replace H := Option.bind_eq_some_iff.mp H
            obtain ⟨⟨t204, t205, t206, t207, t208, t209, t210, t211, t214, t217⟩, A270, H⟩ := H
            replace H : ((roadsteadref10_Put.f kj8 x202000_1 x202001_1 x202002_1 x202003_1 t204 t205 t206 t207 t208 t209 t210 t211 t214 t217).bind fun bt218 => (roadsteadlaw10_State.l0 kj8 l0 (wrap64 (x4_1 + 1)) bt218.1 bt218.2.1 bt218.2.2.1 bt218.2.2.2)) = some (r1, r2, r3, r4) := H
            have A27 := Aside0.mk A270
            clear A270
            replace H := Option.bind_eq_some_iff.mp H
            obtain ⟨⟨t218, t219, t220, t221⟩, A280, H⟩ := H
            replace H : (roadsteadlaw10_State.l0 kj8 l0 (wrap64 (x4_1 + 1)) t218 t219 t220 t221) = some (r1, r2, r3, r4) := H
            have A28 := Aside0.mk A280
            clear A280
            have H' := Aside0.mk H
            clear H
            try go_wp2
            have n0_ := Aside0.mk (Kd.N_drew HO_202003.out)
            have n1_ := Aside0.mk (blk_drew BK197.out)
            have n2_ := Aside0.mk (blk_drew BK201.out)
            have n3_ := Aside0.mk (below_drew1 HB.out)
            clear HO_202003
            clear BK197
            clear BK201
            clear HB
            have HO_202003 := n0_
            have BK197 := n1_
            have BK201 := n2_
            have HB := n3_
            clear n0_ n1_ n2_ n3_
            have p202 : 0 ≤ ((ji14) : Int) := of_decide_eq_true (by first | (with_reducible assumption) | assumption)
            have q202 : (ji14) < (l0.length : Int) := of_decide_eq_true (by first | (with_reducible assumption) | assumption)
            obtain ⟨ad202, e202, hx202_0⟩ := Kd.at_int HR0.out (ji14) p202 q202
            have hw202_0 := hx202_0
            cases e202
            replace hx202_0 := (HB.out.cell (World.block_lt_of_cell? w _ hx202_0)).trans hx202_0
            replace p202 := eq_true p202
            replace q202 := eq_true q202
            refine start_ (n := 10) (S := fun w' => w'.cell? ⟨gb201, 0, none⟩ = some (.int .i64 x202000_1) ∧ w'.cell? ⟨gb201, 1, none⟩ = some (.int .i64 x202001_1) ∧ w'.cell? ⟨gb201, 2, none⟩ = some (.int .i64 x202002_1) ∧ w'.cell? ⟨gb201, 3, none⟩ = some (u202003) ∧ w'.cell? (ad202.add ((ji14)).toNat) = some (.int .u8 (rd l0 (ji14)))) (ds := []) #[false, false, false, false, false, false, false, false, false, false] (by kernel_rfl) rfl rfl ⟨(blk_cell BK201.out 0).trans rfl, (blk_cell BK201.out 1).trans rfl, (blk_cell BK201.out 2).trans rfl, (blk_cell BK201.out 3).trans rfl, ((HB.out.cell (World.block_lt_of_cell? w _ hw202_0)).trans hw202_0)⟩ (fun hHeld => ?_); refine with_tabW roadsteadlaw10_State.tab8 roadsteadlaw10_State.bits8 (fun HT_ HW_ => ?_)
            generalize wc.drew = w29 at HO_202003 BK197 BK201 HB hx202_0 hHeld ⊢
            refine pure_ (i := 0) (N := some 43) (v := ?_) (a' := ?_) #[true, false, false, false, false, false, false, false, false, false] rfl rfl (any_of HT_.out (by kernel_rfl)) (fun _ _ _ h => h) (Or.inl ⟨by rfl, ?_⟩) ?_ ?_
            rotate_left
            ·intro w'
             go_simp
             with_reducible rfl
            rotate_left
            ·simp only [Act.put, List.setIfInBounds_toArray, List.set_cons_zero, List.set_cons_succ, i64_w, i32_w]
             rfl
            refine pure_ (i := 1) (N := some 44) (v := ?_) (a' := ?_) #[true, true, false, false, false, false, false, false, false, false] rfl rfl (any_of HT_.out (by kernel_rfl)) (fun _ _ _ h => h) (Or.inl ⟨by rfl, ?_⟩) ?_ ?_
            rotate_left
            ·intro w'
             go_simp
             with_reducible rfl
            rotate_left
            ·simp only [Act.put, List.setIfInBounds_toArray, List.set_cons_zero, List.set_cons_succ, i64_w, i32_w]
             rfl
            refine pure_ (i := 2) (N := some 45) (v := ?_) (a' := ?_) #[true, true, true, false, false, false, false, false, false, false] rfl rfl (any_of HT_.out (by kernel_rfl)) (fun _ _ _ h => h) (Or.inl ⟨by rfl, ?_⟩) ?_ ?_
            rotate_left
            ·intro w'
             go_simp
             with_reducible rfl
            rotate_left
            ·simp only [Act.put, List.setIfInBounds_toArray, List.set_cons_zero, List.set_cons_succ, i64_w, i32_w]
             rfl
            refine pure_ (i := 5) (N := some 48) (v := ?_) (a' := ?_) #[true, true, true, false, false, true, false, false, false, false] rfl rfl (any_of HT_.out (by kernel_rfl)) (fun _ _ _ h => h) (Or.inl ⟨by rfl, ?_⟩) ?_ ?_
            rotate_left
            ·intro w'
             go_simp
             with_reducible rfl
            rotate_left
            ·simp only [Act.put, List.setIfInBounds_toArray, List.set_cons_zero, List.set_cons_succ, i64_w, i32_w]
             rfl
            refine take_ (i := 3) (N := some 46) (v := ?_) (a' := ?_) #[true, true, true, true, false, true, false, false, false, false] rfl rfl (take_ofW HT_.out HW_.out (by kernel_rfl)) (fun _ _ _ h => h) (Or.inl ⟨by rfl, ?_⟩) hHeld ?_ ?_
            rotate_left
            ·rintro w' ⟨s0, s1, s2, s3, s4⟩
             go_simp
             with_reducible rfl
            rotate_left
            ·simp only [Act.put, List.setIfInBounds_toArray, List.set_cons_zero, List.set_cons_succ, i64_w, i32_w]
             rfl
            refine pure_ (i := 4) (N := some 47) (v := ?_) (a' := ?_) #[true, true, true, true, true, true, false, false, false, false] rfl rfl (any_of HT_.out (by kernel_rfl)) (fun _ _ _ h => h) (Or.inl ⟨by rfl, ?_⟩) ?_ ?_
            rotate_left
            ·intro w'
             go_simp
             with_reducible rfl
            rotate_left
            ·simp only [Act.put, List.setIfInBounds_toArray, List.set_cons_zero, List.set_cons_succ, i64_w, i32_w]
             rfl
            refine take_ (i := 6) (N := some 49) (v := ?_) (a' := ?_) #[true, true, true, true, true, true, true, false, false, false] rfl rfl (take_ofW HT_.out HW_.out (by kernel_rfl)) (fun _ _ _ h => h) (Or.inl ⟨by rfl, ?_⟩) hHeld ?_ ?_
            rotate_left
            ·rintro w' ⟨s0, s1, s2, s3, s4⟩
             go_simp
             with_reducible rfl
            rotate_left
            ·simp only [Act.put, List.setIfInBounds_toArray, List.set_cons_zero, List.set_cons_succ, i64_w, i32_w]
             rfl
            refine pure_ (i := 7) (N := some 50) (v := ?_) (a' := ?_) #[true, true, true, true, true, true, true, true, false, false] rfl rfl (any_of HT_.out (by kernel_rfl)) (fun _ _ _ h => h) (Or.inl ⟨by rfl, ?_⟩) ?_ ?_
            rotate_left
            ·intro w'
             go_simp
             with_reducible rfl
            rotate_left
            ·simp only [Act.put, List.setIfInBounds_toArray, List.set_cons_zero, List.set_cons_succ, i64_w, i32_w]
             rfl
            refine pure_ (i := 8) (N := some 51) (v := ?_) (a' := ?_) #[true, true, true, true, true, true, true, true, true, false] rfl rfl (any_of HT_.out (by kernel_rfl)) (fun _ _ _ h => h) (Or.inl ⟨by rfl, ?_⟩) ?_ ?_
            rotate_left
            ·intro w'
             go_simp
             with_reducible rfl
            rotate_left
            ·simp only [Act.put, List.setIfInBounds_toArray, List.set_cons_zero, List.set_cons_succ, i64_w, i32_w]
             rfl
            refine pure_ (i := 9) (N := some 7) (v := ?_) (a' := ?_) #[true, true, true, true, true, true, true, true, true, true] rfl rfl (any_of HT_.out (by kernel_rfl)) (fun _ _ _ h => h) (Or.inl ⟨by rfl, ?_⟩) ?_ ?_
            rotate_left
            ·intro w'
             go_simp
             with_reducible rfl
            rotate_left
            ·simp only [Act.put, List.setIfInBounds_toArray, List.set_cons_zero, List.set_cons_succ, i64_w, i32_w]
             rfl
            refine done_ (done_of HT_.out (by kernel_rfl)) ?_
            try go_wp2
            have n0_ := Aside0.mk (Kd.N_drew HO_202003.out)
            have n1_ := Aside0.mk (blk_drew BK197.out)
            have n2_ := Aside0.mk (blk_drew BK201.out)
            have n3_ := Aside0.mk (below_drew1 HB.out)
            clear HO_202003
            clear BK197
            clear BK201
            clear HB
            have HO_202003 := n0_
            have BK197 := n1_
            have BK201 := n2_
            have HB := n3_
            clear n0_ n1_ n2_ n3_
            obtain ⟨i031, hi031, _, hsz31, _⟩ := info_parts info5
            obtain ⟨A31, hcut31, hA31, hC31⟩ := print_mid_of (P := Try.prog) (Value.int .u8) 0 30 5 .i64 .i64 Try.underlying30 hi031 hsz31 (some ad202) c0 l0 (ji14) (ji15) (of_decide_eq_true (by first | (with_reducible assumption) | assumption)) (by first | omega | exact of_decide_eq_true (by first | (with_reducible assumption) | assumption)) (of_decide_eq_true (by first | (with_reducible assumption) | assumption)) HC0.out
            have HR203 := Aside0.mk (Kd.C_of_reads (h1 := fun _ => rfl) (hA31 _ (Kd.reads_of_C HR0.out)))
            have HC203 := Aside0.mk hC31
            clear hA31 hC31 hi031 hsz31
            refine start_ (n := 13) (S := fun w' => w'.cell? ⟨gb201, 0, none⟩ = some (.int .i64 x202000_1) ∧ w'.cell? ⟨gb201, 1, none⟩ = some (.int .i64 x202001_1) ∧ w'.cell? ⟨gb201, 2, none⟩ = some (.int .i64 x202002_1) ∧ w'.cell? ⟨gb201, 3, none⟩ = some (u202003)) (ds := [12]) #[false, false, false, false, false, false, false, false, false, false, false, false, false] (by kernel_rfl) rfl rfl ⟨(blk_cell BK201.out 0).trans rfl, (blk_cell BK201.out 1).trans rfl, (blk_cell BK201.out 2).trans rfl, (blk_cell BK201.out 3).trans rfl⟩ (fun hHeld => ?_); refine with_tabW roadsteadlaw10_State.tab9 roadsteadlaw10_State.bits9 (fun HT_ HW_ => ?_)
            generalize w29.drew = w30 at HO_202003 BK197 BK201 HB HR203 hHeld ⊢
            refine pure_ (i := 1) (N := some 53) (v := ?_) (a' := ?_) #[false, true, false, false, false, false, false, false, false, false, false, false, false] rfl rfl (any_of HT_.out (by kernel_rfl)) (fun _ _ _ h => h) (Or.inl ⟨by rfl, ?_⟩) ?_ ?_
            rotate_left
            ·intro w'
             go_simp
             with_reducible rfl
            rotate_left
            ·simp only [Act.put, List.setIfInBounds_toArray, List.set_cons_zero, List.set_cons_succ, i64_w, i32_w]
             rfl
            refine pure_ (i := 2) (N := some 54) (v := ?_) (a' := ?_) #[false, true, true, false, false, false, false, false, false, false, false, false, false] rfl rfl (any_of HT_.out (by kernel_rfl)) (fun _ _ _ h => h) (Or.inl ⟨by rfl, ?_⟩) ?_ ?_
            rotate_left
            ·intro w'
             go_simp
             with_reducible rfl
            rotate_left
            ·simp only [Act.put, List.setIfInBounds_toArray, List.set_cons_zero, List.set_cons_succ, i64_w, i32_w]
             rfl
            refine pure_ (i := 3) (N := some 55) (v := ?_) (a' := ?_) #[false, true, true, true, false, false, false, false, false, false, false, false, false] rfl rfl (any_of HT_.out (by kernel_rfl)) (fun _ _ _ h => h) (Or.inl ⟨by rfl, ?_⟩) ?_ ?_
            rotate_left
            ·intro w'
             go_simp
             with_reducible rfl
            rotate_left
            ·simp only [Act.put, List.setIfInBounds_toArray, List.set_cons_zero, List.set_cons_succ, i64_w, i32_w]
             rfl
            refine pure_ (i := 4) (N := some 56) (v := ?_) (a' := ?_) #[false, true, true, true, true, false, false, false, false, false, false, false, false] rfl rfl (any_of HT_.out (by kernel_rfl)) (fun _ _ _ h => h) (Or.inl ⟨by rfl, ?_⟩) ?_ ?_
            rotate_left
            ·intro w'
             go_simp
             with_reducible rfl
            rotate_left
            ·simp only [Act.put, List.setIfInBounds_toArray, List.set_cons_zero, List.set_cons_succ, i64_w, i32_w]
             rfl
            refine pure_ (i := 5) (N := some 57) (v := ?_) (a' := ?_) #[false, true, true, true, true, true, false, false, false, false, false, false, false] rfl rfl (any_of HT_.out (by kernel_rfl)) (fun _ _ _ h => h) (Or.inl ⟨by rfl, ?_⟩) ?_ ?_
            rotate_left
            ·intro w'
             go_simp
             with_reducible rfl
            rotate_left
            ·simp only [Act.put, List.setIfInBounds_toArray, List.set_cons_zero, List.set_cons_succ, i64_w, i32_w]
             rfl
            refine pure_ (i := 6) (N := some 58) (v := ?_) (a' := ?_) #[false, true, true, true, true, true, true, false, false, false, false, false, false] rfl rfl (any_of HT_.out (by kernel_rfl)) (fun _ _ _ h => h) (Or.inl ⟨by rfl, ?_⟩) ?_ ?_
            rotate_left
            ·intro w'
             go_simp
             with_reducible rfl
            rotate_left
            ·simp only [Act.put, List.setIfInBounds_toArray, List.set_cons_zero, List.set_cons_succ, i64_w, i32_w]
             rfl
            refine pure_ (i := 8) (N := some 60) (v := ?_) (a' := ?_) #[false, true, true, true, true, true, true, false, true, false, false, false, false] rfl rfl (any_of HT_.out (by kernel_rfl)) (fun _ _ _ h => h) (Or.inl ⟨by rfl, ?_⟩) ?_ ?_
            rotate_left
            ·intro w'
             go_simp
             with_reducible rfl
            rotate_left
            ·simp only [Act.put, List.setIfInBounds_toArray, List.set_cons_zero, List.set_cons_succ, i64_w, i32_w]
             rfl
            refine take_ (i := 0) (N := some 52) (v := ?_) (a' := ?_) #[true, true, true, true, true, true, true, false, true, false, false, false, false] rfl rfl (take_ofW HT_.out HW_.out (by kernel_rfl)) (fun _ _ _ h => h) (Or.inl ⟨by rfl, ?_⟩) hHeld ?_ ?_
            rotate_left
            ·rintro w' ⟨s0, s1, s2, s3⟩
             go_simp
             with_reducible rfl
            rotate_left
            ·simp only [Act.put, List.setIfInBounds_toArray, List.set_cons_zero, List.set_cons_succ, i64_w, i32_w]
             rfl
            refine take_ (i := 7) (N := some 59) (v := ?_) (a' := ?_) #[true, true, true, true, true, true, true, true, true, false, false, false, false] rfl rfl (take_ofW HT_.out HW_.out (by kernel_rfl)) (fun _ _ _ h => h) (Or.inl ⟨by rfl, ?_⟩) hHeld ?_ ?_
            rotate_left
            ·rintro w' ⟨s0, s1, s2, s3⟩
             go_simp
             with_reducible rfl
            rotate_left
            ·simp only [Act.put, List.setIfInBounds_toArray, List.set_cons_zero, List.set_cons_succ, i64_w, i32_w]
             rfl
            refine take_ (i := 9) (N := some 61) (v := ?_) (a' := ?_) #[true, true, true, true, true, true, true, true, true, true, false, false, false] rfl rfl (take_ofW HT_.out HW_.out (by kernel_rfl)) (fun _ _ _ h => h) (Or.inl ⟨by rfl, ?_⟩) hHeld ?_ ?_
            rotate_left
            ·rintro w' ⟨s0, s1, s2, s3⟩
             go_simp
             with_reducible rfl
            rotate_left
            ·simp only [Act.put, List.setIfInBounds_toArray, List.set_cons_zero, List.set_cons_succ, i64_w, i32_w]
             rfl
            refine one_ (i := 10) (N := some 62) #[true, true, true, true, true, true, true, true, true, true, true, false, false] rfl rfl (one_of HT_.out (by kernel_rfl)) (by decide) (fun K hK => ?_)
            refine goes_ Try.func24 (by kernel_rfl) rfl #[.slice A31 ((l0.take ((ji15) : Int).toNat).drop ((ji14) : Int).toNat).length (c0 - (ji14).toNat), .int .i64 (wrap64 (1 + (Int.tmod (wrap64 (rd l0 (ji14))) x202002_1))), .int .i64 x202000_1, .int .i64 x202001_1] (by rfl) rfl rfl (by (try simp only [List.map_toArray, List.map_cons, List.map_nil]); first | done | (rw [show ((l0.take ((ji15) : Int).toNat).drop ((ji14) : Int).toNat).length = ((ji15).toNat - (ji14).toNat) from (by rw [List.length_drop, List.length_take]; have h_ : ((ji15) : Int) ≤ (l0.length : Int) := of_decide_eq_true (by first | (with_reducible assumption) | assumption); omega)] <;> rfl) | (simp only [hji14, hji15]; rfl) | rfl | (simp only [List.length_drop, List.length_take]; rfl)) ?_
            with_reducible refine (roadsteadlaw10_Sub.calls kj8 _ _ ((l0.take ((ji15) : Int).toNat).drop ((ji14) : Int).toNat) (wrap64 (1 + (Int.tmod (wrap64 (rd l0 (ji14))) x202002_1))) x202000_1 x202001_1 t204 t205 t206 t207 t208 t209 t210 t211 t214 t217 _ ?side1 ?side2 A27.out).mono ?_
            (case side1 => repeat (first | exact (Kd.C_below HR203.out HB.out) | (with_reducible refine Kd.C_alloc ?_ _) | (with_reducible refine Kd.C_drewN ?_ _) | (with_reducible refine Kd.C_drew ?_)))
            (case side2 => exact HC203.out)
            rintro e w32 ⟨v212, v215, rfl, ho0, ho1, hb⟩
            refine ⟨_, rfl, ?_⟩
            have n0_ := Aside0.mk (Kd.N_mono (Kd.N_told (Kd.N_told (Kd.N_old (by (with_reducible repeat (first | apply Kd.N_alloc | apply Kd.N_drewN | apply Kd.N_drew)); exact HO_202003.out) hb) (Kd.R_base ho0)) (Kd.R_base ho1)) (fun _ h_ => h_.1))
            have n1_ := Aside0.mk (Kd.R_lower (Kd.R_newM (M := fun k_ => (w.heap.size ≤ k_)) ho0 (below_size (by repeat (with_reducible first | exact HB.out | apply below_alloc | apply pw_below_drewN | apply below_drew1 | refine below_set ?_ GE197.out | refine below_set ?_ GE201.out))) (fun k_ h_ => h_)) (below_size (by repeat (with_reducible first | exact HB.out | apply below_alloc | apply pw_below_drewN | apply below_drew1 | refine below_set ?_ GE197.out | refine below_set ?_ GE201.out))))
            have n2_ := Aside0.mk (Kd.R_lower (Kd.R_newM (M := fun k_ => (w.heap.size ≤ k_)) ho1 (below_size (by repeat (with_reducible first | exact HB.out | apply below_alloc | apply pw_below_drewN | apply below_drew1 | refine below_set ?_ GE197.out | refine below_set ?_ GE201.out))) (fun k_ h_ => h_)) (below_size (by repeat (with_reducible first | exact HB.out | apply below_alloc | apply pw_below_drewN | apply below_drew1 | refine below_set ?_ GE197.out | refine below_set ?_ GE201.out))))
            have n3_ := Aside0.mk (blk_below (g := gb197) (o := .cells #[.int .i64 0, .int .i64 0, .int .i64 0, .slice none 0 0] 34 (0, 0)) (by (with_reducible repeat (first | refine blk_drewN ?_ _ | refine blk_drew ?_ | refine blk_alloc ?_ _)); exact BK197.out) hb)
            have n4_ := Aside0.mk (blk_below (g := gb201) (o := .cells #[.int .i64 x202000_1, .int .i64 x202001_1, .int .i64 x202002_1, u202003] 34 (0, 0)) (by (with_reducible repeat (first | refine blk_drewN ?_ _ | refine blk_drew ?_ | refine blk_alloc ?_ _)); exact BK201.out) hb)
            have n5_ := Aside0.mk (below_step (by repeat (with_reducible first | exact HB.out | apply below_alloc | apply pw_below_drewN | apply below_drew1 | refine below_set ?_ GE197.out | refine below_set ?_ GE201.out)) hb)
            clear HO_202003
            clear BK197
            clear BK201
            clear HB
            have HO_202003 := n0_
            have HO213 := n1_
            have HO216 := n2_
            have BK197 := n3_
            have BK201 := n4_
            have HB := n5_
            clear n0_ n1_ n2_ n3_ n4_ n5_
            (try clear hb)
            (try clear hb2)
            (try clear hk)
            (try clear hi)
            (try clear ho0)
            (try clear ho1)
            obtain ⟨Ao33, co33, eo33⟩ := Kd.N_slice HO_202003.out
            (first | subst eo33 | (injection eo33 with f1_ f2_ f3_; have f4_ := f1_.symm; have f5_ := f3_.symm; clear f1_ f2_ f3_; subst f4_; subst f5_))
            obtain ⟨Ao34, co34, eo34⟩ := Kd.R_slice HO213.out
            (first | subst eo34 | (injection eo34 with f1_ f2_ f3_; have f4_ := f1_.symm; have f5_ := f3_.symm; clear f1_ f2_ f3_; subst f4_; subst f5_))
            obtain ⟨Ao35, co35, eo35⟩ := Kd.R_slice HO216.out
            (first | subst eo35 | (injection eo35 with f1_ f2_ f3_; have f4_ := f1_.symm; have f5_ := f3_.symm; clear f1_ f2_ f3_; subst f4_; subst f5_))
            refine hK.out _ _ ⟨(blk_cell BK201.out 0).trans rfl, (blk_cell BK201.out 1).trans rfl, (blk_cell BK201.out 2).trans rfl, (blk_cell BK201.out 3).trans rfl⟩ (fun hHeld => ?_)
            clear hK K
            refine norm_ (a' := ?_) ?_ ?_
            rotate_left
            ·show Act.put _ (some 62) _ = _
             simp only [Act.put, List.setIfInBounds_toArray, List.set_cons_zero, List.set_cons_succ, i64_w, i32_w]
             rfl
            refine one_ (i := 11) (N := some 63) #[true, true, true, true, true, true, true, true, true, true, true, true, false] rfl rfl (one_of HT_.out (by kernel_rfl)) (by decide) (fun K hK => ?_)
            refine goes_ Try.func23 (by kernel_rfl) rfl #[.agg #[.int .i64 x202000_1, .int .i64 x202001_1, .int .i64 x202002_1, .slice Ao33 x202003_1.length co33], .agg #[.int .i64 t204, .string t205, .string t206, .string t207, .int .i64 t208, .int .i64 t209, .int .i64 t210, .slice Ao34 t211.length co34, .slice Ao35 t214.length co35, .string t217]] (by rfl) rfl rfl (by (try simp only [List.map_toArray, List.map_cons, List.map_nil]); first | done | rfl) ?_
            with_reducible refine (roadsteadref10_Put.calls kj8 x202000_1 x202001_1 x202002_1 (fun k_ => ((((w.heap.size ≤ k_) ∧ (k_ ≠ gb197 ∧ k_ ≠ gb201)) ∧ some k_ ≠ (.slice Ao34 t211.length co34 : Value).ownBlock) ∧ some k_ ≠ (.slice Ao35 t214.length co35 : Value).ownBlock)) _ _ x202003_1 t204 t205 t206 t207 t208 t209 t210 (fun k_ => some k_ = (.slice Ao34 t211.length co34 : Value).ownBlock) _ _ t211 (fun k_ => some k_ = (.slice Ao35 t214.length co35 : Value).ownBlock) _ _ t214 t217 t218 t219 t220 t221 _ ?side1 ?side2 ?side3 A28.out).mono ?_
            (case side1 => exact Kd.N_V (HO_202003.out))
            (case side2 => exact Kd.R_V (Kd.R_tight rfl (Kd.R_types (Kd.R_types (Kd.R_apart' (Kd.R_apart' (HO213.out) (Kd.N_typed HO_202003.out) (by decide)) (Kd.R_typed HO216.out) (by decide)) BK197.out (by decide)) BK201.out (by decide))))
            (case side3 => exact Kd.R_V (Kd.R_tight rfl (Kd.R_types (Kd.R_types (Kd.R_apart' (Kd.R_apart' (HO216.out) (Kd.N_typed HO_202003.out) (by decide)) (Kd.R_typed HO213.out) (by decide)) BK197.out (by decide)) BK201.out (by decide))))
            rintro e w36 ⟨v222, rfl, ho0, hb⟩
            refine ⟨_, rfl, ?_⟩
            have n0_ := Aside0.mk (Kd.N_elder' (by (with_reducible repeat (first | apply Kd.N_alloc | apply Kd.N_drewN | apply Kd.N_drew)); exact HO_202003.out) (Kd.N_base ho0) hb)
            have n1_ := Aside0.mk (Kd.R_below (by (with_reducible repeat (first | apply Kd.R_alloc | apply Kd.R_drewN | apply Kd.R_drew)); exact HO213.out) hb)
            have n2_ := Aside0.mk (Kd.R_below (by (with_reducible repeat (first | apply Kd.R_alloc | apply Kd.R_drewN | apply Kd.R_drew)); exact HO216.out) hb)
            have n3_ := Aside0.mk (Kd.N_lower (Kd.N_mono (ok' := fun k_ => (w.heap.size ≤ k_) ∧ k_ ≠ gb197 ∧ k_ ≠ gb201) ho0 (fun k_ hk_ => ⟨Or.elim hk_ (fun hs_ => Or.elim hs_ (fun hs_ => hs_.1.1.1) (fun hs_ => Or.elim hs_ (fun hs_ => ((Kd.R_types (Kd.R_types (Kd.R_apart' (Kd.R_apart' (HO213.out) (Kd.N_typed HO_202003.out) (by decide)) (Kd.R_typed HO216.out) (by decide)) BK197.out (by decide)) BK201.out (by decide)).1 k_ hs_.symm).1.1.1.1.1) (fun hs_ => ((Kd.R_types (Kd.R_types (Kd.R_apart' (Kd.R_apart' (HO216.out) (Kd.N_typed HO_202003.out) (by decide)) (Kd.R_typed HO213.out) (by decide)) BK197.out (by decide)) BK201.out (by decide)).1 k_ hs_.symm).1.1.1.1.1))) (fun hn_ => (Nat.le_trans (below_size (by repeat (with_reducible first | exact HB.out | apply below_alloc | apply pw_below_drewN | apply below_drew1 | refine below_set ?_ GE197.out | refine below_set ?_ GE201.out))) hn_)), Or.elim hk_ (fun hs_ => Or.elim hs_ (fun hs_ => hs_.1.1.2.1) (fun hs_ => Or.elim hs_ (fun hs_ => ((Kd.R_types (Kd.R_types (Kd.R_apart' (Kd.R_apart' (HO213.out) (Kd.N_typed HO_202003.out) (by decide)) (Kd.R_typed HO216.out) (by decide)) BK197.out (by decide)) BK201.out (by decide)).1 k_ hs_.symm).1.2) (fun hs_ => ((Kd.R_types (Kd.R_types (Kd.R_apart' (Kd.R_apart' (HO216.out) (Kd.N_typed HO_202003.out) (by decide)) (Kd.R_typed HO213.out) (by decide)) BK197.out (by decide)) BK201.out (by decide)).1 k_ hs_.symm).1.2))) (fun hn_ => (Kd.freshB (g := gb197) (o := .cells #[.int .i64 0, .int .i64 0, .int .i64 0, .slice none 0 0] 34 (0, 0)) (by (with_reducible repeat (first | refine blk_drewN ?_ _ | refine blk_drew ?_ | refine blk_alloc ?_ _)); exact BK197.out) k_ hn_)), Or.elim hk_ (fun hs_ => Or.elim hs_ (fun hs_ => hs_.1.1.2.2) (fun hs_ => Or.elim hs_ (fun hs_ => ((Kd.R_types (Kd.R_types (Kd.R_apart' (Kd.R_apart' (HO213.out) (Kd.N_typed HO_202003.out) (by decide)) (Kd.R_typed HO216.out) (by decide)) BK197.out (by decide)) BK201.out (by decide)).1 k_ hs_.symm).2) (fun hs_ => ((Kd.R_types (Kd.R_types (Kd.R_apart' (Kd.R_apart' (HO216.out) (Kd.N_typed HO_202003.out) (by decide)) (Kd.R_typed HO213.out) (by decide)) BK197.out (by decide)) BK201.out (by decide)).1 k_ hs_.symm).2))) (fun hn_ => (Kd.freshB (g := gb201) (o := .cells #[.int .i64 x202000_1, .int .i64 x202001_1, .int .i64 x202002_1, .slice Ao33 x202003_1.length co33] 34 (0, 0)) (by (with_reducible repeat (first | refine blk_drewN ?_ _ | refine blk_drew ?_ | refine blk_alloc ?_ _)); exact BK201.out) k_ hn_))⟩)) (below_size (by repeat (with_reducible first | exact HB.out | apply below_alloc | apply pw_below_drewN | apply below_drew1 | refine below_set ?_ GE197.out | refine below_set ?_ GE201.out))))
            have n4_ := Aside0.mk (blk_below (g := gb197) (o := .cells #[.int .i64 0, .int .i64 0, .int .i64 0, .slice none 0 0] 34 (0, 0)) (by (with_reducible repeat (first | refine blk_drewN ?_ _ | refine blk_drew ?_ | refine blk_alloc ?_ _)); exact BK197.out) hb)
            have n5_ := Aside0.mk (blk_below (g := gb201) (o := .cells #[.int .i64 x202000_1, .int .i64 x202001_1, .int .i64 x202002_1, .slice Ao33 x202003_1.length co33] 34 (0, 0)) (by (with_reducible repeat (first | refine blk_drewN ?_ _ | refine blk_drew ?_ | refine blk_alloc ?_ _)); exact BK201.out) hb)
            have n6_ := Aside0.mk (below_step (by repeat (with_reducible first | exact HB.out | apply below_alloc | apply pw_below_drewN | apply below_drew1 | refine below_set ?_ GE197.out | refine below_set ?_ GE201.out)) hb)
            clear HO_202003
            clear HO213
            clear HO216
            clear BK197
            clear BK201
            clear HB
            have HO_202003 := n0_
            have HO213 := n1_
            have HO216 := n2_
            have HO223 := n3_
            have BK197 := n4_
            have BK201 := n5_
            have HB := n6_
            clear n0_ n1_ n2_ n3_ n4_ n5_ n6_
            (try clear hb)
            (try clear hb2)
            (try clear hk)
            (try clear hi)
            (try clear ho0)
            obtain ⟨Ao40, co40, eo40⟩ := Kd.N_slice HO223.out
            (first | subst eo40 | (injection eo40 with f1_ f2_ f3_; have f4_ := f1_.symm; have f5_ := f3_.symm; clear f1_ f2_ f3_; subst f4_; subst f5_))
            refine hK.out _ _ ⟨(blk_cell BK201.out 0).trans rfl, (blk_cell BK201.out 1).trans rfl, (blk_cell BK201.out 2).trans rfl, (blk_cell BK201.out 3).trans rfl⟩ (fun hHeld => ?_)
            clear hK K
            refine norm_ (a' := ?_) ?_ ?_
            rotate_left
            ·show Act.put _ (some 63) _ = _
             simp only [Act.put, List.setIfInBounds_toArray, List.set_cons_zero, List.set_cons_succ, i64_w, i32_w]
             rfl
            refine last_ (i := 12) (N := none) #[true, true, true, true, true, true, true, true, true, true, true, true, true] rfl rfl (one_of HT_.out (by kernel_rfl)) (by decide) (fun K hK => ?_)
            have hs37 : w36.cell? ⟨gb201, 0, none⟩ = some (.int .i64 x202000_1) := (blk_cell BK201.out 0).trans rfl
            have hfs37 := blk_frozen BK201.out 0
            have hns37_0 := NB197_201.out
            have hms37_0 := NB201_197.out
            have hs38 : w36.cell? ⟨gb201, 1, none⟩ = some (.int .i64 x202001_1) := (blk_cell BK201.out 1).trans rfl
            have hfs38 := blk_frozen BK201.out 1
            have hns38_0 := NB197_201.out
            have hms38_0 := NB201_197.out
            have hs39 : w36.cell? ⟨gb201, 2, none⟩ = some (.int .i64 x202002_1) := (blk_cell BK201.out 2).trans rfl
            have hfs39 := blk_frozen BK201.out 2
            have hns39_0 := NB197_201.out
            have hms39_0 := NB201_197.out
            have hs41 : w36.cell? ⟨gb201, 3, none⟩ = some (.slice Ao33 x202003_1.length co33) := (blk_cell BK201.out 3).trans rfl
            have hfs41 := blk_frozen BK201.out 3
            have hns41_0 := NB197_201.out
            have hms41_0 := NB201_197.out
            refine skip_ (w1 := ?_) (by rfl) rfl ?_ ?_
            rotate_left
            ·go_simp
             rfl
            refine hK.out _ _ ?_
            clear hK K
            refine done_ (done_of HT_.out (by kernel_rfl)) ?_
            try go_wp2
            go_roundg kj8
            case measure => have := HK1.out; have := HJ8.out; omega
            case rel => exact ⟨(wrap64 (x4_1 + 1)), (t218), (t219), (t220), (t221), (.slice Ao40 t221.length co40), (by first | rfl | (simp; done) | (simp [*]; done)), H', ⟨by have := HK1.out; have := HJ8.out; omega⟩, ⟨by (with_reducible repeat (first | apply Kd.N_alloc | apply Kd.N_drewN | apply Kd.N_drew)); exact Kd.N_mono (Kd.N_far (p := ⟨gb201, 3, none⟩) (Kd.N_far (p := ⟨gb201, 2, none⟩) (Kd.N_far (p := ⟨gb201, 1, none⟩) (Kd.N_far (p := ⟨gb201, 0, none⟩) (Kd.N_mono HO223.out (fun k_ hk => (⟨hk, hk.2.2⟩ : _ ∧ k_ ≠ gb201))) (fun _ hk => hk.2) (.int .i64 t218)) (fun _ hk => hk.2) (.int .i64 t219)) (fun _ hk => hk.2) (.int .i64 t220)) (fun _ hk => hk.2) (.slice Ao40 t221.length co40)) (fun _ hk => ⟨hk.1.1, ⟨hk.1.2.1, hk.1.2.2⟩⟩)⟩, ⟨by (with_reducible repeat (first | refine blk_drewN ?_ _ | refine blk_drew ?_ | refine blk_alloc ?_ _)); refine blk_far ?_ NB197_201.out _; refine blk_far ?_ NB197_201.out _; refine blk_far ?_ NB197_201.out _; refine blk_far ?_ NB197_201.out _; exact BK197.out⟩, ⟨by (with_reducible repeat (first | refine blk_drewN ?_ _ | refine blk_drew ?_ | refine blk_alloc ?_ _)); refine blk_put (cs := #[.int .i64 t218, .int .i64 t219, .int .i64 t220, .slice Ao33 x202003_1.length co33]) ?_ 3 _ rfl; refine blk_put (cs := #[.int .i64 t218, .int .i64 t219, .int .i64 x202002_1, .slice Ao33 x202003_1.length co33]) ?_ 2 _ rfl; refine blk_put (cs := #[.int .i64 t218, .int .i64 x202001_1, .int .i64 x202002_1, .slice Ao33 x202003_1.length co33]) ?_ 1 _ rfl; refine blk_put (cs := #[.int .i64 x202000_1, .int .i64 x202001_1, .int .i64 x202002_1, .slice Ao33 x202003_1.length co33]) ?_ 0 _ rfl; exact BK201.out⟩, ⟨by repeat (with_reducible first | exact HB.out | apply below_alloc | apply pw_below_drewN | apply below_drew1 | refine below_set ?_ GE197.out | refine below_set ?_ GE201.out)⟩⟩
           ·rw [if_neg c26] at H
            exact absurd H (by simp)
          ·rw [if_neg c25] at H
           exact absurd H (by simp)
        ·rw [if_neg c22] at H
         exact absurd H (by simp)
       ·rw [if_neg c21] at H
        exact absurd H (by simp)
     ·replace c13 := Bool.eq_false_iff.mpr c13
      subst c13
      have H1 : (some (x202000_1, x202001_1, x202002_1, x202003_1)) = some (r1, r2, r3, r4) := by rw [if_neg (show ¬ (false = true) by decide)] at H; exact H
      clear H
      have H := H1
      clear H1
      simp only [Option.some.injEq, Prod.mk.injEq] at H
      obtain ⟨rfl, rfl, rfl, rfl⟩ := H
      have hnb42 := NB201_197.out
      have hnc42 := NB197_201.out
      have hcz43_0 : wc.cell? ⟨gb201, 0, none⟩ = some (.int .i64 x202000_1) := (blk_cell BK201.out 0).trans rfl
      have hcz43_1 : wc.cell? ⟨gb201, 1, none⟩ = some (.int .i64 x202001_1) := (blk_cell BK201.out 1).trans rfl
      have hcz43_2 : wc.cell? ⟨gb201, 2, none⟩ = some (.int .i64 x202002_1) := (blk_cell BK201.out 2).trans rfl
      have hcz43_3 : wc.cell? ⟨gb201, 3, none⟩ = some (u202003) := (blk_cell BK201.out 3).trans rfl
      have hfz43_0 := blk_frozen BK201.out 0
      have hfz43_1 := blk_frozen BK201.out 1
      have hfz43_2 := blk_frozen BK201.out 2
      have hfz43_3 := blk_frozen BK201.out 3
      have hcz44_0 : wc.cell? ⟨gb197, 0, none⟩ = some (.int .i64 0) := (blk_cell BK197.out 0).trans rfl
      have hcz44_1 : wc.cell? ⟨gb197, 1, none⟩ = some (.int .i64 0) := (blk_cell BK197.out 1).trans rfl
      have hcz44_2 : wc.cell? ⟨gb197, 2, none⟩ = some (.int .i64 0) := (blk_cell BK197.out 2).trans rfl
      have hcz44_3 : wc.cell? ⟨gb197, 3, none⟩ = some (.slice none 0 0) := (blk_cell BK197.out 3).trans rfl
      have hfz44_0 := blk_frozen BK197.out 0
      have hfz44_1 := blk_frozen BK197.out 1
      have hfz44_2 := blk_frozen BK197.out 2
      have hfz44_3 := blk_frozen BK197.out 3
      obtain ⟨Ao45, co45, eo45⟩ := Kd.N_slice HO_202003.out
      subst eo45
      go_wp2
      refine bodyPost_ret (results_cell_row rfl _ _ gb197 34 #[.int .i64 x202000_1, .int .i64 x202001_1, .int .i64 x202002_1, .slice Ao45 x202003_1.length co45] (0, 0) _ rfl (by (with_reducible repeat (first | refine blk_drewN ?_ _ | refine blk_drew ?_ | refine blk_alloc ?_ _)); refine blk_put (cs := #[.int .i64 x202000_1, .int .i64 x202001_1, .int .i64 x202002_1, .slice none 0 0]) ?_ 3 _ rfl; refine blk_put (cs := #[.int .i64 x202000_1, .int .i64 x202001_1, .int .i64 0, .slice none 0 0]) ?_ 2 _ rfl; refine blk_put (cs := #[.int .i64 x202000_1, .int .i64 0, .int .i64 0, .slice none 0 0]) ?_ 1 _ rfl; refine blk_put (cs := #[.int .i64 0, .int .i64 0, .int .i64 0, .slice none 0 0]) ?_ 0 _ rfl; exact BK197.out) Try.underlying34 rfl (by kernel_rfl)) rfl ?_
      exact ⟨_, by first | rfl | (simp [errW_none, errW_some] <;> rfl) | (simp [*, errW_none, errW_some] <;> rfl), by (with_reducible repeat (first | apply Kd.N_alloc | apply Kd.N_drewN | apply Kd.N_drew)); exact Kd.N_mono (Kd.N_far (p := ⟨gb197, 3, none⟩) (Kd.N_far (p := ⟨gb197, 2, none⟩) (Kd.N_far (p := ⟨gb197, 1, none⟩) (Kd.N_far (p := ⟨gb197, 0, none⟩) (Kd.N_mono HO_202003.out (fun k_ hk => (⟨hk, hk.2.1⟩ : _ ∧ k_ ≠ gb197))) (fun _ hk => hk.2) (.int .i64 x202000_1)) (fun _ hk => hk.2) (.int .i64 x202001_1)) (fun _ hk => hk.2) (.int .i64 x202002_1)) (fun _ hk => hk.2) (.slice Ao45 x202003_1.length co45)) (fun _ hk => hk.1.1), by repeat (with_reducible first | exact HB.out | apply below_alloc | apply pw_below_drewN | apply below_drew1 | refine below_set ?_ GE197.out | refine below_set ?_ GE201.out)⟩

end Go.Proofs.Ytajfefjmfelnbaa.BState
