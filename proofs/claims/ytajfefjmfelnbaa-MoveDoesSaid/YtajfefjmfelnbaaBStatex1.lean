/- Printed (wip/gprint.py). -/
import Derived.Test.YtajfefjmfelnbaaBStatex0
namespace Go.Proofs.Ytajfefjmfelnbaa.BState
open Go.RowKit Go.Proofs.YtajfefjmfelnbaaW.PrintWords Go.Proofs.YtajfefjmfelnbaaW.PrintLast Go.Proofs.YtajfefjmfelnbaaW.PrintMore
attribute [local go_sem] max2_int min2_int max_two min_two max_three min_three max_four min_four   -- for this text's walks alone
set_option linter.unusedVariables false
set_option linter.unusedSimpArgs false

/-! ### roadsteadlaw10_g: function 22 -/
def roadsteadlaw10_g.f (l0 : List Int) (a1 : Int) : Option (Int) := if a1 < (l0.length : Int) then (if 0 ≤ a1 then (some (wrap64 (rd l0 a1))) else (none)) else (some 0)
set_option maxHeartbeats 8000000 in
set_option maxRecDepth 100000 in
theorem roadsteadlaw10_g.calls (A0 : Option Addr) (c0 : Nat) (l0 : List Int) (a1 : Int) (r : Int) (w : World) (hr0 : Kd.C (Kd.int .u8) w A0 l0.length l0) (hc0 : l0.length ≤ c0) (h : roadsteadlaw10_g.f l0 a1 = some r) :
 Calls Try.prog 22 #[.slice A0 l0.length c0, .int .i64 a1] w fun e w' => e = .returned (.int .i64 r) ∧ Drawn0 w w' := by
 have HR0 := Aside0.mk hr0
 have HC0 := Aside0.mk hc0
 clear hr0 hc0
 have H : (if a1 < (l0.length : Int) then (if 0 ≤ a1 then (some (wrap64 (rd l0 a1))) else (none)) else (some 0)) = some r := h
 clear h
 by_cases c3 : a1 < (l0.length : Int)
 ·rw [if_pos c3] at H
  have c3b0 : decide (a1 < (l0.length : Int)) = true := decide_eq_true c3
  clear c3
  by_cases c4 : 0 ≤ a1
  ·rw [if_pos c4] at H
   have c4b0 : decide (0 ≤ a1) = true := decide_eq_true c4
   clear c4
   obtain rfl := Option.some.inj H
   have p101 : 0 ≤ (a1 : Int) := of_decide_eq_true (by first | (with_reducible assumption) | assumption)
   have q101 : a1 < (l0.length : Int) := of_decide_eq_true (by first | (with_reducible assumption) | assumption)
   obtain ⟨ad101, e101, hx101_0⟩ := Kd.at_int HR0.out a1 p101 q101
   cases e101
   replace p101 := eq_true p101
   replace q101 := eq_true q101
   go_enter Try.func22, Try.ntmps22
   go_wp2
   go_ret
   exact ⟨by first | rfl | (simp; done) | (simp [*]; done), by repeat (first | exact Drawn0.refl _ | apply Drawn0.step)⟩
  ·rw [if_neg c4] at H
   exact absurd H (by simp)
 ·rw [if_neg c3] at H
  have c3b0 : decide (a1 < (l0.length : Int)) = false := decide_eq_false c3
  clear c3
  obtain rfl := Option.some.inj H
  go_enter Try.func22, Try.ntmps22
  go_wp2
  go_ret
  exact ⟨by first | rfl | (simp; done) | (simp [*]; done), by repeat (first | exact Drawn0.refl _ | apply Drawn0.step)⟩

/-! ### roadsteadref10_Without: function 34 -/
def roadsteadref10_Without.l0 : Nat → Int → List (S46) → Int → Int → Int → Int → List (S46) → Option (Int × Int × Int × (List (S46)))
 | 0, _, _, _, _, _, _, _ => none
 | k + 1, x1, x5, x6, x103000, x103001, x103002, x103003 => if x6 < (x103003.length : Int) then (if 0 ≤ x6 then (if ((rd_T46 x103003 x6).f0) = x1 then (roadsteadref10_Without.l0 k x1 x5 (wrap64 (x6 + 1)) x103000 x103001 x103002 x103003) else (if x5.length < 977343669134 then (roadsteadref10_Without.l0 k x1 (x5 ++ [(⟨(rd_T46 x103003 x6).f0, (rd_T46 x103003 x6).f1, (rd_T46 x103003 x6).f2, (rd_T46 x103003 x6).f3, (rd_T46 x103003 x6).f4, (rd_T46 x103003 x6).f5, (rd_T46 x103003 x6).f6, (rd_T46 x103003 x6).f7, (rd_T46 x103003 x6).f8, (rd_T46 x103003 x6).f9⟩ : S46)]) (wrap64 (x6 + 1)) x103000 x103001 x103002 x103003) else (none))) else (none)) else (some (x103000, x103001, x103002, x5))
def roadsteadref10_Without.f (k : Nat) (a0_0 : Int) (a0_1 : Int) (a0_2 : Int) (l0_3 : List (S46)) (a1 : Int) : Option (Int × Int × Int × (List (S46))) := roadsteadref10_Without.l0 k a1 ([] : List (S46)) 0 a0_0 a0_1 a0_2 l0_3
theorem roadsteadref10_Without.mono_l : ∀ k, (∀ y0 y1 y2 y3 y4 y5 y6, LeO (roadsteadref10_Without.l0 k y0 y1 y2 y3 y4 y5 y6) (roadsteadref10_Without.l0 (k + 1) y0 y1 y2 y3 y4 y5 y6))
 | 0 => fun _ _ _ _ _ _ _ r h => by simp [roadsteadref10_Without.l0] at h
 | k + 1 => by
  have ih0 := roadsteadref10_Without.mono_l k
  ·intro y0 y1 y2 y3 y4 y5 y6
   unfold roadsteadref10_Without.l0
   repeat' first
   | (with_reducible exact ih0 _ _ _ _ _ _ _)
   | (with_reducible exact LeO.refl _)
   | (with_reducible exact LeO.none _)
   | (with_reducible refine LeO.ite ?_ ?_)
   | (with_reducible refine LeO.bind ?_ (fun _ => ?_))
   | exact ih0 _ _ _ _ _ _ _
   | exact LeO.none _
   | refine LeO.ite ?_ ?_
   | refine LeO.bind ?_ (fun _ => ?_)
theorem roadsteadref10_Without.mono : ∀ a0 a1 a2 a3 a4 k, LeO (roadsteadref10_Without.f k a0 a1 a2 a3 a4) (roadsteadref10_Without.f (k + 1) a0 a1 a2 a3 a4) := by
 intro a0 a1 a2 a3 a4 k
 have ih0 := roadsteadref10_Without.mono_l k
 unfold roadsteadref10_Without.f
 repeat' first
  | (with_reducible exact ih0 _ _ _ _ _ _ _)
  | (with_reducible exact LeO.refl _)
  | (with_reducible exact LeO.none _)
  | (with_reducible refine LeO.ite ?_ ?_)
  | (with_reducible refine LeO.bind ?_ (fun _ => ?_))
  | exact ih0 _ _ _ _ _ _ _
  | exact LeO.none _
  | refine LeO.ite ?_ ?_
  | refine LeO.bind ?_ (fun _ => ?_)
set_option maxHeartbeats 8000000 in
set_option maxRecDepth 100000 in
theorem roadsteadref10_Without.calls (k : Nat) (a0_0 : Int) (a0_1 : Int) (a0_2 : Int) (P0_3_ : Nat → Prop) (A0_3 : Option Addr) (c0_3 : Nat) (l0_3 : List (S46)) (a1 : Int) (r1 : Int) (r2 : Int) (r3 : Int) (r4 : List (S46)) (w : World) (hs0_3 : Kd.V k46 46 w w.heap.size (fun k_ => P0_3_ k_) (.slice A0_3 l0_3.length c0_3) l0_3) (h : roadsteadref10_Without.f k a0_0 a0_1 a0_2 l0_3 a1 = some (r1, r2, r3, r4)) :
 Calls Try.prog 34 #[.agg #[.int .i64 a0_0, .int .i64 a0_1, .int .i64 a0_2, .slice A0_3 l0_3.length c0_3], .int .i64 a1] w fun e w' => ∃ v3_ : Value, e = .returned (.agg #[.int .i64 r1, .int .i64 r2, .int .i64 r3, v3_]) ∧ Kd.N k46 46 w' w.heap.size (fun k_ => (P0_3_ k_ ∨ w.heap.size ≤ k_)) v3_ r4 ∧ Below w.heap.size w w' := by
 have hu34 := Try.underlying34
 have hu46 := Try.underlying46
 have HO0_3 := Aside0.mk (show Kd.V k46 46 w w.heap.size (fun k_ => (P0_3_ k_ ∨ w.heap.size ≤ k_)) (.slice A0_3 l0_3.length c0_3) l0_3 from Kd.V_mono hs0_3 (fun k_ hk => .inl hk))
 have HB := Aside0.mk (Below.refl w.heap.size w)
 have H : (roadsteadref10_Without.l0 k a1 ([] : List (S46)) 0 a0_0 a0_1 a0_2 l0_3) = some (r1, r2, r3, r4) := h
 clear h
 have H' := Aside0.mk H
 clear H
 go_enter Try.func34, Try.ntmps34
 go_wp2_with (first | ((with_reducible refine gate_dst (N := 2) rfl ?_); refine box_event ?hg (N := 2) ?hd (cs := #[.int .i64 a0_0, .int .i64 a0_1, .int .i64 a0_2, .slice A0_3 l0_3.length c0_3]) (t := 34) ?hr ?_; (case hd => rfl); (case hg => rfl); (case hr => first | (go_simp; done) | (go_simp; rfl)); intro gb102 hg w3 hbox hb; have n0_ := Aside0.mk (Kd.V_below (Kd.V_elderB (by (with_reducible repeat (first | apply Kd.V_alloc | apply Kd.V_drewN | apply Kd.V_drew)); exact HO0_3.out) gb102 (Nat.le_of_eq hg.symm)) hb); have n1_ := Aside0.mk (below_step (by repeat (with_reducible first | exact HB.out | apply below_alloc | apply pw_below_drewN | apply below_drew1)) hb); have n2_ := Aside0.mk (hbox); have n3_ := Aside0.mk ((by rw [hg]; exact (below_size (by repeat (with_reducible first | exact HB.out | apply below_alloc | apply pw_below_drewN | apply below_drew1))) : w.heap.size ≤ gb102)); have n4_ := Aside0.mk ((by rw [hg]; exact (below_size (by repeat (with_reducible first | exact HB.out | apply below_alloc | apply pw_below_drewN | apply below_drew1))) : w.heap.size ≤ gb102)); clear HO0_3; clear HB; have HO0_3 := n0_; have HB := n1_; have BK102 := n2_; have GW102 := n3_; have GE102 := n4_; clear n0_ n1_ n2_ n3_ n4_; clear hb hbox hg) | ((with_reducible refine gate_dst (N := 4) rfl ?_); refine box_event ?hg (N := 4) ?hd (cs := #[.int .i64 0, .int .i64 0, .int .i64 0, .slice none 0 0]) (t := 34) ?hr ?_; (case hd => rfl); (case hg => rfl); (case hr => first | (go_simp; done) | (go_simp; rfl)); intro gb103 hg w4 hbox hb; have n0_ := Aside0.mk (Kd.V_below (Kd.V_elderB (by (with_reducible repeat (first | apply Kd.V_alloc | apply Kd.V_drewN | apply Kd.V_drew)); exact HO0_3.out) gb103 (Nat.le_of_eq hg.symm)) hb); have n1_ := Aside0.mk (blk_below (g := gb102) (o := .cells #[.int .i64 a0_0, .int .i64 a0_1, .int .i64 a0_2, .slice A0_3 l0_3.length c0_3] 34 (0, 0)) (by (with_reducible repeat (first | refine blk_drewN ?_ _ | refine blk_drew ?_ | refine blk_alloc ?_ _)); exact BK102.out) hb); have n2_ := Aside0.mk (below_step (by repeat (with_reducible first | exact HB.out | apply below_alloc | apply pw_below_drewN | apply below_drew1 | refine below_set ?_ GE102.out)) hb); have n3_ := Aside0.mk (hbox); have n4_ := Aside0.mk ((by rw [hg]; exact (below_size (by repeat (with_reducible first | exact HB.out | apply below_alloc | apply pw_below_drewN | apply below_drew1 | refine below_set ?_ GE102.out))) : w.heap.size ≤ gb103)); have n5_ := Aside0.mk ((by rw [hg]; exact (below_size (by repeat (with_reducible first | exact HB.out | apply below_alloc | apply pw_below_drewN | apply below_drew1 | refine below_set ?_ GE102.out))) : w.heap.size ≤ gb103)); have n6_ := Aside0.mk ((by rw [hg]; exact Nat.ne_of_lt (blk_lt (g := gb102) (o := .cells #[.int .i64 a0_0, .int .i64 a0_1, .int .i64 a0_2, .slice A0_3 l0_3.length c0_3] 34 (0, 0)) (by (with_reducible repeat (first | refine blk_drewN ?_ _ | refine blk_drew ?_ | refine blk_alloc ?_ _)); exact BK102.out)) : gb102 ≠ gb103)); have n7_ := Aside0.mk ((by rw [hg]; exact Nat.ne_of_gt (blk_lt (g := gb102) (o := .cells #[.int .i64 a0_0, .int .i64 a0_1, .int .i64 a0_2, .slice A0_3 l0_3.length c0_3] 34 (0, 0)) (by (with_reducible repeat (first | refine blk_drewN ?_ _ | refine blk_drew ?_ | refine blk_alloc ?_ _)); exact BK102.out)) : gb103 ≠ gb102)); clear HO0_3; clear BK102; clear HB; have HO0_3 := n0_; have BK102 := n1_; have HB := n2_; have BK103 := n3_; have GW103 := n4_; have GE103 := n5_; have NB102_103 := n6_; have NB103_102 := n7_; clear n0_ n1_ n2_ n3_ n4_ n5_ n6_ n7_; clear hb hbox hg))
 go_loopg [5, 6] k (fun kq v5 v6 w' => ∃ (x5_1 : List (S46)) (x6_1 : Int), v6 = .int .i64 x6_1 ∧ Aside0 (roadsteadref10_Without.l0 kq a1 x5_1 x6_1 a0_0 a0_1 a0_2 l0_3 = some (r1, r2, r3, r4)) ∧ Aside0 (kq ≤ k) ∧ Aside0 (Kd.N k46 46 w' w.heap.size (fun k_ => (P0_3_ k_ ∨ w.heap.size ≤ k_) ∧ k_ ≠ gb102 ∧ k_ ≠ gb103) v5 x5_1) ∧ Aside0 (Kd.V k46 46 w' w.heap.size (fun k_ => (P0_3_ k_ ∨ w.heap.size ≤ k_) ∧ some k_ ≠ (v5 : Value).ownBlock ∧ k_ ≠ gb102 ∧ k_ ≠ gb103) (.slice A0_3 l0_3.length c0_3) l0_3) ∧ Aside0 (w'.heap[gb102]? = some (.cells #[.int .i64 a0_0, .int .i64 a0_1, .int .i64 a0_2, (.slice A0_3 l0_3.length c0_3)] 34 (0, 0))) ∧ Aside0 (w'.heap[gb103]? = some (.cells #[.int .i64 0, .int .i64 0, .int .i64 0, (.slice none 0 0)] 34 (0, 0))) ∧ Aside0 (Below w.heap.size w w'))
 case atStart => exact ⟨(([] : List (S46))), (0), (by first | rfl | (simp; done) | (simp [*]; done)), H', ⟨Nat.le_refl _⟩, ⟨by first | exact Kd.S_nil _ _ _ _ _ | exact Kd.N_nil _ _ _ _ _ | exact Kd.V_nil _ _ _ _ _ | exact Kd.Q_nil _ _ _ _ _ | exact Kd.R_nil _ _ _ _ _⟩, ⟨by (with_reducible repeat (first | apply Kd.V_alloc | apply Kd.V_drewN | apply Kd.V_drew)); exact Kd.V_mono HO0_3.out (fun _ hk => ⟨hk.1.1, ⟨(by simp [Value.ownBlock]), ⟨hk.1.2, hk.2⟩⟩⟩)⟩, ⟨by (with_reducible repeat (first | refine blk_drewN ?_ _ | refine blk_drew ?_ | refine blk_alloc ?_ _)); exact BK102.out⟩, ⟨by (with_reducible repeat (first | refine blk_drewN ?_ _ | refine blk_drew ?_ | refine blk_alloc ?_ _)); exact BK103.out⟩, ⟨by repeat (with_reducible first | exact HB.out | apply below_alloc | apply pw_below_drewN | apply below_drew1 | refine below_set ?_ GE102.out | refine below_set ?_ GE103.out)⟩⟩
 case round =>
  clear H'
  try clear p2
  try clear c3
  obtain ⟨x5_1, x6_1, rfl, HA, HK1, HO_5, HO_103003, BK102, BK103, HB⟩ := hrel
  cases gk with
  | zero => exact absurd HA.out (by simp [roadsteadref10_Without.l0])
  | succ k1 =>
   have H := HA.out
   clear HA
   simp only [roadsteadref10_Without.l0] at H
   by_cases c5 : x6_1 < (l0_3.length : Int)
   ·rw [if_pos c5] at H
    have c5b0 : decide (x6_1 < (l0_3.length : Int)) = true := decide_eq_true c5
    clear c5
    by_cases c6 : 0 ≤ x6_1
    ·rw [if_pos c6] at H
     have c6b0 : decide (0 ≤ x6_1) = true := decide_eq_true c6
     clear c6
     by_cases c7 : ((rd_T46 l0_3 x6_1).f0) = a1
     ·rw [if_pos c7] at H
      have c7b0 : (((rd_T46 l0_3 x6_1).f0) == a1) = true := beq_iff_eq.mpr c7
      have c7b1 : (((rd_T46 l0_3 x6_1).f0) != a1) = false := bne_eq_false_iff_eq.mpr c7
      clear c7
      have H' := Aside0.mk H
      clear H
      have hnb8 := NB102_103.out
      have hnc8 := NB103_102.out
      have hcz9_0 : wr.cell? ⟨gb102, 0, none⟩ = some (.int .i64 a0_0) := (blk_cell BK102.out 0).trans rfl
      have hcz9_1 : wr.cell? ⟨gb102, 1, none⟩ = some (.int .i64 a0_1) := (blk_cell BK102.out 1).trans rfl
      have hcz9_2 : wr.cell? ⟨gb102, 2, none⟩ = some (.int .i64 a0_2) := (blk_cell BK102.out 2).trans rfl
      have hcz9_3 : wr.cell? ⟨gb102, 3, none⟩ = some (.slice A0_3 l0_3.length c0_3) := (blk_cell BK102.out 3).trans rfl
      have hfz9_0 := blk_frozen BK102.out 0
      have hfz9_1 := blk_frozen BK102.out 1
      have hfz9_2 := blk_frozen BK102.out 2
      have hfz9_3 := blk_frozen BK102.out 3
      have p104 : 0 ≤ (x6_1 : Int) := of_decide_eq_true (by first | (with_reducible assumption) | assumption)
      have q104 : x6_1 < (l0_3.length : Int) := of_decide_eq_true (by first | (with_reducible assumption) | assumption)
      obtain ⟨ad104, A104_7, c104_7, A104_8, c104_8, e104, hx104_0, hx104_1, hx104_2, hx104_3, hx104_4, hx104_5, hx104_6, hx104_7, hx104_8, hx104_9, hl104_7, hi104_7, hl104_8, hi104_8⟩ := at_T46 (Kd.V_reads' HO_103003.out).2.2 x6_1 p104 q104
      cases e104
      obtain ⟨ce104, hce104, hMe104, hcc104⟩ := Kd.V_get HO_103003.out z46 x6_1 p104 (by first | exact q104 | exact of_decide_eq_true (by first | (with_reducible assumption) | assumption) | (have e_ := (Kd.V_reads' HO_103003.out).1; omega))
      obtain ⟨ua104_7, uc104_7, ua104_8, uc104_8, rfl, ul104_7, ge104_7, ul104_8, ge104_8⟩ := k46_openF hMe104
      have hv104_7 := hcc104 7 _ rfl
      rw [add_field _ _ 7 (by omega)] at hv104_7
      replace hv104_7 := Option.some.inj (hv104_7.symm.trans hx104_7)
      injection hv104_7 with hva_ hvn_ hvc_
      rw [hva_] at ge104_7
      rw [hvc_] at ul104_7
      have HL104_7 := Aside0.mk (show Kd.V (Kd.int .i64) 3 _ w.heap.size _ _ ((rd_T46 l0_3 x6_1).f7) from Kd.V_mk ul104_7 ge104_7)
      clear hva_ hvn_ hvc_ ge104_7 ul104_7
      have hv104_8 := hcc104 8 _ rfl
      rw [add_field _ _ 8 (by omega)] at hv104_8
      replace hv104_8 := Option.some.inj (hv104_8.symm.trans hx104_8)
      injection hv104_8 with hva_ hvn_ hvc_
      rw [hva_] at ge104_8
      rw [hvc_] at ul104_8
      have HL104_8 := Aside0.mk (show Kd.V k68 68 _ w.heap.size _ _ ((rd_T46 l0_3 x6_1).f8) from Kd.V_mk ul104_8 ge104_8)
      clear hva_ hvn_ hvc_ ge104_8 ul104_8
      clear hcc104 hce104
      have HR104_7 := Aside0.mk hi104_7
      have HC104_7 := Aside0.mk hl104_7
      clear hi104_7 hl104_7
      have HR104_8 := Aside0.mk hi104_8
      have HC104_8 := Aside0.mk hl104_8
      clear hi104_8 hl104_8
      replace p104 := eq_true p104
      replace q104 := eq_true q104
      go_wp2
      go_roundg k1
      case measure => have := HK1.out; omega
      case rel => exact ⟨(x5_1), (wrap64 (x6_1 + 1)), (by first | rfl | (simp; done) | (simp [*]; done)), H', ⟨by have := HK1.out; omega⟩, ⟨by (with_reducible repeat (first | apply Kd.N_alloc | apply Kd.N_drewN | apply Kd.N_drew)); exact HO_5.out⟩, ⟨by (with_reducible repeat (first | apply Kd.V_alloc | apply Kd.V_drewN | apply Kd.V_drew)); exact HO_103003.out⟩, ⟨by (with_reducible repeat (first | refine blk_drewN ?_ _ | refine blk_drew ?_ | refine blk_alloc ?_ _)); exact BK102.out⟩, ⟨by (with_reducible repeat (first | refine blk_drewN ?_ _ | refine blk_drew ?_ | refine blk_alloc ?_ _)); exact BK103.out⟩, ⟨by repeat (with_reducible first | exact HB.out | apply below_alloc | apply pw_below_drewN | apply below_drew1 | refine below_set ?_ GE102.out | refine below_set ?_ GE103.out)⟩⟩
     ·rw [if_neg c7] at H
      have c7b0 : (((rd_T46 l0_3 x6_1).f0) == a1) = false := beq_eq_false_iff_ne.mpr c7
      have c7b1 : (((rd_T46 l0_3 x6_1).f0) != a1) = true := bne_iff_ne.mpr c7
      by_cases c10 : x5_1.length < 977343669134
      ·rw [if_pos c10] at H
       have LMc10 := Aside0.mk c10
       clear c10
       obtain ⟨y106, hy106⟩ : ∃ y_ : List (S46), y_ = (x5_1 ++ [(⟨(rd_T46 l0_3 x6_1).f0, (rd_T46 l0_3 x6_1).f1, (rd_T46 l0_3 x6_1).f2, (rd_T46 l0_3 x6_1).f3, (rd_T46 l0_3 x6_1).f4, (rd_T46 l0_3 x6_1).f5, (rd_T46 l0_3 x6_1).f6, (rd_T46 l0_3 x6_1).f7, (rd_T46 l0_3 x6_1).f8, (rd_T46 l0_3 x6_1).f9⟩ : S46)]) := ⟨_, rfl⟩
       replace H : (roadsteadref10_Without.l0 k1 a1 y106 (wrap64 (x6_1 + 1)) a0_0 a0_1 a0_2 l0_3) = some (r1, r2, r3, r4) := by first | (rw [hy106]; with_reducible exact H) | (have H2_ := (Option.bind_some _ _).symm.trans H; rw [hy106]; with_reducible exact H2_) | (have H2_ := (Option.bind_some _ _).symm.trans H; with_reducible exact H2_) | with_reducible exact H | (rw [hy106]; exact H) | exact H
       have Ny106 := Aside0.mk hy106
       clear hy106
       have H' := Aside0.mk H
       clear H
       have hnb11 := NB102_103.out
       have hnc11 := NB103_102.out
       have hcz12_0 : wr.cell? ⟨gb102, 0, none⟩ = some (.int .i64 a0_0) := (blk_cell BK102.out 0).trans rfl
       have hcz12_1 : wr.cell? ⟨gb102, 1, none⟩ = some (.int .i64 a0_1) := (blk_cell BK102.out 1).trans rfl
       have hcz12_2 : wr.cell? ⟨gb102, 2, none⟩ = some (.int .i64 a0_2) := (blk_cell BK102.out 2).trans rfl
       have hcz12_3 : wr.cell? ⟨gb102, 3, none⟩ = some (.slice A0_3 l0_3.length c0_3) := (blk_cell BK102.out 3).trans rfl
       have hfz12_0 := blk_frozen BK102.out 0
       have hfz12_1 := blk_frozen BK102.out 1
       have hfz12_2 := blk_frozen BK102.out 2
       have hfz12_3 := blk_frozen BK102.out 3
       have p104 : 0 ≤ (x6_1 : Int) := of_decide_eq_true (by first | (with_reducible assumption) | assumption)
       have q104 : x6_1 < (l0_3.length : Int) := of_decide_eq_true (by first | (with_reducible assumption) | assumption)
       obtain ⟨ad104, A104_7, c104_7, A104_8, c104_8, e104, hx104_0, hx104_1, hx104_2, hx104_3, hx104_4, hx104_5, hx104_6, hx104_7, hx104_8, hx104_9, hl104_7, hi104_7, hl104_8, hi104_8⟩ := at_T46 (Kd.V_reads' HO_103003.out).2.2 x6_1 p104 q104
       cases e104
       obtain ⟨ce104, hce104, hMe104, hcc104⟩ := Kd.V_get HO_103003.out z46 x6_1 p104 (by first | exact q104 | exact of_decide_eq_true (by first | (with_reducible assumption) | assumption) | (have e_ := (Kd.V_reads' HO_103003.out).1; omega))
       obtain ⟨ua104_7, uc104_7, ua104_8, uc104_8, rfl, ul104_7, ge104_7, ul104_8, ge104_8⟩ := k46_openF hMe104
       have hv104_7 := hcc104 7 _ rfl
       rw [add_field _ _ 7 (by omega)] at hv104_7
       replace hv104_7 := Option.some.inj (hv104_7.symm.trans hx104_7)
       injection hv104_7 with hva_ hvn_ hvc_
       rw [hva_] at ge104_7
       rw [hvc_] at ul104_7
       have HL104_7 := Aside0.mk (show Kd.V (Kd.int .i64) 3 _ w.heap.size _ _ ((rd_T46 l0_3 x6_1).f7) from Kd.V_mk ul104_7 ge104_7)
       clear hva_ hvn_ hvc_ ge104_7 ul104_7
       have hv104_8 := hcc104 8 _ rfl
       rw [add_field _ _ 8 (by omega)] at hv104_8
       replace hv104_8 := Option.some.inj (hv104_8.symm.trans hx104_8)
       injection hv104_8 with hva_ hvn_ hvc_
       rw [hva_] at ge104_8
       rw [hvc_] at ul104_8
       have HL104_8 := Aside0.mk (show Kd.V k68 68 _ w.heap.size _ _ ((rd_T46 l0_3 x6_1).f8) from Kd.V_mk ul104_8 ge104_8)
       clear hva_ hvn_ hvc_ ge104_8 ul104_8
       clear hcc104 hce104
       have HR104_7 := Aside0.mk hi104_7
       have HC104_7 := Aside0.mk hl104_7
       clear hi104_7 hl104_7
       have HR104_8 := Aside0.mk hi104_8
       have HC104_8 := Aside0.mk hl104_8
       clear hi104_8 hl104_8
       replace p104 := eq_true p104
       replace q104 := eq_true q104
       have p105 : 0 ≤ (x6_1 : Int) := of_decide_eq_true (by first | (with_reducible assumption) | assumption)
       have q105 : x6_1 < (l0_3.length : Int) := of_decide_eq_true (by first | (with_reducible assumption) | assumption)
       obtain ⟨ad105, A105_7, c105_7, A105_8, c105_8, e105, hx105_0, hx105_1, hx105_2, hx105_3, hx105_4, hx105_5, hx105_6, hx105_7, hx105_8, hx105_9, hl105_7, hi105_7, hl105_8, hi105_8⟩ := at_T46 (Kd.V_reads' HO_103003.out).2.2 x6_1 p105 q105
       obtain rfl : ad104 = ad105 := (by injection e105)
       obtain ⟨ce105, hce105, hMe105, hcc105⟩ := Kd.V_get HO_103003.out z46 x6_1 p105 (by first | exact q105 | exact of_decide_eq_true (by first | (with_reducible assumption) | assumption) | (have e_ := (Kd.V_reads' HO_103003.out).1; omega))
       obtain ⟨ua105_7, uc105_7, ua105_8, uc105_8, rfl, ul105_7, ge105_7, ul105_8, ge105_8⟩ := k46_openF hMe105
       have hv105_7 := hcc105 7 _ rfl
       rw [add_field _ _ 7 (by omega)] at hv105_7
       replace hv105_7 := Option.some.inj (hv105_7.symm.trans hx105_7)
       injection hv105_7 with hva_ hvn_ hvc_
       rw [hva_] at ge105_7
       rw [hvc_] at ul105_7
       have HL105_7 := Aside0.mk (show Kd.V (Kd.int .i64) 3 _ w.heap.size _ _ ((rd_T46 l0_3 x6_1).f7) from Kd.V_mk ul105_7 ge105_7)
       clear hva_ hvn_ hvc_ ge105_7 ul105_7
       have hv105_8 := hcc105 8 _ rfl
       rw [add_field _ _ 8 (by omega)] at hv105_8
       replace hv105_8 := Option.some.inj (hv105_8.symm.trans hx105_8)
       injection hv105_8 with hva_ hvn_ hvc_
       rw [hva_] at ge105_8
       rw [hvc_] at ul105_8
       have HL105_8 := Aside0.mk (show Kd.V k68 68 _ w.heap.size _ _ ((rd_T46 l0_3 x6_1).f8) from Kd.V_mk ul105_8 ge105_8)
       clear hva_ hvn_ hvc_ ge105_8 ul105_8
       clear hcc105 hce105
       have HR105_7 := Aside0.mk hi105_7
       have HC105_7 := Aside0.mk hl105_7
       clear hi105_7 hl105_7
       have HR105_8 := Aside0.mk hi105_8
       have HC105_8 := Aside0.mk hl105_8
       clear hi105_8 hl105_8
       replace p105 := eq_true p105
       replace q105 := eq_true q105
       have ea_ := Option.some.inj (hx104_7.symm.trans hx105_7)
       injection ea_ with ea_ en_ ec_
       subst ea_
       subst ec_
       clear en_
       have ea_ := Option.some.inj (hx104_8.symm.trans hx105_8)
       injection ea_ with ea_ en_ ec_
       subst ea_
       subst ec_
       clear en_
       go_wp2_with (first | ((with_reducible refine gate_builtin (b := .append) (xs := #[.tmp 22, .tmp 28]) rfl ?_); at_builtin; refine Kd.N_append k46 (w0 := w) w.heap.size rfl (.tmp 22) (.tmp 28) 32 46 (.agg #[(.int .i64 0), (.string ⟨#[]⟩), (.string ⟨#[]⟩), (.string ⟨#[]⟩), (.int .i64 0), (.int .i64 0), (.int .i64 0), (.slice none 0 0), (.slice none 0 0), (.string ⟨#[]⟩)]) 144 rfl Try.underlying32 info46 rfl (by decide) (by omega) u5 x5_1 (⟨(rd_T46 l0_3 x6_1).f0, (rd_T46 l0_3 x6_1).f1, (rd_T46 l0_3 x6_1).f2, (rd_T46 l0_3 x6_1).f3, (rd_T46 l0_3 x6_1).f4, (rd_T46 l0_3 x6_1).f5, (rd_T46 l0_3 x6_1).f6, (rd_T46 l0_3 x6_1).f7, (rd_T46 l0_3 x6_1).f8, (rd_T46 l0_3 x6_1).f9⟩ : S46) [.int .i64 ((rd_T46 l0_3 x6_1).f0), .string ((rd_T46 l0_3 x6_1).f1), .string ((rd_T46 l0_3 x6_1).f2), .string ((rd_T46 l0_3 x6_1).f3), .int .i64 ((rd_T46 l0_3 x6_1).f4), .int .i64 ((rd_T46 l0_3 x6_1).f5), .int .i64 ((rd_T46 l0_3 x6_1).f6), .slice A104_7 ((rd_T46 l0_3 x6_1).f7).length c104_7, .slice A104_8 ((rd_T46 l0_3 x6_1).f8).length c104_8, .string ((rd_T46 l0_3 x6_1).f9)] (fun k_ => (P0_3_ k_ ∨ w.heap.size ≤ k_) ∧ k_ ≠ gb102 ∧ k_ ≠ gb103) (fun k_ => ((fun k_ => (P0_3_ k_ ∨ w.heap.size ≤ k_) ∧ k_ ≠ gb102 ∧ k_ ≠ gb103)) k_ ∧ some k_ ≠ (u5 : Value).ownBlock) rfl rfl ?aP (fun _ hk => hk) ?aF ?aO ?aB ?aS ?aL ?_; (case aP => exact (k46_mkF _ _ (⟨(rd_T46 l0_3 x6_1).f0, (rd_T46 l0_3 x6_1).f1, (rd_T46 l0_3 x6_1).f2, (rd_T46 l0_3 x6_1).f3, (rd_T46 l0_3 x6_1).f4, (rd_T46 l0_3 x6_1).f5, (rd_T46 l0_3 x6_1).f6, (rd_T46 l0_3 x6_1).f7, (rd_T46 l0_3 x6_1).f8, (rd_T46 l0_3 x6_1).f9⟩ : S46) (Kd.V_reads' (Kd.V_mono (ok' := (fun k_ => ((fun k_ => (P0_3_ k_ ∨ w.heap.size ≤ k_) ∧ k_ ≠ gb102 ∧ k_ ≠ gb103)) k_ ∧ some k_ ≠ (u5 : Value).ownBlock)) (HL105_7.out) (fun k_ hk => ⟨⟨hk.1, ⟨hk.2.2.1, hk.2.2.2⟩⟩, hk.2.1⟩))).2.1 (Kd.V_F (Kd.V_mono (ok' := (fun k_ => ((fun k_ => (P0_3_ k_ ∨ w.heap.size ≤ k_) ∧ k_ ≠ gb102 ∧ k_ ≠ gb103)) k_ ∧ some k_ ≠ (u5 : Value).ownBlock)) (HL105_7.out) (fun k_ hk => ⟨⟨hk.1, ⟨hk.2.2.1, hk.2.2.2⟩⟩, hk.2.1⟩))) (Kd.V_reads' (Kd.V_mono (ok' := (fun k_ => ((fun k_ => (P0_3_ k_ ∨ w.heap.size ≤ k_) ∧ k_ ≠ gb102 ∧ k_ ≠ gb103)) k_ ∧ some k_ ≠ (u5 : Value).ownBlock)) (HL105_8.out) (fun k_ hk => ⟨⟨hk.1, ⟨hk.2.2.1, hk.2.2.2⟩⟩, hk.2.1⟩))).2.1 (Kd.V_F (Kd.V_mono (ok' := (fun k_ => ((fun k_ => (P0_3_ k_ ∨ w.heap.size ≤ k_) ∧ k_ ≠ gb102 ∧ k_ ≠ gb103)) k_ ∧ some k_ ≠ (u5 : Value).ownBlock)) (HL105_8.out) (fun k_ hk => ⟨⟨hk.1, ⟨hk.2.2.1, hk.2.2.2⟩⟩, hk.2.1⟩))))); (case aB => exact (by repeat (with_reducible first | exact HB.out | apply below_alloc | apply pw_below_drewN | apply below_drew1 | refine below_set ?_ GE102.out | refine below_set ?_ GE103.out))); (case aF => exact (fun k_ hk => ⟨(.inr (Nat.le_trans (below_size (by repeat (with_reducible first | exact HB.out | apply below_alloc | apply pw_below_drewN | apply below_drew1 | refine below_set ?_ GE102.out | refine below_set ?_ GE103.out))) hk)), Kd.freshB (g := gb102) (o := .cells #[.int .i64 a0_0, .int .i64 a0_1, .int .i64 a0_2, .slice (some ad104) l0_3.length c0_3] 34 (0, 0)) (by (with_reducible repeat (first | refine blk_drewN ?_ _ | refine blk_drew ?_ | refine blk_alloc ?_ _)); exact BK102.out) k_ hk, Kd.freshB (g := gb103) (o := .cells #[.int .i64 0, .int .i64 0, .int .i64 0, .slice none 0 0] 34 (0, 0)) (by (with_reducible repeat (first | refine blk_drewN ?_ _ | refine blk_drew ?_ | refine blk_alloc ?_ _)); exact BK103.out) k_ hk⟩)); (case aO => exact (by (with_reducible repeat (first | apply Kd.N_alloc | apply Kd.N_drewN | apply Kd.N_drew)); exact HO_5.out)); (case aS => exact (below_size (by repeat (with_reducible first | exact HB.out | apply below_alloc | apply pw_below_drewN | apply below_drew1 | refine below_set ?_ GE102.out | refine below_set ?_ GE103.out)))); (case aL => have := LMc10.out; omega); intro v107 w13 ho hb hg hat; rw [← Ny106.out] at ho; have n0_ := Aside0.mk (Kd.V_afterv (ok := (fun k_ => (P0_3_ k_ ∨ w.heap.size ≤ k_) ∧ k_ ≠ gb102 ∧ k_ ≠ gb103)) (by (with_reducible repeat (first | apply Kd.V_alloc | apply Kd.V_drewN | apply Kd.V_drew)); exact Kd.V_mono HO_103003.out (fun _ hk => ⟨⟨hk.1, ⟨hk.2.2.1, hk.2.2.2⟩⟩, hk.2.1⟩)) hg hat); have n1_ := Aside0.mk (blk_grown (g := gb102) (o := .cells #[.int .i64 a0_0, .int .i64 a0_1, .int .i64 a0_2, .slice (some ad104) l0_3.length c0_3] 34 (0, 0)) (by (with_reducible repeat (first | refine blk_drewN ?_ _ | refine blk_drew ?_ | refine blk_alloc ?_ _)); exact BK102.out) hg (Kd.N_ne HO_5.out BK102.out (by decide))); have n2_ := Aside0.mk (blk_grown (g := gb103) (o := .cells #[.int .i64 0, .int .i64 0, .int .i64 0, .slice none 0 0] 34 (0, 0)) (by (with_reducible repeat (first | refine blk_drewN ?_ _ | refine blk_drew ?_ | refine blk_alloc ?_ _)); exact BK103.out) hg (Kd.N_ne HO_5.out BK103.out (by decide))); have n3_ := Aside0.mk (Kd.V_afterv (ok := (fun k_ => (P0_3_ k_ ∨ w.heap.size ≤ k_) ∧ k_ ≠ gb102 ∧ k_ ≠ gb103)) (by (with_reducible repeat (first | apply Kd.V_alloc | apply Kd.V_drewN | apply Kd.V_drew)); exact Kd.V_mono HL104_7.out (fun _ hk => ⟨⟨hk.1, ⟨hk.2.2.1, hk.2.2.2⟩⟩, hk.2.1⟩)) hg hat); have n4_ := Aside0.mk (Kd.V_afterv (ok := (fun k_ => (P0_3_ k_ ∨ w.heap.size ≤ k_) ∧ k_ ≠ gb102 ∧ k_ ≠ gb103)) (by (with_reducible repeat (first | apply Kd.V_alloc | apply Kd.V_drewN | apply Kd.V_drew)); exact Kd.V_mono HL104_8.out (fun _ hk => ⟨⟨hk.1, ⟨hk.2.2.1, hk.2.2.2⟩⟩, hk.2.1⟩)) hg hat); have n5_ := Aside0.mk (Kd.V_afterv (ok := (fun k_ => (P0_3_ k_ ∨ w.heap.size ≤ k_) ∧ k_ ≠ gb102 ∧ k_ ≠ gb103)) (by (with_reducible repeat (first | apply Kd.V_alloc | apply Kd.V_drewN | apply Kd.V_drew)); exact Kd.V_mono HL105_7.out (fun _ hk => ⟨⟨hk.1, ⟨hk.2.2.1, hk.2.2.2⟩⟩, hk.2.1⟩)) hg hat); have n6_ := Aside0.mk (Kd.V_afterv (ok := (fun k_ => (P0_3_ k_ ∨ w.heap.size ≤ k_) ∧ k_ ≠ gb102 ∧ k_ ≠ gb103)) (by (with_reducible repeat (first | apply Kd.V_alloc | apply Kd.V_drewN | apply Kd.V_drew)); exact Kd.V_mono HL105_8.out (fun _ hk => ⟨⟨hk.1, ⟨hk.2.2.1, hk.2.2.2⟩⟩, hk.2.1⟩)) hg hat); have n7_ := Aside0.mk (hb); have n8_ := Aside0.mk (ho); clear HO_103003; clear BK102; clear BK103; clear HL104_7; clear HL104_8; clear HL105_7; clear HL105_8; clear HB; clear HO_5; have HO_103003 := n0_; have BK102 := n1_; have BK103 := n2_; have HL104_7 := n3_; have HL104_8 := n4_; have HL105_7 := n5_; have HL105_8 := n6_; have HB := n7_; have HO108 := n8_; clear n0_ n1_ n2_ n3_ n4_ n5_ n6_ n7_ n8_; clear ho hb hg hat))
       go_roundg k1
       case measure => have := HK1.out; omega
       case rel => exact ⟨(y106), (wrap64 (x6_1 + 1)), (by first | rfl | (simp; done) | (simp [*]; done)), H', ⟨by have := HK1.out; omega⟩, ⟨by (with_reducible repeat (first | apply Kd.N_alloc | apply Kd.N_drewN | apply Kd.N_drew)); exact HO108.out⟩, ⟨by (with_reducible repeat (first | apply Kd.V_alloc | apply Kd.V_drewN | apply Kd.V_drew)); exact Kd.V_mono HO_103003.out (fun _ hk => ⟨hk.1.1, ⟨hk.2, ⟨hk.1.2.1, hk.1.2.2⟩⟩⟩)⟩, ⟨by (with_reducible repeat (first | refine blk_drewN ?_ _ | refine blk_drew ?_ | refine blk_alloc ?_ _)); exact BK102.out⟩, ⟨by (with_reducible repeat (first | refine blk_drewN ?_ _ | refine blk_drew ?_ | refine blk_alloc ?_ _)); exact BK103.out⟩, ⟨by repeat (with_reducible first | exact HB.out | apply below_alloc | apply pw_below_drewN | apply below_drew1 | refine below_set ?_ GE102.out | refine below_set ?_ GE103.out)⟩⟩
      ·rw [if_neg c10] at H
       exact absurd H (by simp)
    ·rw [if_neg c6] at H
     exact absurd H (by simp)
   ·rw [if_neg c5] at H
    have c5b0 : decide (x6_1 < (l0_3.length : Int)) = false := decide_eq_false c5
    clear c5
    simp only [Option.some.injEq, Prod.mk.injEq] at H
    obtain ⟨rfl, rfl, rfl, rfl⟩ := H
    have hnb14 := NB102_103.out
    have hnc14 := NB103_102.out
    have hcz15_0 : wr.cell? ⟨gb102, 0, none⟩ = some (.int .i64 a0_0) := (blk_cell BK102.out 0).trans rfl
    have hcz15_1 : wr.cell? ⟨gb102, 1, none⟩ = some (.int .i64 a0_1) := (blk_cell BK102.out 1).trans rfl
    have hcz15_2 : wr.cell? ⟨gb102, 2, none⟩ = some (.int .i64 a0_2) := (blk_cell BK102.out 2).trans rfl
    have hcz15_3 : wr.cell? ⟨gb102, 3, none⟩ = some (.slice A0_3 l0_3.length c0_3) := (blk_cell BK102.out 3).trans rfl
    have hfz15_0 := blk_frozen BK102.out 0
    have hfz15_1 := blk_frozen BK102.out 1
    have hfz15_2 := blk_frozen BK102.out 2
    have hfz15_3 := blk_frozen BK102.out 3
    obtain ⟨Ao16, co16, eo16⟩ := Kd.N_slice HO_5.out
    subst eo16
    have hcz17_0 : wr.cell? ⟨gb103, 0, none⟩ = some (.int .i64 0) := (blk_cell BK103.out 0).trans rfl
    have hcz17_1 : wr.cell? ⟨gb103, 1, none⟩ = some (.int .i64 0) := (blk_cell BK103.out 1).trans rfl
    have hcz17_2 : wr.cell? ⟨gb103, 2, none⟩ = some (.int .i64 0) := (blk_cell BK103.out 2).trans rfl
    have hcz17_3 : wr.cell? ⟨gb103, 3, none⟩ = some (.slice none 0 0) := (blk_cell BK103.out 3).trans rfl
    have hfz17_0 := blk_frozen BK103.out 0
    have hfz17_1 := blk_frozen BK103.out 1
    have hfz17_2 := blk_frozen BK103.out 2
    have hfz17_3 := blk_frozen BK103.out 3
    go_wp2
    refine bodyPost_ret (results_cell_row rfl _ _ gb103 34 #[.int .i64 a0_0, .int .i64 a0_1, .int .i64 a0_2, .slice Ao16 x5_1.length co16] (0, 0) _ rfl (by (with_reducible repeat (first | refine blk_drewN ?_ _ | refine blk_drew ?_ | refine blk_alloc ?_ _)); refine blk_put (cs := #[.int .i64 a0_0, .int .i64 a0_1, .int .i64 a0_2, .slice none 0 0]) ?_ 3 _ rfl; refine blk_put (cs := #[.int .i64 a0_0, .int .i64 a0_1, .int .i64 0, .slice none 0 0]) ?_ 2 _ rfl; refine blk_put (cs := #[.int .i64 a0_0, .int .i64 0, .int .i64 0, .slice none 0 0]) ?_ 1 _ rfl; refine blk_put (cs := #[.int .i64 0, .int .i64 0, .int .i64 0, .slice none 0 0]) ?_ 0 _ rfl; refine blk_far ?_ NB103_102.out _; exact BK103.out) Try.underlying34 rfl (by kernel_rfl)) rfl ?_
    exact ⟨_, by first | rfl | (simp [errW_none, errW_some] <;> rfl) | (simp [*, errW_none, errW_some] <;> rfl), by (with_reducible repeat (first | apply Kd.N_alloc | apply Kd.N_drewN | apply Kd.N_drew)); exact Kd.N_mono (Kd.N_far (p := ⟨gb103, 3, none⟩) (Kd.N_far (p := ⟨gb103, 2, none⟩) (Kd.N_far (p := ⟨gb103, 1, none⟩) (Kd.N_far (p := ⟨gb103, 0, none⟩) (Kd.N_far (p := ⟨gb102, 3, none⟩) (Kd.N_mono (Kd.N_mono HO_5.out (fun k_ hk => (⟨hk, hk.2.1⟩ : _ ∧ k_ ≠ gb102))) (fun k_ hk => (⟨hk, hk.1.2.2⟩ : _ ∧ k_ ≠ gb103))) (fun _ hk => hk.1.2) (.slice Ao16 x5_1.length co16)) (fun _ hk => hk.2) (.int .i64 a0_0)) (fun _ hk => hk.2) (.int .i64 a0_1)) (fun _ hk => hk.2) (.int .i64 a0_2)) (fun _ hk => hk.2) (.slice Ao16 x5_1.length co16)) (fun _ hk => hk.1.1.1), by repeat (with_reducible first | exact HB.out | apply below_alloc | apply pw_below_drewN | apply below_drew1 | refine below_set ?_ GE102.out | refine below_set ?_ GE103.out)⟩

end Go.Proofs.Ytajfefjmfelnbaa.BState
