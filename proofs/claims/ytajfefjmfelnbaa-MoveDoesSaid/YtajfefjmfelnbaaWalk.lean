/- move.Walk: the walk. -/
import Derived.Test.YtajfefjmfelnbaaStep
import Derived.Test.YtajfefjmfelnbaaBBeginx1
import Derived.Test.YtajfefjmfelnbaaLabels
namespace Go.Proofs.Ytajfefjmfelnbaa
open Go.RowKit Go.Proofs.YtajfefjmfelnbaaW.PrintWords Go.Proofs.YtajfefjmfelnbaaW.PrintLast Go.Proofs.YtajfefjmfelnbaaW.PrintMore BState
set_option linter.unusedVariables false
def cmpI (x y : Int) : Int := if x < y then -1 else if y < x then 1 else 0
def beginI (f t c : Int) (b : Bool) (w : Int) : Int × Int × Int × Bool × Int :=
 if w < 1 ∨ 3 < w then (f, t, c, b, 50) else if f ≠ t then (f, t, c, b, 51) else (f, wrap64 (f + cmpI w f), 0, false, 0)
theorem begin_pure (k : Nat) (f t c : Int) (b : Bool) (w : Int) : BBegin.move_Begin.f (k + 1) f t c b w = some (beginI f t c b w) := by
 unfold BBegin.move_Begin.f beginI
 by_cases h1 : w < 1
 ·rw [if_pos h1, if_pos (Or.inl h1), BBegin.move_Begin.j0, if_pos rfl]
 ·rw [if_neg h1]
  by_cases h3 : 3 < w
  ·rw [if_pos (Or.inr h3), show decide (w > 3) = true from decide_eq_true h3, BBegin.move_Begin.j0, if_pos rfl]
  ·rw [if_neg (by omega), show decide (w > 3) = false from decide_eq_false h3, BBegin.move_Begin.j0, if_neg (by simp)]
   unfold BBegin.move_moves.f BBegin.cmp_Compare_int.f BBegin.cmp_isNaN_int.f
   simp only [Option.bind_some]
   by_cases hft : f = t
   ·subst hft
    simp only [bne_self_eq_false, Bool.false_eq_true, if_false, ne_eq, not_true_eq_false]
    unfold cmpI
    by_cases a : w < f
    ·rw [if_pos a, if_pos a]; rfl
    ·rw [if_neg a, if_neg a]
     by_cases b : w > f
     ·rw [if_pos b, if_pos b]; rfl
     ·rw [if_neg b, if_neg b]; rfl
   ·rw [if_pos (by simp [hft]), if_pos hft]
/-- One round of Walk. -/
def oneI (v f t c : Int) (b : Bool) (l : List S46) : Int × Int × Int × Bool × Bool :=
 if f = t then stepI (beginI f t c b v).1 (beginI f t c b v).2.1 (beginI f t c b v).2.2.1 (beginI f t c b v).2.2.2.1 l else stepI f t c b l
def walkI : Nat → Int → Nat → Int → Int → Int → Bool → List S46 → Int × Int × Int × Bool × Int
 | 0, _, n, f, t, c, b, _ => (f, t, c, b, (n : Int))
 | d + 1, v, n, f, t, c, b, l => if f = t ∧ f = v then (f, t, c, b, (n : Int)) else walkI d v (n + 1) (oneI v f t c b l).1 (oneI v f t c b l).2.1 (oneI v f t c b l).2.2.1 (oneI v f t c b l).2.2.2.1 l
def goI (f t c : Int) (b : Bool) (l : List S46) (v m : Int) : Int × Int × Int × Bool × Int :=
 if v < 1 ∨ 3 < v then (f, t, c, b, 0) else walkI m.toNat v 0 f t c b l
set_option maxRecDepth 100000 in
set_option maxHeartbeats 4000000 in
theorem walk.walk (f t c : Int) (b : Bool) (c0 c1 c2 : Int) (A : Option Addr) (cap : Nat) (l : List S46) (v m : Int) (w : World) (hC : Kd.C k46 w A l.length l) (hc : l.length ≤ cap) (hn : l.length ≤ 1000000) (hm : m ≤ 9223372036854775807) :
 Calls Try.prog 17 #[.agg #[.int .i64 f, .int .i64 t, .int .i64 c, .bool b], .agg #[.int .i64 c0, .int .i64 c1, .int .i64 c2, .slice A l.length cap], .int .i64 v, .int .i64 m] w fun e w' =>
  e = .returned (.tuple #[.agg #[.int .i64 (goI f t c b l v m).1, .int .i64 (goI f t c b l v m).2.1, .int .i64 (goI f t c b l v m).2.2.1, .bool (goI f t c b l v m).2.2.2.1], .int .i64 (goI f t c b l v m).2.2.2.2]) ∧ Below w.heap.size w w' := by
 have HC := Aside0.mk hC
 have HCC := Aside0.mk hc
 clear hC hc
 have hu23 := Try.underlying23
 have hu34 := Try.underlying34
 obtain ⟨R, hR⟩ : ∃ R, goI f t c b l v m = R := ⟨_, rfl⟩
 have HRR := Aside0.mk hR
 rw [hR]
 clear hR
 go_enter Try.func17, Try.ntmps17
 go_wp2
 have HR0 : Aside0 ((((w.alloc (.cells #[.int .i64 f, .int .i64 t, .int .i64 c, .bool b] 23)).alloc (.cells #[.int .i64 c0, .int .i64 c1, .int .i64 c2, .slice A l.length cap] 34)).alloc (.cells #[.int .i64 0, .int .i64 0, .int .i64 0, .bool false] 23)).heap[w.heap.size]? = some (.cells #[.int .i64 f, .int .i64 t, .int .i64 c, .bool b] 23 (0, 0))) := ⟨by
  rw [_root_.Go.heap_alloc_old _ _ (by rw [size_alloc, size_alloc]; omega), _root_.Go.heap_alloc_old _ _ (by rw [size_alloc]; omega)]; exact heap_alloc_new _ _⟩
 have HR1 : Aside0 ((((w.alloc (.cells #[.int .i64 f, .int .i64 t, .int .i64 c, .bool b] 23)).alloc (.cells #[.int .i64 c0, .int .i64 c1, .int .i64 c2, .slice A l.length cap] 34)).alloc (.cells #[.int .i64 0, .int .i64 0, .int .i64 0, .bool false] 23)).heap[w.heap.size + 1]? = some (.cells #[.int .i64 c0, .int .i64 c1, .int .i64 c2, .slice A l.length cap] 34 (0, 0))) := ⟨by
  rw [_root_.Go.heap_alloc_old _ _ (by rw [size_alloc, size_alloc]; omega)]
  have := heap_alloc_new (w.alloc (.cells #[.int .i64 f, .int .i64 t, .int .i64 c, .bool b] 23)) (.cells #[.int .i64 c0, .int .i64 c1, .int .i64 c2, .slice A l.length cap] 34)
  rwa [show (w.alloc (.cells #[.int .i64 f, .int .i64 t, .int .i64 c, .bool b] 23)).heap.size = w.heap.size + 1 by rw [size_alloc]] at this⟩
 have HR2 : Aside0 ((((w.alloc (.cells #[.int .i64 f, .int .i64 t, .int .i64 c, .bool b] 23)).alloc (.cells #[.int .i64 c0, .int .i64 c1, .int .i64 c2, .slice A l.length cap] 34)).alloc (.cells #[.int .i64 0, .int .i64 0, .int .i64 0, .bool false] 23)).heap[w.heap.size + 1 + 1]? = some (.cells #[.int .i64 0, .int .i64 0, .int .i64 0, .bool false] 23 (0, 0))) := ⟨by
  have := heap_alloc_new ((w.alloc (.cells #[.int .i64 f, .int .i64 t, .int .i64 c, .bool b] 23)).alloc (.cells #[.int .i64 c0, .int .i64 c1, .int .i64 c2, .slice A l.length cap] 34)) (.cells #[.int .i64 0, .int .i64 0, .int .i64 0, .bool false] 23)
  rwa [show ((w.alloc (.cells #[.int .i64 f, .int .i64 t, .int .i64 c, .bool b] 23)).alloc (.cells #[.int .i64 c0, .int .i64 c1, .int .i64 c2, .slice A l.length cap] 34)).heap.size = w.heap.size + 1 + 1 by rw [size_alloc, size_alloc]] at this⟩
 have HB3 := Aside0.mk ((((Below.refl w.heap.size w).alloc (Nat.le_refl _) (.cells #[.int .i64 f, .int .i64 t, .int .i64 c, .bool b] 23)).alloc (by rw [size_alloc]; omega) (.cells #[.int .i64 c0, .int .i64 c1, .int .i64 c2, .slice A l.length cap] 34)).alloc (by rw [size_alloc, size_alloc]; omega) (.cells #[.int .i64 0, .int .i64 0, .int .i64 0, .bool false] 23))
 generalize ((w.alloc (.cells #[.int .i64 f, .int .i64 t, .int .i64 c, .bool b] 23)).alloc (.cells #[.int .i64 c0, .int .i64 c1, .int .i64 c2, .slice A l.length cap] 34)).alloc (.cells #[.int .i64 0, .int .i64 0, .int .i64 0, .bool false] 23) = w3 at *
 refine wp_scope_labels
  (fun la a' wr => ∃ (n : Nat) (f' t' c' : Int) (b' : Bool) (u6 u7 u11 u12 u13 u14 u15 u16 u17 u18 u19 u20 u21 u22 u23 u24 u25 u26 u27 u28 u29 u30 u31 u32 u33 u34 u35 u36 u37 u38 u39 u40 u41 u42 u43 u44 u45 u46 u47 u48 u49 : Value), a' = { tmps := #[.agg #[.int .i64 f, .int .i64 t, .int .i64 c, .bool b], .agg #[.int .i64 c0, .int .i64 c1, .int .i64 c2, .slice A l.length cap], .int .i64 v, .int .i64 m, .pointer (some ⟨w.heap.size, 0, none⟩), .pointer (some ⟨w.heap.size + 1, 0, none⟩), u6, u7, .pointer (some ⟨w.heap.size + 1 + 1, 0, none⟩), .int .i64 0, .int .i64 (n : Int), u11, u12, u13, u14, u15, u16, u17, u18, u19, u20, u21, u22, u23, u24, u25, u26, u27, u28, u29, u30, u31, u32, u33, u34, u35, u36, u37, u38, u39, u40, u41, u42, u43, u44, u45, u46, u47, u48, u49], defers := [] } ∧ n ≤ m.toNat ∧ ((la = 1 ∧ Aside0 (1 ≤ v ∧ v ≤ 3) ∧ Aside0 (walkI (m.toNat - n) v n f' t' c' b' l = R)) ∨ (la = 0 ∧ Aside0 (R = (f', t', c', b', (n : Int))))) ∧ Aside0 (wr.heap[w.heap.size]? = some (.cells #[.int .i64 f', .int .i64 t', .int .i64 c', .bool b'] 23 (0, 0))) ∧ Aside0 (wr.heap[w.heap.size + 1]? = some (.cells #[.int .i64 c0, .int .i64 c1, .int .i64 c2, .slice A l.length cap] 34 (0, 0))) ∧ Aside0 (wr.heap[w.heap.size + 1 + 1]? = some (.cells #[.int .i64 0, .int .i64 0, .int .i64 0, .bool false] 23 (0, 0))) ∧ Aside0 (Below w.heap.size w wr))
  (fun la a' _ => if la = 0 then 0 else m.toNat - (intOf (a'.tmps.getD 10 undef)).toNat + 1) ?_ ?_
 ·by_cases hv1 : v < 1
  ·have hd1 : decide (v < 1) = true := decide_eq_true hv1
   have HE : Aside0 (R = (f, t, c, b, ((0 : Nat) : Int))) := ⟨by rw [← HRR.out]; unfold goI; rw [if_pos (Or.inl hv1)]; rfl⟩
   clear hv1
   go_wp2
   go_step3
   exact ⟨0, f, t, c, b, _, _, _, _, _, _, _, _, _, _, _, _, _, _, _, _, _, _, _, _, _, _, _, _, _, _, _, _, _, _, _, _, _, _, _, _, _, _, _, _, _, rfl, by omega, Or.inr ⟨rfl, HE⟩, HR0, HR1, HR2, HB3⟩
  ·have hd1 : decide (v < 1) = false := decide_eq_false hv1
   by_cases hv3 : 3 < v
   ·have hd3 : decide (3 < v) = true := decide_eq_true hv3
    have HE : Aside0 (R = (f, t, c, b, ((0 : Nat) : Int))) := ⟨by rw [← HRR.out]; unfold goI; rw [if_pos (Or.inr hv3)]; rfl⟩
    clear hv1 hv3
    go_wp2
    go_step3
    exact ⟨0, f, t, c, b, _, _, _, _, _, _, _, _, _, _, _, _, _, _, _, _, _, _, _, _, _, _, _, _, _, _, _, _, _, _, _, _, _, _, _, _, _, _, _, _, _, rfl, by omega, Or.inr ⟨rfl, HE⟩, HR0, HR1, HR2, HB3⟩
   ·have hd3 : decide (3 < v) = false := decide_eq_false hv3
    have HV : Aside0 (1 ≤ v ∧ v ≤ 3) := ⟨by omega⟩
    have HE : Aside0 (walkI (m.toNat - 0) v 0 f t c b l = R) := ⟨by rw [← HRR.out]; unfold goI; rw [if_neg (by omega)]; rfl⟩
    clear hv1 hv3
    go_wp2
    go_step3
    have hN : 0 ≤ m.toNat := Nat.zero_le _
    clear HRR
    by_cases hlt : (0 : Int) < m
    ·have hd_ : decide (m ≤ (0 : Int)) = false := decide_eq_false (by omega)
     obtain ⟨d, hd⟩ : ∃ d, m.toNat - 0 = d + 1 := ⟨m.toNat - 0 - 1, by omega⟩
     have hlt_ : (0 : Nat) < m.toNat := by omega
     have hle_ : 0 + 1 ≤ m.toNat := by omega
     have hdd : m.toNat - (0 + 1) = d := by omega
     have HE2 : Aside0 (walkI (d + 1) v (0) f t c b l = R) := ⟨by rw [← hd]; exact HE.out⟩
     have HDD := Aside0.mk hdd
     clear hd hdd
     obtain ⟨q, hq⟩ : ∃ q, (f != t) = q := ⟨_, rfl⟩
     have HQ := Aside0.mk hq
     clear hq
     have k0_ : World.cell? w3 ⟨w.heap.size, 0, none⟩ = some (.int .i64 (f)) := by rw [cell_of_row _ _ _ _ _ _ HR0.out]; rfl
     have k1_ : World.cell? w3 ⟨w.heap.size, 1, none⟩ = some (.int .i64 (t)) := by rw [cell_of_row _ _ _ _ _ _ HR0.out]; rfl
     have k2_ : World.cell? w3 ⟨w.heap.size, 2, none⟩ = some (.int .i64 (c)) := by rw [cell_of_row _ _ _ _ _ _ HR0.out]; rfl
     have k3_ : World.cell? w3 ⟨w.heap.size, 3, none⟩ = some (.bool (b)) := by rw [cell_of_row _ _ _ _ _ _ HR0.out]; rfl
     go_wp2_with fail
     clear k0_ k1_ k2_ k3_
     refine (moves.walk _ _ _ _ _).mono ?_
     rintro e w_1 ⟨rfl, hb_⟩
     have R_2 := Aside0.mk ((hb_.block _ (Array.getElem?_eq_some_iff.1 HR0.out).1).trans HR0.out)
     have R_3 := Aside0.mk ((hb_.block _ (Array.getElem?_eq_some_iff.1 HR1.out).1).trans HR1.out)
     have R_4 := Aside0.mk ((hb_.block _ (Array.getElem?_eq_some_iff.1 HR2.out).1).trans HR2.out)
     have B_5 := Aside0.mk (below_step HB3.out hb_)
     clear hb_
     rw [HQ.out]
     cases q with
     | false =>
      have HFT : Aside0 (f = t) := ⟨by simpa using HQ.out⟩
      by_cases hfv : f = v
      ·have hfb : (f == v) = true := by simp [hfv]
       have HR_ : Aside0 (R = (f, t, c, b, ((0 : Nat) : Int))) := ⟨by rw [← HE2.out]; unfold walkI; rw [if_pos ⟨HFT.out, hfv⟩]⟩
       clear hfv
       have k0_ : w_1.cell? ⟨w.heap.size, 0, none⟩ = some (.int .i64 (f)) := by rw [cell_of_row _ _ _ _ _ _ R_2.out]; rfl
       go_wp2
       go_step3
       exact ⟨0, f, t, c, b, _, _, _, _, _, _, _, _, _, _, _, _, _, _, _, _, _, _, _, _, _, _, _, _, _, _, _, _, _, _, _, _, _, _, _, _, _, _, _, _, _, rfl, hN, Or.inr ⟨rfl, HR_⟩, R_2, R_3, R_4, B_5⟩
      ·have hfb : (f == v) = false := by simp [hfv]
       have k0_ : w_1.cell? ⟨w.heap.size, 0, none⟩ = some (.int .i64 (f)) := by rw [cell_of_row _ _ _ _ _ _ R_2.out]; rfl
       have HE3 : Aside0 (walkI d v (0 + 1) (oneI v f t c b l).1 (oneI v f t c b l).2.1 (oneI v f t c b l).2.2.1 (oneI v f t c b l).2.2.2.1 l = R) := ⟨by rw [← HE2.out]; conv => rhs; unfold walkI; rw [if_neg (fun h => hfv h.2)]⟩
       have HONE : Aside0 (oneI v f t c b l = stepI (beginI f t c b v).1 (beginI f t c b v).2.1 (beginI f t c b v).2.2.1 (beginI f t c b v).2.2.2.1 l) := ⟨by unfold oneI; rw [if_pos HFT.out]⟩
       clear hfv HE2
       clear k0_
       have k0_ : World.cell? w_1 ⟨w.heap.size, 0, none⟩ = some (.int .i64 (f)) := by rw [cell_of_row _ _ _ _ _ _ R_2.out]; rfl
       have k1_ : World.cell? w_1 ⟨w.heap.size, 1, none⟩ = some (.int .i64 (t)) := by rw [cell_of_row _ _ _ _ _ _ R_2.out]; rfl
       have k2_ : World.cell? w_1 ⟨w.heap.size, 2, none⟩ = some (.int .i64 (c)) := by rw [cell_of_row _ _ _ _ _ _ R_2.out]; rfl
       have k3_ : World.cell? w_1 ⟨w.heap.size, 3, none⟩ = some (.bool (b)) := by rw [cell_of_row _ _ _ _ _ _ R_2.out]; rfl
       go_wp2_with fail
       clear k0_ k1_ k2_ k3_
       refine (moves.walk _ _ _ _ _).mono ?_
       rintro e w_6 ⟨rfl, hb_⟩
       have R_7 := Aside0.mk ((hb_.block _ (Array.getElem?_eq_some_iff.1 R_2.out).1).trans R_2.out)
       have R_8 := Aside0.mk ((hb_.block _ (Array.getElem?_eq_some_iff.1 R_3.out).1).trans R_3.out)
       have R_9 := Aside0.mk ((hb_.block _ (Array.getElem?_eq_some_iff.1 R_4.out).1).trans R_4.out)
       have B_10 := Aside0.mk (below_step B_5.out hb_)
       clear hb_
       rw [HQ.out]
       clear hfb
       obtain ⟨bf, bt, bc, bb, be, hbe⟩ : ∃ bf bt bc bb be, beginI f t c b v = (bf, bt, bc, bb, be) := ⟨_, _, _, _, _, rfl⟩
       have HBE := Aside0.mk hbe
       clear hbe
       have HONE2 : Aside0 (oneI v f t c b l = stepI bf bt bc bb l) := ⟨by rw [HONE.out, HBE.out]⟩
       clear HONE
       have HONE := HONE2
       clear HONE2
       have k0_ : World.cell? w_6 ⟨w.heap.size, 0, none⟩ = some (.int .i64 (f)) := by rw [cell_of_row _ _ _ _ _ _ R_7.out]; rfl
       have k1_ : World.cell? w_6 ⟨w.heap.size, 1, none⟩ = some (.int .i64 (t)) := by rw [cell_of_row _ _ _ _ _ _ R_7.out]; rfl
       have k2_ : World.cell? w_6 ⟨w.heap.size, 2, none⟩ = some (.int .i64 (c)) := by rw [cell_of_row _ _ _ _ _ _ R_7.out]; rfl
       have k3_ : World.cell? w_6 ⟨w.heap.size, 3, none⟩ = some (.bool (b)) := by rw [cell_of_row _ _ _ _ _ _ R_7.out]; rfl
       go_wp2_with fail
       clear k0_ k1_ k2_ k3_
       refine (BBegin.move_Begin.calls 1 f t c b v bf bt bc bb be _ (by rw [begin_pure, HBE.out])).mono ?_
       rintro e w_11 ⟨rfl, hb_⟩
       have R_12 := Aside0.mk ((hb_.block _ (Array.getElem?_eq_some_iff.1 R_7.out).1).trans R_7.out)
       have R_13 := Aside0.mk ((hb_.block _ (Array.getElem?_eq_some_iff.1 R_8.out).1).trans R_8.out)
       have R_14 := Aside0.mk ((hb_.block _ (Array.getElem?_eq_some_iff.1 R_9.out).1).trans R_9.out)
       have B_15 := Aside0.mk (below_step B_10.out hb_)
       clear hb_
       go_upto_region 6 with (refine wpList_store_row rfl 23 _ _ rfl w.heap.size #[.int .i64 (bf), .int .i64 (bt), .int .i64 (bc), .bool (bb)] rfl rfl 23 #[.int .i64 (f), .int .i64 (t), .int .i64 (c), .bool (b)] R_12.out size23 rfl (mixOne _ _ _ _) ?_)
       have R_16 := Aside0.mk (setRow_heap _ _ _ (#[.int .i64 (bf), .int .i64 (bt), .int .i64 (bc), .bool (bb)]) _ _ R_12.out)
       have R_17 := Aside0.mk ((setRow_other _ _ _ (#[.int .i64 (bf), .int .i64 (bt), .int .i64 (bc), .bool (bb)]) (show w.heap.size + 1 ≠ w.heap.size by omega)).trans R_13.out)
       have R_18 := Aside0.mk ((setRow_other _ _ _ (#[.int .i64 (bf), .int .i64 (bt), .int .i64 (bc), .bool (bb)]) (show w.heap.size + 1 + 1 ≠ w.heap.size by omega)).trans R_14.out)
       have B_19 := Aside0.mk (below_setRow B_15.out (Nat.le_refl _) (#[.int .i64 (bf), .int .i64 (bt), .int .i64 (bc), .bool (bb)]))
       generalize World.setRow w_11 w.heap.size (#[.int .i64 (bf), .int .i64 (bt), .int .i64 (bc), .bool (bb)]) = w_20 at *
       obtain ⟨sf, st, sc, sb, so, hst⟩ : ∃ sf st sc sb so, stepI bf bt bc bb l = (sf, st, sc, sb, so) := ⟨_, _, _, _, _, rfl⟩
       rw [HONE.out, hst] at HE3
       have HST := Aside0.mk hst
       clear hst
       go_wp2_with (first | (refine wpList_load_row rfl 23 _ rfl w.heap.size rfl 23 #[.int .i64 (bf), .int .i64 (bt), .int .i64 (bc), .bool (bb)] (0, 0) _ R_16.out Try.underlying23 rfl size23 ?_) | (refine wpList_load_row rfl 34 _ rfl (w.heap.size + 1) rfl 34 #[.int .i64 c0, .int .i64 c1, .int .i64 c2, .slice A l.length cap] (0, 0) _ R_17.out Try.underlying34 rfl size34 ?_))
       refine (move_Step.calls bf bt bc bb c0 c1 c2 A cap l sf st sc sb so _ (Kd.C_below HC.out B_19.out) HCC.out (by unfold move_Step.f; rw [if_pos hn, HST.out])).mono ?_
       rintro e w_21 ⟨rfl, hb_⟩
       have R_22 := Aside0.mk ((hb_.block _ (Array.getElem?_eq_some_iff.1 R_16.out).1).trans R_16.out)
       have R_23 := Aside0.mk ((hb_.block _ (Array.getElem?_eq_some_iff.1 R_17.out).1).trans R_17.out)
       have R_24 := Aside0.mk ((hb_.block _ (Array.getElem?_eq_some_iff.1 R_18.out).1).trans R_18.out)
       have B_25 := Aside0.mk (below_step B_19.out hb_)
       clear hb_
       go_upto_region 7 with (refine wpList_store_row rfl 23 _ _ rfl w.heap.size #[.int .i64 (sf), .int .i64 (st), .int .i64 (sc), .bool (sb)] rfl rfl 23 #[.int .i64 (bf), .int .i64 (bt), .int .i64 (bc), .bool (bb)] R_22.out size23 rfl (mixOne _ _ _ _) ?_)
       have R_26 := Aside0.mk (setRow_heap _ _ _ (#[.int .i64 (sf), .int .i64 (st), .int .i64 (sc), .bool (sb)]) _ _ R_22.out)
       have R_27 := Aside0.mk ((setRow_other _ _ _ (#[.int .i64 (sf), .int .i64 (st), .int .i64 (sc), .bool (sb)]) (show w.heap.size + 1 ≠ w.heap.size by omega)).trans R_23.out)
       have R_28 := Aside0.mk ((setRow_other _ _ _ (#[.int .i64 (sf), .int .i64 (st), .int .i64 (sc), .bool (sb)]) (show w.heap.size + 1 + 1 ≠ w.heap.size by omega)).trans R_24.out)
       have B_29 := Aside0.mk (below_setRow B_25.out (Nat.le_refl _) (#[.int .i64 (sf), .int .i64 (st), .int .i64 (sc), .bool (sb)]))
       generalize World.setRow w_21 w.heap.size (#[.int .i64 (sf), .int .i64 (st), .int .i64 (sc), .bool (sb)]) = w_30 at *
       have HE4 := Aside0.mk HE3.out
       rw [← HDD.out] at HE4
       clear HE3 HE
       go_wp2
       try rw [show ((0 : Int) + 1) = (((0 + 1 : Nat)) : Int) by omega]
       go_step3
       exact ⟨0 + 1, _, _, _, _, _, _, _, _, _, _, _, _, _, _, _, _, _, _, _, _, _, _, _, _, _, _, _, _, _, _, _, _, _, _, _, _, _, _, _, _, _, _, _, _, _, rfl, hle_, Or.inl ⟨rfl, HV, HE4⟩, R_26, R_27, R_28, B_29⟩
     | true =>
      have HFT : Aside0 (f ≠ t) := ⟨by simpa using HQ.out⟩
      have HE3 : Aside0 (walkI d v (0 + 1) (oneI v f t c b l).1 (oneI v f t c b l).2.1 (oneI v f t c b l).2.2.1 (oneI v f t c b l).2.2.2.1 l = R) := ⟨by rw [← HE2.out]; conv => rhs; unfold walkI; rw [if_neg (fun h => HFT.out h.1)]⟩
      have HONE : Aside0 (oneI v f t c b l = stepI f t c b l) := ⟨by unfold oneI; rw [if_neg HFT.out]⟩
      clear HE2
      have k0_ : World.cell? w_1 ⟨w.heap.size, 0, none⟩ = some (.int .i64 (f)) := by rw [cell_of_row _ _ _ _ _ _ R_2.out]; rfl
      have k1_ : World.cell? w_1 ⟨w.heap.size, 1, none⟩ = some (.int .i64 (t)) := by rw [cell_of_row _ _ _ _ _ _ R_2.out]; rfl
      have k2_ : World.cell? w_1 ⟨w.heap.size, 2, none⟩ = some (.int .i64 (c)) := by rw [cell_of_row _ _ _ _ _ _ R_2.out]; rfl
      have k3_ : World.cell? w_1 ⟨w.heap.size, 3, none⟩ = some (.bool (b)) := by rw [cell_of_row _ _ _ _ _ _ R_2.out]; rfl
      go_wp2_with fail
      clear k0_ k1_ k2_ k3_
      refine (moves.walk _ _ _ _ _).mono ?_
      rintro e w_31 ⟨rfl, hb_⟩
      have R_32 := Aside0.mk ((hb_.block _ (Array.getElem?_eq_some_iff.1 R_2.out).1).trans R_2.out)
      have R_33 := Aside0.mk ((hb_.block _ (Array.getElem?_eq_some_iff.1 R_3.out).1).trans R_3.out)
      have R_34 := Aside0.mk ((hb_.block _ (Array.getElem?_eq_some_iff.1 R_4.out).1).trans R_4.out)
      have B_35 := Aside0.mk (below_step B_5.out hb_)
      clear hb_
      rw [HQ.out]
      obtain ⟨sf, st, sc, sb, so, hst⟩ : ∃ sf st sc sb so, stepI f t c b l = (sf, st, sc, sb, so) := ⟨_, _, _, _, _, rfl⟩
      rw [HONE.out, hst] at HE3
      have HST := Aside0.mk hst
      clear hst
      go_wp2_with (first | (refine wpList_load_row rfl 23 _ rfl w.heap.size rfl 23 #[.int .i64 (f), .int .i64 (t), .int .i64 (c), .bool (b)] (0, 0) _ R_32.out Try.underlying23 rfl size23 ?_) | (refine wpList_load_row rfl 34 _ rfl (w.heap.size + 1) rfl 34 #[.int .i64 c0, .int .i64 c1, .int .i64 c2, .slice A l.length cap] (0, 0) _ R_33.out Try.underlying34 rfl size34 ?_))
      refine (move_Step.calls f t c b c0 c1 c2 A cap l sf st sc sb so _ (Kd.C_below HC.out B_35.out) HCC.out (by unfold move_Step.f; rw [if_pos hn, HST.out])).mono ?_
      rintro e w_36 ⟨rfl, hb_⟩
      have R_37 := Aside0.mk ((hb_.block _ (Array.getElem?_eq_some_iff.1 R_32.out).1).trans R_32.out)
      have R_38 := Aside0.mk ((hb_.block _ (Array.getElem?_eq_some_iff.1 R_33.out).1).trans R_33.out)
      have R_39 := Aside0.mk ((hb_.block _ (Array.getElem?_eq_some_iff.1 R_34.out).1).trans R_34.out)
      have B_40 := Aside0.mk (below_step B_35.out hb_)
      clear hb_
      go_upto_region 7 with (refine wpList_store_row rfl 23 _ _ rfl w.heap.size #[.int .i64 (sf), .int .i64 (st), .int .i64 (sc), .bool (sb)] rfl rfl 23 #[.int .i64 (f), .int .i64 (t), .int .i64 (c), .bool (b)] R_37.out size23 rfl (mixOne _ _ _ _) ?_)
      have R_41 := Aside0.mk (setRow_heap _ _ _ (#[.int .i64 (sf), .int .i64 (st), .int .i64 (sc), .bool (sb)]) _ _ R_37.out)
      have R_42 := Aside0.mk ((setRow_other _ _ _ (#[.int .i64 (sf), .int .i64 (st), .int .i64 (sc), .bool (sb)]) (show w.heap.size + 1 ≠ w.heap.size by omega)).trans R_38.out)
      have R_43 := Aside0.mk ((setRow_other _ _ _ (#[.int .i64 (sf), .int .i64 (st), .int .i64 (sc), .bool (sb)]) (show w.heap.size + 1 + 1 ≠ w.heap.size by omega)).trans R_39.out)
      have B_44 := Aside0.mk (below_setRow B_40.out (Nat.le_refl _) (#[.int .i64 (sf), .int .i64 (st), .int .i64 (sc), .bool (sb)]))
      generalize World.setRow w_36 w.heap.size (#[.int .i64 (sf), .int .i64 (st), .int .i64 (sc), .bool (sb)]) = w_45 at *
      have HE4 := Aside0.mk HE3.out
      rw [← HDD.out] at HE4
      clear HE3 HE
      go_wp2
      try rw [show ((0 : Int) + 1) = (((0 + 1 : Nat)) : Int) by omega]
      go_step3
      exact ⟨0 + 1, _, _, _, _, _, _, _, _, _, _, _, _, _, _, _, _, _, _, _, _, _, _, _, _, _, _, _, _, _, _, _, _, _, _, _, _, _, _, _, _, _, _, _, _, _, rfl, hle_, Or.inl ⟨rfl, HV, HE4⟩, R_41, R_42, R_43, B_44⟩
    ·have hd_ : decide (m ≤ (0 : Int)) = true := decide_eq_true (by omega)
     have HR_ : Aside0 (R = (f, t, c, b, ((0 : Nat) : Int))) := ⟨by rw [← HE.out, show m.toNat - 0 = 0 by omega]; rfl⟩
     clear hlt
     go_wp2
     go_step3
     exact ⟨0, f, t, c, b, _, _, _, _, _, _, _, _, _, _, _, _, _, _, _, _, _, _, _, _, _, _, _, _, _, _, _, _, _, _, _, _, _, _, _, _, _, _, _, _, _, rfl, hN, Or.inr ⟨rfl, HR_⟩, HR0, HR1, HR2, HB3⟩
 ·clear HR0 HR1 HR2 HB3 HRR
  rintro la a' wr ⟨n, f', t', c', b', u6, u7, u11, u12, u13, u14, u15, u16, u17, u18, u19, u20, u21, u22, u23, u24, u25, u26, u27, u28, u29, u30, u31, u32, u33, u34, u35, u36, u37, u38, u39, u40, u41, u42, u43, u44, u45, u46, u47, u48, u49, rfl, hN, hla, HR0, HR1, HR2, HB3⟩
  rcases hla with ⟨rfl, HV, HE⟩ | ⟨rfl, HE⟩
  ·refine ⟨_, rfl, ?_⟩
   by_cases hlt : ((n : Int) : Int) < m
   ·have hd_ : decide (m ≤ ((n : Int) : Int)) = false := decide_eq_false (by omega)
    obtain ⟨d, hd⟩ : ∃ d, m.toNat - n = d + 1 := ⟨m.toNat - n - 1, by omega⟩
    have hlt_ : (n : Nat) < m.toNat := by omega
    have hle_ : n + 1 ≤ m.toNat := by omega
    have hdd : m.toNat - (n + 1) = d := by omega
    have HE2 : Aside0 (walkI (d + 1) v (n) f' t' c' b' l = R) := ⟨by rw [← hd]; exact HE.out⟩
    have HDD := Aside0.mk hdd
    clear hd hdd
    obtain ⟨q, hq⟩ : ∃ q, (f' != t') = q := ⟨_, rfl⟩
    have HQ := Aside0.mk hq
    clear hq
    have k0_ : World.cell? wr ⟨w.heap.size, 0, none⟩ = some (.int .i64 (f')) := by rw [cell_of_row _ _ _ _ _ _ HR0.out]; rfl
    have k1_ : World.cell? wr ⟨w.heap.size, 1, none⟩ = some (.int .i64 (t')) := by rw [cell_of_row _ _ _ _ _ _ HR0.out]; rfl
    have k2_ : World.cell? wr ⟨w.heap.size, 2, none⟩ = some (.int .i64 (c')) := by rw [cell_of_row _ _ _ _ _ _ HR0.out]; rfl
    have k3_ : World.cell? wr ⟨w.heap.size, 3, none⟩ = some (.bool (b')) := by rw [cell_of_row _ _ _ _ _ _ HR0.out]; rfl
    go_wp2_with fail
    clear k0_ k1_ k2_ k3_
    refine (moves.walk _ _ _ _ _).mono ?_
    rintro e w_1 ⟨rfl, hb_⟩
    have R_2 := Aside0.mk ((hb_.block _ (Array.getElem?_eq_some_iff.1 HR0.out).1).trans HR0.out)
    have R_3 := Aside0.mk ((hb_.block _ (Array.getElem?_eq_some_iff.1 HR1.out).1).trans HR1.out)
    have R_4 := Aside0.mk ((hb_.block _ (Array.getElem?_eq_some_iff.1 HR2.out).1).trans HR2.out)
    have B_5 := Aside0.mk (below_step HB3.out hb_)
    clear hb_
    rw [HQ.out]
    cases q with
    | false =>
     have HFT : Aside0 (f' = t') := ⟨by simpa using HQ.out⟩
     by_cases hfv : f' = v
     ·have hfb : (f' == v) = true := by simp [hfv]
      have HR_ : Aside0 (R = (f', t', c', b', ((n : Nat) : Int))) := ⟨by rw [← HE2.out]; unfold walkI; rw [if_pos ⟨HFT.out, hfv⟩]⟩
      clear hfv
      have k0_ : w_1.cell? ⟨w.heap.size, 0, none⟩ = some (.int .i64 (f')) := by rw [cell_of_row _ _ _ _ _ _ R_2.out]; rfl
      go_wp2
      go_step3
      exact ⟨⟨n, f', t', c', b', _, _, _, _, _, _, _, _, _, _, _, _, _, _, _, _, _, _, _, _, _, _, _, _, _, _, _, _, _, _, _, _, _, _, _, _, _, _, _, _, _, rfl, hN, Or.inr ⟨rfl, HR_⟩, R_2, R_3, R_4, B_5⟩, by simp⟩
     ·have hfb : (f' == v) = false := by simp [hfv]
      have k0_ : w_1.cell? ⟨w.heap.size, 0, none⟩ = some (.int .i64 (f')) := by rw [cell_of_row _ _ _ _ _ _ R_2.out]; rfl
      have HE3 : Aside0 (walkI d v (n + 1) (oneI v f' t' c' b' l).1 (oneI v f' t' c' b' l).2.1 (oneI v f' t' c' b' l).2.2.1 (oneI v f' t' c' b' l).2.2.2.1 l = R) := ⟨by rw [← HE2.out]; conv => rhs; unfold walkI; rw [if_neg (fun h => hfv h.2)]⟩
      have HONE : Aside0 (oneI v f' t' c' b' l = stepI (beginI f' t' c' b' v).1 (beginI f' t' c' b' v).2.1 (beginI f' t' c' b' v).2.2.1 (beginI f' t' c' b' v).2.2.2.1 l) := ⟨by unfold oneI; rw [if_pos HFT.out]⟩
      clear hfv HE2
      clear k0_
      have k0_ : World.cell? w_1 ⟨w.heap.size, 0, none⟩ = some (.int .i64 (f')) := by rw [cell_of_row _ _ _ _ _ _ R_2.out]; rfl
      have k1_ : World.cell? w_1 ⟨w.heap.size, 1, none⟩ = some (.int .i64 (t')) := by rw [cell_of_row _ _ _ _ _ _ R_2.out]; rfl
      have k2_ : World.cell? w_1 ⟨w.heap.size, 2, none⟩ = some (.int .i64 (c')) := by rw [cell_of_row _ _ _ _ _ _ R_2.out]; rfl
      have k3_ : World.cell? w_1 ⟨w.heap.size, 3, none⟩ = some (.bool (b')) := by rw [cell_of_row _ _ _ _ _ _ R_2.out]; rfl
      go_wp2_with fail
      clear k0_ k1_ k2_ k3_
      refine (moves.walk _ _ _ _ _).mono ?_
      rintro e w_6 ⟨rfl, hb_⟩
      have R_7 := Aside0.mk ((hb_.block _ (Array.getElem?_eq_some_iff.1 R_2.out).1).trans R_2.out)
      have R_8 := Aside0.mk ((hb_.block _ (Array.getElem?_eq_some_iff.1 R_3.out).1).trans R_3.out)
      have R_9 := Aside0.mk ((hb_.block _ (Array.getElem?_eq_some_iff.1 R_4.out).1).trans R_4.out)
      have B_10 := Aside0.mk (below_step B_5.out hb_)
      clear hb_
      rw [HQ.out]
      clear hfb
      obtain ⟨bf, bt, bc, bb, be, hbe⟩ : ∃ bf bt bc bb be, beginI f' t' c' b' v = (bf, bt, bc, bb, be) := ⟨_, _, _, _, _, rfl⟩
      have HBE := Aside0.mk hbe
      clear hbe
      have HONE2 : Aside0 (oneI v f' t' c' b' l = stepI bf bt bc bb l) := ⟨by rw [HONE.out, HBE.out]⟩
      clear HONE
      have HONE := HONE2
      clear HONE2
      have k0_ : World.cell? w_6 ⟨w.heap.size, 0, none⟩ = some (.int .i64 (f')) := by rw [cell_of_row _ _ _ _ _ _ R_7.out]; rfl
      have k1_ : World.cell? w_6 ⟨w.heap.size, 1, none⟩ = some (.int .i64 (t')) := by rw [cell_of_row _ _ _ _ _ _ R_7.out]; rfl
      have k2_ : World.cell? w_6 ⟨w.heap.size, 2, none⟩ = some (.int .i64 (c')) := by rw [cell_of_row _ _ _ _ _ _ R_7.out]; rfl
      have k3_ : World.cell? w_6 ⟨w.heap.size, 3, none⟩ = some (.bool (b')) := by rw [cell_of_row _ _ _ _ _ _ R_7.out]; rfl
      go_wp2_with fail
      clear k0_ k1_ k2_ k3_
      refine (BBegin.move_Begin.calls 1 f' t' c' b' v bf bt bc bb be _ (by rw [begin_pure, HBE.out])).mono ?_
      rintro e w_11 ⟨rfl, hb_⟩
      have R_12 := Aside0.mk ((hb_.block _ (Array.getElem?_eq_some_iff.1 R_7.out).1).trans R_7.out)
      have R_13 := Aside0.mk ((hb_.block _ (Array.getElem?_eq_some_iff.1 R_8.out).1).trans R_8.out)
      have R_14 := Aside0.mk ((hb_.block _ (Array.getElem?_eq_some_iff.1 R_9.out).1).trans R_9.out)
      have B_15 := Aside0.mk (below_step B_10.out hb_)
      clear hb_
      go_upto_region 6 with (refine wpList_store_row rfl 23 _ _ rfl w.heap.size #[.int .i64 (bf), .int .i64 (bt), .int .i64 (bc), .bool (bb)] rfl rfl 23 #[.int .i64 (f'), .int .i64 (t'), .int .i64 (c'), .bool (b')] R_12.out size23 rfl (mixOne _ _ _ _) ?_)
      have R_16 := Aside0.mk (setRow_heap _ _ _ (#[.int .i64 (bf), .int .i64 (bt), .int .i64 (bc), .bool (bb)]) _ _ R_12.out)
      have R_17 := Aside0.mk ((setRow_other _ _ _ (#[.int .i64 (bf), .int .i64 (bt), .int .i64 (bc), .bool (bb)]) (show w.heap.size + 1 ≠ w.heap.size by omega)).trans R_13.out)
      have R_18 := Aside0.mk ((setRow_other _ _ _ (#[.int .i64 (bf), .int .i64 (bt), .int .i64 (bc), .bool (bb)]) (show w.heap.size + 1 + 1 ≠ w.heap.size by omega)).trans R_14.out)
      have B_19 := Aside0.mk (below_setRow B_15.out (Nat.le_refl _) (#[.int .i64 (bf), .int .i64 (bt), .int .i64 (bc), .bool (bb)]))
      generalize World.setRow w_11 w.heap.size (#[.int .i64 (bf), .int .i64 (bt), .int .i64 (bc), .bool (bb)]) = w_20 at *
      obtain ⟨sf, st, sc, sb, so, hst⟩ : ∃ sf st sc sb so, stepI bf bt bc bb l = (sf, st, sc, sb, so) := ⟨_, _, _, _, _, rfl⟩
      rw [HONE.out, hst] at HE3
      have HST := Aside0.mk hst
      clear hst
      go_wp2_with (first | (refine wpList_load_row rfl 23 _ rfl w.heap.size rfl 23 #[.int .i64 (bf), .int .i64 (bt), .int .i64 (bc), .bool (bb)] (0, 0) _ R_16.out Try.underlying23 rfl size23 ?_) | (refine wpList_load_row rfl 34 _ rfl (w.heap.size + 1) rfl 34 #[.int .i64 c0, .int .i64 c1, .int .i64 c2, .slice A l.length cap] (0, 0) _ R_17.out Try.underlying34 rfl size34 ?_))
      refine (move_Step.calls bf bt bc bb c0 c1 c2 A cap l sf st sc sb so _ (Kd.C_below HC.out B_19.out) HCC.out (by unfold move_Step.f; rw [if_pos hn, HST.out])).mono ?_
      rintro e w_21 ⟨rfl, hb_⟩
      have R_22 := Aside0.mk ((hb_.block _ (Array.getElem?_eq_some_iff.1 R_16.out).1).trans R_16.out)
      have R_23 := Aside0.mk ((hb_.block _ (Array.getElem?_eq_some_iff.1 R_17.out).1).trans R_17.out)
      have R_24 := Aside0.mk ((hb_.block _ (Array.getElem?_eq_some_iff.1 R_18.out).1).trans R_18.out)
      have B_25 := Aside0.mk (below_step B_19.out hb_)
      clear hb_
      go_upto_region 7 with (refine wpList_store_row rfl 23 _ _ rfl w.heap.size #[.int .i64 (sf), .int .i64 (st), .int .i64 (sc), .bool (sb)] rfl rfl 23 #[.int .i64 (bf), .int .i64 (bt), .int .i64 (bc), .bool (bb)] R_22.out size23 rfl (mixOne _ _ _ _) ?_)
      have R_26 := Aside0.mk (setRow_heap _ _ _ (#[.int .i64 (sf), .int .i64 (st), .int .i64 (sc), .bool (sb)]) _ _ R_22.out)
      have R_27 := Aside0.mk ((setRow_other _ _ _ (#[.int .i64 (sf), .int .i64 (st), .int .i64 (sc), .bool (sb)]) (show w.heap.size + 1 ≠ w.heap.size by omega)).trans R_23.out)
      have R_28 := Aside0.mk ((setRow_other _ _ _ (#[.int .i64 (sf), .int .i64 (st), .int .i64 (sc), .bool (sb)]) (show w.heap.size + 1 + 1 ≠ w.heap.size by omega)).trans R_24.out)
      have B_29 := Aside0.mk (below_setRow B_25.out (Nat.le_refl _) (#[.int .i64 (sf), .int .i64 (st), .int .i64 (sc), .bool (sb)]))
      generalize World.setRow w_21 w.heap.size (#[.int .i64 (sf), .int .i64 (st), .int .i64 (sc), .bool (sb)]) = w_30 at *
      have HE4 := Aside0.mk HE3.out
      rw [← HDD.out] at HE4
      clear HE3 HE
      go_wp2
      try rw [show (((n : Int) : Int) + 1) = (((n + 1 : Nat)) : Int) by omega]
      go_step3
      exact ⟨⟨n + 1, _, _, _, _, _, _, _, _, _, _, _, _, _, _, _, _, _, _, _, _, _, _, _, _, _, _, _, _, _, _, _, _, _, _, _, _, _, _, _, _, _, _, _, _, _, rfl, hle_, Or.inl ⟨rfl, HV, HE4⟩, R_26, R_27, R_28, B_29⟩, by simp only [intOf, Array.getD_eq_getD_getElem?]; have := hlt_; simp [intOf]; omega⟩
    | true =>
     have HFT : Aside0 (f' ≠ t') := ⟨by simpa using HQ.out⟩
     have HE3 : Aside0 (walkI d v (n + 1) (oneI v f' t' c' b' l).1 (oneI v f' t' c' b' l).2.1 (oneI v f' t' c' b' l).2.2.1 (oneI v f' t' c' b' l).2.2.2.1 l = R) := ⟨by rw [← HE2.out]; conv => rhs; unfold walkI; rw [if_neg (fun h => HFT.out h.1)]⟩
     have HONE : Aside0 (oneI v f' t' c' b' l = stepI f' t' c' b' l) := ⟨by unfold oneI; rw [if_neg HFT.out]⟩
     clear HE2
     have k0_ : World.cell? w_1 ⟨w.heap.size, 0, none⟩ = some (.int .i64 (f')) := by rw [cell_of_row _ _ _ _ _ _ R_2.out]; rfl
     have k1_ : World.cell? w_1 ⟨w.heap.size, 1, none⟩ = some (.int .i64 (t')) := by rw [cell_of_row _ _ _ _ _ _ R_2.out]; rfl
     have k2_ : World.cell? w_1 ⟨w.heap.size, 2, none⟩ = some (.int .i64 (c')) := by rw [cell_of_row _ _ _ _ _ _ R_2.out]; rfl
     have k3_ : World.cell? w_1 ⟨w.heap.size, 3, none⟩ = some (.bool (b')) := by rw [cell_of_row _ _ _ _ _ _ R_2.out]; rfl
     go_wp2_with fail
     clear k0_ k1_ k2_ k3_
     refine (moves.walk _ _ _ _ _).mono ?_
     rintro e w_31 ⟨rfl, hb_⟩
     have R_32 := Aside0.mk ((hb_.block _ (Array.getElem?_eq_some_iff.1 R_2.out).1).trans R_2.out)
     have R_33 := Aside0.mk ((hb_.block _ (Array.getElem?_eq_some_iff.1 R_3.out).1).trans R_3.out)
     have R_34 := Aside0.mk ((hb_.block _ (Array.getElem?_eq_some_iff.1 R_4.out).1).trans R_4.out)
     have B_35 := Aside0.mk (below_step B_5.out hb_)
     clear hb_
     rw [HQ.out]
     obtain ⟨sf, st, sc, sb, so, hst⟩ : ∃ sf st sc sb so, stepI f' t' c' b' l = (sf, st, sc, sb, so) := ⟨_, _, _, _, _, rfl⟩
     rw [HONE.out, hst] at HE3
     have HST := Aside0.mk hst
     clear hst
     go_wp2_with (first | (refine wpList_load_row rfl 23 _ rfl w.heap.size rfl 23 #[.int .i64 (f'), .int .i64 (t'), .int .i64 (c'), .bool (b')] (0, 0) _ R_32.out Try.underlying23 rfl size23 ?_) | (refine wpList_load_row rfl 34 _ rfl (w.heap.size + 1) rfl 34 #[.int .i64 c0, .int .i64 c1, .int .i64 c2, .slice A l.length cap] (0, 0) _ R_33.out Try.underlying34 rfl size34 ?_))
     refine (move_Step.calls f' t' c' b' c0 c1 c2 A cap l sf st sc sb so _ (Kd.C_below HC.out B_35.out) HCC.out (by unfold move_Step.f; rw [if_pos hn, HST.out])).mono ?_
     rintro e w_36 ⟨rfl, hb_⟩
     have R_37 := Aside0.mk ((hb_.block _ (Array.getElem?_eq_some_iff.1 R_32.out).1).trans R_32.out)
     have R_38 := Aside0.mk ((hb_.block _ (Array.getElem?_eq_some_iff.1 R_33.out).1).trans R_33.out)
     have R_39 := Aside0.mk ((hb_.block _ (Array.getElem?_eq_some_iff.1 R_34.out).1).trans R_34.out)
     have B_40 := Aside0.mk (below_step B_35.out hb_)
     clear hb_
     go_upto_region 7 with (refine wpList_store_row rfl 23 _ _ rfl w.heap.size #[.int .i64 (sf), .int .i64 (st), .int .i64 (sc), .bool (sb)] rfl rfl 23 #[.int .i64 (f'), .int .i64 (t'), .int .i64 (c'), .bool (b')] R_37.out size23 rfl (mixOne _ _ _ _) ?_)
     have R_41 := Aside0.mk (setRow_heap _ _ _ (#[.int .i64 (sf), .int .i64 (st), .int .i64 (sc), .bool (sb)]) _ _ R_37.out)
     have R_42 := Aside0.mk ((setRow_other _ _ _ (#[.int .i64 (sf), .int .i64 (st), .int .i64 (sc), .bool (sb)]) (show w.heap.size + 1 ≠ w.heap.size by omega)).trans R_38.out)
     have R_43 := Aside0.mk ((setRow_other _ _ _ (#[.int .i64 (sf), .int .i64 (st), .int .i64 (sc), .bool (sb)]) (show w.heap.size + 1 + 1 ≠ w.heap.size by omega)).trans R_39.out)
     have B_44 := Aside0.mk (below_setRow B_40.out (Nat.le_refl _) (#[.int .i64 (sf), .int .i64 (st), .int .i64 (sc), .bool (sb)]))
     generalize World.setRow w_36 w.heap.size (#[.int .i64 (sf), .int .i64 (st), .int .i64 (sc), .bool (sb)]) = w_45 at *
     have HE4 := Aside0.mk HE3.out
     rw [← HDD.out] at HE4
     clear HE3 HE
     go_wp2
     try rw [show (((n : Int) : Int) + 1) = (((n + 1 : Nat)) : Int) by omega]
     go_step3
     exact ⟨⟨n + 1, _, _, _, _, _, _, _, _, _, _, _, _, _, _, _, _, _, _, _, _, _, _, _, _, _, _, _, _, _, _, _, _, _, _, _, _, _, _, _, _, _, _, _, _, _, rfl, hle_, Or.inl ⟨rfl, HV, HE4⟩, R_41, R_42, R_43, B_44⟩, by simp only [intOf, Array.getD_eq_getD_getElem?]; have := hlt_; simp [intOf]; omega⟩
   ·have hd_ : decide (m ≤ ((n : Int) : Int)) = true := decide_eq_true (by omega)
    have HR_ : Aside0 (R = (f', t', c', b', ((n : Nat) : Int))) := ⟨by rw [← HE.out, show m.toNat - n = 0 by omega]; rfl⟩
    clear hlt
    go_wp2
    go_step3
    exact ⟨⟨n, f', t', c', b', _, _, _, _, _, _, _, _, _, _, _, _, _, _, _, _, _, _, _, _, _, _, _, _, _, _, _, _, _, _, _, _, _, _, _, _, _, _, _, _, _, rfl, hN, Or.inr ⟨rfl, HR_⟩, HR0, HR1, HR2, HB3⟩, by simp⟩
  ·refine ⟨_, rfl, ?_⟩
   go_wp2_with (first | (refine wpList_load_row rfl 23 _ rfl w.heap.size rfl 23 #[.int .i64 f', .int .i64 t', .int .i64 c', .bool b'] (0, 0) _ HR0.out Try.underlying23 rfl size23 ?_) | (refine wpList_store_row rfl 23 _ _ rfl (w.heap.size + 1 + 1) #[.int .i64 f', .int .i64 t', .int .i64 c', .bool b'] rfl rfl 23 #[.int .i64 0, .int .i64 0, .int .i64 0, .bool false] HR2.out size23 rfl (mixOne _ _ _ _) ?_))
   simp only [jumps]
   exact bodyPost_ret (results_ct rfl _ _ (w.heap.size + 1 + 1) 23 #[.int .i64 f', .int .i64 t', .int .i64 c', .bool b'] (0, 0) _ rfl (setRow_heap _ _ _ _ _ _ HR2.out) Try.underlying23 rfl size23) rfl ⟨by rw [HE.out]; rfl, below_setRow HB3.out (by omega) _⟩
def move_Walk.f (a0_0 : Int) (a0_1 : Int) (a0_2 : Int) (a0_3 : Bool) (a1_0 : Int) (a1_1 : Int) (a1_2 : Int) (l1_3 : List (S46)) (a2 : Int) (a3 : Int) : Option (Int × Int × Int × Bool × Int) :=
 if l1_3.length ≤ 1000000 ∧ a3 ≤ 9223372036854775807 then some (goI a0_0 a0_1 a0_2 a0_3 l1_3 a2 a3) else none
theorem move_Walk.calls (a0_0 : Int) (a0_1 : Int) (a0_2 : Int) (a0_3 : Bool) (a1_0 : Int) (a1_1 : Int) (a1_2 : Int) (A1_3 : Option Addr) (c1_3 : Nat) (l1_3 : List (S46)) (a2 : Int) (a3 : Int) (r1 : Int) (r2 : Int) (r3 : Int) (r4 : Bool) (r5 : Int) (w : World) (hr1_3 : Kd.C k46 w A1_3 l1_3.length l1_3) (hc1_3 : l1_3.length ≤ c1_3) (h : move_Walk.f a0_0 a0_1 a0_2 a0_3 a1_0 a1_1 a1_2 l1_3 a2 a3 = some (r1, r2, r3, r4, r5)) :
 Calls Try.prog 17 #[.agg #[.int .i64 a0_0, .int .i64 a0_1, .int .i64 a0_2, .bool a0_3], .agg #[.int .i64 a1_0, .int .i64 a1_1, .int .i64 a1_2, .slice A1_3 l1_3.length c1_3], .int .i64 a2, .int .i64 a3] w fun e w' => e = .returned (.tuple #[.agg #[.int .i64 r1, .int .i64 r2, .int .i64 r3, .bool r4], .int .i64 r5]) ∧ Below w.heap.size w w' := by
 unfold move_Walk.f at h
 by_cases hn : l1_3.length ≤ 1000000 ∧ a3 ≤ 9223372036854775807
 ·rw [if_pos hn] at h
  have e := Option.some.inj h
  have := walk.walk a0_0 a0_1 a0_2 a0_3 a1_0 a1_1 a1_2 A1_3 c1_3 l1_3 a2 a3 w hr1_3 hc1_3 hn.1 hn.2
  rw [e] at this
  exact this
 ·rw [if_neg hn] at h
  cases h
end Go.Proofs.Ytajfefjmfelnbaa
