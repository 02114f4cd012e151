/- Begin, Turn, Compare, over the shadow. No condition. -/
import Derived.Test.YtobamidecbfgpaaGreatDoorSt
namespace Go.Proofs.YtobamidecbfgpaaGreatDoor
open Go Go.Sh Go.RowKit
set_option linter.unusedVariables false
set_option linter.unusedSimpArgs false
set_option maxRecDepth 10000
variable {W : World}
theorem isNaN23 (a : Int) : Fc T W 23 [.i .i64 a] (.b false) := by
  refine Fc_intro (thr := thr) hmix Tryz.func23 rfl (by kernel_rfl) (by simp [Tryz.ntmps23]) ?_
  refine CW_reg fun K_ hK => ?_
  simp [wk, vk, ek, ok, lk, buildD, fillD, thr]
  refine hK _ ?_
  refine CW_reg fun K_ hK => ?_
  simp [wk, vk, ek, ok, lk, buildD, fillD, thr]
  refine hK _ ?_
  refine CW_rt ?_
  refine ends_ret ?_
  simp [Tryz.results23, resD, resL, resD1, vk, wk, ok, lk, buildD, fillD, ek]
def cmpI (a b : Int) : Int := if a < b then -1 else if b < a then 1 else 0
theorem compare14 (a b : Int) : Fc T W 14 [.i .i64 a, .i .i64 b] (.i .i64 (cmpI a b)) := by
  refine Fc_intro (thr := thr) hmix Tryz.func14 rfl (by kernel_rfl) (by simp [Tryz.ntmps14]) ?_
  refine CW_reg fun K_ hK => ?_
  simp [wk, vk, ek, ok, lk, buildD, fillD, thr]
  refine hK _ ?_
  refine CW_reg fun K_ hK => ?_
  simp [wk, vk, ek, ok, lk, buildD, fillD, thr]
  refine CallW_use (isNaN23 a) ?_
  simp [wk, vk, ek, ok, lk, buildD, fillD, thr]
  refine hK _ ?_
  refine CW_reg fun K_ hK => ?_
  simp [wk, vk, ek, ok, lk, buildD, fillD, thr]
  refine CallW_use (isNaN23 b) ?_
  simp [wk, vk, ek, ok, lk, buildD, fillD, thr]
  refine hK _ ?_
  refine CW_seq1 ?_
  refine CW_reg fun K_ hK => ?_
  simp [wk, vk, ek, ok, lk, buildD, fillD, thr]
  refine hK _ ?_
  refine CW_no rfl ?_
  refine CW_sk ?_
  refine CW_seq1 ?_
  refine CW_reg fun K_ hK => ?_
  simp [wk, vk, ek, ok, lk, buildD, fillD, thr]
  refine hK _ ?_
  refine CW_no rfl ?_
  refine CW_sk ?_
  refine CW_seq1 ?_
  refine CW_reg fun K_ hK => ?_
  simp [wk, vk, ek, ok, lk, buildD, fillD, thr]
  refine hK _ ?_
  refine CW_cond rfl (fun hct16 => ?_) (fun hct16 => ?_)
  · have h : a < b := by simpa using hct16
    have hc : cmpI a b = -1 := if_pos h
    refine CW_reg fun K_ hK => ?_
    simp [wk, vk, ek, ok, lk, buildD, fillD, thr, hc]
    refine hK _ ?_
    refine CW_rt ?_
    refine ends_ret ?_
    simp [Tryz.results14, resD, resL, resD1, vk, wk, ok, lk, buildD, fillD, ek, hc]
  · have h : ¬ a < b := by simpa using hct16
    refine CW_sk ?_
    refine CW_seq1 ?_
    refine CW_reg fun K_ hK => ?_
    simp [wk, vk, ek, ok, lk, buildD, fillD, thr]
    refine hK _ ?_
    refine CW_cond rfl (fun hct19 => ?_) (fun hct19 => ?_)
    · have h2 : b < a := by simpa using hct19
      have hc : cmpI a b = 1 := by rw [cmpI, if_neg h, if_pos h2]
      refine CW_reg fun K_ hK => ?_
      simp [wk, vk, ek, ok, lk, buildD, fillD, thr, hc]
      refine hK _ ?_
      refine CW_rt ?_
      refine ends_ret ?_
      simp [Tryz.results14, resD, resL, resD1, vk, wk, ok, lk, buildD, fillD, ek, hc]
    · have h2 : ¬ b < a := by simpa using hct19
      have hc : cmpI a b = 0 := by rw [cmpI, if_neg h, if_neg h2]
      refine CW_sk ?_
      refine CW_reg fun K_ hK => ?_
      simp [wk, vk, ek, ok, lk, buildD, fillD, thr, hc]
      refine hK _ ?_
      refine CW_rt ?_
      refine ends_ret ?_
      simp [Tryz.results14, resD, resL, resD1, vk, wk, ok, lk, buildD, fillD, ek, hc]
theorem moves13 (m : Mix) : Fc T W 13 [dMix m] (.b ((m.src : Int) != (m.to : Int))) := by
  refine Fc_intro (thr := thr) hmix Tryz.func13 rfl (by kernel_rfl) (by simp [Tryz.ntmps13]) ?_
  refine CW_reg fun K_ hK => ?_
  simp [wk, vk, ek, ok, lk, buildD, fillD, thr, dMix]
  refine hK _ ?_
  refine CW_reg fun K_ hK => ?_
  simp [wk, vk, ek, ok, lk, buildD, fillD, thr, dMix]
  refine hK _ ?_
  refine CW_rt ?_
  refine ends_ret ?_
  simp [Tryz.results13, resD, resL, resD1, vk, wk, ok, lk, buildD, fillD, ek, dMix]
theorem all17 (v : Nat) : Fc T W 17 [.i .i64 v] (dMix ⟨v, v, 0, false⟩) := by
  refine Fc_intro (thr := thr) hmix Tryz.func17 rfl (by kernel_rfl) (by simp [Tryz.ntmps17]) ?_
  refine CW_reg fun K_ hK => ?_
  simp [wk, vk, ek, ok, lk, buildD, fillD, thr]
  refine hK _ ?_
  refine CW_reg fun K_ hK => ?_
  simp [wk, vk, ek, ok, lk, buildD, fillD, thr]
  refine hK _ ?_
  refine CW_rt ?_
  refine ends_ret ?_
  simp [Tryz.results17, resD, resL, resD1, vk, wk, ok, lk, buildD, fillD, ek, dMix]
theorem turn9 (m : Mix) (h : m.src ≠ m.to) : Fc T W 9 [dMix m] (.tu [dMix { m with back := !m.back }, .i .u16 0]) := by
  have hb : ((m.src : Int) != (m.to : Int)) = true := by simp; omega
  refine Fc_intro (thr := thr) hmix Tryz.func9 rfl (by kernel_rfl) (by simp [Tryz.ntmps9]) ?_
  refine CW_reg fun K_ hK => ?_
  simp [wk, vk, ek, ok, lk, buildD, fillD, thr, dMix]
  refine hK _ ?_
  refine CW_seq1 ?_
  refine CW_reg fun K_ hK => ?_
  simp [wk, vk, ek, ok, lk, buildD, fillD, thr, dMix, hb]
  refine CallW_use (moves13 m) ?_
  simp [wk, vk, ek, ok, lk, buildD, fillD, thr, dMix, hb]
  refine hK _ ?_
  refine CW_no rfl ?_
  refine CW_sk ?_
  refine CW_reg fun K_ hK => ?_
  simp [wk, vk, ek, ok, lk, buildD, fillD, thr, dMix]
  refine hK _ ?_
  refine CW_reg fun K_ hK => ?_
  simp [wk, vk, ek, ok, lk, buildD, fillD, thr, dMix]
  refine hK _ ?_
  refine CW_rt ?_
  refine ends_ret ?_
  simp [Tryz.results9, resD, resL, resD1, vk, wk, ok, lk, buildD, fillD, ek, dMix]
theorem turn9e (m : Mix) (h : m.src = m.to) : Fc T W 9 [dMix m] (.tu [dMix m, .i .u16 30]) := by
  have hb : ((m.src : Int) != (m.to : Int)) = false := by simp; omega
  refine Fc_intro (thr := thr) hmix Tryz.func9 rfl (by kernel_rfl) (by simp [Tryz.ntmps9]) ?_
  refine CW_reg fun K_ hK => ?_
  simp [wk, vk, ek, ok, lk, buildD, fillD, thr, dMix]
  refine hK _ ?_
  refine CW_seq1 ?_
  refine CW_reg fun K_ hK => ?_
  simp [wk, vk, ek, ok, lk, buildD, fillD, thr, dMix, hb]
  refine CallW_use (by have h := moves13 (W := W) m; rw [hb] at h; exact h) ?_
  simp [wk, vk, ek, ok, lk, buildD, fillD, thr, dMix, hb]
  refine hK _ ?_
  refine CW_yes rfl ?_
  refine CW_reg fun K_ hK => ?_
  simp [wk, vk, ek, ok, lk, buildD, fillD, thr, dMix]
  refine hK _ ?_
  refine CW_rt ?_
  refine ends_ret ?_
  simp [Tryz.results9, resD, resL, resD1, vk, wk, ok, lk, buildD, fillD, ek, dMix]
def toB (v w : Nat) : Nat := if v < w then v + 1 else v - 1
theorem begin5 (v w : Nat) (hv : 1 ≤ v ∧ v ≤ 3) (hw : 1 ≤ w ∧ w ≤ 3) (hne : v ≠ w) : Fc T W 5 [dMix ⟨v, v, 0, false⟩, .i .i64 w] (.tu [dMix ⟨v, toB v w, 0, false⟩, .i .u16 0]) := by
  have x1 : ¬ (w : Int) < 1 := by omega
  have x2 : ¬ (3 : Int) < (w : Int) := by omega
  have x1n : ¬ w < 1 := by omega
  have x1z : ¬ w = 0 := by omega
  have x2n : ¬ 3 < w := by omega
  have hb : ((v : Int) != (v : Int)) = false := by simp
  have e1 : IntKind.i64.wrap ((v : Int) + cmpI (w : Int) (v : Int)) = ((toB v w : Nat) : Int) := by
    unfold cmpI toB
    rcases Nat.lt_or_ge v w with h | h
    · rw [if_neg (by omega), if_pos (by omega), if_pos h, w64 (by omega) (by omega)]; omega
    · rw [if_pos (by omega), if_neg (by omega), w64 (by omega) (by omega)]; omega
  refine Fc_intro (thr := thr) hmix Tryz.func5 rfl (by kernel_rfl) (by simp [Tryz.ntmps5]) ?_
  refine CW_reg fun K_ hK => ?_
  simp [wk, vk, ek, ok, lk, buildD, fillD, thr, dMix]
  refine hK _ ?_
  refine CW_seq1 ?_
  refine CW_blk fun K0 hn0 hx0 hr0 hj0 => ?_
  refine CW_reg fun K_ hK => ?_
  simp [wk, vk, ek, ok, lk, buildD, fillD, thr, dMix, x1, x2, x1n, x1z, x2n]
  refine hK _ ?_
  refine CW_no rfl ?_
  refine CW_reg fun K_ hK => ?_
  simp [wk, vk, ek, ok, lk, buildD, fillD, thr, dMix]
  refine CallW_use (by have h := moves13 (W := W) ⟨v, v, 0, false⟩; rw [hb] at h; exact h) ?_
  simp [wk, vk, ek, ok, lk, buildD, fillD, thr, dMix]
  refine hK _ ?_
  refine CW_no rfl ?_
  refine CW_sk ?_
  refine hn0 _ ?_
  refine CW_reg fun K_ hK => ?_
  simp [wk, vk, ek, ok, lk, buildD, fillD, thr, dMix, e1]
  refine CallW_use (compare14 (w : Int) (v : Int)) ?_
  simp [wk, vk, ek, ok, lk, buildD, fillD, thr, dMix, e1]
  refine hK _ ?_
  refine CW_rt ?_
  refine ends_ret ?_
  simp [Tryz.results5, resD, resL, resD1, vk, wk, ok, lk, buildD, fillD, ek, e1, dMix]
end Go.Proofs.YtobamidecbfgpaaGreatDoor
