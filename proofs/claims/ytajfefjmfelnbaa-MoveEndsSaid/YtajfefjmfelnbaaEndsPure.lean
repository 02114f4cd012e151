/- MoveEnds, the plain law: each step comes nearer, and behind as many as are left all is in one version. -/
import Derived.Test.YtajfefjmfelnbaaPartsPure
import Derived.Test.YtajfefjmfelnbaaBRightx1
import Derived.Test.YtajfefjmfelnbaaBknownx1
namespace Go.Proofs.Ytajfefjmfelnbaa
open Go.RowKit Go.Proofs.YtajfefjmfelnbaaW.PrintWords Go.Proofs.YtajfefjmfelnbaaW.PrintLast Go.Proofs.YtajfefjmfelnbaaW.PrintMore BState
set_option linter.unusedVariables false
/-- A mix that may be, its cursor small. -/
def RightI (f t c : Int) (b : Bool) : Prop := (1 ≤ f ∧ f ≤ 3) ∧ (1 ≤ t ∧ t ≤ 3) ∧ (f = t → c = 0 ∧ b = false) ∧ (f ≠ t → (f - t = 1 ∨ t - f = 1) ∧ 0 ≤ c ∧ c ≤ 1000)
def turnI (f t : Int) (b : Bool) : Bool := if f = t then b else !b
def toI (f t : Int) (b : Bool) : Int := if b = true then f else t
theorem turn_pure (f t c : Int) (b : Bool) : ∃ e, Bknown.move_Turn.f f t c b = some (f, t, c, turnI f t b, e) := by
  unfold Bknown.move_Turn.f BBegin.move_moves.f turnI
  rw [Option.bind_some]
  by_cases h : f = t
  · rw [if_neg (by simp [h]), if_pos h]; exact ⟨_, rfl⟩
  · rw [if_pos (by simp [h]), if_neg h]; exact ⟨_, rfl⟩
theorem right_turn {f t c : Int} {b : Bool} (h : RightI f t c b) : RightI f t c (turnI f t b) := by
  obtain ⟨h1, h2, h3, h4⟩ := h
  refine ⟨h1, h2, fun e => ?_, fun e => h4 e⟩
  unfold turnI
  rw [if_pos e]
  exact h3 e
theorem right_step {n : Nat} {S : List S46} (hS : Fine n S) {f t c : Int} {b : Bool} (h : RightI f t c b) : RightI (stepI f t c b S).1 (stepI f t c b S).2.1 (stepI f t c b S).2.2.1 (stepI f t c b S).2.2.2.1 := by
  obtain ⟨h1, h2, h3, h4⟩ := h
  by_cases hft : f = t
  · have e : stepI f t c b S = (f, t, c, b, false) := by unfold stepI; rw [if_pos hft]
    rw [e]
    exact ⟨h1, h2, h3, h4⟩
  · rcases step_cases f t c b S (fine_nums hS) hft with ⟨h0, e⟩ | ⟨c', e, h5, _⟩
    · rw [e]
      simp only
      refine ⟨?_, ?_, fun _ => ⟨rfl, rfl⟩, fun hh => absurd rfl hh⟩
      · cases b <;> simp <;> omega
      · cases b <;> simp <;> omega
    · have hc' : 0 ≤ c' ∧ c' ≤ 1000 := by
        have hsl := sorted_length (pick c b S)
        by_cases h0 : (pick c b S).length = 0
        · omega
        · cases b with
          | false =>
            have hf := first_of (pick c false S) h0
            have hm := pick_mem hf.1
            have e' : stepI f t c false S = (f, t, rd (sorted (pick c false S)) 0, false, true) := by
              unfold stepI
              rw [if_neg hft, if_neg (by omega), if_neg (by decide)]
            rw [e'] at e
            injection e with _ e
            injection e with _ e
            injection e with e _
            rw [← e]
            obtain ⟨y, hy, e2⟩ := List.mem_map.1 hm.1
            have := hS.2.1 y hy
            omega
          | true =>
            have hf := last_of (pick c true S) h0
            have hm := pick_mem hf.1
            obtain ⟨y, hy, e2⟩ := List.mem_map.1 hm.1
            have h9 := hS.2.1 y hy
            have hw : wrap64 (lastI (sorted (pick c true S)) - 1) = lastI (sorted (pick c true S)) - 1 := by
              unfold wrap64
              omega
            have e' : stepI f t c true S = (f, t, lastI (sorted (pick c true S)) - 1, true, true) := by
              unfold stepI
              rw [if_neg hft, if_neg (by omega), if_pos rfl, hw]
            rw [e'] at e
            injection e with _ e
            injection e with _ e
            injection e with e _
            rw [← e]
            omega
      rw [e]
      exact ⟨h1, h2, fun hh => absurd hh hft, fun _ => ⟨(h4 hft).1, hc'⟩⟩
theorem step_ok {n : Nat} {S : List S46} (hS : Fine n S) (f t c : Int) (b : Bool) : (stepI f t c b S).2.2.2.2 = (f != t) := by
  by_cases hft : f = t
  · unfold stepI; rw [if_pos hft]; simp [hft]
  · rcases step_cases f t c b S (fine_nums hS) hft with ⟨h0, e⟩ | ⟨c', e, h5, _⟩
    · rw [e]; simp [hft]
    · rw [e]; simp [hft]
theorem to_step {n : Nat} {S : List S46} (hS : Fine n S) {f t c : Int} {b : Bool} (hft : f ≠ t) : toI (stepI f t c b S).1 (stepI f t c b S).2.1 (stepI f t c b S).2.2.2.1 = toI f t b := by
  rcases step_cases f t c b S (fine_nums hS) hft with ⟨h0, e⟩ | ⟨c', e, h5, _⟩
  · rw [e]; unfold toI; simp
  · rw [e]
theorem mix_right (k : Int) (h0 : 0 ≤ k) (h1 : k ≤ 255) : RightI (mixI k).1 (mixI k).2.1 (mixI k).2.2.1 (mixI k).2.2.2 := by
  unfold mixI
  split
  · simp only [mixTo]
    refine ⟨by omega, by split <;> omega, fun h => ?_, fun h => ⟨?_, by omega, by omega⟩⟩
    · exfalso; split at h <;> omega
    · split <;> omega
  · refine ⟨by simp only; omega, by simp only; omega, fun _ => ⟨rfl, rfl⟩, fun h => absurd rfl h⟩
theorem left_len (f t c : Int) (b : Bool) (S : List S46) : left f t c b S ≤ S.length + 1 := by
  unfold left
  split
  · omega
  · have := pick_le c b S
    omega
theorem right_pure {f t c : Int} {b : Bool} (h : RightI f t c b) : BRight.roadsteadref15_Right.f 1 f t c b = some true := by
  obtain ⟨h1, h2, h3, h4⟩ := h
  unfold BRight.roadsteadref15_Right.f
  rw [if_neg (by omega), if_neg (by omega), if_neg (by omega), decide_eq_false (by omega), BRight.roadsteadref15_Right.j0, if_neg (by simp)]
  by_cases hft : f = t
  · obtain ⟨e1, e2⟩ := h3 hft
    rw [if_pos hft, if_pos e1, e2]
    rfl
  · obtain ⟨e1, e2, e3⟩ := h4 hft
    rw [if_neg hft]
    by_cases h5 : wrap64 (f - t) = 1
    · rw [if_pos h5, if_pos e2, decide_eq_true (by omega)]
    · rw [if_neg h5, if_pos (by unfold wrap64 at h5 ⊢; omega), if_pos e2, decide_eq_true (by omega)]
end Go.Proofs.Ytajfefjmfelnbaa
