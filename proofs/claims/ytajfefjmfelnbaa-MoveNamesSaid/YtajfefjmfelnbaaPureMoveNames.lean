/- MoveNames, the plain law: to no version but three one begins to go; on the way to one, to none. It speaks of every byte and every integer. -/
import Derived.Test.YtajfefjmfelnbaaPMoveNamesx3
import Derived.OpenShut
namespace Go.Proofs.Ytajfefjmfelnbaa.Pure
open Go.ChangeShapes Go.WideShapes Go.RowKit Go.Proofs.Ytajfefjmfelnbaa.BState Go.Proofs.Ytajfefjmfelnbaa.PMoveNames Go.Proofs.YtajfefjmfelnbaaW.PrintWords Go.Proofs.YtajfefjmfelnbaaW.PrintLast
theorem known_true (k : Nat) : roadsteadlaw16_known.f (k + 1) = some true := by
  have hs : stepI 1 2 0 false [] = (2, 2, 0, false, true) := by decide +kernel
  have hb : move_Begin.f (k + 1) 1 1 0 false 3 = some (1, 2, 0, false, 0) := by
    unfold move_Begin.f
    rw [if_neg (by decide), move_Begin.j0]
    decide +kernel
  have ht : move_Turn.f 2 2 0 false = some (2, 2, 0, false, 30) := by rfl
  unfold roadsteadlaw16_known.f
  rw [hb, Option.bind_some]
  unfold move_Step.f
  rw [if_pos (by decide), hs, Option.bind_some, ht, Option.bind_some]
  rfl
theorem begin_out (k : Nat) (f w : Int) (h : w < 1 ∨ 3 < w) : move_Begin.f (k + 1) f f 0 false w = some (f, f, 0, false, 50) := by
  unfold move_Begin.f
  by_cases h1 : w < 1
  · rw [if_pos h1]; rfl
  · rw [if_neg h1, show decide (w > 3) = true from decide_eq_true (by omega)]; rfl
theorem MoveNames : roadsteadlaw16_MoveNames.Pure := by
  intro a0 a1 h0 h1
  refine ⟨2, ?_⟩
  obtain ⟨v, hv, hr⟩ : ∃ v, wrap64 (1 + (wrap64 (Int.tmod a0 3))) = v ∧ (v = 1 ∨ v = 2 ∨ v = 3) := by
    have := bounds_u8 h0
    refine ⟨_, rfl, ?_⟩
    rw [Int.tmod_eq_emod_of_nonneg this.1]
    unfold wrap64
    omega
  unfold roadsteadlaw16_MoveNames.f
  rw [hv]
  clear hv
  by_cases ho : a1 < 1 ∨ 3 < a1
  · rw [begin_out 1 v a1 ho, Option.bind_some]
    have hj : roadsteadlaw16_MoveNames.j0 2 a1 50 true v v 0 false v v 0 false = some true := by
      show roadsteadlaw16_MoveNames.j0 (1 + 1) a1 50 true v v 0 false v v 0 false = some true
      rw [roadsteadlaw16_MoveNames.j0, if_pos rfl, known_true 0, Option.bind_some]
      simp
    by_cases h2 : a1 < 1
    · rw [if_pos h2]; exact hj
    · rw [if_neg h2, show decide (a1 > 3) = true from decide_eq_true (by omega)]; exact hj
  · have ha : a1 = 1 ∨ a1 = 2 ∨ a1 = 3 := by omega
    have hk := known_true 0
    rcases hr with rfl | rfl | rfl <;> rcases ha with rfl | rfl | rfl <;> decide +kernel
end Go.Proofs.Ytajfefjmfelnbaa.Pure
