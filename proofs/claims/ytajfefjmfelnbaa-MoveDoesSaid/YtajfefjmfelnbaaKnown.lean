/- What the document knows: it is so. -/
import Derived.Test.YtajfefjmfelnbaaBknownx1
namespace Go.Proofs.Ytajfefjmfelnbaa
open Go.RowKit Go.Proofs.Ytajfefjmfelnbaa.BState Go.Proofs.Ytajfefjmfelnbaa.BBegin Go.Proofs.Ytajfefjmfelnbaa.Bknown Go.Proofs.YtajfefjmfelnbaaW.PrintWords Go.Proofs.YtajfefjmfelnbaaW.PrintLast
theorem known_true (k : Nat) : roadsteadlaw16_known.f (k + 1) = some true := by
  have hs : stepI 1 2 0 false [] = (2, 2, 0, false, true) := by decide +kernel
  have hb : move_Begin.f (k + 1) 1 1 0 false 3 = some (1, 2, 0, false, 0) := by
    unfold move_Begin.f
    rw [if_neg (by decide), move_Begin.j0]
    decide +kernel
  have ht : move_Turn.f 2 2 0 false = some (2, 2, 0, false, 30) := by rfl
  unfold roadsteadlaw16_known.f
  rw [hb, Option.bind_some]
  unfold move_Step.f
  rw [if_pos (by decide), hs, Option.bind_some, ht, Option.bind_some]
  rfl
theorem known.walk (w : World) : Calls Try.prog 10 #[] w fun e w' => e = .returned (.bool true) ∧ Below w.heap.size w w' :=
  roadsteadlaw16_known.calls 1 w (known_true 0)
end Go.Proofs.Ytajfefjmfelnbaa
