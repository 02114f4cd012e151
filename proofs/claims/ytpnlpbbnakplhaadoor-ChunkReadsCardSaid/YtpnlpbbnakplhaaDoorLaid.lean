/- What the rows' condition on the two tables gives a walk; the door's own heap meets it. -/
import Derived.Test.YtpnlpbbnakplhaaDoorRows
import Derived.Test.YtpnlpbbnakplhaaDoorShaRound
import Derived.Lib.LaidTab
import Derived.ProofKit
import Derived.LaidMore
import Derived.OpenShut
import Derived.MakeChecks
import Derived.Stop.Joined
import Derived.Stop.LaidErr
namespace Go.Proofs.YtpnlpbbnakplhaaDoor
open Go.ChangeShapes Go.WideShapes Go.ChangeAt Go.RowKit
def laidTabs : List (String × DataW Unit) := [("roadstead/sha.added", Rows.laid_roadstead_sha_added), ("roadstead/sha.begun", Rows.laid_roadstead_sha_begun)]
theorem gAdded : Tryd.prog.globalNamed "roadstead/sha.added" = some 1 := by kernel_rfl
theorem gBegun : Tryd.prog.globalNamed "roadstead/sha.begun" = some 0 := by kernel_rfl
theorem tAdded : (Tryd.prog.globals[1]?).map (·.type) = some 67 := by kernel_rfl
theorem tBegun : (Tryd.prog.globals[0]?).map (·.type) = some 61 := by kernel_rfl
theorem door_met (os : Os) (args : Array Value) : laidMetH Tryd.prog laidTabs ((World.doorLaid Tryd.prog 65 os).forCall (fun _ _ => 0) ⟨#[], args, []⟩).memory :=
  laidMetH_of_parts3 (fuel := 8) (laidMet_of_run' 8 (by kernel_rfl) (by kernel_rfl)) (by kernel_rfl) (by kernel_rfl)
theorem heap_of_var {W : World} {name : String} {g : Nat} {cs : Array Value} (hg : Tryd.prog.globalNamed name = some g) (h : W.var? Tryd.prog name = some cs) : ∃ t fr, W.heap[g]? = some (.cells cs t fr) := by
  unfold World.var? at h
  rw [hg, Option.bind_some] at h
  split at h
  · rename_i cs' t fr e
    cases h
    exact ⟨t, fr, e⟩
  · cases h
theorem glob_of_laid {W : World} (h : laidMetH Tryd.prog laidTabs W) : Glob W := by
  rw [MakeChecks.laidMetH_plain _ _ _ (by kernel_rfl)] at h
  have h1 : Lib.TabIs Tryd.prog W "roadstead/sha.added" .u32 addedNums := Lib.tabIs_of_head gAdded tAdded Tryd.underlying67 Tryd.underlying38 (by kernel_rfl) (by kernel_rfl) h
  have h2 : Lib.TabIs Tryd.prog W "roadstead/sha.begun" .u32 begunNums := Lib.tabIs_of_head gBegun tBegun Tryd.underlying61 Tryd.underlying38 (by kernel_rfl) (by kernel_rfl) (laidMet.tail h)
  exact ⟨heap_of_var gBegun h2, heap_of_var gAdded h1⟩
end Go.Proofs.YtpnlpbbnakplhaaDoor
