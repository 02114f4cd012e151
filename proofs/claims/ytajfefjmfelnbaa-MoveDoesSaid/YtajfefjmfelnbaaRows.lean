/-
  No cell of these rows narrows 'for every input' (looked for: loops, veiled, ifaces, maps, wideKeys, modest, calm, conditions, laid).
  DERIVED. THE GIVEN ROWS OF THIS SEAT. 6 by the template 'for every input the law returns true; each argument reads behind the call as it read before'; 0 by the template 'total and deterministic' (their statements: YtajfefjmfelnbaaTotals.lean).
  GIVEN WITH THE SEED: the statements are not yours to turn. If you find one false, say at which input.
  Laid BY PROGRAM, IN A SANDBOX (cutbox-rows.mjs): the forced cells as the released guide's own fill.sh prints them over the translation 29ce849aa60ec6c9… (all of the seat's roots in one cut). By AI agents, Wed Nov 11 2026. No macro, syntax, notation, axiom, sorry.
-/
import Derived.Test.YtajfefjmfelnbaaChecked
import GoSem.Claim
import GoSem.ClaimJoined
import GoSem.ClaimMapViews
import Derived.JoinedTies
import Derived.KernelRfl
namespace Go.Proofs.Ytajfefjmfelnbaa
/- THE CELL 'sum', in the pinned program and in every row, IS THE sha256 OF THE DUMP (.gsa) THAT YtajfefjmfelnbaaProg.lean LOADS. Nothing in Lean hashes anything: it is a label: what it is worth is what the hold of that sum in a sandbox is worth. -/
noncomputable def Try.pinned : Pinned := { name := "ytajfefjmfelnbaa", sum := "29ce849aa60ec6c9006e0e687b2b367b1fbe62476510768f93e707e5e693abc6", checked := Try.checked }
namespace Rows
def none {H : Type} : Left H := { results := [], args := [] }

/-- 'roadsteadlaw16.MoveNames': WHATEVER THE INPUT: true; the input reads as it did. -/
def moveNamesSpec : ChangeSpec := { name := "moveNames", fn := fun _ => fun
  | [d1, d2] => { results := [.lit (.bool true)], args := [d1, d2] }
  | _ => none }
def moveNamesRow : OpenClaim := { program := "ytajfefjmfelnbaa", sum := "29ce849aa60ec6c9006e0e687b2b367b1fbe62476510768f93e707e5e693abc6", func := "roadstead/roadsteadlaw16.MoveNames", spec := "moveNames", unfollowed := true, recurses := true, apart := false }
def MoveNamesSaid : Prop := moveNamesRow.holds Try.pinned (OpenSpec.ofChange moveNamesSpec)

/-- ITS FALSE NEIGHBOUR: 'it returns false'. Refute it at one input. -/
def moveNamesWrong : ChangeSpec := { name := "moveNames", fn := fun _ => fun
  | [d1, d2] => { results := [.lit (.bool false)], args := [d1, d2] }
  | _ => none }
def MoveNamesWrongFalsely : Prop := moveNamesRow.holds Try.pinned (OpenSpec.ofChange moveNamesWrong)

/-- 'roadsteadlaw16.MoveEnds': WHATEVER THE INPUT: true; the input reads as it did. -/
def moveEndsSpec : ChangeSpec := { name := "moveEnds", fn := fun _ => fun
  | [d1, d2, d3] => { results := [.lit (.bool true)], args := [d1, d2, d3] }
  | _ => none }
def moveEndsRow : OpenClaim := { program := "ytajfefjmfelnbaa", sum := "29ce849aa60ec6c9006e0e687b2b367b1fbe62476510768f93e707e5e693abc6", func := "roadstead/roadsteadlaw16.MoveEnds", spec := "moveEnds", unfollowed := true, recurses := true, apart := false }
def MoveEndsSaid : Prop := moveEndsRow.holds Try.pinned (OpenSpec.ofChange moveEndsSpec)

/-- ITS FALSE NEIGHBOUR: 'it returns false'. Refute it at one input. -/
def moveEndsWrong : ChangeSpec := { name := "moveEnds", fn := fun _ => fun
  | [d1, d2, d3] => { results := [.lit (.bool false)], args := [d1, d2, d3] }
  | _ => none }
def MoveEndsWrongFalsely : Prop := moveEndsRow.holds Try.pinned (OpenSpec.ofChange moveEndsWrong)

/-- 'roadsteadlaw16.MoveOthers': WHATEVER THE INPUT: true; the input reads as it did. -/
def moveOthersSpec : ChangeSpec := { name := "moveOthers", fn := fun _ => fun
  | [d1, d2] => { results := [.lit (.bool true)], args := [d1, d2] }
  | _ => none }
def moveOthersRow : OpenClaim := { program := "ytajfefjmfelnbaa", sum := "29ce849aa60ec6c9006e0e687b2b367b1fbe62476510768f93e707e5e693abc6", func := "roadstead/roadsteadlaw16.MoveOthers", spec := "moveOthers", unfollowed := true, recurses := true, apart := false }
def MoveOthersSaid : Prop := moveOthersRow.holds Try.pinned (OpenSpec.ofChange moveOthersSpec)

/-- ITS FALSE NEIGHBOUR: 'it returns false'. Refute it at one input. -/
def moveOthersWrong : ChangeSpec := { name := "moveOthers", fn := fun _ => fun
  | [d1, d2] => { results := [.lit (.bool false)], args := [d1, d2] }
  | _ => none }
def MoveOthersWrongFalsely : Prop := moveOthersRow.holds Try.pinned (OpenSpec.ofChange moveOthersWrong)

/-- 'roadsteadlaw16.MoveWalks': WHATEVER THE INPUT: true; the input reads as it did. -/
def moveWalksSpec : ChangeSpec := { name := "moveWalks", fn := fun _ => fun
  | [d1, d2, d3] => { results := [.lit (.bool true)], args := [d1, d2, d3] }
  | _ => none }
def moveWalksRow : OpenClaim := { program := "ytajfefjmfelnbaa", sum := "29ce849aa60ec6c9006e0e687b2b367b1fbe62476510768f93e707e5e693abc6", func := "roadstead/roadsteadlaw16.MoveWalks", spec := "moveWalks", unfollowed := true, recurses := true, apart := false }
def MoveWalksSaid : Prop := moveWalksRow.holds Try.pinned (OpenSpec.ofChange moveWalksSpec)

/-- ITS FALSE NEIGHBOUR: 'it returns false'. Refute it at one input. -/
def moveWalksWrong : ChangeSpec := { name := "moveWalks", fn := fun _ => fun
  | [d1, d2, d3] => { results := [.lit (.bool false)], args := [d1, d2, d3] }
  | _ => none }
def MoveWalksWrongFalsely : Prop := moveWalksRow.holds Try.pinned (OpenSpec.ofChange moveWalksWrong)

/-- 'roadsteadlaw16.MoveParts': WHATEVER THE INPUT: true; the input reads as it did. -/
def movePartsSpec : ChangeSpec := { name := "moveParts", fn := fun _ => fun
  | [d1, d2, d3, d4, d5] => { results := [.lit (.bool true)], args := [d1, d2, d3, d4, d5] }
  | _ => none }
def movePartsRow : OpenClaim := { program := "ytajfefjmfelnbaa", sum := "29ce849aa60ec6c9006e0e687b2b367b1fbe62476510768f93e707e5e693abc6", func := "roadstead/roadsteadlaw16.MoveParts", spec := "moveParts", unfollowed := true, recurses := true, apart := false }
def MovePartsSaid : Prop := movePartsRow.holds Try.pinned (OpenSpec.ofChange movePartsSpec)

/-- ITS FALSE NEIGHBOUR: 'it returns false'. Refute it at one input. -/
def movePartsWrong : ChangeSpec := { name := "moveParts", fn := fun _ => fun
  | [d1, d2, d3, d4, d5] => { results := [.lit (.bool false)], args := [d1, d2, d3, d4, d5] }
  | _ => none }
def MovePartsWrongFalsely : Prop := movePartsRow.holds Try.pinned (OpenSpec.ofChange movePartsWrong)

/-- 'roadsteadlaw16.MoveDoes': WHATEVER THE INPUT: true; the input reads as it did. -/
def moveDoesSpec : ChangeSpec := { name := "moveDoes", fn := fun _ => fun
  | [d1, d2, d3, d4, d5, d6, d7] => { results := [.lit (.bool true)], args := [d1, d2, d3, d4, d5, d6, d7] }
  | _ => none }
def moveDoesRow : OpenClaim := { program := "ytajfefjmfelnbaa", sum := "29ce849aa60ec6c9006e0e687b2b367b1fbe62476510768f93e707e5e693abc6", func := "roadstead/roadsteadlaw16.MoveDoes", spec := "moveDoes", unfollowed := true, recurses := true, apart := false }
def MoveDoesSaid : Prop := moveDoesRow.holds Try.pinned (OpenSpec.ofChange moveDoesSpec)

/-- ITS FALSE NEIGHBOUR: 'it returns false'. Refute it at one input. -/
def moveDoesWrong : ChangeSpec := { name := "moveDoes", fn := fun _ => fun
  | [d1, d2, d3, d4, d5, d6, d7] => { results := [.lit (.bool false)], args := [d1, d2, d3, d4, d5, d6, d7] }
  | _ => none }
def MoveDoesWrongFalsely : Prop := moveDoesRow.holds Try.pinned (OpenSpec.ofChange moveDoesWrong)

/- THE SECOND FORM. 'bulk': how many values and letters a reading holds, each counted each time it is reached (what is shared counts as often as it is met; a slice's spare places count too). A statement '..UptoSaid' is the law's where the arguments, and the package variables that the reading takes, are together of bulk at most 1048576: NARROWER than '..Said'. Prove '..Said' where nothing that the law and all that it calls make is longer than what came in: it says more and counts as full. Else prove '..UptoSaid'. A law counts once. -/
mutual
def uptoBulk {H : Type} : DataW H → Nat
  | .lit (.string bytes) => bytes.length + 1
  | .lit _ => 1
  | .nil => 1
  | .ptr d => uptoBulk d + 1
  | .slice elems spare => uptoBulkAll elems + uptoBulkAll spare + 1
  | .agg parts => uptoBulkAll parts + 1
  | .iface _ d => uptoBulk d + 1
  | .map entries => uptoBulkEntries entries + 1
  | .held _ => 1
def uptoBulkAll {H : Type} : List (DataW H) → Nat
  | [] => 0
  | d :: r => uptoBulk d + uptoBulkAll r
def uptoBulkEntries {H : Type} : List (Lit × DataW H) → Nat
  | [] => 0
  | x :: r => uptoBulkEntry x + uptoBulkEntries r
def uptoBulkEntry {H : Type} : Lit × DataW H → Nat
  | (.string bytes, d) => bytes.length + uptoBulk d + 1
  | (_, d) => uptoBulk d + 1
 end
def uptoSmall : (H : Type) → List (DataW H) → Bool := fun _ ds => decide (uptoBulkAll ds ≤ 1048576)
def OpenSpec.upto (s : _root_.Go.ChangeSpec) : _root_.Go.OpenSpec := { _root_.Go.OpenSpec.ofChange s with cond := some uptoSmall }

/-- 'roadsteadlaw16.MoveNames', WHERE WHAT IT READS IS OF BULK AT MOST 1048576: true; the input reads as it did. -/
def moveNamesUptoRow : OpenClaim := { program := "ytajfefjmfelnbaa", sum := "29ce849aa60ec6c9006e0e687b2b367b1fbe62476510768f93e707e5e693abc6", func := "roadstead/roadsteadlaw16.MoveNames", spec := "moveNames", unfollowed := true, recurses := true, apart := false, narrowed := true }
def MoveNamesUptoSaid : Prop := moveNamesUptoRow.holds Try.pinned (OpenSpec.upto moveNamesSpec)

/-- 'roadsteadlaw16.MoveEnds', WHERE WHAT IT READS IS OF BULK AT MOST 1048576: true; the input reads as it did. -/
def moveEndsUptoRow : OpenClaim := { program := "ytajfefjmfelnbaa", sum := "29ce849aa60ec6c9006e0e687b2b367b1fbe62476510768f93e707e5e693abc6", func := "roadstead/roadsteadlaw16.MoveEnds", spec := "moveEnds", unfollowed := true, recurses := true, apart := false, narrowed := true }
def MoveEndsUptoSaid : Prop := moveEndsUptoRow.holds Try.pinned (OpenSpec.upto moveEndsSpec)

/-- 'roadsteadlaw16.MoveOthers', WHERE WHAT IT READS IS OF BULK AT MOST 1048576: true; the input reads as it did. -/
def moveOthersUptoRow : OpenClaim := { program := "ytajfefjmfelnbaa", sum := "29ce849aa60ec6c9006e0e687b2b367b1fbe62476510768f93e707e5e693abc6", func := "roadstead/roadsteadlaw16.MoveOthers", spec := "moveOthers", unfollowed := true, recurses := true, apart := false, narrowed := true }
def MoveOthersUptoSaid : Prop := moveOthersUptoRow.holds Try.pinned (OpenSpec.upto moveOthersSpec)

/-- 'roadsteadlaw16.MoveWalks', WHERE WHAT IT READS IS OF BULK AT MOST 1048576: true; the input reads as it did. -/
def moveWalksUptoRow : OpenClaim := { program := "ytajfefjmfelnbaa", sum := "29ce849aa60ec6c9006e0e687b2b367b1fbe62476510768f93e707e5e693abc6", func := "roadstead/roadsteadlaw16.MoveWalks", spec := "moveWalks", unfollowed := true, recurses := true, apart := false, narrowed := true }
def MoveWalksUptoSaid : Prop := moveWalksUptoRow.holds Try.pinned (OpenSpec.upto moveWalksSpec)

/-- 'roadsteadlaw16.MoveParts', WHERE WHAT IT READS IS OF BULK AT MOST 1048576: true; the input reads as it did. -/
def movePartsUptoRow : OpenClaim := { program := "ytajfefjmfelnbaa", sum := "29ce849aa60ec6c9006e0e687b2b367b1fbe62476510768f93e707e5e693abc6", func := "roadstead/roadsteadlaw16.MoveParts", spec := "moveParts", unfollowed := true, recurses := true, apart := false, narrowed := true }
def MovePartsUptoSaid : Prop := movePartsUptoRow.holds Try.pinned (OpenSpec.upto movePartsSpec)

/-- 'roadsteadlaw16.MoveDoes', WHERE WHAT IT READS IS OF BULK AT MOST 1048576: true; the input reads as it did. -/
def moveDoesUptoRow : OpenClaim := { program := "ytajfefjmfelnbaa", sum := "29ce849aa60ec6c9006e0e687b2b367b1fbe62476510768f93e707e5e693abc6", func := "roadstead/roadsteadlaw16.MoveDoes", spec := "moveDoes", unfollowed := true, recurses := true, apart := false, narrowed := true }
def MoveDoesUptoSaid : Prop := moveDoesUptoRow.holds Try.pinned (OpenSpec.upto moveDoesSpec)

end Rows
end Go.Proofs.Ytajfefjmfelnbaa
