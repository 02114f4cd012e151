/-
  No cell of these rows narrows 'for every input' (looked for: loops, veiled, ifaces, maps, wideKeys, modest, calm, conditions, laid).
  DERIVED. THE GIVEN ROWS OF THIS SEAT. 5 by the template 'for every input the law returns true; each argument reads behind the call as it read before'; 0 by the template 'total and deterministic' (their statements: YtnhlgnheinigoaaTotals.lean).
  GIVEN WITH THE SEED: the statements are not yours to turn. If you find one false, say at which input.
  Laid BY PROGRAM, IN A SANDBOX (cutbox-rows.mjs): the forced cells as the released guide's own fill.sh prints them over the translation 4e8429efbc96b9b9… (all of the seat's roots in one cut). By AI agents, Wed Nov 11 2026. No macro, syntax, notation, axiom, sorry.
-/
import Derived.Test.YtnhlgnheinigoaaChecked
import GoSem.Claim
import GoSem.ClaimJoined
import GoSem.ClaimMapViews
import Derived.JoinedTies
import Derived.KernelRfl
namespace Go.Proofs.Ytnhlgnheinigoaa
/- THE CELL 'sum', in the pinned program and in every row, IS THE sha256 OF THE DUMP (.gsa) THAT YtnhlgnheinigoaaProg.lean LOADS. Nothing in Lean hashes anything: it is a label: what it is worth is what the hold of that sum in a sandbox is worth. -/
noncomputable def Try.pinned : Pinned := { name := "ytnhlgnheinigoaa", sum := "4e8429efbc96b9b990de8db5b6902fd98029fd378943ac5a62594096b004c2b3", checked := Try.checked }
namespace Rows
def none {H : Type} : Left H := { results := [], args := [] }

/-- 'roadsteadlaw02.CrcTail': WHATEVER THE INPUT: true; the input reads as it did. -/
def crcTailSpec : ChangeSpec := { name := "crcTail", fn := fun _ => fun
  | [d1, d2] => { results := [.lit (.bool true)], args := [d1, d2] }
  | _ => none }
def crcTailRow : OpenClaim := { program := "ytnhlgnheinigoaa", sum := "4e8429efbc96b9b990de8db5b6902fd98029fd378943ac5a62594096b004c2b3", func := "roadstead/roadsteadlaw02.CrcTail", spec := "crcTail", apart := false }
def CrcTailSaid : Prop := crcTailRow.holds Try.pinned (OpenSpec.ofChange crcTailSpec)

/-- ITS FALSE NEIGHBOUR: 'it returns false'. Refute it at one input. -/
def crcTailWrong : ChangeSpec := { name := "crcTail", fn := fun _ => fun
  | [d1, d2] => { results := [.lit (.bool false)], args := [d1, d2] }
  | _ => none }
def CrcTailWrongFalsely : Prop := crcTailRow.holds Try.pinned (OpenSpec.ofChange crcTailWrong)

/-- 'roadsteadlaw02.CrcAlike': WHATEVER THE INPUT: true; the input reads as it did. -/
def crcAlikeSpec : ChangeSpec := { name := "crcAlike", fn := fun _ => fun
  | [d1, d2] => { results := [.lit (.bool true)], args := [d1, d2] }
  | _ => none }
def crcAlikeRow : OpenClaim := { program := "ytnhlgnheinigoaa", sum := "4e8429efbc96b9b990de8db5b6902fd98029fd378943ac5a62594096b004c2b3", func := "roadstead/roadsteadlaw02.CrcAlike", spec := "crcAlike", apart := false }
def CrcAlikeSaid : Prop := crcAlikeRow.holds Try.pinned (OpenSpec.ofChange crcAlikeSpec)

/-- ITS FALSE NEIGHBOUR: 'it returns false'. Refute it at one input. -/
def crcAlikeWrong : ChangeSpec := { name := "crcAlike", fn := fun _ => fun
  | [d1, d2] => { results := [.lit (.bool false)], args := [d1, d2] }
  | _ => none }
def CrcAlikeWrongFalsely : Prop := crcAlikeRow.holds Try.pinned (OpenSpec.ofChange crcAlikeWrong)

/-- 'roadsteadlaw02.CrcSums': WHATEVER THE INPUT: true; the input reads as it did. -/
def crcSumsSpec : ChangeSpec := { name := "crcSums", fn := fun _ => fun
  | [d1, d2, d3] => { results := [.lit (.bool true)], args := [d1, d2, d3] }
  | _ => none }
def crcSumsRow : OpenClaim := { program := "ytnhlgnheinigoaa", sum := "4e8429efbc96b9b990de8db5b6902fd98029fd378943ac5a62594096b004c2b3", func := "roadstead/roadsteadlaw02.CrcSums", spec := "crcSums", apart := false }
def CrcSumsSaid : Prop := crcSumsRow.holds Try.pinned (OpenSpec.ofChange crcSumsSpec)

/-- ITS FALSE NEIGHBOUR: 'it returns false'. Refute it at one input. -/
def crcSumsWrong : ChangeSpec := { name := "crcSums", fn := fun _ => fun
  | [d1, d2, d3] => { results := [.lit (.bool false)], args := [d1, d2, d3] }
  | _ => none }
def CrcSumsWrongFalsely : Prop := crcSumsRow.holds Try.pinned (OpenSpec.ofChange crcSumsWrong)

/-- 'roadsteadlaw02.CrcSplit': WHATEVER THE INPUT: true; the input reads as it did. -/
def crcSplitSpec : ChangeSpec := { name := "crcSplit", fn := fun _ => fun
  | [d1, d2] => { results := [.lit (.bool true)], args := [d1, d2] }
  | _ => none }
def crcSplitRow : OpenClaim := { program := "ytnhlgnheinigoaa", sum := "4e8429efbc96b9b990de8db5b6902fd98029fd378943ac5a62594096b004c2b3", func := "roadstead/roadsteadlaw02.CrcSplit", spec := "crcSplit", apart := false }
def CrcSplitSaid : Prop := crcSplitRow.holds Try.pinned (OpenSpec.ofChange crcSplitSpec)

/-- ITS FALSE NEIGHBOUR: 'it returns false'. Refute it at one input. -/
def crcSplitWrong : ChangeSpec := { name := "crcSplit", fn := fun _ => fun
  | [d1, d2] => { results := [.lit (.bool false)], args := [d1, d2] }
  | _ => none }
def CrcSplitWrongFalsely : Prop := crcSplitRow.holds Try.pinned (OpenSpec.ofChange crcSplitWrong)

/-- 'roadsteadlaw02.CrcBurst': WHATEVER THE INPUT: true; the input reads as it did. -/
def crcBurstSpec : ChangeSpec := { name := "crcBurst", fn := fun _ => fun
  | [d1, d2, d3] => { results := [.lit (.bool true)], args := [d1, d2, d3] }
  | _ => none }
def crcBurstRow : OpenClaim := { program := "ytnhlgnheinigoaa", sum := "4e8429efbc96b9b990de8db5b6902fd98029fd378943ac5a62594096b004c2b3", func := "roadstead/roadsteadlaw02.CrcBurst", spec := "crcBurst", apart := false }
def CrcBurstSaid : Prop := crcBurstRow.holds Try.pinned (OpenSpec.ofChange crcBurstSpec)

/-- ITS FALSE NEIGHBOUR: 'it returns false'. Refute it at one input. -/
def crcBurstWrong : ChangeSpec := { name := "crcBurst", fn := fun _ => fun
  | [d1, d2, d3] => { results := [.lit (.bool false)], args := [d1, d2, d3] }
  | _ => none }
def CrcBurstWrongFalsely : Prop := crcBurstRow.holds Try.pinned (OpenSpec.ofChange crcBurstWrong)

/- THE SECOND FORM. 'bulk': how many values and letters a reading holds, each counted each time it is reached (what is shared counts as often as it is met; a slice's spare places count too). A statement '..UptoSaid' is the law's where the arguments, and the package variables that the reading takes, are together of bulk at most 1048576: NARROWER than '..Said'. Prove '..Said' where nothing that the law and all that it calls make is longer than what came in: it says more and counts as full. Else prove '..UptoSaid'. A law counts once. -/
mutual
def uptoBulk {H : Type} : DataW H → Nat
  | .lit (.string bytes) => bytes.length + 1
  | .lit _ => 1
  | .nil => 1
  | .ptr d => uptoBulk d + 1
  | .slice elems spare => uptoBulkAll elems + uptoBulkAll spare + 1
  | .agg parts => uptoBulkAll parts + 1
  | .iface _ d => uptoBulk d + 1
  | .map entries => uptoBulkEntries entries + 1
  | .held _ => 1
def uptoBulkAll {H : Type} : List (DataW H) → Nat
  | [] => 0
  | d :: r => uptoBulk d + uptoBulkAll r
def uptoBulkEntries {H : Type} : List (Lit × DataW H) → Nat
  | [] => 0
  | x :: r => uptoBulkEntry x + uptoBulkEntries r
def uptoBulkEntry {H : Type} : Lit × DataW H → Nat
  | (.string bytes, d) => bytes.length + uptoBulk d + 1
  | (_, d) => uptoBulk d + 1
 end
def uptoSmall : (H : Type) → List (DataW H) → Bool := fun _ ds => decide (uptoBulkAll ds ≤ 1048576)
def OpenSpec.upto (s : _root_.Go.ChangeSpec) : _root_.Go.OpenSpec := { _root_.Go.OpenSpec.ofChange s with cond := some uptoSmall }

/-- 'roadsteadlaw02.CrcTail', WHERE WHAT IT READS IS OF BULK AT MOST 1048576: true; the input reads as it did. -/
def crcTailUptoRow : OpenClaim := { program := "ytnhlgnheinigoaa", sum := "4e8429efbc96b9b990de8db5b6902fd98029fd378943ac5a62594096b004c2b3", func := "roadstead/roadsteadlaw02.CrcTail", spec := "crcTail", apart := false, narrowed := true }
def CrcTailUptoSaid : Prop := crcTailUptoRow.holds Try.pinned (OpenSpec.upto crcTailSpec)

/-- 'roadsteadlaw02.CrcAlike', WHERE WHAT IT READS IS OF BULK AT MOST 1048576: true; the input reads as it did. -/
def crcAlikeUptoRow : OpenClaim := { program := "ytnhlgnheinigoaa", sum := "4e8429efbc96b9b990de8db5b6902fd98029fd378943ac5a62594096b004c2b3", func := "roadstead/roadsteadlaw02.CrcAlike", spec := "crcAlike", apart := false, narrowed := true }
def CrcAlikeUptoSaid : Prop := crcAlikeUptoRow.holds Try.pinned (OpenSpec.upto crcAlikeSpec)

/-- 'roadsteadlaw02.CrcSums', WHERE WHAT IT READS IS OF BULK AT MOST 1048576: true; the input reads as it did. -/
def crcSumsUptoRow : OpenClaim := { program := "ytnhlgnheinigoaa", sum := "4e8429efbc96b9b990de8db5b6902fd98029fd378943ac5a62594096b004c2b3", func := "roadstead/roadsteadlaw02.CrcSums", spec := "crcSums", apart := false, narrowed := true }
def CrcSumsUptoSaid : Prop := crcSumsUptoRow.holds Try.pinned (OpenSpec.upto crcSumsSpec)

/-- 'roadsteadlaw02.CrcSplit', WHERE WHAT IT READS IS OF BULK AT MOST 1048576: true; the input reads as it did. -/
def crcSplitUptoRow : OpenClaim := { program := "ytnhlgnheinigoaa", sum := "4e8429efbc96b9b990de8db5b6902fd98029fd378943ac5a62594096b004c2b3", func := "roadstead/roadsteadlaw02.CrcSplit", spec := "crcSplit", apart := false, narrowed := true }
def CrcSplitUptoSaid : Prop := crcSplitUptoRow.holds Try.pinned (OpenSpec.upto crcSplitSpec)

/-- 'roadsteadlaw02.CrcBurst', WHERE WHAT IT READS IS OF BULK AT MOST 1048576: true; the input reads as it did. -/
def crcBurstUptoRow : OpenClaim := { program := "ytnhlgnheinigoaa", sum := "4e8429efbc96b9b990de8db5b6902fd98029fd378943ac5a62594096b004c2b3", func := "roadstead/roadsteadlaw02.CrcBurst", spec := "crcBurst", apart := false, narrowed := true }
def CrcBurstUptoSaid : Prop := crcBurstUptoRow.holds Try.pinned (OpenSpec.upto crcBurstSpec)

end Rows
end Go.Proofs.Ytnhlgnheinigoaa
