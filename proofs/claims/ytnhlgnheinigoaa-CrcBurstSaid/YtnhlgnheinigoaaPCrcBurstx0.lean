-- Written by the session's own driver (wip/gprint.py) over the kit's print, with hand-proved contracts of some functions. Lean checks it.
import Derived.Test.YtnhlgnheinigoaaProg
import Derived.Below
import Derived.Deep.Draws
import Derived.Deep.AppendLies
import Derived.Maps.AppendAt
import Derived.OwnWalk
import Derived.Laws.BytesArg
import Derived.Laws.MakeOwn
import Derived.Laws.OwnMore
import Derived.Deep.OwnRows
import Derived.Tactics
import Derived.Lib.ConvBytes
import Derived.Laws.Slices
import Derived.WalkKit
import Derived.KernelRfl
import Derived.RowKit3
import Derived.Deep.LoopGhost
import Derived.Deep.QuietTactic
import Derived.BigQuiet
import Derived.WideLaws
import Derived.Deep.DeepCutAuto
import Derived.Deep.CutBlock
import Derived.Deep.RegionHeld3
import Derived.Laws.Rows
import Derived.Lib.AppendStr
import Derived.ArgAppend
import Derived.Laws.IdiomCopy
import Derived.OrdersHeld
import Derived.Laws.BitsLemmas
import Derived.RowKit
import Derived.Test.YtnhlgnheinigoaaCrcMore
import Derived.Test.YtnhlgnheinigoaaBRightx1
import Derived.Test.YtnhlgnheinigoaaKnown
import Derived.Test.YtnhlgnheinigoaaRRightx1
import Derived.Test.YtnhlgnheinigoaaWWords
import Derived.Test.YtnhlgnheinigoaaWLast
import Derived.Test.YtnhlgnheinigoaaWTab
import Derived.Test.YtnhlgnheinigoaaWFour
import Derived.Test.YtnhlgnheinigoaaWQPut
import Derived.Test.YtnhlgnheinigoaaWApart
import Derived.Test.YtnhlgnheinigoaaWArr
import Derived.Test.YtnhlgnheinigoaaWZeros
import Derived.Test.YtnhlgnheinigoaaWFoot
import Derived.Test.YtnhlgnheinigoaaWKept
import Derived.Test.YtnhlgnheinigoaaWShare
import Derived.Test.YtnhlgnheinigoaaWN
import Derived.Test.YtnhlgnheinigoaaWFootNe
import Derived.Test.YtnhlgnheinigoaaWAt
import Derived.Test.YtnhlgnheinigoaaWEqStruct
import Derived.Test.YtnhlgnheinigoaaWRepsOne
import Derived.Test.YtnhlgnheinigoaaWInv
import Derived.Test.YtnhlgnheinigoaaWInvWords
import Derived.Test.YtnhlgnheinigoaaWGuard
import Derived.Test.YtnhlgnheinigoaaWNEv
import Derived.Test.YtnhlgnheinigoaaWMore
namespace Go.Proofs.Ytnhlgnheinigoaa.PCrcBurst
open Go.RowKit Go.Proofs.Ytnhlgnheinigoaa.BRight Go.Proofs.Ytnhlgnheinigoaa.RRight Go.Proofs.YtnhlgnheinigoaaW.PrintWords Go.Proofs.YtnhlgnheinigoaaW.PrintLast Go.Proofs.YtnhlgnheinigoaaW.PrintMore
attribute [local go_sem] max2_int min2_int max_two min_two max_three min_three max_four min_four   -- for this text's walks alone
set_option linter.unusedVariables false
set_option linter.unusedSimpArgs false



def errW : Option Int → Value
  | none => .nilIface
  | some c => .iface 0 (.int .i64 c)
theorem errW_none : errW none = .nilIface := rfl
theorem errW_some (c : Int) : errW (some c) = .iface 0 (.int .i64 c) := rfl

-- the values' own types

end Go.Proofs.Ytnhlgnheinigoaa.PCrcBurst
