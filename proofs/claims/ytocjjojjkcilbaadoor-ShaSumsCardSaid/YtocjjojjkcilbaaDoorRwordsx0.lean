-- Written by the session's own driver (wip/gprint.py) over the kit's print, with hand-proved contracts of some functions. Lean checks it.
import Derived.Test.YtocjjojjkcilbaaDoorProg
import Derived.Below
import Derived.Deep.Draws
import Derived.Deep.AppendLies
import Derived.Maps.AppendAt
import Derived.OwnWalk
import Derived.Laws.BytesArg
import Derived.Laws.MakeOwn
import Derived.Laws.OwnMore
import Derived.Deep.OwnRows
import Derived.Tactics
import Derived.Lib.ConvBytes
import Derived.Laws.Slices
import Derived.WalkKit
import Derived.KernelRfl
import Derived.RowKit3
import Derived.Deep.LoopGhost
import Derived.Deep.QuietTactic
import Derived.BigQuiet
import Derived.WideLaws
import Derived.Deep.DeepCutAuto
import Derived.Deep.CutBlock
import Derived.Deep.RegionHeld3
import Derived.Laws.Rows
import Derived.Lib.AppendStr
import Derived.ArgAppend
import Derived.Laws.IdiomCopy
import Derived.OrdersHeld
import Derived.Laws.BitsLemmas
import Derived.RowKit
import Derived.Test.YtocjjojjkcilbaaDoorBase
import Derived.Test.YtocjjojjkcilbaaDoorWWords
import Derived.Test.YtocjjojjkcilbaaDoorWLast
import Derived.Test.YtocjjojjkcilbaaDoorWTab
import Derived.Test.YtocjjojjkcilbaaDoorWFour
import Derived.Test.YtocjjojjkcilbaaDoorWQPut
import Derived.Test.YtocjjojjkcilbaaDoorWApart
import Derived.Test.YtocjjojjkcilbaaDoorWArr
import Derived.Test.YtocjjojjkcilbaaDoorWZeros
import Derived.Test.YtocjjojjkcilbaaDoorWFoot
import Derived.Test.YtocjjojjkcilbaaDoorWKept
import Derived.Test.YtocjjojjkcilbaaDoorWShare
import Derived.Test.YtocjjojjkcilbaaDoorWN
import Derived.Test.YtocjjojjkcilbaaDoorWFootNe
import Derived.Test.YtocjjojjkcilbaaDoorWAt
import Derived.Test.YtocjjojjkcilbaaDoorWEqStruct
import Derived.Test.YtocjjojjkcilbaaDoorWRepsOne
import Derived.Test.YtocjjojjkcilbaaDoorWInv
import Derived.Test.YtocjjojjkcilbaaDoorWInvWords
import Derived.Test.YtocjjojjkcilbaaDoorWGuard
import Derived.Test.YtocjjojjkcilbaaDoorWNEv
import Derived.Test.YtocjjojjkcilbaaDoorWMore
namespace Go.Proofs.YtocjjojjkcilbaaDoor.Rwords
open Go.RowKit Go.Proofs.YtocjjojjkcilbaaDoorW.PrintWords Go.Proofs.YtocjjojjkcilbaaDoorW.PrintLast Go.Proofs.YtocjjojjkcilbaaDoorW.PrintMore
attribute [local go_sem] max2_int min2_int max_two min_two max_three min_three max_four min_four   -- for this text's walks alone
set_option linter.unusedVariables false
set_option linter.unusedSimpArgs false



def errW : Option Int → Value
  | none => .nilIface
  | some c => .iface 0 (.int .i64 c)
theorem errW_none : errW none = .nilIface := rfl
theorem errW_some (c : Int) : errW (some c) = .iface 0 (.int .i64 c) := rfl

theorem info27 : (Tryd.prog.info? 27).map (fun i => (i.zero, i.size, i.bytes)) = some (some (.int .u32 0), 1, 4) := by kernel_rfl
-- the values' own types

end Go.Proofs.YtocjjojjkcilbaaDoor.Rwords
