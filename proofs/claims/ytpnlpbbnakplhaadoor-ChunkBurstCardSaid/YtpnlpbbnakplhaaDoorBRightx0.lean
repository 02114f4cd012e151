-- Written by the session's own driver (wip/gprint.py) over the kit's print, with hand-proved contracts of some functions. Lean checks it.
import Derived.Test.YtpnlpbbnakplhaaDoorProg
import Derived.Below
import Derived.Deep.Draws
import Derived.Deep.AppendLies
import Derived.Maps.AppendAt
import Derived.OwnWalk
import Derived.Laws.BytesArg
import Derived.Laws.MakeOwn
import Derived.Laws.OwnMore
import Derived.Deep.OwnRows
import Derived.Tactics
import Derived.Lib.ConvBytes
import Derived.Laws.Slices
import Derived.WalkKit
import Derived.KernelRfl
import Derived.RowKit3
import Derived.Deep.LoopGhost
import Derived.Deep.QuietTactic
import Derived.BigQuiet
import Derived.WideLaws
import Derived.Deep.DeepCutAuto
import Derived.Deep.CutBlock
import Derived.Deep.RegionHeld3
import Derived.Laws.Rows
import Derived.Lib.AppendStr
import Derived.ArgAppend
import Derived.Laws.IdiomCopy
import Derived.OrdersHeld
import Derived.Laws.BitsLemmas
import Derived.RowKit
import Derived.Test.YtpnlpbbnakplhaaDoorCrcMore
import Derived.Test.YtpnlpbbnakplhaaDoorWWords
import Derived.Test.YtpnlpbbnakplhaaDoorWLast
import Derived.Test.YtpnlpbbnakplhaaDoorWTab
import Derived.Test.YtpnlpbbnakplhaaDoorWFour
import Derived.Test.YtpnlpbbnakplhaaDoorWQPut
import Derived.Test.YtpnlpbbnakplhaaDoorWApart
import Derived.Test.YtpnlpbbnakplhaaDoorWArr
import Derived.Test.YtpnlpbbnakplhaaDoorWZeros
import Derived.Test.YtpnlpbbnakplhaaDoorWFoot
import Derived.Test.YtpnlpbbnakplhaaDoorWKept
import Derived.Test.YtpnlpbbnakplhaaDoorWShare
import Derived.Test.YtpnlpbbnakplhaaDoorWN
import Derived.Test.YtpnlpbbnakplhaaDoorWFootNe
import Derived.Test.YtpnlpbbnakplhaaDoorWAt
import Derived.Test.YtpnlpbbnakplhaaDoorWEqStruct
import Derived.Test.YtpnlpbbnakplhaaDoorWRepsOne
import Derived.Test.YtpnlpbbnakplhaaDoorWInv
import Derived.Test.YtpnlpbbnakplhaaDoorWInvWords
import Derived.Test.YtpnlpbbnakplhaaDoorWGuard
import Derived.Test.YtpnlpbbnakplhaaDoorWNEv
import Derived.Test.YtpnlpbbnakplhaaDoorWMore
namespace Go.Proofs.YtpnlpbbnakplhaaDoor.BRight
open Go.RowKit Go.Proofs.YtpnlpbbnakplhaaDoorW.PrintWords Go.Proofs.YtpnlpbbnakplhaaDoorW.PrintLast Go.Proofs.YtpnlpbbnakplhaaDoorW.PrintMore
attribute [local go_sem] max2_int min2_int max_two min_two max_three min_three max_four min_four   -- for this text's walks alone
set_option linter.unusedVariables false
set_option linter.unusedSimpArgs false



def errW : Option Int → Value
  | none => .nilIface
  | some c => .iface 0 (.int .i64 c)
theorem errW_none : errW none = .nilIface := rfl
theorem errW_some (c : Int) : errW (some c) = .iface 0 (.int .i64 c) := rfl

theorem info5 : (Tryd.prog.info? 5).map (fun i => (i.zero, i.size, i.bytes)) = some (some (.int .u8 0), 1, 1) := by kernel_rfl
-- the values' own types

end Go.Proofs.YtpnlpbbnakplhaaDoor.BRight
