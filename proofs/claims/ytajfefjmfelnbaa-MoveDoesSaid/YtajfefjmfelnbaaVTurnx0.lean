/- Printed (wip/gprint.py). -/
import Derived.Test.YtajfefjmfelnbaaProg
import Derived.Test.YtajfefjmfelnbaaVWalkx2
import Derived.Test.YtajfefjmfelnbaaWords
namespace Go.Proofs.Ytajfefjmfelnbaa.VTurn
open Go.RowKit Go.Proofs.Ytajfefjmfelnbaa.BState Go.Proofs.Ytajfefjmfelnbaa.VWalk Go.Proofs.YtajfefjmfelnbaaW.PrintWords Go.Proofs.YtajfefjmfelnbaaW.PrintLast Go.Proofs.YtajfefjmfelnbaaW.PrintMore
attribute [local go_sem] max2_int min2_int max_two min_two max_three min_three max_four min_four   -- for this text's walks alone
set_option linter.unusedVariables false
set_option linter.unusedSimpArgs false






-- the values' own types



end Go.Proofs.Ytajfefjmfelnbaa.VTurn
