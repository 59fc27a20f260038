-- Written by a program of this session's (wip/print_patch.py over the kit's print) out of the translation; Lean checks it.
import Derived.Test.YtdmeglmmihaonaaGreatDoorVValueUnaryPtextDx0
import Derived.Test.YtdmeglmmihaonaaGreatDoorVValueUnaryPtextDx1
namespace Go.Proofs.YtdmeglmmihaonaaGreatDoor.PtextD
open Go.RowKit Go.Proofs.YtdmeglmmihaonaaGreatDoor.Ext Go.Proofs.YtdmeglmmihaonaaGreatDoorW.PrintWords Go.Proofs.YtdmeglmmihaonaaGreatDoorW.PrintLast Go.Proofs.YtdmeglmmihaonaaGreatDoorW.PrintMore
attribute [local go_sem] max2_int min2_int max_two min_two max_three min_three max_four min_four   -- for this text's walks alone
set_option linter.unusedVariables false
set_option linter.unusedSimpArgs false

end Go.Proofs.YtdmeglmmihaonaaGreatDoor.PtextD
