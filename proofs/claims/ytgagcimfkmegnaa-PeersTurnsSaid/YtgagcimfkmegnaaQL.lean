-- Laid by wip/tools/myprint.py of this repo. Not trusted: Lean checks it.
import Derived.Test.YtgagcimfkmegnaaQL0
import Derived.Test.YtgagcimfkmegnaaQL1
namespace Go.Proofs.Ytgagcimfkmegnaa.QL
open Go.Proofs.Ytgagcimfkmegnaa.QT
open Go.RowKit Go.Proofs.YtgagcimfkmegnaaW.PrintWords Go.Proofs.YtgagcimfkmegnaaW.PrintLast Go.Proofs.YtgagcimfkmegnaaW.PrintMore
attribute [local go_sem] max2_int min2_int max_two min_two max_three min_three max_four min_four   -- for this text's walks alone
set_option linter.unusedVariables false
set_option linter.unusedSimpArgs false

end Go.Proofs.Ytgagcimfkmegnaa.QL
