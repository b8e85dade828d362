-- Laid by wip/tools/myprint.py of this repo. Not trusted: Lean checks it.
import Derived.Test.YtgfaocfdknckpaaDoorQA0
import Derived.Test.YtgfaocfdknckpaaDoorQA1
import Derived.Test.YtgfaocfdknckpaaDoorQA2
namespace Go.Proofs.YtgfaocfdknckpaaDoor.QA
open Go.RowKit Go.Proofs.YtgfaocfdknckpaaDoorW.PrintWords Go.Proofs.YtgfaocfdknckpaaDoorW.PrintLast Go.Proofs.YtgfaocfdknckpaaDoorW.PrintMore
attribute [local go_sem] max2_int min2_int max_two min_two max_three min_three max_four min_four   -- for this text's walks alone
set_option linter.unusedVariables false
set_option linter.unusedSimpArgs false

end Go.Proofs.YtgfaocfdknckpaaDoor.QA
