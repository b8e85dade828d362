-- Laid by wip/tools/myprint.py of this repo. Not trusted: Lean checks it.
import Derived.Test.YtmocpglnoehknaaQT0
import Derived.Test.YtmocpglnoehknaaQT1
import Derived.Test.YtmocpglnoehknaaQT2
import Derived.Test.YtmocpglnoehknaaQT3
import Derived.Test.YtmocpglnoehknaaQT4
namespace Go.Proofs.Ytmocpglnoehknaa.QT
open Go.RowKit Go.Proofs.YtmocpglnoehknaaW.PrintWords Go.Proofs.YtmocpglnoehknaaW.PrintLast Go.Proofs.YtmocpglnoehknaaW.PrintMore
attribute [local go_sem] max2_int min2_int max_two min_two max_three min_three max_four min_four   -- for this text's walks alone
set_option linter.unusedVariables false
set_option linter.unusedSimpArgs false

end Go.Proofs.Ytmocpglnoehknaa.QT
