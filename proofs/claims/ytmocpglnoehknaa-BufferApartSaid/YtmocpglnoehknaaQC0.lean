-- Laid by wip/tools/myprint.py of this repo. Not trusted: Lean checks it.
import Derived.Test.YtmocpglnoehknaaProg
import Derived.Below
import Derived.Deep.Draws
import Derived.Deep.AppendLies
import Derived.Maps.AppendAt
import Derived.OwnWalk
import Derived.Laws.BytesArg
import Derived.Laws.MakeOwn
import Derived.Laws.OwnMore
import Derived.Deep.OwnRows
import Derived.Tactics
import Derived.Lib.ConvBytes
import Derived.Laws.Slices
import Derived.WalkKit
import Derived.KernelRfl
import Derived.RowKit3
import Derived.Deep.LoopGhost
import Derived.Deep.QuietTactic
import Derived.BigQuiet
import Derived.WideLaws
import Derived.Deep.DeepCutAuto
import Derived.Deep.CutBlock
import Derived.Deep.RegionHeld3
import Derived.Laws.Rows
import Derived.Lib.AppendStr
import Derived.ArgAppend
import Derived.Laws.IdiomCopy
import Derived.OrdersHeld
import Derived.Laws.BitsLemmas
import Derived.RowKit
import Derived.Maps.RangeWalk
import Derived.Test.YtmocpglnoehknaaFnV
import Derived.Test.YtmocpglnoehknaaGrow
import Derived.Test.YtmocpglnoehknaaWWords
import Derived.Test.YtmocpglnoehknaaWLast
import Derived.Test.YtmocpglnoehknaaWTab
import Derived.Test.YtmocpglnoehknaaWFour
import Derived.Test.YtmocpglnoehknaaWQPut
import Derived.Test.YtmocpglnoehknaaWApart
import Derived.Test.YtmocpglnoehknaaWArr
import Derived.Test.YtmocpglnoehknaaWZeros
import Derived.Test.YtmocpglnoehknaaWFoot
import Derived.Test.YtmocpglnoehknaaWKept
import Derived.Test.YtmocpglnoehknaaWShare
import Derived.Test.YtmocpglnoehknaaWN
import Derived.Test.YtmocpglnoehknaaWFootNe
import Derived.Test.YtmocpglnoehknaaWAt
import Derived.Test.YtmocpglnoehknaaWEqStruct
import Derived.Test.YtmocpglnoehknaaWRepsOne
import Derived.Test.YtmocpglnoehknaaWInv
import Derived.Test.YtmocpglnoehknaaWInvWords
import Derived.Test.YtmocpglnoehknaaWGuard
import Derived.Test.YtmocpglnoehknaaWNEv
import Derived.Test.YtmocpglnoehknaaWMore
import Derived.Test.YtmocpglnoehknaaQT0
namespace Go.Proofs.Ytmocpglnoehknaa.QC
open Go.Proofs.Ytmocpglnoehknaa.QT
open Go.RowKit Go.Proofs.YtmocpglnoehknaaW.PrintWords Go.Proofs.YtmocpglnoehknaaW.PrintLast Go.Proofs.YtmocpglnoehknaaW.PrintMore
attribute [local go_sem] max2_int min2_int max_two min_two max_three min_three max_four min_four   -- for this text's walks alone
set_option linter.unusedVariables false
set_option linter.unusedSimpArgs false

end Go.Proofs.Ytmocpglnoehknaa.QC
