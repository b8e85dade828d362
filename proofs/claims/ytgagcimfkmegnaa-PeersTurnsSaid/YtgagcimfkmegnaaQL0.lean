-- Laid by wip/tools/myprint.py of this repo. Not trusted: Lean checks it.
import Derived.Test.YtgagcimfkmegnaaProg
import Derived.Below
import Derived.Deep.Draws
import Derived.Deep.AppendLies
import Derived.Maps.AppendAt
import Derived.OwnWalk
import Derived.Laws.BytesArg
import Derived.Laws.MakeOwn
import Derived.Laws.OwnMore
import Derived.Deep.OwnRows
import Derived.Tactics
import Derived.Lib.ConvBytes
import Derived.Laws.Slices
import Derived.WalkKit
import Derived.KernelRfl
import Derived.RowKit3
import Derived.Deep.LoopGhost
import Derived.Deep.QuietTactic
import Derived.BigQuiet
import Derived.WideLaws
import Derived.Deep.DeepCutAuto
import Derived.Deep.CutBlock
import Derived.Deep.RegionHeld3
import Derived.Laws.Rows
import Derived.Lib.AppendStr
import Derived.ArgAppend
import Derived.Laws.IdiomCopy
import Derived.OrdersHeld
import Derived.Laws.BitsLemmas
import Derived.RowKit
import Derived.Maps.RangeWalk
import Derived.Test.YtgagcimfkmegnaaFnV
import Derived.Test.YtgagcimfkmegnaaPage2
import Derived.Test.YtgagcimfkmegnaaWWords
import Derived.Test.YtgagcimfkmegnaaWLast
import Derived.Test.YtgagcimfkmegnaaWTab
import Derived.Test.YtgagcimfkmegnaaWFour
import Derived.Test.YtgagcimfkmegnaaWQPut
import Derived.Test.YtgagcimfkmegnaaWApart
import Derived.Test.YtgagcimfkmegnaaWArr
import Derived.Test.YtgagcimfkmegnaaWZeros
import Derived.Test.YtgagcimfkmegnaaWFoot
import Derived.Test.YtgagcimfkmegnaaWKept
import Derived.Test.YtgagcimfkmegnaaWShare
import Derived.Test.YtgagcimfkmegnaaWN
import Derived.Test.YtgagcimfkmegnaaWFootNe
import Derived.Test.YtgagcimfkmegnaaWAt
import Derived.Test.YtgagcimfkmegnaaWEqStruct
import Derived.Test.YtgagcimfkmegnaaWRepsOne
import Derived.Test.YtgagcimfkmegnaaWInv
import Derived.Test.YtgagcimfkmegnaaWInvWords
import Derived.Test.YtgagcimfkmegnaaWGuard
import Derived.Test.YtgagcimfkmegnaaWNEv
import Derived.Test.YtgagcimfkmegnaaWMore
import Derived.Test.YtgagcimfkmegnaaQT0
namespace Go.Proofs.Ytgagcimfkmegnaa.QL
open Go.Proofs.Ytgagcimfkmegnaa.QT
open Go.RowKit Go.Proofs.YtgagcimfkmegnaaW.PrintWords Go.Proofs.YtgagcimfkmegnaaW.PrintLast Go.Proofs.YtgagcimfkmegnaaW.PrintMore
attribute [local go_sem] max2_int min2_int max_two min_two max_three min_three max_four min_four   -- for this text's walks alone
set_option linter.unusedVariables false
set_option linter.unusedSimpArgs false

end Go.Proofs.Ytgagcimfkmegnaa.QL
