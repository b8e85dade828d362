-- Laid by wip/tools/myprint.py of this repo. Not trusted: Lean checks it.
import Derived.Test.YtgfaocfdknckpaaDoorProg
import Derived.Below
import Derived.Deep.Draws
import Derived.Deep.AppendLies
import Derived.Maps.AppendAt
import Derived.OwnWalk
import Derived.Laws.BytesArg
import Derived.Laws.MakeOwn
import Derived.Laws.OwnMore
import Derived.Deep.OwnRows
import Derived.Tactics
import Derived.Lib.ConvBytes
import Derived.Laws.Slices
import Derived.WalkKit
import Derived.KernelRfl
import Derived.RowKit3
import Derived.Deep.LoopGhost
import Derived.Deep.QuietTactic
import Derived.BigQuiet
import Derived.WideLaws
import Derived.Deep.DeepCutAuto
import Derived.Deep.CutBlock
import Derived.Deep.RegionHeld3
import Derived.Laws.Rows
import Derived.Lib.AppendStr
import Derived.ArgAppend
import Derived.Laws.IdiomCopy
import Derived.OrdersHeld
import Derived.Laws.BitsLemmas
import Derived.RowKit
import Derived.Test.YtgfaocfdknckpaaDoorE0
import Derived.Test.YtgfaocfdknckpaaDoorE1
import Derived.Test.YtgfaocfdknckpaaDoorWWords
import Derived.Test.YtgfaocfdknckpaaDoorWLast
import Derived.Test.YtgfaocfdknckpaaDoorWTab
import Derived.Test.YtgfaocfdknckpaaDoorWFour
import Derived.Test.YtgfaocfdknckpaaDoorWQPut
import Derived.Test.YtgfaocfdknckpaaDoorWApart
import Derived.Test.YtgfaocfdknckpaaDoorWArr
import Derived.Test.YtgfaocfdknckpaaDoorWZeros
import Derived.Test.YtgfaocfdknckpaaDoorWFoot
import Derived.Test.YtgfaocfdknckpaaDoorWKept
import Derived.Test.YtgfaocfdknckpaaDoorWShare
import Derived.Test.YtgfaocfdknckpaaDoorWN
import Derived.Test.YtgfaocfdknckpaaDoorWFootNe
import Derived.Test.YtgfaocfdknckpaaDoorWAt
import Derived.Test.YtgfaocfdknckpaaDoorWEqStruct
import Derived.Test.YtgfaocfdknckpaaDoorWRepsOne
import Derived.Test.YtgfaocfdknckpaaDoorWInv
import Derived.Test.YtgfaocfdknckpaaDoorWInvWords
import Derived.Test.YtgfaocfdknckpaaDoorWGuard
import Derived.Test.YtgfaocfdknckpaaDoorWNEv
import Derived.Test.YtgfaocfdknckpaaDoorWMore
namespace Go.Proofs.YtgfaocfdknckpaaDoor.QA
open Go.RowKit Go.Proofs.YtgfaocfdknckpaaDoorW.PrintWords Go.Proofs.YtgfaocfdknckpaaDoorW.PrintLast Go.Proofs.YtgfaocfdknckpaaDoorW.PrintMore
attribute [local go_sem] max2_int min2_int max_two min_two max_three min_three max_four min_four   -- for this text's walks alone
set_option linter.unusedVariables false
set_option linter.unusedSimpArgs false



def errW : Option Int → Value
  | none => .nilIface
  | some c => .iface 0 (.int .i64 c)
theorem errW_none : errW none = .nilIface := rfl
theorem errW_some (c : Int) : errW (some c) = .iface 0 (.int .i64 c) := rfl

theorem info9 : (Tryd.prog.info? 9).map (fun i => (i.zero, i.size, i.bytes)) = some (some (.string ⟨#[]⟩), 1, 16) := by kernel_rfl
-- the values' own types

end Go.Proofs.YtgfaocfdknckpaaDoor.QA
