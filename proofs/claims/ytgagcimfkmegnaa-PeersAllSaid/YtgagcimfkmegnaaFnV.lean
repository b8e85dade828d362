/- Calls of a function value that lies in a slot and captures nothing: as the calls of a named function. -/
import Derived.Test.YtgagcimfkmegnaaWTab
namespace Go.Proofs.Ytgagcimfkmegnaa
open Go.RowKit Go.Proofs.YtgagcimfkmegnaaW.PrintWords Go.Proofs.YtgagcimfkmegnaaW.PrintLast Go.Proofs.YtgagcimfkmegnaaW.PrintMore
section
variable {P : Program} {ops : Array Oper} {Q : Exit → Act → World → Prop}
theorem goesV_ {oi : Oper} {N : Option Tmp} {a : Act} {w : World} {K : Act → World → Prop} {f : FuncId} {fn : Func} {t : Tmp} {as0 : Array Operand} {ts : Array TypeId} (hf : P.funcs[f]? = some fn) (hname : (fn.name == "runtime.NumGoroutine") = false) (hb : fn.body.isSome = true) (args : Array Value)
  (hw : Region.wanted oi (yielded ops a.tmps) = true) (hN : oi.dst = N) (hop : oi.op = .call { callee := .value (.tmp t), args := as0, argTypes := ts }) (ht : a.eval (.tmp t) = .func (.func f) #[] #[]) (hargs : as0.map a.eval = args)
  (h : Calls P f args w fun e w' => ∃ v, e = .returned v ∧ K (a.put N v) w') : if Region.wanted oi (yielded ops a.tmps) = true then Oper.wp P oi a w K Q else K (a.put N undef) w := by
 refine call_ f args hw hN ?_ h; have he := enters_ hf hname hb args w; unfold execOp; simp only [hop, resolve, ht]; simp [Deferred.ofValue, invoke, hargs, he]
end
end Go.Proofs.Ytgagcimfkmegnaa
