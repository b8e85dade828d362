/- repair.Plan where nothing differs; Alike of one; heavy. -/
import Derived.Test.YtcdpcgcfonjnfaaRepDiff
import Derived.Test.YtcdpcgcfonjnfaaRepRef
import Derived.Test.YtcdpcgcfonjnfaaQT2
namespace Go.Proofs.Ytcdpcgcfonjnfaa
set_option linter.unusedVariables false
set_option linter.unusedSimpArgs false
open Go.RowKit Go.Proofs.YtcdpcgcfonjnfaaW.PrintWords Go.Proofs.YtcdpcgcfonjnfaaW.PrintLast Go.Proofs.YtcdpcgcfonjnfaaW.PrintMore Go.Proofs.Ytcdpcgcfonjnfaa.QT
namespace Rp
abbrev kLL : Kd (List Mt) := Kd.slice 56 k56
theorem lit_one (W : World) (A : Option Addr) (c : Nat) (l : List Mt) (hl : Kd.C k56 W A l.length l) (hlc : l.length ≤ c) : Kd.C kLL (W.alloc (.cells #[.slice A l.length c] 22)) (some ⟨W.heap.size, 0, none⟩) 1 [l] := by
  refine ⟨rfl, by decide, fun _ => ⟨_, rfl, fun j p hj => ?_⟩⟩
  have hb := blk_new W (.cells #[.slice A l.length c] 22)
  match j, hj with
  | 0, hj =>
    cases hj
    refine ⟨[.slice A l.length c], rfl, ⟨A, c, rfl, hlc, Kd.C_below hl (below_alloc (Below.refl _ _) _)⟩, fun i u hu => ?_⟩
    match i, hu with
    | 0, hu => cases hu; exact (blk_cell hb 0).trans rfl
end Rp
end Go.Proofs.Ytcdpcgcfonjnfaa
