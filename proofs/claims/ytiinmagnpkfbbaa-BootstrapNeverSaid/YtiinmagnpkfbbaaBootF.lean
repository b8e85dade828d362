/- The boots: hold at nothing, Got of nothing. -/
import Derived.Test.YtiinmagnpkfbbaaBootE
namespace Go.Proofs.Ytiinmagnpkfbbaa
set_option linter.unusedVariables false
set_option linter.unusedSimpArgs false
open Go.RowKit Go.Proofs.YtiinmagnpkfbbaaW.PrintWords Go.Proofs.YtiinmagnpkfbbaaW.PrintLast Go.Proofs.YtiinmagnpkfbbaaW.PrintMore Go.Proofs.Ytiinmagnpkfbbaa.QT
namespace Bt
set_option maxHeartbeats 1000000 in
theorem got_not (w : World) (g : Nat) (st p : Int) (v : Value) (h : w.cell? ⟨g, 1, none⟩ = some (.int .i64 st)) (hst : st ≠ 1) :
    Calls Try.prog 11 #[.pointer (some ⟨g, 0, none⟩), .int .i64 p, v] w fun e w' => e = .returned (.bool false) ∧ Below w.heap.size w w' := by
  have HIN := Lib.hid (init_calls w g st h)
  rw [beq_eq_false_iff_ne.2 hst] at HIN
  have H0 := Lib.hid (Below.refl w.heap.size w)
  clear h hst
  go_enter Try.func11, Try.ntmps11
  go_wp2_with fail
  with_reducible refine HIN.out.mono ?_
  rintro e w1 ⟨rfl, rfl⟩
  go_wp2
  go_ret
  exact ⟨rfl, H0.out⟩
end Bt
end Go.Proofs.Ytiinmagnpkfbbaa
