/- What the printed forms of merge.Cut and of thermographref06's Cut, half, View answer. -/
import Derived.Test.YtmocpglnoehknaaQT0
import Derived.Test.YtmocpglnoehknaaQT1
import Derived.Test.YtmocpglnoehknaaQT2
import Derived.Test.YtmocpglnoehknaaQT4
import Derived.Test.YtmocpglnoehknaaSortV
namespace Go.Proofs.Ytmocpglnoehknaa
set_option linter.unusedVariables false
set_option linter.unusedSimpArgs false
open Go.RowKit Go.Proofs.YtmocpglnoehknaaW.PrintWords Go.Proofs.Ytmocpglnoehknaa.QT
namespace Vw
theorem rd_mid' (P S : List Pt) (x : Pt) (i : Int) (hi : i = P.length) : rd_T24 (P ++ x :: S) i = x := by subst hi; unfold rd_T24; simp
theorem w1 (n : Nat) (h : n ≤ 1099511627776) : wrap64 ((n : Int) + 1) = ((n + 1 : Nat) : Int) := by unfold wrap64; omega
/-- Two views put together. -/
def hf : List Pt → List Pt → List Pt
  | [], B => B
  | A, [] => A
  | a :: A, b :: B => if a.f0 < b.f0 then a :: hf A (b :: B) else if b.f0 < a.f0 then b :: hf (a :: A) B else (if winsP b a = true then b else a) :: hf A B
termination_by A B => A.length + B.length
theorem rwins (a b : Pt) : thermographref06_Wins.f a.f0 a.f1 a.f2 b.f0 b.f1 b.f2 = some (winsP a b) := by
  unfold thermographref06_Wins.f winsP
  by_cases h1 : a.f2 > b.f2
  · rw [if_pos h1, decide_eq_true h1]; rfl
  · rw [if_neg h1, decide_eq_false h1]
    by_cases h2 : a.f2 = b.f2
    · rw [if_pos h2, h2]; simp
    · rw [if_neg h2]; simp [h2]
end Vw
end Go.Proofs.Ytmocpglnoehknaa
