/- The order of texts: what it says of the other way round (for print's walks over '<=' and '>' of strings). -/
import Derived.Test.YtiinmagnpkfbbaaGreatProg
import Derived.WalkKit
import Derived.Sort.Walk0
namespace Go.Proofs.YtiinmagnpkfbbaaGreat.QT
open Go.RowKit
theorem str_tri (a b : List UInt8) (h : Op.bytesLess a b = false) (h2 : a ≠ b) : Op.bytesLess b a = true := by
 rw [bytesLess_eq] at h ⊢; simp only [decide_eq_false_iff_not, decide_eq_true_eq] at h ⊢; rcases List.le_iff_lt_or_eq.mp (List.not_lt.mp h) with h3 | h3
 ·
  exact h3
 ·
  exact absurd h3.symm h2
theorem str_asymm {a b : List UInt8} (h : Op.bytesLess a b = true) : Op.bytesLess b a = false := by
 rw [bytesLess_eq] at h ⊢; simp only [decide_eq_false_iff_not, decide_eq_true_eq] at h ⊢; exact List.lt_asymm h
theorem str_irrefl (a : List UInt8) : Op.bytesLess a a = false := by
 rw [bytesLess_eq]; simp only [decide_eq_false_iff_not]; exact List.lt_irrefl a
theorem str_ne {a b : List UInt8} (h : Op.bytesLess a b = true) : (b == a) = false := by
 rw [beq_eq_false_iff_ne]; rintro rfl; rw [str_irrefl] at h; cases h
theorem str_ge {a b : List UInt8} (h : Op.bytesLess a b = false) : (Op.bytesLess b a || b == a) = true := by
 by_cases e : b = a
 ·
  subst e; simp
 ·
  rw [str_tri _ _ h (fun h => e h.symm)]; rfl
end Go.Proofs.YtiinmagnpkfbbaaGreat.QT
