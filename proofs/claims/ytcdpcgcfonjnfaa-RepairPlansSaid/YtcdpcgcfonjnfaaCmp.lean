/- cmp.Compare at strings: the lexicographic order of bytes. -/
import Derived.Test.YtcdpcgcfonjnfaaProg
import Derived.Test.YtcdpcgcfonjnfaaWWords
import Derived.WalkKit
import Derived.Lib.Hide
import Derived.WalkLawsBesides
import Derived.Sort.Walk0
namespace Go.Proofs.Ytcdpcgcfonjnfaa
open Go.RowKit Go.Proofs.YtcdpcgcfonjnfaaW.PrintWords

/-- Which of two texts comes first: -1, 0, 1. -/
def cmpStr (a b : ByteArray) : Int := if Op.bytesLess a.toList b.toList = true then -1 else if Op.bytesLess b.toList a.toList = true then 1 else 0
theorem bytesLess_tri (a b : List UInt8) (h : Op.bytesLess a b = false) (h2 : a ≠ b) : Op.bytesLess b a = true := by
  rw [bytesLess_eq] at h ⊢
  simp only [decide_eq_false_iff_not, decide_eq_true_eq] at h ⊢
  rcases List.le_iff_lt_or_eq.mp (List.not_lt.mp h) with h3 | h3
  · exact h3
  · exact absurd h3.symm h2
theorem bytesLess_irrefl (a : List UInt8) : Op.bytesLess a a = false := by
  rw [bytesLess_eq]; simp only [decide_eq_false_iff_not]; exact List.lt_irrefl a

theorem isNaN_string_any (s : ByteArray) (w : World) : Calls Try.prog 34 #[.string s] w fun e w' => e = .returned (.bool false) ∧ w = w' := by
  have h1 : (s.toList == s.toList) = true := by simp
  go_enter Try.func34, Try.ntmps34
  go_wp2
  go_ret
  exact ⟨rfl, rfl⟩

def cmp_Compare_string.f (a0 : ByteArray) (a1 : ByteArray) : Option Int := some (cmpStr a0 a1)
set_option maxHeartbeats 1000000 in
theorem cmp_Compare_string.calls (a0 : ByteArray) (a1 : ByteArray) (r : Int) (w : World) (h : cmp_Compare_string.f a0 a1 = some r) :
    Calls Try.prog 28 #[.string a0, .string a1] w fun e w' => e = .returned (.int .i64 r) ∧ Drawn0 w w' := by
  have h := Option.some.inj h
  unfold cmpStr at h
  cases hl : Op.bytesLess a0.toList a1.toList with
  | true =>
    rw [hl, if_pos rfl] at h
    subst h
    go_enter Try.func28, Try.ntmps28
    go_wp2_with (go_at_call 34; with_reducible refine (isNaN_string_any _ _).mono ?_; rintro e w' ⟨rfl, rfl⟩)
    go_ret
    exact ⟨rfl, Drawn0.refl _⟩
  | false =>
    cases hg : Op.bytesLess a1.toList a0.toList with
    | true =>
      rw [hl, hg, if_neg (by simp), if_pos rfl] at h
      subst h
      have hne : (a0.toList == a1.toList) = false := by
        rw [beq_eq_false_iff_ne]; intro e; rw [e, bytesLess_irrefl] at hg; cases hg
      go_enter Try.func28, Try.ntmps28
      go_wp2_with (go_at_call 34; with_reducible refine (isNaN_string_any _ _).mono ?_; rintro e w' ⟨rfl, rfl⟩)
      go_ret
      exact ⟨rfl, Drawn0.refl _⟩
    | false =>
      rw [hl, hg, if_neg (by simp), if_neg (by simp)] at h
      subst h
      have hne : (a0.toList == a1.toList) = true := by
        rw [beq_iff_eq]
        exact Decidable.byContradiction fun hn => by rw [bytesLess_tri _ _ hl hn] at hg; cases hg
      go_enter Try.func28, Try.ntmps28
      go_wp2_with (go_at_call 34; with_reducible refine (isNaN_string_any _ _).mono ?_; rintro e w' ⟨rfl, rfl⟩)
      go_ret
      exact ⟨rfl, Drawn0.refl _⟩
end Go.Proofs.Ytcdpcgcfonjnfaa
