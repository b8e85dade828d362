/- repair.Alike and the document's: the same. -/
import Derived.Test.YtcdpcgcfonjnfaaRepAlike
import Derived.Test.YtcdpcgcfonjnfaaRepEqLaw
import Derived.Test.YtcdpcgcfonjnfaaRepRefAlike
namespace Go.Proofs.Ytcdpcgcfonjnfaa
open Go.Proofs.Ytcdpcgcfonjnfaa.QT
namespace Rp
theorem nd_iff (L : List (List Mt)) (i j : Nat) : nd L i j ↔ ∀ p, ¬ dif (rd_L4 L (i : Int)) (rd_L4 L (j : Int)) p := by
  have h := rdiff_is (rd_L4 L (i : Int)) (rd_L4 L (j : Int))
  unfold nd refD
  constructor
  · intro e p hd
    have := (h.mem p).2 hd
    rw [e] at this
    cases this
  · exact fun hp => h.nil hp
theorem alike_same (L : List (List Mt)) : alikeP L = true ↔ ∀ a, a < L.length → ∀ j, j < L.length → nd L a j := by
  unfold alikeP
  rw [List.all_eq_true]
  constructor
  · intro h
    have h0 : ∀ j, j < L.length → ∀ p, (first (rd_L4 L 0) p).map kpt = (first (rd_L4 L (j : Int)) p).map kpt := by
      intro j hj
      cases j with
      | zero => exact fun p => rfl
      | succ j =>
        have := h j (List.mem_range.2 (by omega))
        unfold eqAt at this
        exact (eqM_iff _ _).1 this
    intro a ha j hj
    rw [nd_iff]
    exact fun p hd => hd.2 ((h0 a ha p).symm.trans (h0 j hj p))
  · intro h j hj
    have hj := List.mem_range.1 hj
    unfold eqAt
    refine (eqM_dif _ _).2 (fun p => ⟨?_, ?_⟩)
    · exact (nd_iff L 0 (j + 1)).1 (h 0 (by omega) (j + 1) (by omega)) p
    · exact (nd_iff L (j + 1) 0).1 (h (j + 1) (by omega) 0 (by omega)) p
end Rp
end Go.Proofs.Ytcdpcgcfonjnfaa
