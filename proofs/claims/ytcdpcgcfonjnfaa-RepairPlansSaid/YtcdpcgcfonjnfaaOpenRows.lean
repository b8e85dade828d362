/- A slice among the arguments, opened as a row of a kind: generic over the kind; at whole numbers, bools, slices of such. -/
import Derived.Test.YtcdpcgcfonjnfaaWMore
import Derived.WalkKit
import Derived.ProofKit
import Derived.OpenShut
import Derived.ShutString
import Derived.ChangeOld
import Derived.Below
import Derived.SizedLaws
import Derived.Lib.SmallJoins
import Derived.Deep.Slices
namespace Go.Proofs.Ytcdpcgcfonjnfaa
set_option linter.unusedVariables false
set_option linter.unusedSimpArgs false
open Go.ChangeShapes Go.WideShapes Go.ChangeAt Go.RowKit Go.Joins Go.Deep Go.Proofs.YtcdpcgcfonjnfaaW.PrintWords
namespace OpenRows
section
variable {H : Type} {enc : TypeId × Value → H} {P : Program} {w : World} {base : Nat} {spare : Nat → Bool} {held : Bool}
/-- What the cells of one element say. -/
def Elem {α : Type} (enc : TypeId × Value → H) (P : Program) (w : World) (base : Nat) (spare : Nat → Bool) (held : Bool) (e : TypeId) (d : Kd α) (Pr : α → Prop) : Prop :=
  ∀ n cs x, cs.length = d.sz → DataW.trod enc P w base spare held n e cs = some x → ∃ y, d.K w y cs ∧ Pr y
theorem open_rows {α : Type} [Inhabited α] {d : Kd α} {t e : TypeId} {Pr : α → Prop} (ht : P.underlying t = some (.slice e)) (hC : P.cellsOf e = d.sz) (hd : Elem enc P w base spare held e d Pr) {fuel : Nat} {cs : List Value} {x : DataW H × List MemPlace} (h : DataW.trod enc P w base spare held fuel t cs = some x) :
    ∃ (A : Option Addr) (cap : Nat) (l : List α), cs = [.slice A l.length cap] ∧ l.length ≤ cap ∧ l.length ≤ maxLen ∧ d.C w A l.length l ∧ ∀ y ∈ l, Pr y := by
  rcases open_slice ht h with ⟨h0, _⟩ | ⟨a, len, cap, m, n, D, Pl, rfl, hb, hl, hm, hmm, rfl, hx⟩
  · exact ⟨none, 0, [], h0, Nat.le_refl _, by simp, Kd.C_nil _ _, by simp⟩
  have hlm : len ≤ m := by rw [hmm]; split <;> omega
  have each : ∀ i, i < len → ∃ y : α, (∃ c, c.length = d.sz ∧ d.K w y c ∧ ∀ k u, c[k]? = some u → w.cell? (a.add (i * d.sz + k)) = some u) ∧ Pr y := by
    intro i hi
    obtain ⟨cs', h1, h2⟩ := hx i (by omega)
    rw [hC] at h1
    obtain ⟨_, hlen, hcell⟩ := World.cells?_some h1
    obtain ⟨y, hK, hP⟩ := hd n cs' _ hlen h2
    refine ⟨y, ⟨cs', hlen, hK, fun k u hu => ?_⟩, hP⟩
    obtain ⟨hk, hget⟩ := List.getElem?_eq_some_iff.1 hu
    have := hcell k (by omega)
    rw [Addr.add_add] at this
    rw [this]
    simpa using hu
  obtain ⟨Y, hY⟩ := choose_lt each
  refine ⟨some a, cap, (List.range len).map Y, by simp, by simpa using hl, by simp only [List.length_map, List.length_range]; exact Nat.le_trans hl hm, ⟨by simp, by simp only [List.length_map, List.length_range]; unfold maxLen at hm; omega, fun hp => ⟨a, rfl, fun j p hj => ?_⟩⟩, fun p hp => ?_⟩
  · have hjl : j < len := by have := (List.getElem?_eq_some_iff.1 hj).1; simpa using this
    have hp : p = Y j := by
      rw [List.getElem?_map, List.getElem?_range hjl] at hj
      exact (Option.some.inj hj).symm
    subst hp
    exact (hY j hjl).1
  · obtain ⟨j, hj, rfl⟩ := List.mem_map.1 hp
    exact (hY j (List.mem_range.1 hj)).2
theorem elem_slice {α : Type} [Inhabited α] {d : Kd α} {t e : TypeId} {Pr : α → Prop} (ht : P.underlying t = some (.slice e)) (hC : P.cellsOf e = d.sz) (hd : Elem enc P w base spare held e d Pr) : Elem enc P w base spare held t (Kd.slice e d) (fun l => l.length ≤ maxLen ∧ ∀ y ∈ l, Pr y) := by
  intro n cs x _ h
  obtain ⟨A, cap, l, rfl, h1, h2, h3, h4⟩ := open_rows ht hC hd h
  exact ⟨l, ⟨A, cap, rfl, h1, h3⟩, h2, h4⟩
end
end OpenRows
end Go.Proofs.Ytcdpcgcfonjnfaa
