/- Views of points: strictly rising times, of each time the winner. What is a view of a list; there is just one; merge's result is one. -/
import Derived.Test.YtmocpglnoehknaaCompact
import Derived.Test.YtmocpglnoehknaaSortPoint
namespace Go.Proofs.Ytmocpglnoehknaa
set_option linter.unusedVariables false
set_option linter.unusedSimpArgs false
open Go.RowKit Go.Proofs.YtmocpglnoehknaaW.PrintWords Go.Proofs.Ytmocpglnoehknaa.QT Go.Sort
namespace Vw
abbrev Pt := S24
/-- p is no worse than q. -/
def Ge (p q : Pt) : Prop := p.f2 > q.f2 ∨ (p.f2 = q.f2 ∧ p.f1 ≥ q.f1)
theorem Ge.refl (p : Pt) : Ge p p := Or.inr ⟨rfl, Int.le_refl _⟩
theorem Ge.trans {p q r : Pt} (h : Ge p q) (k : Ge q r) : Ge p r := by unfold Ge at *; omega
theorem Ge.total (p q : Pt) : Ge p q ∨ Ge q p := by unfold Ge; omega
theorem Ge.eq {p q : Pt} (h : Ge p q) (k : Ge q p) (ht : p.f0 = q.f0) : p = q := by
  obtain ⟨a, b, c⟩ := p
  obtain ⟨a', b', c'⟩ := q
  unfold Ge at *
  simp only at *
  obtain rfl : b = b' := by omega
  obtain rfl : c = c' := by omega
  subst ht
  rfl
theorem wins_iff (p q : Pt) : winsP p q = true ↔ ¬ Ge q p := by
  unfold winsP Ge
  simp only [Bool.or_eq_true, Bool.and_eq_true, decide_eq_true_eq, beq_iff_eq]
  omega
theorem wins_false (p q : Pt) : winsP p q = false ↔ Ge q p := by
  rw [← Bool.not_eq_true, wins_iff, Classical.not_not]
/-- Strictly rising times. -/
abbrev Up (l : List Pt) : Prop := l.Pairwise (fun a b => a.f0 < b.f0)
/-- c stands for l: its points are l's, and each of l's is met by one of its time that is no worse. -/
def Dom (l c : List Pt) : Prop := (∀ p ∈ c, p ∈ l) ∧ ∀ q ∈ l, ∃ p ∈ c, p.f0 = q.f0 ∧ Ge p q
theorem Dom.refl (l : List Pt) : Dom l l := ⟨fun _ h => h, fun q h => ⟨q, h, rfl, Ge.refl q⟩⟩
theorem Dom.trans {l c d : List Pt} (h : Dom l c) (k : Dom c d) : Dom l d :=
  ⟨fun p hp => h.1 p (k.1 p hp), fun q hq => by
    obtain ⟨p, hp, h1, h2⟩ := h.2 q hq
    obtain ⟨r, hr, h3, h4⟩ := k.2 p hp
    exact ⟨r, hr, h3.trans h1, h4.trans h2⟩⟩
theorem Dom.of_mem {l c : List Pt} (h : ∀ p, p ∈ l ↔ p ∈ c) : Dom l c := ⟨fun p hp => (h p).2 hp, fun q hq => ⟨q, (h q).1 hq, rfl, Ge.refl q⟩⟩
theorem Dom.perm {l c : List Pt} (h : l.Perm c) : Dom l c := Dom.of_mem fun p => h.mem_iff
theorem Dom.append {l c l' c' : List Pt} (h : Dom l c) (k : Dom l' c') : Dom (l ++ l') (c ++ c') :=
  ⟨fun p hp => by
    rcases List.mem_append.1 hp with hp | hp
    · exact List.mem_append_left _ (h.1 p hp)
    · exact List.mem_append_right _ (k.1 p hp), fun q hq => by
    rcases List.mem_append.1 hq with hq | hq
    · obtain ⟨p, hp, r⟩ := h.2 q hq
      exact ⟨p, List.mem_append_left _ hp, r⟩
    · obtain ⟨p, hp, r⟩ := k.2 q hq
      exact ⟨p, List.mem_append_right _ hp, r⟩⟩
/-- v is the view of l. -/
def Is (l v : List Pt) : Prop := Up v ∧ Dom l v
theorem Is.of_dom {l c v : List Pt} (h : Dom l c) (k : Is c v) : Is l v := ⟨k.1, h.trans k.2⟩
theorem up_inj {v : List Pt} (h : Up v) {p q : Pt} (hp : p ∈ v) (hq : q ∈ v) (ht : p.f0 = q.f0) : p = q := by
  induction v with
  | nil => cases hp
  | cons a r ih =>
    obtain ⟨h1, h2⟩ := List.pairwise_cons.1 h
    rcases List.mem_cons.1 hp with ep | hp
    · rcases List.mem_cons.1 hq with eq | hq
      · rw [ep, eq]
      · have := h1 q hq
        rw [ep] at ht
        omega
    · rcases List.mem_cons.1 hq with eq | hq
      · have := h1 p hp
        rw [eq] at ht
        omega
      · exact ih h2 hp hq
theorem up_ext : ∀ {v v' : List Pt}, Up v → Up v' → (∀ p, p ∈ v ↔ p ∈ v') → v = v'
  | [], [], _, _, _ => rfl
  | [], b :: s, _, _, h => by have := (h b).2 (by simp); simp at this
  | a :: r, [], _, _, h => by have := (h a).1 (by simp); simp at this
  | a :: r, b :: s, h1, h2, h => by
    obtain ⟨a1, a2⟩ := List.pairwise_cons.1 h1
    obtain ⟨b1, b2⟩ := List.pairwise_cons.1 h2
    have hab : a = b := by
      rcases List.mem_cons.1 ((h a).1 (by simp)) with e | ha
      · exact e
      · rcases List.mem_cons.1 ((h b).2 (by simp)) with e | hb
        · exact e.symm
        · have := a1 b hb
          have := b1 a ha
          omega
    subst hab
    rw [up_ext a2 b2 (fun p => ⟨fun hp => by
      rcases List.mem_cons.1 ((h p).1 (by simp [hp])) with e | hp'
      · have := a1 p hp
        rw [e] at this
        omega
      · exact hp', fun hp => by
      rcases List.mem_cons.1 ((h p).2 (by simp [hp])) with e | hp'
      · have := b1 p hp
        rw [e] at this
        omega
      · exact hp'⟩)]
theorem Is.unique {l v v' : List Pt} (h : Is l v) (k : Is l v') : v = v' := by
  have one : ∀ {v v' : List Pt}, Is l v → Is l v' → ∀ p, p ∈ v → p ∈ v' := by
    intro v v' h k p hp
    obtain ⟨q, hq, h1, h2⟩ := k.2.2 p (h.2.1 p hp)
    obtain ⟨r, hr, h3, h4⟩ := h.2.2 q (k.2.1 q hq)
    have e : r = p := up_inj h.1 hr hp (h3.trans h1)
    subst e
    rw [h4.eq h2 h3]
    exact hq
  exact up_ext h.1 k.1 (fun p => ⟨one h k p, one k h p⟩)
theorem Is.nil : Is [] [] := ⟨List.Pairwise.nil, Dom.refl _⟩
theorem Is.self {v : List Pt} (h : Up v) : Is v v := ⟨h, Dom.refl _⟩
/-- What compT leaves of a list in order. -/
theorem compFrom_mem (p : Pt) : ∀ (l : List Pt) (x : Pt), x ∈ compFrom p l → x ∈ l
  | [], x, h => by simp [compFrom] at h
  | y :: r, x, h => by
    unfold compFrom at h
    split at h
    · exact List.mem_cons_of_mem _ (compFrom_mem y r x h)
    · rcases List.mem_cons.1 h with rfl | h
      · simp
      · exact List.mem_cons_of_mem _ (compFrom_mem y r x h)
theorem up_lt {a b : Pt} (h : ltA b a = false) : a.f0 < b.f0 ∨ (a.f0 = b.f0 ∧ Ge a b) := by
  rw [ltA_false] at h
  unfold Ge
  omega
theorem compFrom_is (p : Pt) : ∀ (l : List Pt), UpA (p :: l) → Up (p :: compFrom p l) ∧ ∀ q ∈ l, ∃ x ∈ p :: compFrom p l, x.f0 = q.f0 ∧ Ge x q
  | [], _ => ⟨List.pairwise_singleton _ _, by simp⟩
  | y :: r, h => by
    obtain ⟨h1, h2⟩ := List.pairwise_cons.1 h
    obtain ⟨i1, i2⟩ := compFrom_is y r h2
    have hy := up_lt (h1 y (by simp))
    unfold compFrom
    split
    · rename_i e
      have hpy : Ge p y := by rcases hy with h | h; · omega
                              · exact h.2
      obtain ⟨j1, j2⟩ := List.pairwise_cons.1 i1
      refine ⟨List.pairwise_cons.2 ⟨fun z hz => by have := j1 z hz; omega, j2⟩, fun q hq => ?_⟩
      rcases List.mem_cons.1 hq with rfl | hq
      · exact ⟨p, by simp, e.symm, hpy⟩
      · obtain ⟨x, hx, h3, h4⟩ := i2 q hq
        rcases List.mem_cons.1 hx with rfl | hx
        · exact ⟨p, by simp, e.symm.trans h3, hpy.trans h4⟩
        · exact ⟨x, List.mem_cons_of_mem _ hx, h3, h4⟩
    · rename_i e
      have hpy : p.f0 < y.f0 := by rcases hy with h | h <;> omega
      refine ⟨List.pairwise_cons.2 ⟨fun z hz => ?_, i1⟩, fun q hq => ?_⟩
      · rcases List.mem_cons.1 hz with rfl | hz
        · exact hpy
        · have := (List.pairwise_cons.1 i1).1 z hz
          omega
      · rcases List.mem_cons.1 hq with rfl | hq
        · exact ⟨q, by simp, rfl, Ge.refl _⟩
        · obtain ⟨x, hx, h3, h4⟩ := i2 q hq
          exact ⟨x, List.mem_cons_of_mem _ hx, h3, h4⟩
theorem comp_is (l : List Pt) (h : UpA l) : Is l (compT l) := by
  match l, h with
  | [], _ => exact Is.nil
  | p :: r, h =>
    obtain ⟨h1, h2⟩ := compFrom_is p r h
    refine ⟨h1, fun x hx => ?_, fun q hq => ?_⟩
    · rcases List.mem_cons.1 hx with rfl | hx
      · simp
      · exact List.mem_cons_of_mem _ (compFrom_mem p r x hx)
    · rcases List.mem_cons.1 hq with rfl | hq
      · exact ⟨q, by simp [compT], rfl, Ge.refl _⟩
      · exact h2 q hq
/-- The view of any points. -/
def view (l : List Pt) : List Pt := compT (srtA l)
theorem view_is (l : List Pt) : Is l (view l) := Is.of_dom (Dom.perm (srtA_perm l).symm) (comp_is _ (srtA_up l))
theorem view_eq {l v : List Pt} (h : Is l v) : view l = v := (view_is l).unique h
theorem view_dom {l c : List Pt} (h : Dom l c) : view l = view c := view_eq (Is.of_dom h (view_is c))
theorem view_len (l : List Pt) : (view l).length ≤ l.length := by
  have h2 : ∀ (p : Pt) (l : List Pt), (compFrom p l).length ≤ l.length := by
    intro p l
    induction l generalizing p with
    | nil => simp [compFrom]
    | cons y r ih =>
      unfold compFrom
      have := ih y
      split <;> simp <;> omega
  have h3 : ∀ l : List Pt, (compT l).length ≤ l.length := by
    intro l
    cases l with
    | nil => simp [compT]
    | cons p r => have := h2 p r; simp [compT]; omega
  have := h3 (srtA l)
  rw [(srtA_perm l).length_eq] at this
  exact this
end Vw
end Go.Proofs.Ytmocpglnoehknaa
