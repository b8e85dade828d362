/- Repair: what copies differ in, in plain words. -/
import Derived.Test.YtcdpcgcfonjnfaaRepKeys
import Derived.Test.YtcdpcgcfonjnfaaCmp
namespace Go.Proofs.Ytcdpcgcfonjnfaa
open Go.RowKit Go.Proofs.YtcdpcgcfonjnfaaW.PrintWords Go.Proofs.Ytcdpcgcfonjnfaa.QT
namespace Rp
/-- The first meta of a place. -/
def first (l : List Mt) (p : Pc) : Option Mt := l.find? (fun x => decide (plc x = p))
theorem first_append (l : List Mt) (x : Mt) (p : Pc) : first (l ++ [x]) p = (first l p).or (if plc x = p then some x else none) := by
  unfold first
  rw [List.find?_append]
  congr 1
  by_cases h : plc x = p
  · rw [if_pos h]; simp [h]
  · rw [if_neg h]; simp [h]
theorem aget_aput (m : Pm) (a p : Pc) (v : Kt) : XM.aget (XM.aput m a v) p = if a = p then some v else XM.aget m p := by
  induction m with
  | nil =>
    simp only [XM.aput, XM.aget]
  | cons y r ih =>
    by_cases h : y.1 = a
    · simp only [XM.aput, if_pos h, XM.aget]
      by_cases h2 : a = p
      · rw [if_pos h2, if_pos h2]
      · rw [if_neg h2, if_neg h2, if_neg (fun e => h2 (h.symm.trans e))]
    · simp only [XM.aput, if_neg h, XM.aget]
      by_cases h2 : y.1 = p
      · rw [if_pos h2, if_pos h2, if_neg (fun e => h (h2.trans e.symm))]
      · rw [if_neg h2, if_neg h2]
        exact ih
theorem aget_place (p : Pc) : ∀ l : List Mt, XM.aget (placeM l) p = (first l p).map kpt := by
  have h : ∀ (r : List Mt) (l : List Mt) (m : Pm), (∀ q, XM.aget m q = (first l q).map kpt) → ∀ q, XM.aget (r.foldl place1 m) q = (first (l ++ r) q).map kpt := by
    intro r
    induction r with
    | nil => intro l m hm q; rw [List.append_nil]; exact hm q
    | cons x r ih =>
      intro l m hm q
      rw [List.foldl_cons, show l ++ x :: r = (l ++ [x]) ++ r from by simp]
      refine ih (l ++ [x]) (place1 m x) (fun q => ?_) q
      rw [first_append]
      unfold place1
      cases hg : first l (plc x) with
      | some y =>
        rw [if_pos (by rw [hm, hg]; rfl), hm]
        by_cases he : plc x = q
        · subst he; rw [hg]; rfl
        · rw [if_neg he]; cases first l q <;> rfl
      | none =>
        rw [if_neg (by rw [hm, hg]; simp), aget_aput]
        by_cases he : plc x = q
        · subst he; rw [if_pos rfl, if_pos rfl, hg]; rfl
        · rw [if_neg he, if_neg he, hm]; cases first l q <;> rfl
  intro l
  have := h l [] [] (fun q => rfl) p
  rw [List.nil_append] at this
  exact this
theorem first_none {l : List Mt} {p : Pc} : first l p = none ↔ ∀ x ∈ l, plc x ≠ p := by
  unfold first
  rw [List.find?_eq_none]
  simp
theorem first_some {l : List Mt} {p : Pc} {x : Mt} (h : first l p = some x) : x ∈ l ∧ plc x = p := by
  unfold first at h
  exact ⟨List.mem_of_find?_eq_some h, by have := List.find?_some h; simpa using this⟩
/-- Does a place differ? -/
def dif (own other : List Mt) (p : Pc) : Prop := first other p ≠ none ∧ (first own p).map kpt ≠ (first other p).map kpt
instance (own other : List Mt) (p : Pc) : Decidable (dif own other p) := inferInstanceAs (Decidable (_ ∧ _))
/-- By block, then by name. -/
def lt (a b : Pc) : Prop := a.f1 < b.f1 ∨ (a.f1 = b.f1 ∧ a.f0.toList < b.f0.toList)
theorem toList_inj' {a b : ByteArray} (h : a.toList = b.toList) : a = b := by
  rw [Lib.toList_data, Lib.toList_data] at h
  cases a; cases b
  simp only [ByteArray.mk.injEq]
  exact Array.toList_inj.1 h
theorem lt_irrefl (a : Pc) : ¬ lt a a := by
  rintro (h | ⟨_, h⟩)
  · omega
  · exact List.lt_irrefl _ h
theorem lt_trans {a b c : Pc} (h : lt a b) (h' : lt b c) : lt a c := by
  rcases h with h | ⟨h1, h2⟩ <;> rcases h' with h' | ⟨h3, h4⟩
  · exact .inl (by omega)
  · exact .inl (by omega)
  · exact .inl (by omega)
  · exact .inr ⟨h1.trans h3, List.lt_trans h2 h4⟩
theorem lt_asymm {a b : Pc} (h : lt a b) : ¬ lt b a := fun h' => lt_irrefl a (lt_trans h h')
theorem lt_tri (a b : Pc) (h : ¬ lt a b) (h' : ¬ lt b a) : a = b := by
  have e1 : a.f1 = b.f1 := by
    by_cases h1 : a.f1 < b.f1
    · exact absurd (.inl h1) h
    · by_cases h2 : b.f1 < a.f1
      · exact absurd (.inl h2) h'
      · omega
  have e0 : a.f0 = b.f0 := toList_inj' (List.le_antisymm (List.not_lt.mp (fun h2 => h' (.inr ⟨e1.symm, h2⟩))) (List.not_lt.mp (fun h2 => h (.inr ⟨e1, h2⟩))))
  cases a; cases b
  simp only at e0 e1
  rw [e0, e1]
/-- Sorted, each once, just those that differ. -/
structure IsD (own other : List Mt) (D : List Pc) : Prop where
  up : D.Pairwise lt
  mem : ∀ p, p ∈ D ↔ dif own other p
theorem sorted_unique : ∀ {A B : List Pc}, A.Pairwise lt → B.Pairwise lt → (∀ p, p ∈ A ↔ p ∈ B) → A = B
  | [], [], _, _, _ => rfl
  | [], b :: B, _, _, h => absurd ((h b).2 List.mem_cons_self) (by simp)
  | a :: A, [], _, _, h => absurd ((h a).1 List.mem_cons_self) (by simp)
  | a :: A, b :: B, hA, hB, h => by
    obtain ⟨a1, a2⟩ := List.pairwise_cons.1 hA
    obtain ⟨b1, b2⟩ := List.pairwise_cons.1 hB
    have hab : a = b := by
      rcases List.mem_cons.1 ((h a).1 List.mem_cons_self) with e | e
      · exact e
      · rcases List.mem_cons.1 ((h b).2 List.mem_cons_self) with e2 | e2
        · exact e2.symm
        · exact absurd (a1 b e2) (lt_asymm (b1 a e))
    subst hab
    congr 1
    refine sorted_unique a2 b2 (fun p => ⟨fun hp => ?_, fun hp => ?_⟩)
    · rcases List.mem_cons.1 ((h p).1 (List.mem_cons_of_mem _ hp)) with e | e
      · exact absurd (a1 p hp) (by rw [e]; exact lt_irrefl _)
      · exact e
    · rcases List.mem_cons.1 ((h p).2 (List.mem_cons_of_mem _ hp)) with e | e
      · exact absurd (b1 p hp) (by rw [e]; exact lt_irrefl _)
      · exact e
theorem IsD.unique {own other : List Mt} {A B : List Pc} (h : IsD own other A) (h' : IsD own other B) : A = B := sorted_unique h.up h'.up (fun p => (h.mem p).trans (h'.mem p).symm)
theorem IsD.nil {own other : List Mt} {D : List Pc} (h : IsD own other D) (hd : ∀ p, ¬ dif own other p) : D = [] := by
  cases D with
  | nil => rfl
  | cons x D => exact absurd ((h.mem x).1 List.mem_cons_self) (hd x)
end Rp
end Go.Proofs.Ytcdpcgcfonjnfaa
