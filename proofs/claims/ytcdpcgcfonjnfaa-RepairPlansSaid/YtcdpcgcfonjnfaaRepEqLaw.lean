/- Maps that are equal: nobody differs. -/
import Derived.Test.YtcdpcgcfonjnfaaRepEq
namespace Go.Proofs.Ytcdpcgcfonjnfaa
open Go.Proofs.Ytcdpcgcfonjnfaa.QT
namespace Rp
theorem sub_len {α : Type} [DecidableEq α] : ∀ (A B : List α), A.Nodup → (∀ x ∈ A, x ∈ B) → A.length ≤ B.length
  | [], _, _, _ => Nat.zero_le _
  | a :: A, B, hn, hs => by
    obtain ⟨h1, h2⟩ := List.nodup_cons.1 hn
    have ha := hs a List.mem_cons_self
    have ih := sub_len A (B.erase a) h2 (fun x hx => (List.mem_erase_of_ne (fun e => h1 (by rw [← e]; exact hx))).2 (hs x (List.mem_cons_of_mem _ hx)))
    rw [List.length_erase_of_mem ha] at ih
    have := List.length_pos_of_mem ha
    simp only [List.length_cons]
    omega
theorem sub_all {α : Type} [DecidableEq α] : ∀ (A B : List α), A.Nodup → (∀ x ∈ A, x ∈ B) → B.length ≤ A.length → ∀ x ∈ B, x ∈ A
  | [], B, _, _, hl, x, hx => by
    have := List.length_pos_of_mem hx
    simp only [List.length_nil] at hl
    omega
  | a :: A, B, hn, hs, hl, x, hx => by
    obtain ⟨h1, h2⟩ := List.nodup_cons.1 hn
    have ha := hs a List.mem_cons_self
    by_cases e : x = a
    · rw [e]; exact List.mem_cons_self
    · refine List.mem_cons_of_mem _ (sub_all A (B.erase a) h2 (fun y hy => (List.mem_erase_of_ne (fun e => h1 (by rw [← e]; exact hy))).2 (hs y (List.mem_cons_of_mem _ hy))) ?_ x ((List.mem_erase_of_ne e).2 hx))
      rw [List.length_erase_of_mem ha]
      simp only [List.length_cons] at hl
      omega
theorem mem_keys {m : Pm} {p : Pc} (hn : (XM.keys m).Nodup) : p ∈ XM.keys m ↔ XM.aget m p ≠ none := by
  unfold XM.keys at hn ⊢
  constructor
  · intro h
    obtain ⟨e, he, rfl⟩ := List.mem_map.1 h
    rw [XM.aget_mem hn he]
    simp
  · intro h
    cases hg : XM.aget m p with
    | none => exact absurd hg h
    | some v => exact List.mem_map.2 ⟨(p, v), XM.aget_some hg, rfl⟩
theorem eqM_iff (a b : List Mt) : eqM (placeM a) (placeM b) = true ↔ ∀ p, (first a p).map kpt = (first b p).map kpt := by
  have na := placeM_nodup a
  have nb := placeM_nodup b
  unfold eqM
  rw [Bool.and_eq_true, decide_eq_true_iff, List.all_eq_true]
  constructor
  · rintro ⟨hl, ha⟩ p
    rw [← aget_place, ← aget_place]
    have hsub : ∀ q ∈ XM.keys (placeM a), q ∈ XM.keys (placeM b) := by
      intro q hq
      unfold XM.keys at hq
      obtain ⟨e, he, rfl⟩ := List.mem_map.1 hq
      rw [mem_keys nb, of_decide_eq_true (ha e he)]
      simp
    have hback := sub_all _ _ na hsub (by unfold XM.keys; rw [List.length_map, List.length_map]; omega)
    cases hg : XM.aget (placeM a) p with
    | some v => exact (of_decide_eq_true (ha (p, v) (XM.aget_some hg))).symm
    | none =>
      cases hg2 : XM.aget (placeM b) p with
      | none => rfl
      | some v => exact absurd hg ((mem_keys na).1 (hback p ((mem_keys nb).2 (by rw [hg2]; simp))))
  · intro h
    have h' : ∀ p, XM.aget (placeM a) p = XM.aget (placeM b) p := fun p => by rw [aget_place, aget_place]; exact h p
    refine ⟨?_, fun e he => decide_eq_true (by rw [← h', XM.aget_mem na he])⟩
    have h1 := sub_len _ _ na (fun q hq => (mem_keys nb).2 (by rw [← h' q]; exact (mem_keys na).1 hq))
    have h2 := sub_len _ _ nb (fun q hq => (mem_keys na).2 (by rw [h' q]; exact (mem_keys nb).1 hq))
    unfold XM.keys at h1 h2
    rw [List.length_map, List.length_map] at h1 h2
    omega
/-- Equal maps: nobody differs, either way. -/
theorem eqM_dif (a b : List Mt) : eqM (placeM a) (placeM b) = true ↔ ∀ p, ¬ dif a b p ∧ ¬ dif b a p := by
  rw [eqM_iff]
  constructor
  · intro h p
    exact ⟨fun hd => hd.2 (h p), fun hd => hd.2 (h p).symm⟩
  · intro h p
    obtain ⟨h1, h2⟩ := h p
    cases ha : first a p with
    | none =>
      cases hb : first b p with
      | none => rfl
      | some y => exact absurd ⟨by rw [hb]; simp, by rw [ha, hb]; simp⟩ h1
    | some x =>
      by_cases e : (first b p).map kpt = (first a p).map kpt
      · rw [← ha]; exact e.symm
      · exact absurd ⟨by rw [ha]; simp, e⟩ h2
end Rp
end Go.Proofs.Ytcdpcgcfonjnfaa
