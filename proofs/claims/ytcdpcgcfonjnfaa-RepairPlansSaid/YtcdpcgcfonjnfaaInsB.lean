/- Insertion behind equals sorts, equals in their order. -/
import Derived.Test.YtcdpcgcfonjnfaaStable
namespace Go.Proofs.Ytcdpcgcfonjnfaa.StableLaw
open Go.RowKit
variable {α : Type} {lt : α → α → Bool}
def insB (lt : α → α → Bool) (x : α) : List α → List α
  | [] => [x]
  | y :: r => if lt x y then x :: y :: r else y :: insB lt x r
theorem insB_srt (o : Ord lt) (x : α) : ∀ r, Up lt r → Srt lt (r ++ [x]) (insB lt x r)
  | [], _ => ⟨Same.refl _, List.pairwise_singleton _ _⟩
  | y :: r, h => by
    obtain ⟨h1, h2⟩ := List.pairwise_cons.1 h
    unfold insB
    split
    · rename_i hxy
      have hall : ∀ z ∈ y :: r, lt x z = true := by
        intro z hz
        rcases List.mem_cons.1 hz with e | e
        · rw [e]; exact hxy
        · cases hxz : lt x z with
          | true => rfl
          | false => rw [o.neg x z y hxz (h1 z e)] at hxy; cases hxy
      refine ⟨?_, List.pairwise_cons.2 ⟨fun z hz => o.asymm _ _ (hall z hz), h⟩⟩
      exact (o.swap (A := y :: r) (B := [x]) (fun u hu v hv => by rw [List.mem_singleton.1 hv]; exact hall u hu)).symm
    · rename_i hxy
      rw [Bool.not_eq_true] at hxy
      have ih := insB_srt o x r h2
      refine ⟨(Same.refl (lt := lt) [y]).app ih.same, List.pairwise_cons.2 ⟨fun z hz => ?_, ih.up⟩⟩
      rcases List.mem_append.1 (ih.mem hz) with e | e
      · exact h1 z e
      · rw [List.mem_singleton.1 e]; exact hxy
theorem insB_all (o : Ord lt) : ∀ (xs l acc : List α), Srt lt l acc → Srt lt (l ++ xs) (xs.foldl (fun a x => insB lt x a) acc)
  | [], l, acc, h => by rw [List.append_nil]; exact h
  | x :: xs, l, acc, h => by
    have h1 := insB_srt o x acc h.up
    have h2 : Srt lt (l ++ [x]) (insB lt x acc) := ⟨h1.same.trans (h.same.app (Same.refl [x])), h1.up⟩
    have := insB_all o xs (l ++ [x]) (insB lt x acc) h2
    rw [List.foldl_cons]
    simpa using this
end Go.Proofs.Ytcdpcgcfonjnfaa.StableLaw
