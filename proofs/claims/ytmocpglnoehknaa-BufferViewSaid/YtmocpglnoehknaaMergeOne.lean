/- merge.Merge of one row, merge.Cut: contracts over rows of the call's own. -/
import Derived.Test.YtmocpglnoehknaaMerge
import Derived.Test.YtmocpglnoehknaaRef06
namespace Go.Proofs.Ytmocpglnoehknaa
set_option linter.unusedVariables false
set_option linter.unusedSimpArgs false
open Go.RowKit Go.Proofs.YtmocpglnoehknaaW.PrintWords Go.Proofs.YtmocpglnoehknaaW.PrintLast Go.Proofs.YtmocpglnoehknaaW.PrintMore Go.Proofs.Ytmocpglnoehknaa.QT
namespace Mg
/-- A row of one row. -/
theorem one_row {X : World} {base : Nat} {ok : Nat → Prop} {v : Value} {xs : List Pt} (hR : Kd.R k24 24 X base ok v xs) {q : Nat} (hX : X.heap[q]? = some (.cells #[v] 29 (0, 0))) : Kd.C (Kd.slice 24 k24) X (some ⟨q, 0, none⟩) [xs].length [xs] := by
  obtain ⟨A, c, rfl⟩ := Kd.R_slice hR
  obtain ⟨_, hc, hC⟩ := Kd.R_reads' hR
  refine ⟨rfl, by simp, fun _ => ⟨_, rfl, fun j p hj => ?_⟩⟩
  match j, hj with
  | 0, hj =>
    simp at hj
    subst hj
    refine ⟨_, rfl, ⟨A, c, rfl, hc, hC⟩, fun i u hu => ?_⟩
    match i, hu with
    | 0, hu =>
      simp at hu
      subst hu
      exact (blk_cell hX 0).trans rfl
/-- Merge of one row. -/
theorem merge_one {X : World} {base : Nat} {ok : Nat → Prop} {v : Value} {xs : List Pt} (hR : Kd.R k24 24 X base ok v xs) {q : Nat} (hX : X.heap[q]? = some (.cells #[v] 29 (0, 0))) (hl : xs.length ≤ 1099511627776) :
    Calls Try.prog 28 #[.slice (some ⟨q, 0, none⟩) 1 1] X fun e w' => ∃ v' : Value, e = .returned v' ∧ Kd.R k24 24 w' X.heap.size (fun _ => True) v' (Vw.view xs) ∧ Below X.heap.size X w' := by
  have h := merge_calls X (some ⟨q, 0, none⟩) 1 [xs] (one_row hR hX) (by simp) (by simpa using hl) (by simp)
  simpa using h
/-- Cut of an own row. -/
theorem cut_any {X : World} {base : Nat} {ok : Nat → Prop} {v : Value} {xs : List Pt} (hR : Kd.R k24 24 X base ok v xs) (lo hi : Int) (hl : xs.length ≤ 1099511627776) :
    Calls Try.prog 27 #[v, .agg #[.int .i64 lo, .int .i64 hi]] X fun e w' => ∃ v' : Value, e = .returned v' ∧ Kd.R k24 24 w' X.heap.size (fun _ => True) v' (Vw.cut xs lo hi) ∧ Below X.heap.size X w' := by
  obtain ⟨A, c, rfl⟩ := Kd.R_slice hR
  obtain ⟨_, hc, hC⟩ := Kd.R_reads' hR
  obtain ⟨k, hk⟩ := (Vw.cut_ev xs lo hi hl).rounds
  exact merge_Cut.calls k A c xs lo hi _ X hC hc hk
end Mg
end Go.Proofs.Ytmocpglnoehknaa
