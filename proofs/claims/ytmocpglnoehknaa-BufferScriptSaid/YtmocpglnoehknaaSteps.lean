/- A slice of Steps that came in, opened. -/
import Derived.Test.YtmocpglnoehknaaRows
import Derived.Test.YtmocpglnoehknaaHeavy
import Derived.WalkKit
import Derived.ProofKit
import Derived.OpenShut
import Derived.ShutString
import Derived.ChangeOld
import Derived.Below
import Derived.SizedLaws
import Derived.Lib.SmallJoins
import Derived.Deep.Slices
namespace Go.Proofs.Ytmocpglnoehknaa
set_option linter.unusedVariables false
set_option linter.unusedSimpArgs false
open Go.Proofs.Ytmocpglnoehknaa.QH Go.ChangeShapes Go.WideShapes Go.ChangeAt Go.RowKit Go.Joins Go.Deep Go.Proofs.YtmocpglnoehknaaW.PrintWords Go.Proofs.Ytmocpglnoehknaa.QT
open Go.ChangeMaps (open_string shut_string)
namespace StepsRow
theorem laidOut : laidOutB Try.prog = true := by kernel_rfl
theorem own : ownKnob Try.prog.godebug = none := by kernel_rfl
theorem cellsPt : Try.prog.cellsOf 24 = 3 := by kernel_rfl
theorem cellsI : Try.prog.cellsOf 3 = 1 := by kernel_rfl
theorem cellsU : Try.prog.cellsOf 22 = 1 := by kernel_rfl
theorem cellsS : Try.prog.cellsOf 9 = 1 := by kernel_rfl
theorem cellsStep : Try.prog.cellsOf 47 = 7 := by kernel_rfl
section
variable {H : Type} {enc : TypeId × Value → H} {P : Program} {w : World} {base : Nat} {spare : Nat → Bool} {held : Bool}
theorem trod_struct5 {t : TypeId} {f0 f1 f2 f3 f4 : Field} {fuel : Nat} {cs : List Value} {x : DataW H × List MemPlace} (ht : P.underlying t = some (.struct #[f0, f1, f2, f3, f4])) (h : DataW.trod enc P w base spare held fuel t cs = some x) :
    ∃ y0 y1 y2 y3 y4 n, x = (.agg [y0.1, y1.1, y2.1, y3.1, y4.1], y0.2 ++ (y1.2 ++ (y2.2 ++ (y3.2 ++ y4.2)))) ∧ cs.length = P.cellsOf t ∧ DataW.trod enc P w base spare held n f0.type ((cs.drop f0.offset).take (P.cellsOf f0.type)) = some y0 ∧
      DataW.trod enc P w base spare held n f1.type ((cs.drop f1.offset).take (P.cellsOf f1.type)) = some y1 ∧ DataW.trod enc P w base spare held n f2.type ((cs.drop f2.offset).take (P.cellsOf f2.type)) = some y2 ∧
      DataW.trod enc P w base spare held n f3.type ((cs.drop f3.offset).take (P.cellsOf f3.type)) = some y3 ∧ DataW.trod enc P w base spare held n f4.type ((cs.drop f4.offset).take (P.cellsOf f4.type)) = some y4 := by
  obtain ⟨xs, n, _, rfl, hl, hlen, hf⟩ := DataW.trod_struct ht h
  match xs, hlen with
  | [y0, y1, y2, y3, y4], _ => exact ⟨y0, y1, y2, y3, y4, n, by simp, hl, by simpa using hf 0 f0 rfl, by simpa using hf 1 f1 rfl, by simpa using hf 2 f2 rfl, by simpa using hf 3 f3 rfl, by simpa using hf 4 f4 rfl⟩
end
set_option maxRecDepth 100000 in
/-- A slice of Steps, opened. -/
theorem open_steps {H : Type} {enc : TypeId × Value → H} {W : World} {fuel : Nat} {cs : List Value} {x : DataW H × List MemPlace} (h : DataW.trod enc Try.prog W 0 (fun _ => true) true fuel 40 cs = some x) :
    cs = [.slice none 0 0] ∨ ∃ (a : Addr) (cap : Nat) (l : List S47), cs = [.slice (some a) l.length cap] ∧ l.length ≤ cap ∧ l.length ≤ maxLen ∧ Kd.C k47 W (some a) l.length l ∧ ∀ s ∈ l, Buf.OkP ⟨s.f1, s.f3, s.f4.f0⟩ := by
  rcases open_slice Try.underlying40 h with ⟨h0, _⟩ | ⟨a, len, cap, m, n, D, Pl, rfl, hb, hl, hm, hmm, rfl, hx⟩
  · exact .inl h0
  right
  have hlm : len ≤ m := by rw [hmm]; split <;> omega
  have each : ∀ i, i < len → ∃ y : S47, W.cell? (a.add (i * 7)) = some (.int .i64 y.f0) ∧ W.cell? (a.add (i * 7 + 1)) = some (.int .i64 y.f1) ∧ W.cell? (a.add (i * 7 + 2)) = some (.int .i64 y.f2) ∧ W.cell? (a.add (i * 7 + 3)) = some (.string y.f3) ∧ W.cell? (a.add (i * 7 + 4)) = some (.int .i64 y.f4.f0) ∧ W.cell? (a.add (i * 7 + 5)) = some (.int .u64 y.f4.f1) ∧ W.cell? (a.add (i * 7 + 6)) = some (.int .u64 y.f4.f2) ∧ Buf.OkP ⟨y.f1, y.f3, y.f4.f0⟩ := by
    intro i hi
    obtain ⟨cs', h1, h2⟩ := hx i (by omega)
    rw [cellsStep] at h1
    obtain ⟨_, hlen, hcell⟩ := World.cells?_some h1
    obtain ⟨y0, y1, y2, y3, y4, n', hxy, _, g0, g1, g2, g3, g4⟩ := trod_struct5 Try.underlying47 h2
    obtain ⟨v0, v1, v2, v3, v4, v5, v6, rfl⟩ : ∃ v0 v1 v2 v3 v4 v5 v6, cs' = [v0, v1, v2, v3, v4, v5, v6] := by
      match cs', hlen with
      | [v0, v1, v2, v3, v4, v5, v6], _ => exact ⟨v0, v1, v2, v3, v4, v5, v6, rfl⟩
    · dsimp only at g0 g1 g2 g3 g4
      rw [cellsI] at g0 g1 g2
      rw [cellsS] at g3
      rw [cellsPt] at g4
      have g0' : DataW.trod enc Try.prog W 0 (fun _ => true) true n' 3 [v0] = some y0 := g0
      have g1' : DataW.trod enc Try.prog W 0 (fun _ => true) true n' 3 [v1] = some y1 := g1
      have g2' : DataW.trod enc Try.prog W 0 (fun _ => true) true n' 3 [v2] = some y2 := g2
      have g3' : DataW.trod enc Try.prog W 0 (fun _ => true) true n' 9 [v3] = some y3 := g3
      have g4' : DataW.trod enc Try.prog W 0 (fun _ => true) true n' 24 [v4, v5, v6] = some y4 := g4
      obtain ⟨p0, p1, p2, n2, hxy2, _, e0, e1, e2⟩ := trod_struct3 Try.underlying24 g4'
      dsimp only at e0 e1 e2
      rw [cellsI] at e0
      rw [cellsU] at e1 e2
      have e0' : DataW.trod enc Try.prog W 0 (fun _ => true) true n2 3 [v4] = some p0 := e0
      have e1' : DataW.trod enc Try.prog W 0 (fun _ => true) true n2 22 [v5] = some p1 := e1
      have e2' : DataW.trod enc Try.prog W 0 (fun _ => true) true n2 22 [v6] = some p2 := e2
      obtain ⟨b0, c0, _, _⟩ := DataW.trod_int Try.underlying3 g0'
      obtain ⟨b1, c1, _, wf1⟩ := DataW.trod_int Try.underlying3 g1'
      obtain ⟨b2, c2, _, _⟩ := DataW.trod_int Try.underlying3 g2'
      obtain ⟨s3, c3, _, wf3⟩ := DataW.trod_string Try.underlying9 g3'
      obtain ⟨b4, c4, _, wf4⟩ := DataW.trod_int Try.underlying3 e0'
      obtain ⟨b5, c5, _, _⟩ := DataW.trod_int Try.underlying22 e1'
      obtain ⟨b6, c6, _, _⟩ := DataW.trod_int Try.underlying22 e2'
      simp only [List.cons.injEq, and_true] at c0 c1 c2 c3 c4 c5 c6
      subst c0 c1 c2 c3 c4 c5 c6
      have k0 := hcell 0 (by omega)
      have k1 := hcell 1 (by omega)
      have k2 := hcell 2 (by omega)
      have k3 := hcell 3 (by omega)
      have k4 := hcell 4 (by omega)
      have k5 := hcell 5 (by omega)
      have k6 := hcell 6 (by omega)
      rw [Addr.add_add] at k0 k1 k2 k3 k4 k5 k6
      exact ⟨⟨b0, b1, b2, s3, ⟨b4, b5, b6⟩⟩, by simpa using k0, by simpa using k1, by simpa using k2, by simpa using k3, by simpa using k4, by simpa using k5, by simpa using k6, wf1, wf3, wf4⟩
  haveI : Inhabited S47 := ⟨z47⟩
  obtain ⟨Y, hY⟩ := choose_lt each
  refine ⟨a, cap, (List.range len).map Y, by simp, by simpa using hl, by simp only [List.length_map, List.length_range]; exact Nat.le_trans hl hm, ⟨by simp, by simp only [List.length_map, List.length_range]; unfold maxLen at hm; omega, fun hp => ⟨a, rfl, fun j p hj => ?_⟩⟩, fun p hp => ?_⟩
  · have hjl : j < len := by have := (List.getElem?_eq_some_iff.1 hj).1; simpa using this
    have hp : p = Y j := by
      rw [List.getElem?_map, List.getElem?_range hjl] at hj
      exact (Option.some.inj hj).symm
    subst hp
    refine ⟨_, rfl, k47_mk W (Y j), fun i u hu => ?_⟩
    obtain ⟨q0, q1, q2, q3, q4, q5, q6, _⟩ := hY j hjl
    match i, hu with
    | 0, hu => cases hu; exact q0
    | 1, hu => cases hu; exact q1
    | 2, hu => cases hu; exact q2
    | 3, hu => cases hu; exact q3
    | 4, hu => cases hu; exact q4
    | 5, hu => cases hu; exact q5
    | 6, hu => cases hu; exact q6
  · obtain ⟨j, hj, rfl⟩ := List.mem_map.1 hp
    exact (hY j (List.mem_range.1 hj)).2.2.2.2.2.2.2
end StepsRow
end Go.Proofs.Ytmocpglnoehknaa
