/- PeersTurns: whatever metas: the Go function returns true, and its argument reads as before. -/
import Derived.Test.YtgagcimfkmegnaaRows
import Derived.Test.YtgagcimfkmegnaaTurns
import Derived.WalkKit
import Derived.ProofKit
import Derived.OpenShut
import Derived.ShutString
import Derived.ChangeOld
import Derived.Below
import Derived.SizedLaws
import Derived.Lib.SmallJoins
import Derived.Deep.Slices
namespace Go.Proofs.Ytgagcimfkmegnaa
set_option linter.unusedVariables false
set_option linter.unusedSimpArgs false
open Go.ChangeShapes Go.WideShapes Go.ChangeAt Go.RowKit Go.Joins Go.Deep Go.Proofs.YtgagcimfkmegnaaW.PrintWords Go.Proofs.Ytgagcimfkmegnaa.QT
namespace TurnsRow

theorem laidOut : laidOutB Try.prog = true := by kernel_rfl
theorem own : ownKnob Try.prog.godebug = none := by kernel_rfl
theorem cellsS : Try.prog.cellsOf 9 = 1 := by kernel_rfl
theorem cellsI : Try.prog.cellsOf 3 = 1 := by kernel_rfl
theorem cellsU : Try.prog.cellsOf 23 = 1 := by kernel_rfl
theorem cellsMeta4 : Try.prog.cellsOf 25 = 4 := by kernel_rfl

set_option maxRecDepth 100000 in
/-- A slice of Metas, opened. -/
theorem open_metas {H : Type} {enc : TypeId × Value → H} {W : World} {fuel : Nat} {cs : List Value} {x : DataW H × List MemPlace} (h : DataW.trod enc Try.prog W 0 (fun _ => true) true fuel 22 cs = some x) :
    cs = [.slice none 0 0] ∨ ∃ (a : Addr) (cap : Nat) (l : List S25), cs = [.slice (some a) l.length cap] ∧ l.length ≤ cap ∧ Kd.C k25 W (some a) l.length l := by
  rcases open_slice Try.underlying22 h with ⟨h0, _⟩ | ⟨a, len, cap, m, n, D, Pl, rfl, hb, hl, hm, hmm, rfl, hx⟩
  · exact .inl h0
  right
  have hlm : len ≤ m := by rw [hmm]; split <;> omega
  have each : ∀ i, i < len → ∃ y : S25, W.cell? (a.add (i * 4)) = some (.string y.f0) ∧ W.cell? (a.add (i * 4 + 1)) = some (.int .i64 y.f1) ∧ W.cell? (a.add (i * 4 + 2)) = some (.int .i64 y.f2) ∧ W.cell? (a.add (i * 4 + 3)) = some (.int .u32 y.f3) := by
    intro i hi
    obtain ⟨cs', h1, h2⟩ := hx i (by omega)
    rw [cellsMeta4] at h1
    obtain ⟨_, hlen, hcell⟩ := World.cells?_some h1
    obtain ⟨y0, y1, y2, y3, n', hxy, _, g0, g1, g2, g3⟩ := trod_struct4 Try.underlying25 h2
    obtain ⟨v0, v1, v2, v3, rfl⟩ : ∃ v0 v1 v2 v3, cs' = [v0, v1, v2, v3] := by
      match cs', hlen with
      | [v0, v1, v2, v3], _ => exact ⟨v0, v1, v2, v3, rfl⟩
    · dsimp only at g0 g1 g2 g3
      rw [cellsS] at g0
      rw [cellsI] at g1 g2
      rw [cellsU] at g3
      have g0' : DataW.trod enc Try.prog W 0 (fun _ => true) true n' 9 [v0] = some y0 := g0
      have g1' : DataW.trod enc Try.prog W 0 (fun _ => true) true n' 3 [v1] = some y1 := g1
      have g2' : DataW.trod enc Try.prog W 0 (fun _ => true) true n' 3 [v2] = some y2 := g2
      have g3' : DataW.trod enc Try.prog W 0 (fun _ => true) true n' 23 [v3] = some y3 := g3
      obtain ⟨s, e0, _, _⟩ := DataW.trod_string Try.underlying9 g0'
      obtain ⟨b1, e1, _, _⟩ := DataW.trod_int Try.underlying3 g1'
      obtain ⟨b2, e2, _, _⟩ := DataW.trod_int Try.underlying3 g2'
      obtain ⟨b3, e3, _, _⟩ := DataW.trod_int Try.underlying23 g3'
      simp only [List.cons.injEq, and_true] at e0 e1 e2 e3
      subst e0 e1 e2 e3
      have k0 := hcell 0 (by omega)
      have k1 := hcell 1 (by omega)
      have k2 := hcell 2 (by omega)
      have k3 := hcell 3 (by omega)
      rw [Addr.add_add] at k0 k1 k2 k3
      exact ⟨⟨s, b1, b2, b3⟩, by simpa using k0, by simpa using k1, by simpa using k2, by simpa using k3⟩
  obtain ⟨Y, hY⟩ := choose_lt each
  refine ⟨a, cap, (List.range len).map Y, by simp, by simpa using hl, by simp, by simp only [List.length_map, List.length_range]; unfold maxLen at hm; omega, fun hp => ⟨a, rfl, fun j p hj => ?_⟩⟩
  have hjl : j < len := by have := (List.getElem?_eq_some_iff.1 hj).1; simpa using this
  have hp : p = Y j := by
    rw [List.getElem?_map, List.getElem?_range hjl] at hj
    exact (Option.some.inj hj).symm
  subst hp
  refine ⟨_, rfl, k25_mk W (Y j), fun i u hu => ?_⟩
  obtain ⟨q0, q1, q2, q3⟩ := hY j hjl
  match i, hu with
  | 0, hu => cases hu; exact q0
  | 1, hu => cases hu; exact q1
  | 2, hu => cases hu; exact q2
  | 3, hu => cases hu; exact q3

set_option maxRecDepth 100000 in
theorem lifted (os : Os) (started : os.Started) (H : Type) (enc : TypeId × Value → H) :
    ReturnsInHanded {} Try.checked os 3 .any (Rows.peersTurnsSpec.pre6 enc Try.prog Try.f3 Rows.peersTurnsRow.domain false) (Rows.peersTurnsSpec.post enc Try.prog Try.f3 false true false false) := by
  refine returnsInHanded_of_change_sized (C := Try.checked) own started (by kernel_rfl) Try.func3
    (ChangeSpec.witness6 (enc := enc) (C := Try.checked) false ⟨#[], #[.slice none 0 0], []⟩ 8 (by kernel_rfl) (by kernel_rfl) (by kernel_rfl) (by kernel_rfl)) ?_
  intro W base args ds gs before hval0 hW hcnd hsz0 _
  have hval : ∀ (j : Nat) t v, Try.f3.params[j]? = some t → args[j]? = some v → Value.okWide Try.prog W .any base t v := hval0
  have hW' := hW
  obtain ⟨p, q, hA0, hV, rfl, hfz, hnd⟩ := hW
  have hA : DataW.TrodAll enc Try.prog W 0 (fun _ => true) true Try.f3.params.toList args.toList ds p := hA0
  rw [Try.params3] at hA hval
  obtain ⟨v0, vs0, d0, ds0, p0, q0, hargs, rfl, rfl, h0, r0⟩ := trodAll_cons hA
  obtain ⟨rfl, rfl, rfl⟩ := trodAll_nil r0
  obtain rfl : args = #[v0] := by cases args; simp_all
  obtain ⟨rfl, rfl⟩ := trodVars_none hV
  obtain ⟨a0, len0, cap0, rfl⟩ := okWide_slice Try.underlying22 (hval 0 22 v0 rfl rfl)
  have k0 := h0
  have lt0 : ∀ x ∈ p0, x.block < W.heap.size := by obtain ⟨m, hm⟩ := k0; exact DataW.trod_lt m _ _ _ hm
  obtain ⟨l, hlen, hcap, hC⟩ : ∃ l : List S25, len0 = l.length ∧ l.length ≤ cap0 ∧ Kd.C k25 W a0 l.length l := by
    obtain ⟨fuel, hf⟩ := h0
    rcases open_metas hf with hcs | ⟨x, c, l, hcs, hl, hC⟩
    · simp [Value.cells] at hcs
      obtain ⟨rfl, rfl, rfl⟩ := hcs
      exact ⟨[], rfl, Nat.le_refl _, Kd.C_nil _ _⟩
    · simp [Value.cells] at hcs
      obtain ⟨rfl, rfl, rfl⟩ := hcs
      exact ⟨l, rfl, hl, hC⟩
  subst hlen
  clear hA0 hval0 hsz0
  obtain ⟨k, hk⟩ := turns_true l
  refine (QL.thermographlaw17_PeersTurns.calls k a0 cap0 l true W hC hcap hk).mono fun e W' ⟨he, bel⟩ => ?_
  subst he
  exact ⟨_, rfl, _, _, _, [], _, [], hW', trodAll_mk1 (shut_bool Try.underlying4 _), (trodAll_cons_mk (Below.trod laidOut (by kernel_rfl) (of_decide_eq_true (by kernel_rfl)) k0 bel lt0) trodAll_mk0), rfl, bel.frame _, fun h => by cases h⟩

theorem said : Rows.PeersTurnsSaid :=
  OpenClaim.holds_of_wide 3 Try.f3 rfl rfl rfl rfl rfl rfl rfl ⟨rfl, rfl, rfl, rfl, rfl⟩ rfl rfl rfl rfl rfl (by kernel_rfl) Try.func3 (by kernel_rfl)
    (of_decide_eq_true (by kernel_rfl)) (by unfold Func.isWrapper; first | (rw [if_pos (by decide +kernel)]; kernel_rfl) | (rw [if_neg (by decide +kernel)]; exact ⟨rfl, rfl⟩))
    (fun os started H enc _ => lifted os started H enc)
end TurnsRow

/-- PeersTurns is true for every input; the input reads as it did. -/
theorem peersTurns_holds : Rows.PeersTurnsSaid := TurnsRow.said
#print axioms peersTurns_holds
end Go.Proofs.Ytgagcimfkmegnaa
