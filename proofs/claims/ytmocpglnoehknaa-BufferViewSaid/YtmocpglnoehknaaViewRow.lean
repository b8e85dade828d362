/- BufferView: whatever points, picks and range: the Go function returns true, and its arguments read as before. -/
import Derived.Test.YtmocpglnoehknaaRows
import Derived.Test.YtmocpglnoehknaaViewLaw
import Derived.WalkKit
import Derived.ProofKit
import Derived.OpenShut
import Derived.ShutString
import Derived.ChangeOld
import Derived.Below
import Derived.SizedLaws
import Derived.Lib.SmallJoins
import Derived.Deep.Slices
namespace Go.Proofs.Ytmocpglnoehknaa
set_option linter.unusedVariables false
set_option linter.unusedSimpArgs false
open Go.ChangeShapes Go.WideShapes Go.ChangeAt Go.RowKit Go.Joins Go.Deep Go.Proofs.YtmocpglnoehknaaW.PrintWords Go.Proofs.Ytmocpglnoehknaa.QT
open Go.ChangeMaps (open_string shut_string)
namespace ViewRow
theorem laidOut : laidOutB Try.prog = true := by kernel_rfl
theorem own : ownKnob Try.prog.godebug = none := by kernel_rfl
theorem cellsPt : Try.prog.cellsOf 24 = 3 := by kernel_rfl
theorem cellsI : Try.prog.cellsOf 3 = 1 := by kernel_rfl
theorem cellsU : Try.prog.cellsOf 22 = 1 := by kernel_rfl
theorem cellsRg : Try.prog.cellsOf 32 = 2 := by kernel_rfl
set_option maxRecDepth 100000 in
/-- A slice of Points, opened. -/
theorem open_points {H : Type} {enc : TypeId × Value → H} {W : World} {fuel : Nat} {cs : List Value} {x : DataW H × List MemPlace} (h : DataW.trod enc Try.prog W 0 (fun _ => true) true fuel 29 cs = some x) :
    cs = [.slice none 0 0] ∨ ∃ (a : Addr) (cap : Nat) (l : List S24), cs = [.slice (some a) l.length cap] ∧ l.length ≤ cap ∧ l.length ≤ maxLen ∧ Kd.C k24 W (some a) l.length l ∧ ∀ p ∈ l, (Lit.int .i64 p.f0).wf = true := by
  rcases open_slice Try.underlying29 h with ⟨h0, _⟩ | ⟨a, len, cap, m, n, D, Pl, rfl, hb, hl, hm, hmm, rfl, hx⟩
  · exact .inl h0
  right
  have hlm : len ≤ m := by rw [hmm]; split <;> omega
  have each : ∀ i, i < len → ∃ y : S24, W.cell? (a.add (i * 3)) = some (.int .i64 y.f0) ∧ W.cell? (a.add (i * 3 + 1)) = some (.int .u64 y.f1) ∧ W.cell? (a.add (i * 3 + 2)) = some (.int .u64 y.f2) ∧ (Lit.int .i64 y.f0).wf = true := by
    intro i hi
    obtain ⟨cs', h1, h2⟩ := hx i (by omega)
    rw [cellsPt] at h1
    obtain ⟨_, hlen, hcell⟩ := World.cells?_some h1
    obtain ⟨y0, y1, y2, n', hxy, _, g0, g1, g2⟩ := trod_struct3 Try.underlying24 h2
    obtain ⟨v0, v1, v2, rfl⟩ : ∃ v0 v1 v2, cs' = [v0, v1, v2] := by
      match cs', hlen with
      | [v0, v1, v2], _ => exact ⟨v0, v1, v2, rfl⟩
    · dsimp only at g0 g1 g2
      rw [cellsI] at g0
      rw [cellsU] at g1 g2
      have g0' : DataW.trod enc Try.prog W 0 (fun _ => true) true n' 3 [v0] = some y0 := g0
      have g1' : DataW.trod enc Try.prog W 0 (fun _ => true) true n' 22 [v1] = some y1 := g1
      have g2' : DataW.trod enc Try.prog W 0 (fun _ => true) true n' 22 [v2] = some y2 := g2
      obtain ⟨b0, e0, _, wf0⟩ := DataW.trod_int Try.underlying3 g0'
      obtain ⟨b1, e1, _, _⟩ := DataW.trod_int Try.underlying22 g1'
      obtain ⟨b2, e2, _, _⟩ := DataW.trod_int Try.underlying22 g2'
      simp only [List.cons.injEq, and_true] at e0 e1 e2
      subst e0 e1 e2
      have k0 := hcell 0 (by omega)
      have k1 := hcell 1 (by omega)
      have k2 := hcell 2 (by omega)
      rw [Addr.add_add] at k0 k1 k2
      exact ⟨⟨b0, b1, b2⟩, by simpa using k0, by simpa using k1, by simpa using k2, wf0⟩
  obtain ⟨Y, hY⟩ := choose_lt each
  refine ⟨a, cap, (List.range len).map Y, by simp, by simpa using hl, by simp only [List.length_map, List.length_range]; exact Nat.le_trans hl hm, ⟨by simp, by simp only [List.length_map, List.length_range]; unfold maxLen at hm; omega, fun hp => ⟨a, rfl, fun j p hj => ?_⟩⟩, fun p hp => ?_⟩
  · have hjl : j < len := by have := (List.getElem?_eq_some_iff.1 hj).1; simpa using this
    have hp : p = Y j := by
      rw [List.getElem?_map, List.getElem?_range hjl] at hj
      exact (Option.some.inj hj).symm
    subst hp
    refine ⟨_, rfl, k24_mk W (Y j), fun i u hu => ?_⟩
    obtain ⟨q0, q1, q2, _⟩ := hY j hjl
    match i, hu with
    | 0, hu => cases hu; exact q0
    | 1, hu => cases hu; exact q1
    | 2, hu => cases hu; exact q2
  · obtain ⟨j, hj, rfl⟩ := List.mem_map.1 hp
    exact (hY j (List.mem_range.1 hj)).2.2.2
set_option maxRecDepth 100000 in
theorem lifted (os : Os) (started : os.Started) (H : Type) (enc : TypeId × Value → H) :
    ReturnsInHanded {} Try.checked os 4 .any (Rows.bufferViewSpec.pre6 enc Try.prog Try.f4 Rows.bufferViewRow.domain false) (Rows.bufferViewSpec.post enc Try.prog Try.f4 false true false false) := by
  refine returnsInHanded_of_change_sized (C := Try.checked) own started (by kernel_rfl) Try.func4
    (ChangeSpec.witness6 (enc := enc) (C := Try.checked) false ⟨#[], #[.slice none 0 0, .slice none 0 0, .agg #[.int .i64 0, .int .i64 0]], []⟩ 8 (by kernel_rfl) (by kernel_rfl) (by kernel_rfl) (by kernel_rfl)) ?_
  intro W base args ds gs before hval0 hW hcnd hsz0 _
  have hval : ∀ (j : Nat) t v, Try.f4.params[j]? = some t → args[j]? = some v → Value.okWide Try.prog W .any base t v := hval0
  have hW' := hW
  obtain ⟨p, q, hA0, hV, rfl, hfz, hnd⟩ := hW
  have hA : DataW.TrodAll enc Try.prog W 0 (fun _ => true) true Try.f4.params.toList args.toList ds p := hA0
  rw [Try.params4] at hA hval
  obtain ⟨v0, vs0, d0, ds0, p0, q0, hargs, rfl, rfl, h0, r0⟩ := trodAll_cons hA
  obtain ⟨v1, vs1, d1, ds1, p1, q1, rfl, rfl, rfl, h1, r1⟩ := trodAll_cons r0
  obtain ⟨v2, vs2, d2, ds2, p2, q2, rfl, rfl, rfl, h2, r2⟩ := trodAll_cons r1
  obtain ⟨rfl, rfl, rfl⟩ := trodAll_nil r2
  obtain rfl : args = #[v0, v1, v2] := by cases args; simp_all
  obtain ⟨rfl, rfl⟩ := trodVars_none hV
  have k0 := h0
  have k1 := h1
  have k2 := h2
  have lt0 : ∀ x ∈ p0, x.block < W.heap.size := by obtain ⟨m, hm⟩ := k0; exact DataW.trod_lt m _ _ _ hm
  have lt1 : ∀ x ∈ p1, x.block < W.heap.size := by obtain ⟨m, hm⟩ := k1; exact DataW.trod_lt m _ _ _ hm
  have lt2 : ∀ x ∈ p2, x.block < W.heap.size := by obtain ⟨m, hm⟩ := k2; exact DataW.trod_lt m _ _ _ hm
  obtain ⟨a0, len0, cap0, rfl⟩ := okWide_slice Try.underlying29 (hval 0 29 v0 rfl rfl)
  obtain ⟨a1, len1, cap1, rfl⟩ := okWide_slice Try.underlying35 (hval 1 35 v1 rfl rfl)
  obtain ⟨l, hlen, hcap, hml, hC, hwf⟩ : ∃ l : List S24, len0 = l.length ∧ l.length ≤ cap0 ∧ l.length ≤ maxLen ∧ Kd.C k24 W a0 l.length l ∧ ∀ p ∈ l, (Lit.int .i64 p.f0).wf = true := by
    obtain ⟨fuel, hf⟩ := h0
    rcases open_points hf with hcs | ⟨x, c, l, hcs, hl, hml, hC, hwf⟩
    · simp [Value.cells] at hcs
      obtain ⟨rfl, rfl, rfl⟩ := hcs
      exact ⟨[], rfl, Nat.le_refl _, by simp, Kd.C_nil _ _, by simp⟩
    · simp [Value.cells] at hcs
      obtain ⟨rfl, rfl, rfl⟩ := hcs
      exact ⟨l, rfl, hl, hml, hC, hwf⟩
  subst hlen
  obtain ⟨c0, c1, y0, y1, m, rfl, rfl, rfl, hy0, hy1⟩ := open_agg2 Try.underlying32 (by kernel_rfl) cellsRg (hval 2 32 v2 rfl rfl) h2
  obtain ⟨lo, e0, rfl, w0⟩ := DataW.trod_int Try.underlying3 hy0
  obtain ⟨hi, e1, rfl, w1⟩ := DataW.trod_int Try.underlying3 hy1
  simp at e0 e1
  subst e0 e1
  clear hA0 hval0 hsz0
  have main : Calls Try.prog 4 #[.slice a0 l.length cap0, .slice a1 len1 cap1, .agg #[.int .i64 lo, .int .i64 hi]] W fun e w' => e = .returned (.bool true) ∧ Below W.heap.size W w' := by
    by_cases h : l.length ≤ 256
    · exact Buf.view_calls W a0 cap0 l hC hcap h hwf a1 len1 cap1 lo hi
    · exact Buf.view_long W a0 cap0 l (by omega) hml a1 len1 cap1 lo hi
  refine main.mono fun e W' ⟨he, bel⟩ => ?_
  subst he
  exact ⟨_, rfl, _, _, _, [], _, [], hW', trodAll_mk1 (shut_bool Try.underlying4 _), (trodAll_cons_mk (Below.trod laidOut (by kernel_rfl) (of_decide_eq_true (by kernel_rfl)) k0 bel lt0) (trodAll_cons_mk (Below.trod laidOut (by kernel_rfl) (of_decide_eq_true (by kernel_rfl)) k1 bel lt1) (trodAll_cons_mk (Below.trod laidOut (by kernel_rfl) (of_decide_eq_true (by kernel_rfl)) k2 bel lt2) trodAll_mk0))), rfl, bel.frame _, fun h => by cases h⟩
theorem said : Rows.BufferViewSaid :=
  OpenClaim.holds_of_wide 4 Try.f4 rfl rfl rfl rfl rfl rfl rfl ⟨rfl, rfl, rfl, rfl, rfl⟩ rfl rfl rfl rfl rfl (by kernel_rfl) Try.func4 (by kernel_rfl)
    (of_decide_eq_true (by kernel_rfl)) (by unfold Func.isWrapper; first | (rw [if_pos (by decide +kernel)]; kernel_rfl) | (rw [if_neg (by decide +kernel)]; exact ⟨rfl, rfl⟩))
    (fun os started H enc _ => lifted os started H enc)
end ViewRow
/-- BufferView is true for every input; the input reads as it did. -/
theorem bufferView_holds : Rows.BufferViewSaid := ViewRow.said
#print axioms bufferView_holds
end Go.Proofs.Ytmocpglnoehknaa
