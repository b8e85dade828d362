/- RepairPlans: whatever lists of metas: the Go function returns true, and its arguments read as before. -/
import Derived.Test.YtcdpcgcfonjnfaaRows
import Derived.Test.YtcdpcgcfonjnfaaPlans
import Derived.Test.YtcdpcgcfonjnfaaOpenRows
namespace Go.Proofs.Ytcdpcgcfonjnfaa
set_option linter.unusedVariables false
set_option linter.unusedSimpArgs false
open Go.ChangeShapes Go.WideShapes Go.ChangeAt Go.RowKit Go.Joins Go.Deep Go.Proofs.YtcdpcgcfonjnfaaW.PrintWords Go.Proofs.YtcdpcgcfonjnfaaW.PrintLast Go.Proofs.YtcdpcgcfonjnfaaW.PrintMore Go.Proofs.Ytcdpcgcfonjnfaa.QT
open Go.ChangeMaps (open_string shut_string)
namespace PlansRow
open OpenRows
theorem laidOut : laidOutB Try.prog = true := by kernel_rfl
theorem own : ownKnob Try.prog.godebug = none := by kernel_rfl
theorem cells3 : Try.prog.cellsOf 3 = 1 := by kernel_rfl
theorem cells9 : Try.prog.cellsOf 9 = 1 := by kernel_rfl
theorem cells45 : Try.prog.cellsOf 45 = 1 := by kernel_rfl
theorem cells22 : Try.prog.cellsOf 22 = 1 := by kernel_rfl
theorem cells56 : Try.prog.cellsOf 56 = 4 := by kernel_rfl
section
variable {H : Type} {enc : TypeId × Value → H} {w : World}
instance : Inhabited S56 := ⟨z56⟩
set_option maxRecDepth 100000 in
theorem elem_meta : Elem enc Try.prog w 0 (fun _ => true) true 56 k56 (fun x => Rp.OkP (Rp.plc x)) := by
  intro n cs x hl0 h
  have hl : cs.length = 4 := hl0
  obtain ⟨y0, y1, y2, y3, n', _, _, g0, g1, g2, g3⟩ := trod_struct4 Try.underlying56 h
  obtain ⟨v0, v1, v2, v3, rfl⟩ : ∃ v0 v1 v2 v3, cs = [v0, v1, v2, v3] := by
    match cs, hl with
    | [v0, v1, v2, v3], _ => exact ⟨v0, v1, v2, v3, rfl⟩
  dsimp only at g0 g1 g2 g3
  rw [cells9] at g0
  rw [cells3] at g1 g2
  rw [cells45] at g3
  have g0' : DataW.trod enc Try.prog w 0 (fun _ => true) true n' 9 [v0] = some y0 := g0
  have g1' : DataW.trod enc Try.prog w 0 (fun _ => true) true n' 3 [v1] = some y1 := g1
  have g2' : DataW.trod enc Try.prog w 0 (fun _ => true) true n' 3 [v2] = some y2 := g2
  have g3' : DataW.trod enc Try.prog w 0 (fun _ => true) true n' 45 [v3] = some y3 := g3
  obtain ⟨b0, c0, _, w0⟩ := DataW.trod_string Try.underlying9 g0'
  obtain ⟨b1, c1, _, w1⟩ := DataW.trod_int Try.underlying3 g1'
  obtain ⟨b2, c2, _, _⟩ := DataW.trod_int Try.underlying3 g2'
  obtain ⟨b3, c3, _, _⟩ := DataW.trod_int Try.underlying45 g3'
  simp only [List.cons.injEq, and_true] at c0 c1 c2 c3
  subst c0 c1 c2 c3
  exact ⟨⟨b0, b1, b2, b3⟩, k56_mk w ⟨b0, b1, b2, b3⟩, w0, w1⟩
end
set_option maxRecDepth 100000 in
theorem lifted (os : Os) (started : os.Started) (H : Type) (enc : TypeId × Value → H) :
    ReturnsInHanded {} Try.checked os 4 .any (Rows.repairPlansSpec.pre6 enc Try.prog Try.f4 Rows.repairPlansRow.domain false) (Rows.repairPlansSpec.post enc Try.prog Try.f4 false true false false) := by
  refine returnsInHanded_of_change_sized (C := Try.checked) own started (by kernel_rfl) Try.func4
    (ChangeSpec.witness6 (enc := enc) (C := Try.checked) false ⟨#[], #[.slice none 0 0, .slice none 0 0], []⟩ 8 (by kernel_rfl) (by kernel_rfl) (by kernel_rfl) (by kernel_rfl)) ?_
  intro W base args ds gs before hval0 hW hcnd hsz0 _
  have hval : ∀ (j : Nat) t v, Try.f4.params[j]? = some t → args[j]? = some v → Value.okWide Try.prog W .any base t v := hval0
  have hW' := hW
  obtain ⟨p, q, hA0, hV, rfl, hfz, hnd⟩ := hW
  have hA : DataW.TrodAll enc Try.prog W 0 (fun _ => true) true Try.f4.params.toList args.toList ds p := hA0
  rw [Try.params4] at hA hval
  obtain ⟨v0, vs0, d0, ds0, p0, q0, hargs, rfl, rfl, h0, r0⟩ := trodAll_cons hA
  obtain ⟨v1, vs1, d1, ds1, p1, q1, rfl, rfl, rfl, h1, r1⟩ := trodAll_cons r0
  obtain ⟨rfl, rfl, rfl⟩ := trodAll_nil r1
  obtain rfl : args = #[v0, v1] := by cases args; simp_all
  obtain ⟨rfl, rfl⟩ := trodVars_none hV
  have k0 := h0
  have k1 := h1
  have lt0 : ∀ x ∈ p0, x.block < W.heap.size := by obtain ⟨m, hm⟩ := k0; exact DataW.trod_lt m _ _ _ hm
  have lt1 : ∀ x ∈ p1, x.block < W.heap.size := by obtain ⟨m, hm⟩ := k1; exact DataW.trod_lt m _ _ _ hm
  obtain ⟨a0, len0, cap0, rfl⟩ := okWide_slice Try.underlying22 (hval 0 22 v0 rfl rfl)
  obtain ⟨l, hlen, hcap, hC, hok⟩ : ∃ l : List S56, len0 = l.length ∧ l.length ≤ cap0 ∧ Kd.C k56 W a0 l.length l ∧ ∀ x ∈ l, Rp.OkP (Rp.plc x) := by
    obtain ⟨fuel, hf⟩ := h0
    obtain ⟨A, c, l, hcs, hl, _, hC, hw⟩ := open_rows (d := k56) Try.underlying22 cells56 elem_meta hf
    simp [Value.cells] at hcs
    obtain ⟨rfl, rfl, rfl⟩ := hcs
    exact ⟨l, rfl, hl, hC, hw⟩
  subst hlen
  obtain ⟨a1, len1, cap1, rfl⟩ := okWide_slice Try.underlying23 (hval 1 23 v1 rfl rfl)
  obtain ⟨L, hlen, hcap1, hC1, hok1⟩ : ∃ L : List (List S56), len1 = L.length ∧ L.length ≤ cap1 ∧ Kd.C (Kd.slice 56 k56) W a1 L.length L ∧ ∀ l ∈ L, ∀ x ∈ l, Rp.OkP (Rp.plc x) := by
    obtain ⟨fuel, hf⟩ := h1
    obtain ⟨A, c, l, hcs, hl, _, hC, hw⟩ := open_rows (d := Kd.slice 56 k56) Try.underlying23 cells22 (elem_slice Try.underlying22 cells56 elem_meta) hf
    simp [Value.cells] at hcs
    obtain ⟨rfl, rfl, rfl⟩ := hcs
    exact ⟨l, rfl, hl, hC, fun x hx => (hw x hx).2⟩
  subst hlen
  clear hA0 hval0 hsz0
  have main := Rp.plans_calls W a0 cap0 l hC hcap hok a1 cap1 L hC1 hcap1 hok1
  refine main.mono fun e W' ⟨he, bel⟩ => ?_
  subst he
  exact ⟨_, rfl, _, _, _, [], _, [], hW', trodAll_mk1 (shut_bool Try.underlying4 _), (trodAll_cons_mk (Below.trod laidOut (by kernel_rfl) (of_decide_eq_true (by kernel_rfl)) k0 bel lt0) (trodAll_cons_mk (Below.trod laidOut (by kernel_rfl) (of_decide_eq_true (by kernel_rfl)) k1 bel lt1) trodAll_mk0)), rfl, bel.frame _, fun h => by cases h⟩
theorem said : Rows.RepairPlansSaid :=
  OpenClaim.holds_of_wide 4 Try.f4 rfl rfl rfl rfl rfl rfl rfl ⟨rfl, rfl, rfl, rfl, rfl⟩ rfl rfl rfl rfl rfl (by kernel_rfl) Try.func4 (by kernel_rfl)
    (of_decide_eq_true (by kernel_rfl)) (by unfold Func.isWrapper; first | (rw [if_pos (by decide +kernel)]; kernel_rfl) | (rw [if_neg (by decide +kernel)]; exact ⟨rfl, rfl⟩))
    (fun os started H enc _ => lifted os started H enc)
end PlansRow
/-- RepairPlans is true for every input; the inputs read as they did. -/
theorem repairPlans_holds : Rows.RepairPlansSaid := PlansRow.said
#print axioms repairPlans_holds
end Go.Proofs.Ytcdpcgcfonjnfaa
