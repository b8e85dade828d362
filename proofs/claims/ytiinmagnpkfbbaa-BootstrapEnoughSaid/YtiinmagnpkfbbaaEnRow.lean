/- BootstrapEnough: whatever placement, shard, node and answers: the Go function returns true, and its arguments read as before. -/
import Derived.Test.YtiinmagnpkfbbaaRows
import Derived.Test.YtiinmagnpkfbbaaEnInit
import Derived.Test.YtiinmagnpkfbbaaOpenRows
namespace Go.Proofs.Ytiinmagnpkfbbaa
set_option linter.unusedVariables false
set_option linter.unusedSimpArgs false
open Go.ChangeShapes Go.WideShapes Go.ChangeAt Go.RowKit Go.Joins Go.Deep Go.Proofs.YtiinmagnpkfbbaaW.PrintWords Go.Proofs.YtiinmagnpkfbbaaW.PrintLast Go.Proofs.YtiinmagnpkfbbaaW.PrintMore Go.Proofs.Ytiinmagnpkfbbaa.QT
open Go.ChangeMaps (open_string shut_string)
namespace EnRow
open OpenRows
theorem enough_calls (w : World) (V : Int) (An : Option Addr) (cn : Nat) (nodes : List Int) (As : Option Addr) (cs : Nat) (shards : List (List Bt.Ow)) (hP : Pl.PlAt w An cn nodes As cs shards) (sh n : Int) (Ag : Option Addr) (cg : Nat) (gs : List Bool) (hG : Kd.C Kd.bool w Ag gs.length gs) (hcg : gs.length ≤ cg) :
    Calls Try.prog 3 #[.agg #[.int .i64 V, .slice An nodes.length cn, .slice As shards.length cs], .int .i64 sh, .int .i64 n, .slice Ag gs.length cg] w fun e w' => e = .returned (.bool true) ∧ Below w.heap.size w w' := by
  by_cases h : Pl.checkP V nodes shards = 0 ∧ Pl.ownsP shards sh n = true
  · by_cases hs : (Pl.findP shards sh n).1.f1 = 1
    · exact Bt.enough_init w V An cn nodes As cs shards hP sh n Ag cg gs hG hcg h.1 h.2 hs
    · exact Bt.enough_not w V An cn nodes As cs shards hP sh n Ag cg gs hG hcg h.1 h.2 hs
  · exact Bt.enough_err w V An cn nodes As cs shards hP sh n Ag cg gs hG hcg h
theorem laidOut : laidOutB Try.prog = true := by kernel_rfl
theorem own : ownKnob Try.prog.godebug = none := by kernel_rfl
theorem cells3 : Try.prog.cellsOf 3 = 1 := by kernel_rfl
theorem cells4 : Try.prog.cellsOf 4 = 1 := by kernel_rfl
theorem cells38 : Try.prog.cellsOf 38 = 3 := by kernel_rfl
theorem cells44 : Try.prog.cellsOf 44 = 1 := by kernel_rfl
theorem cells25 : Try.prog.cellsOf 25 = 3 := by kernel_rfl
section
variable {H : Type} {enc : TypeId × Value → H} {w : World}
instance : Inhabited S38 := ⟨z38⟩
set_option maxRecDepth 100000 in
theorem elem_owner : Elem enc Try.prog w 0 (fun _ => true) true 38 k38 (fun o => (Lit.int .i64 o.f2).wf = true ∧ (Lit.int .i64 o.f0).wf = true) := by
  intro n cs x hl0 h
  have hl : cs.length = 3 := hl0
  obtain ⟨y0, y1, y2, n', _, _, g0, g1, g2⟩ := trod_struct3 Try.underlying38 h
  obtain ⟨v0, v1, v2, rfl⟩ : ∃ v0 v1 v2, cs = [v0, v1, v2] := by
    match cs, hl with
    | [v0, v1, v2], _ => exact ⟨v0, v1, v2, rfl⟩
  dsimp only at g0 g1 g2
  rw [cells3] at g0 g1 g2
  have g0' : DataW.trod enc Try.prog w 0 (fun _ => true) true n' 3 [v0] = some y0 := g0
  have g1' : DataW.trod enc Try.prog w 0 (fun _ => true) true n' 3 [v1] = some y1 := g1
  have g2' : DataW.trod enc Try.prog w 0 (fun _ => true) true n' 3 [v2] = some y2 := g2
  obtain ⟨b0, c0, _, w0⟩ := DataW.trod_int Try.underlying3 g0'
  obtain ⟨b1, c1, _, _⟩ := DataW.trod_int Try.underlying3 g1'
  obtain ⟨b2, c2, _, w2⟩ := DataW.trod_int Try.underlying3 g2'
  simp only [List.cons.injEq, and_true] at c0 c1 c2
  subst c0 c1 c2
  exact ⟨⟨b0, b1, b2⟩, k38_mk w ⟨b0, b1, b2⟩, w2, w0⟩
set_option maxRecDepth 100000 in
/-- A placement among the arguments. -/
theorem open_place {r : Reach} {b0 : Nat} {v : Value} {d : DataW H} {p : List MemPlace} (hv : Value.okWide Try.prog w r b0 25 v) (h : DataW.Trod enc Try.prog w 0 (fun _ => true) true 25 v d p) :
    ∃ (V : Int) (An : Option Addr) (cn : Nat) (nodes : List Int) (As : Option Addr) (cs : Nat) (shards : List (List S38)), v = .agg #[.int .i64 V, .slice An nodes.length cn, .slice As shards.length cs] ∧ Pl.PlAt w An cn nodes As cs shards := by
  obtain ⟨v0, v1, v2, y0, y1, y2, n, rfl, _, _, g0, g1, g2⟩ := open_agg3 Try.underlying25 (by kernel_rfl) cells25 hv h
  obtain ⟨V, c0, _, _⟩ := DataW.trod_int Try.underlying3 g0
  obtain ⟨An, cn, nodes, c1, hcn, ln, hn, _⟩ := open_rows (d := Kd.int .i64) Try.underlying22 cells3 (elem_int Try.underlying3) g1
  obtain ⟨As, cs, shards, c2, hcs, ls, hs, hw⟩ := open_rows (d := Kd.slice 38 k38) Try.underlying23 cells44 (elem_slice Try.underlying44 cells38 elem_owner) g2
  simp only [List.cons.injEq, and_true] at c0 c1 c2
  subst c0 c1 c2
  unfold maxLen at ln ls
  exact ⟨V, An, cn, nodes, As, cs, shards, rfl, hn, hcn, by omega, hs, hcs, by omega, fun l hl => by have := (hw l hl).1; unfold maxLen at this; omega, fun l hl o ho => (hw l hl).2 o ho⟩
end
set_option maxRecDepth 100000 in
theorem lifted (os : Os) (started : os.Started) (H : Type) (enc : TypeId × Value → H) :
    ReturnsInHanded {} Try.checked os 3 .any (Rows.bootstrapEnoughSpec.pre6 enc Try.prog Try.f3 Rows.bootstrapEnoughRow.domain false) (Rows.bootstrapEnoughSpec.post enc Try.prog Try.f3 false true false false) := by
  refine returnsInHanded_of_change_sized (C := Try.checked) own started (by kernel_rfl) Try.func3
    (ChangeSpec.witness6 (enc := enc) (C := Try.checked) false ⟨#[], #[.agg #[.int .i64 0, .slice none 0 0, .slice none 0 0], .int .i64 0, .int .i64 0, .slice none 0 0], []⟩ 8 (by kernel_rfl) (by kernel_rfl) (by kernel_rfl) (by kernel_rfl)) ?_
  intro W base args ds gs before hval0 hW hcnd hsz0 _
  have hval : ∀ (j : Nat) t v, Try.f3.params[j]? = some t → args[j]? = some v → Value.okWide Try.prog W .any base t v := hval0
  have hW' := hW
  obtain ⟨p, q, hA0, hV, rfl, hfz, hnd⟩ := hW
  have hA : DataW.TrodAll enc Try.prog W 0 (fun _ => true) true Try.f3.params.toList args.toList ds p := hA0
  rw [Try.params3] at hA hval
  obtain ⟨v0, vs0, d0, ds0, p0, q0, hargs, rfl, rfl, h0, r0⟩ := trodAll_cons hA
  obtain ⟨v1, vs1, d1, ds1, p1, q1, rfl, rfl, rfl, h1, r1⟩ := trodAll_cons r0
  obtain ⟨v2, vs2, d2, ds2, p2, q2, rfl, rfl, rfl, h2, r2⟩ := trodAll_cons r1
  obtain ⟨v3, vs3, d3, ds3, p3, q3, rfl, rfl, rfl, h3, r3⟩ := trodAll_cons r2
  obtain ⟨rfl, rfl, rfl⟩ := trodAll_nil r3
  obtain rfl : args = #[v0, v1, v2, v3] := by cases args; simp_all
  obtain ⟨rfl, rfl⟩ := trodVars_none hV
  have k0 := h0
  have k1 := h1
  have k2 := h2
  have k3 := h3
  have lt0 : ∀ x ∈ p0, x.block < W.heap.size := by obtain ⟨m, hm⟩ := k0; exact DataW.trod_lt m _ _ _ hm
  have lt1 : ∀ x ∈ p1, x.block < W.heap.size := by obtain ⟨m, hm⟩ := k1; exact DataW.trod_lt m _ _ _ hm
  have lt2 : ∀ x ∈ p2, x.block < W.heap.size := by obtain ⟨m, hm⟩ := k2; exact DataW.trod_lt m _ _ _ hm
  have lt3 : ∀ x ∈ p3, x.block < W.heap.size := by obtain ⟨m, hm⟩ := k3; exact DataW.trod_lt m _ _ _ hm
  obtain ⟨V, An, cn, nodes, As, cs, shards, rfl, hP⟩ := open_place (hval 0 25 v0 rfl rfl) h0
  obtain ⟨sh, rfl, rfl, rfl, _⟩ := open_int Try.underlying3 (hval 1 3 v1 rfl rfl) h1
  obtain ⟨n, rfl, rfl, rfl, _⟩ := open_int Try.underlying3 (hval 2 3 v2 rfl rfl) h2
  obtain ⟨a3, len3, cap3, rfl⟩ := okWide_slice Try.underlying26 (hval 3 26 v3 rfl rfl)
  obtain ⟨l, hlen, hcap, hC⟩ : ∃ l : List Bool, len3 = l.length ∧ l.length ≤ cap3 ∧ Kd.C Kd.bool W a3 l.length l := by
    obtain ⟨fuel, hf⟩ := h3
    obtain ⟨A, c, l, hcs, hl, _, hC, _⟩ := open_rows (d := Kd.bool) Try.underlying26 cells4 (elem_bool Try.underlying4) hf
    simp [Value.cells] at hcs
    obtain ⟨rfl, rfl, rfl⟩ := hcs
    exact ⟨l, rfl, hl, hC⟩
  subst hlen
  clear hA0 hval0 hsz0
  have main := enough_calls W V An cn nodes As cs shards hP sh n a3 cap3 l hC hcap
  refine main.mono fun e W' ⟨he, bel⟩ => ?_
  subst he
  exact ⟨_, rfl, _, _, _, [], _, [], hW', trodAll_mk1 (shut_bool Try.underlying4 _), (trodAll_cons_mk (Below.trod laidOut (by kernel_rfl) (of_decide_eq_true (by kernel_rfl)) k0 bel lt0) (trodAll_cons_mk (Below.trod laidOut (by kernel_rfl) (of_decide_eq_true (by kernel_rfl)) k1 bel lt1) (trodAll_cons_mk (Below.trod laidOut (by kernel_rfl) (of_decide_eq_true (by kernel_rfl)) k2 bel lt2) (trodAll_cons_mk (Below.trod laidOut (by kernel_rfl) (of_decide_eq_true (by kernel_rfl)) k3 bel lt3) trodAll_mk0)))), rfl, bel.frame _, fun h => by cases h⟩
theorem said : Rows.BootstrapEnoughSaid :=
  OpenClaim.holds_of_wide 3 Try.f3 rfl rfl rfl rfl rfl rfl rfl ⟨rfl, rfl, rfl, rfl, rfl⟩ rfl rfl rfl rfl rfl (by kernel_rfl) Try.func3 (by kernel_rfl)
    (of_decide_eq_true (by kernel_rfl)) (by unfold Func.isWrapper; first | (rw [if_pos (by decide +kernel)]; kernel_rfl) | (rw [if_neg (by decide +kernel)]; exact ⟨rfl, rfl⟩))
    (fun os started H enc _ => lifted os started H enc)
end EnRow
/-- BootstrapEnough is true for every input; the input reads as it did. -/
theorem bootstrapEnough_holds : Rows.BootstrapEnoughSaid := EnRow.said
#print axioms bootstrapEnough_holds
end Go.Proofs.Ytiinmagnpkfbbaa
