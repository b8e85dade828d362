/- BootstrapNever: whatever placement, shard, node, range and series: the Go function returns true, and its arguments read as before. -/
import Derived.Test.YtiinmagnpkfbbaaRows
import Derived.Test.YtiinmagnpkfbbaaNever
import Derived.Test.YtiinmagnpkfbbaaOpenRows
namespace Go.Proofs.Ytiinmagnpkfbbaa
set_option linter.unusedVariables false
set_option linter.unusedSimpArgs false
open Go.ChangeShapes Go.WideShapes Go.ChangeAt Go.RowKit Go.Joins Go.Deep Go.Proofs.YtiinmagnpkfbbaaW.PrintWords Go.Proofs.YtiinmagnpkfbbaaW.PrintLast Go.Proofs.YtiinmagnpkfbbaaW.PrintMore Go.Proofs.Ytiinmagnpkfbbaa.QT
open Go.ChangeMaps (open_string shut_string)
namespace NvRow
open OpenRows
theorem never_calls (w : World) (V : Int) (An : Option Addr) (cn : Nat) (nodes : List Int) (As : Option Addr) (cs : Nat) (shards : List (List Bt.Ow)) (hP : Pl.PlAt w An cn nodes As cs shards) (sh n : Int) (need : Bt.R) (A : Option Addr) (c : Nat) (l : List Hv.Ser) (hl : Kd.C k71 w A l.length l) (hlc : l.length ≤ c) (hids : ∀ x ∈ l, x.f0.size ≤ maxLen) :
    Calls Try.prog 4 #[.agg #[.int .i64 V, .slice An nodes.length cn, .slice As shards.length cs], .int .i64 sh, .int .i64 n, .agg #[.int .i64 need.f0, .int .i64 need.f1], .slice A l.length c] w fun e w' => e = .returned (.bool true) ∧ Below w.heap.size w w' := by
  by_cases h : Pl.checkP V nodes shards = 0 ∧ Pl.ownsP shards sh n = true
  · by_cases h2 : (Pl.findP shards sh n).1.f1 = 2
    · exact Bt.never_avail w V An cn nodes As cs shards hP sh n need A c l hl hlc hids h.1 h.2 h2
    · have h1 : (Pl.findP shards sh n).1.f1 = 1 := by
        have ho := h.2
        unfold Pl.ownsP at ho
        rw [Bool.and_eq_true] at ho
        obtain ⟨his, hno⟩ := ho
        obtain ⟨_, _, hlm, hol, _⟩ := Pl.find_mem his
        have hst := (Pl.check_right h.1 hlm).st _ hol
        have h3 : (Pl.findP shards sh n).1.f1 ≠ 3 := bne_iff_ne.1 hno
        rcases hst with e | e | e
        · exact e
        · exact absurd e h2
        · exact absurd e h3
      by_cases hle : need.f1 ≤ need.f0
      · exact Bt.never_init1 w V An cn nodes As cs shards hP sh n need A c l hl hlc hids h.1 h.2 h1 hle
      · exact Bt.never_init2 w V An cn nodes As cs shards hP sh n need A c l hl hlc hids h.1 h.2 h1 (by omega)
  · exact Bt.never_err w V An cn nodes As cs shards hP sh n need A c l hl hlc hids h
theorem laidOut : laidOutB Try.prog = true := by kernel_rfl
theorem own : ownKnob Try.prog.godebug = none := by kernel_rfl
theorem cells3 : Try.prog.cellsOf 3 = 1 := by kernel_rfl
theorem cells4 : Try.prog.cellsOf 4 = 1 := by kernel_rfl
theorem cells38 : Try.prog.cellsOf 38 = 3 := by kernel_rfl
theorem cells44 : Try.prog.cellsOf 44 = 1 := by kernel_rfl
theorem cells25 : Try.prog.cellsOf 25 = 3 := by kernel_rfl
section
variable {H : Type} {enc : TypeId × Value → H} {w : World}
instance : Inhabited S38 := ⟨z38⟩
set_option maxRecDepth 100000 in
theorem elem_owner : Elem enc Try.prog w 0 (fun _ => true) true 38 k38 (fun o => (Lit.int .i64 o.f2).wf = true ∧ (Lit.int .i64 o.f0).wf = true) := by
  intro n cs x hl0 h
  have hl : cs.length = 3 := hl0
  obtain ⟨y0, y1, y2, n', _, _, g0, g1, g2⟩ := trod_struct3 Try.underlying38 h
  obtain ⟨v0, v1, v2, rfl⟩ : ∃ v0 v1 v2, cs = [v0, v1, v2] := by
    match cs, hl with
    | [v0, v1, v2], _ => exact ⟨v0, v1, v2, rfl⟩
  dsimp only at g0 g1 g2
  rw [cells3] at g0 g1 g2
  have g0' : DataW.trod enc Try.prog w 0 (fun _ => true) true n' 3 [v0] = some y0 := g0
  have g1' : DataW.trod enc Try.prog w 0 (fun _ => true) true n' 3 [v1] = some y1 := g1
  have g2' : DataW.trod enc Try.prog w 0 (fun _ => true) true n' 3 [v2] = some y2 := g2
  obtain ⟨b0, c0, _, w0⟩ := DataW.trod_int Try.underlying3 g0'
  obtain ⟨b1, c1, _, _⟩ := DataW.trod_int Try.underlying3 g1'
  obtain ⟨b2, c2, _, w2⟩ := DataW.trod_int Try.underlying3 g2'
  simp only [List.cons.injEq, and_true] at c0 c1 c2
  subst c0 c1 c2
  exact ⟨⟨b0, b1, b2⟩, k38_mk w ⟨b0, b1, b2⟩, w2, w0⟩
set_option maxRecDepth 100000 in
/-- A placement among the arguments. -/
theorem open_place {r : Reach} {b0 : Nat} {v : Value} {d : DataW H} {p : List MemPlace} (hv : Value.okWide Try.prog w r b0 25 v) (h : DataW.Trod enc Try.prog w 0 (fun _ => true) true 25 v d p) :
    ∃ (V : Int) (An : Option Addr) (cn : Nat) (nodes : List Int) (As : Option Addr) (cs : Nat) (shards : List (List S38)), v = .agg #[.int .i64 V, .slice An nodes.length cn, .slice As shards.length cs] ∧ Pl.PlAt w An cn nodes As cs shards := by
  obtain ⟨v0, v1, v2, y0, y1, y2, n, rfl, _, _, g0, g1, g2⟩ := open_agg3 Try.underlying25 (by kernel_rfl) cells25 hv h
  obtain ⟨V, c0, _, _⟩ := DataW.trod_int Try.underlying3 g0
  obtain ⟨An, cn, nodes, c1, hcn, ln, hn, _⟩ := open_rows (d := Kd.int .i64) Try.underlying22 cells3 (elem_int Try.underlying3) g1
  obtain ⟨As, cs, shards, c2, hcs, ls, hs, hw⟩ := open_rows (d := Kd.slice 38 k38) Try.underlying23 cells44 (elem_slice Try.underlying44 cells38 elem_owner) g2
  simp only [List.cons.injEq, and_true] at c0 c1 c2
  subst c0 c1 c2
  unfold maxLen at ln ls
  exact ⟨V, An, cn, nodes, As, cs, shards, rfl, hn, hcn, by omega, hs, hcs, by omega, fun l hl => by have := (hw l hl).1; unfold maxLen at this; omega, fun l hl o ho => (hw l hl).2 o ho⟩
end
theorem cells9 : Try.prog.cellsOf 9 = 1 := by kernel_rfl
theorem cells18 : Try.prog.cellsOf 95 = 1 := by kernel_rfl
theorem cells69 : Try.prog.cellsOf 69 = 1 := by kernel_rfl
theorem cells71 : Try.prog.cellsOf 71 = 2 := by kernel_rfl
theorem cells97 : Try.prog.cellsOf 97 = 3 := by kernel_rfl
theorem cells29 : Try.prog.cellsOf 29 = 2 := by kernel_rfl
section
variable {H : Type} {enc : TypeId × Value → H} {w : World}
instance : Inhabited S97 := ⟨z97⟩
instance : Inhabited S71 := ⟨z71⟩
set_option maxRecDepth 100000 in
theorem elem_point : Elem enc Try.prog w 0 (fun _ => true) true 97 k97 (fun _ => True) := by
  intro n cs x hl0 h
  have hl : cs.length = 3 := hl0
  obtain ⟨y0, y1, y2, n', _, _, g0, g1, g2⟩ := trod_struct3 Try.underlying97 h
  obtain ⟨v0, v1, v2, rfl⟩ : ∃ v0 v1 v2, cs = [v0, v1, v2] := by
    match cs, hl with
    | [v0, v1, v2], _ => exact ⟨v0, v1, v2, rfl⟩
  dsimp only at g0 g1 g2
  rw [cells3] at g0
  rw [cells18] at g1 g2
  have g0' : DataW.trod enc Try.prog w 0 (fun _ => true) true n' 3 [v0] = some y0 := g0
  have g1' : DataW.trod enc Try.prog w 0 (fun _ => true) true n' 95 [v1] = some y1 := g1
  have g2' : DataW.trod enc Try.prog w 0 (fun _ => true) true n' 95 [v2] = some y2 := g2
  obtain ⟨b0, c0, _, _⟩ := DataW.trod_int Try.underlying3 g0'
  obtain ⟨b1, c1, _, _⟩ := DataW.trod_int Try.underlying95 g1'
  obtain ⟨b2, c2, _, _⟩ := DataW.trod_int Try.underlying95 g2'
  simp only [List.cons.injEq, and_true] at c0 c1 c2
  subst c0 c1 c2
  exact ⟨⟨b0, b1, b2⟩, k97_mk w ⟨b0, b1, b2⟩, trivial⟩
set_option maxRecDepth 100000 in
theorem elem_series : Elem enc Try.prog w 0 (fun _ => true) true 71 k71 (fun s => s.f0.size ≤ maxLen) := by
  intro n cs x hl0 h
  have hl : cs.length = 2 := hl0
  obtain ⟨y0, y1, n', _, _, g0, g1⟩ := trod_struct2 Try.underlying71 h
  obtain ⟨v0, v1, rfl⟩ : ∃ v0 v1, cs = [v0, v1] := by
    match cs, hl with
    | [v0, v1], _ => exact ⟨v0, v1, rfl⟩
  dsimp only at g0 g1
  rw [cells9] at g0
  rw [cells69] at g1
  have g0' : DataW.trod enc Try.prog w 0 (fun _ => true) true n' 9 [v0] = some y0 := g0
  have g1' : DataW.trod enc Try.prog w 0 (fun _ => true) true n' 69 [v1] = some y1 := g1
  obtain ⟨b0, c0, _, hsz⟩ := DataW.trod_string Try.underlying9 g0'
  obtain ⟨A, c, l, c1, hc, _, hC, _⟩ := open_rows (d := k97) Try.underlying69 cells97 elem_point g1'
  simp only [List.cons.injEq, and_true] at c0 c1
  subst c0 c1
  exact ⟨⟨b0, l⟩, k71_mk w ⟨b0, l⟩ hc hC, hsz⟩
end
set_option maxRecDepth 100000 in
theorem lifted (os : Os) (started : os.Started) (H : Type) (enc : TypeId × Value → H) :
    ReturnsInHanded {} Try.checked os 4 .any (Rows.bootstrapNeverSpec.pre6 enc Try.prog Try.f4 Rows.bootstrapNeverRow.domain false) (Rows.bootstrapNeverSpec.post enc Try.prog Try.f4 false true false false) := by
  refine returnsInHanded_of_change_sized (C := Try.checked) own started (by kernel_rfl) Try.func4
    (ChangeSpec.witness6 (enc := enc) (C := Try.checked) false ⟨#[], #[.agg #[.int .i64 0, .slice none 0 0, .slice none 0 0], .int .i64 0, .int .i64 0, .agg #[.int .i64 0, .int .i64 0], .slice none 0 0], []⟩ 8 (by kernel_rfl) (by kernel_rfl) (by kernel_rfl) (by kernel_rfl)) ?_
  intro W base args ds gs before hval0 hW hcnd hsz0 _
  have hval : ∀ (j : Nat) t v, Try.f4.params[j]? = some t → args[j]? = some v → Value.okWide Try.prog W .any base t v := hval0
  have hW' := hW
  obtain ⟨p, q, hA0, hV, rfl, hfz, hnd⟩ := hW
  have hA : DataW.TrodAll enc Try.prog W 0 (fun _ => true) true Try.f4.params.toList args.toList ds p := hA0
  rw [Try.params4] at hA hval
  obtain ⟨v0, vs0, d0, ds0, p0, q0, hargs, rfl, rfl, h0, r0⟩ := trodAll_cons hA
  obtain ⟨v1, vs1, d1, ds1, p1, q1, rfl, rfl, rfl, h1, r1⟩ := trodAll_cons r0
  obtain ⟨v2, vs2, d2, ds2, p2, q2, rfl, rfl, rfl, h2, r2⟩ := trodAll_cons r1
  obtain ⟨v3, vs3, d3, ds3, p3, q3, rfl, rfl, rfl, h3, r3⟩ := trodAll_cons r2
  obtain ⟨v4, vs4, d4, ds4, p4, q4, rfl, rfl, rfl, h4, r4⟩ := trodAll_cons r3
  obtain ⟨rfl, rfl, rfl⟩ := trodAll_nil r4
  obtain rfl : args = #[v0, v1, v2, v3, v4] := by cases args; simp_all
  obtain ⟨rfl, rfl⟩ := trodVars_none hV
  have k0 := h0
  have k1 := h1
  have k2 := h2
  have k3 := h3
  have k4 := h4
  have lt0 : ∀ x ∈ p0, x.block < W.heap.size := by obtain ⟨m, hm⟩ := k0; exact DataW.trod_lt m _ _ _ hm
  have lt1 : ∀ x ∈ p1, x.block < W.heap.size := by obtain ⟨m, hm⟩ := k1; exact DataW.trod_lt m _ _ _ hm
  have lt2 : ∀ x ∈ p2, x.block < W.heap.size := by obtain ⟨m, hm⟩ := k2; exact DataW.trod_lt m _ _ _ hm
  have lt3 : ∀ x ∈ p3, x.block < W.heap.size := by obtain ⟨m, hm⟩ := k3; exact DataW.trod_lt m _ _ _ hm
  have lt4 : ∀ x ∈ p4, x.block < W.heap.size := by obtain ⟨m, hm⟩ := k4; exact DataW.trod_lt m _ _ _ hm
  obtain ⟨V, An, cn, nodes, As, cs, shards, rfl, hP⟩ := open_place (hval 0 25 v0 rfl rfl) h0
  obtain ⟨sh, rfl, rfl, rfl, _⟩ := open_int Try.underlying3 (hval 1 3 v1 rfl rfl) h1
  obtain ⟨n, rfl, rfl, rfl, _⟩ := open_int Try.underlying3 (hval 2 3 v2 rfl rfl) h2
  obtain ⟨n0, n1, rfl⟩ : ∃ n0 n1 : Int, v3 = .agg #[.int .i64 n0, .int .i64 n1] := by
    obtain ⟨w0, w1, z0, z1, m, rfl, _, _, g0, g1⟩ := open_agg2 Try.underlying29 (by kernel_rfl) cells29 (hval 3 29 v3 rfl rfl) h3
    obtain ⟨b0, c0, _, _⟩ := DataW.trod_int Try.underlying3 g0
    obtain ⟨b1, c1, _, _⟩ := DataW.trod_int Try.underlying3 g1
    simp only [List.cons.injEq, and_true] at c0 c1
    subst c0 c1
    exact ⟨b0, b1, rfl⟩
  obtain ⟨a4, len4, cap4, rfl⟩ := okWide_slice Try.underlying48 (hval 4 48 v4 rfl rfl)
  obtain ⟨l, hlen, hcap, hC, hids⟩ : ∃ l : List S71, len4 = l.length ∧ l.length ≤ cap4 ∧ Kd.C k71 W a4 l.length l ∧ ∀ x ∈ l, x.f0.size ≤ maxLen := by
    obtain ⟨fuel, hf⟩ := h4
    obtain ⟨A, c, l, hcs, hl, _, hC, hw⟩ := open_rows (d := k71) Try.underlying48 cells71 elem_series hf
    simp [Value.cells] at hcs
    obtain ⟨rfl, rfl, rfl⟩ := hcs
    exact ⟨l, rfl, hl, hC, hw⟩
  subst hlen
  clear hA0 hval0 hsz0
  have main := never_calls W V An cn nodes As cs shards hP sh n ⟨n0, n1⟩ a4 cap4 l hC hcap hids
  refine main.mono fun e W' ⟨he, bel⟩ => ?_
  subst he
  exact ⟨_, rfl, _, _, _, [], _, [], hW', trodAll_mk1 (shut_bool Try.underlying4 _), (trodAll_cons_mk (Below.trod laidOut (by kernel_rfl) (of_decide_eq_true (by kernel_rfl)) k0 bel lt0) (trodAll_cons_mk (Below.trod laidOut (by kernel_rfl) (of_decide_eq_true (by kernel_rfl)) k1 bel lt1) (trodAll_cons_mk (Below.trod laidOut (by kernel_rfl) (of_decide_eq_true (by kernel_rfl)) k2 bel lt2) (trodAll_cons_mk (Below.trod laidOut (by kernel_rfl) (of_decide_eq_true (by kernel_rfl)) k3 bel lt3) (trodAll_cons_mk (Below.trod laidOut (by kernel_rfl) (of_decide_eq_true (by kernel_rfl)) k4 bel lt4) trodAll_mk0))))), rfl, bel.frame _, fun h => by cases h⟩
theorem said : Rows.BootstrapNeverSaid :=
  OpenClaim.holds_of_wide 4 Try.f4 rfl rfl rfl rfl rfl rfl rfl ⟨rfl, rfl, rfl, rfl, rfl⟩ rfl rfl rfl rfl rfl (by kernel_rfl) Try.func4 (by kernel_rfl)
    (of_decide_eq_true (by kernel_rfl)) (by unfold Func.isWrapper; first | (rw [if_pos (by decide +kernel)]; kernel_rfl) | (rw [if_neg (by decide +kernel)]; exact ⟨rfl, rfl⟩))
    (fun os started H enc _ => lifted os started H enc)
end NvRow
/-- BootstrapNever is true for every input; the input reads as it did. -/
theorem bootstrapNever_holds : Rows.BootstrapNeverSaid := NvRow.said
#print axioms bootstrapNever_holds
end Go.Proofs.Ytiinmagnpkfbbaa
