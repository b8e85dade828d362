/- BootstrapTwice: whatever placement, shard, node, range and script: the Go function returns true, and its arguments read as before. -/
import Derived.Test.YtiinmagnpkfbbaaGreatRows
import Derived.Test.YtiinmagnpkfbbaaGreatTwW
set_option maxRecDepth 100000
namespace Go.Proofs.YtiinmagnpkfbbaaGreat
set_option linter.unusedVariables false
set_option linter.unusedSimpArgs false
open Go.ChangeShapes Go.WideShapes Go.ChangeAt Go.RowKit Go.Joins Go.Deep Go.Proofs.YtiinmagnpkfbbaaGreatW.PrintWords Go.Proofs.YtiinmagnpkfbbaaGreatW.PrintLast Go.Proofs.YtiinmagnpkfbbaaGreatW.PrintMore Go.Proofs.YtiinmagnpkfbbaaGreat.QT
open Go.ChangeMaps (open_string shut_string)
namespace TwRow
open OpenRows
theorem twice_calls (w : World) (V : Int) (An : Option Addr) (cn : Nat) (nodes : List Int) (As : Option Addr) (cs : Nat) (shards : List (List Bt.Ow)) (hP : Pl.PlAt w An cn nodes As cs shards) (sh n : Int) (need : Bt.R) (A : Option Addr) (c : Nat) (ls : List S40) (hl : Kd.C k40 w A ls.length ls) (hlc : ls.length ≤ c) (hw : ∀ s ∈ ls, (Lit.int .i64 s.f1).wf = true ∧ s.f4.length ≤ maxLen ∧ ∀ x ∈ s.f4, x.f0.size ≤ maxLen) :
  Calls Tryz.prog 3 #[.agg #[.int .i64 V, .slice An nodes.length cn, .slice As shards.length cs], .int .i64 sh, .int .i64 n, .agg #[.int .i64 need.f0, .int .i64 need.f1], .slice A ls.length c] w fun e w' => e = .returned (.bool true) ∧ Below w.heap.size w w' := by
 by_cases h : Pl.checkP V nodes shards = 0 ∧ Pl.ownsP shards sh n = true
 ·
  exact Tw.twice_ok w V An cn nodes As cs shards hP sh n need A c ls hl hlc hw h.1 h.2
 ·
  exact Tw.twice_err w V An cn nodes As cs shards hP sh n need A c ls hl hlc hw h
theorem laidOut : laidOutB Tryz.prog = true := by kernel_rfl
theorem own : ownKnob Tryz.prog.godebug = none := by kernel_rfl
theorem cells3 : Tryz.prog.cellsOf 3 = 1 := by kernel_rfl
theorem cells4 : Tryz.prog.cellsOf 4 = 1 := by kernel_rfl
theorem cells57 : Tryz.prog.cellsOf 57 = 3 := by kernel_rfl
theorem cells52 : Tryz.prog.cellsOf 52 = 1 := by kernel_rfl
theorem cells25 : Tryz.prog.cellsOf 25 = 3 := by kernel_rfl
section
variable {H : Type} {enc : TypeId × Value → H} {w : World}
instance : Inhabited S57 := ⟨z57⟩
theorem elem_owner : Elem enc Tryz.prog w 0 (fun _ => true) true 57 k57 (fun o => (Lit.int .i64 o.f2).wf = true ∧ (Lit.int .i64 o.f0).wf = true) := by
 intro n cs x hl0 h; have hl : cs.length = 3 := hl0; obtain ⟨y0, y1, y2, n', _, _, g0, g1, g2⟩ := trod_struct3 Tryz.underlying57 h
 obtain ⟨v0, v1, v2, rfl⟩ : ∃ v0 v1 v2, cs = [v0, v1, v2] := by
  match cs, hl with
  | [v0, v1, v2], _ => exact ⟨v0, v1, v2, rfl⟩
 dsimp only at g0 g1 g2
 rw [cells3] at g0 g1 g2; have g0' : DataW.trod enc Tryz.prog w 0 (fun _ => true) true n' 3 [v0] = some y0 := g0; have g1' : DataW.trod enc Tryz.prog w 0 (fun _ => true) true n' 3 [v1] = some y1 := g1; have g2' : DataW.trod enc Tryz.prog w 0 (fun _ => true) true n' 3 [v2] = some y2 := g2; obtain ⟨b0, c0, _, w0⟩ := DataW.trod_int Tryz.underlying3 g0'; obtain ⟨b1, c1, _, _⟩ := DataW.trod_int Tryz.underlying3 g1'; obtain ⟨b2, c2, _, w2⟩ := DataW.trod_int Tryz.underlying3 g2'; simp only [List.cons.injEq, and_true] at c0 c1 c2; subst c0 c1 c2; exact ⟨⟨b0, b1, b2⟩, k57_mk w ⟨b0, b1, b2⟩, w2, w0⟩
/-- A placement among the arguments. -/
theorem open_place {r : Reach} {b0 : Nat} {v : Value} {d : DataW H} {p : List MemPlace} (hv : Value.okWide Tryz.prog w r b0 25 v) (h : DataW.Trod enc Tryz.prog w 0 (fun _ => true) true 25 v d p) :
  ∃ (V : Int) (An : Option Addr) (cn : Nat) (nodes : List Int) (As : Option Addr) (cs : Nat) (shards : List (List S57)), v = .agg #[.int .i64 V, .slice An nodes.length cn, .slice As shards.length cs] ∧ Pl.PlAt w An cn nodes As cs shards := by
 obtain ⟨v0, v1, v2, y0, y1, y2, n, rfl, _, _, g0, g1, g2⟩ := open_agg3 Tryz.underlying25 (by kernel_rfl) cells25 hv h; obtain ⟨V, c0, _, _⟩ := DataW.trod_int Tryz.underlying3 g0; obtain ⟨An, cn, nodes, c1, hcn, ln, hn, _⟩ := open_rows (d := Kd.int .i64) Tryz.underlying22 cells3 (elem_int Tryz.underlying3) g1; obtain ⟨As, cs, shards, c2, hcs, ls, hs, hw⟩ := open_rows (d := Kd.slice 57 k57) Tryz.underlying23 cells52 (elem_slice Tryz.underlying52 cells57 elem_owner) g2; simp only [List.cons.injEq, and_true] at c0 c1 c2; subst c0 c1 c2; unfold maxLen at ln ls; exact ⟨V, An, cn, nodes, As, cs, shards, rfl, hn, hcn, by omega, hs, hcs, by omega, fun l hl => by have := (hw l hl).1; unfold maxLen at this; omega, fun l hl o ho => (hw l hl).2 o ho⟩
end
theorem cells9 : Tryz.prog.cellsOf 9 = 1 := by kernel_rfl
theorem cells18 : Tryz.prog.cellsOf 97 = 1 := by kernel_rfl
theorem cells53 : Tryz.prog.cellsOf 53 = 1 := by kernel_rfl
theorem cells55 : Tryz.prog.cellsOf 55 = 2 := by kernel_rfl
theorem cells99 : Tryz.prog.cellsOf 99 = 3 := by kernel_rfl
theorem cells27 : Tryz.prog.cellsOf 27 = 2 := by kernel_rfl
section
variable {H : Type} {enc : TypeId × Value → H} {w : World}
instance : Inhabited S99 := ⟨z99⟩
instance : Inhabited S55 := ⟨z55⟩
theorem elem_point : Elem enc Tryz.prog w 0 (fun _ => true) true 99 k99 (fun _ => True) := by
 intro n cs x hl0 h; have hl : cs.length = 3 := hl0; obtain ⟨y0, y1, y2, n', _, _, g0, g1, g2⟩ := trod_struct3 Tryz.underlying99 h
 obtain ⟨v0, v1, v2, rfl⟩ : ∃ v0 v1 v2, cs = [v0, v1, v2] := by
  match cs, hl with
  | [v0, v1, v2], _ => exact ⟨v0, v1, v2, rfl⟩
 dsimp only at g0 g1 g2
 rw [cells3] at g0; rw [cells18] at g1 g2; have g0' : DataW.trod enc Tryz.prog w 0 (fun _ => true) true n' 3 [v0] = some y0 := g0; have g1' : DataW.trod enc Tryz.prog w 0 (fun _ => true) true n' 97 [v1] = some y1 := g1; have g2' : DataW.trod enc Tryz.prog w 0 (fun _ => true) true n' 97 [v2] = some y2 := g2; obtain ⟨b0, c0, _, _⟩ := DataW.trod_int Tryz.underlying3 g0'; obtain ⟨b1, c1, _, _⟩ := DataW.trod_int Tryz.underlying97 g1'; obtain ⟨b2, c2, _, _⟩ := DataW.trod_int Tryz.underlying97 g2'; simp only [List.cons.injEq, and_true] at c0 c1 c2; subst c0 c1 c2; exact ⟨⟨b0, b1, b2⟩, k99_mk w ⟨b0, b1, b2⟩, trivial⟩
theorem elem_series : Elem enc Tryz.prog w 0 (fun _ => true) true 55 k55 (fun s => s.f0.size ≤ maxLen) := by
 intro n cs x hl0 h; have hl : cs.length = 2 := hl0; obtain ⟨y0, y1, n', _, _, g0, g1⟩ := trod_struct2 Tryz.underlying55 h
 obtain ⟨v0, v1, rfl⟩ : ∃ v0 v1, cs = [v0, v1] := by
  match cs, hl with
  | [v0, v1], _ => exact ⟨v0, v1, rfl⟩
 dsimp only at g0 g1
 rw [cells9] at g0; rw [cells53] at g1; have g0' : DataW.trod enc Tryz.prog w 0 (fun _ => true) true n' 9 [v0] = some y0 := g0; have g1' : DataW.trod enc Tryz.prog w 0 (fun _ => true) true n' 53 [v1] = some y1 := g1; obtain ⟨b0, c0, _, hsz⟩ := DataW.trod_string Tryz.underlying9 g0'; obtain ⟨A, c, l, c1, hc, _, hC, _⟩ := open_rows (d := k99) Tryz.underlying53 cells99 elem_point g1'; simp only [List.cons.injEq, and_true] at c0 c1; subst c0 c1; exact ⟨⟨b0, l⟩, k55_mk w ⟨b0, l⟩ hc hC, hsz⟩
end
theorem cells38 : Tryz.prog.cellsOf 38 = 1 := by kernel_rfl
theorem cells40 : Tryz.prog.cellsOf 40 = 6 := by kernel_rfl
section
variable {H : Type} {enc : TypeId × Value → H} {w : World}
theorem trod_struct5 {P : Program} {base : Nat} {spare : Nat → Bool} {held : Bool} {t : TypeId} {f0 f1 f2 f3 f4 : Field} {fuel : Nat} {cs : List Value} {x : DataW H × List MemPlace} (ht : P.underlying t = some (.struct #[f0, f1, f2, f3, f4])) (h : DataW.trod enc P w base spare held fuel t cs = some x) :
  ∃ y0 y1 y2 y3 y4 n, DataW.trod enc P w base spare held n f0.type ((cs.drop f0.offset).take (P.cellsOf f0.type)) = some y0 ∧
   DataW.trod enc P w base spare held n f1.type ((cs.drop f1.offset).take (P.cellsOf f1.type)) = some y1 ∧ DataW.trod enc P w base spare held n f2.type ((cs.drop f2.offset).take (P.cellsOf f2.type)) = some y2 ∧
   DataW.trod enc P w base spare held n f3.type ((cs.drop f3.offset).take (P.cellsOf f3.type)) = some y3 ∧ DataW.trod enc P w base spare held n f4.type ((cs.drop f4.offset).take (P.cellsOf f4.type)) = some y4 := by
 obtain ⟨xs, n, _, rfl, hl, hlen, hf⟩ := DataW.trod_struct ht h
 match xs, hlen with
 | [y0, y1, y2, y3, y4], _ => exact ⟨y0, y1, y2, y3, y4, n, by simpa using hf 0 f0 rfl, by simpa using hf 1 f1 rfl, by simpa using hf 2 f2 rfl, by simpa using hf 3 f3 rfl, by simpa using hf 4 f4 rfl⟩
instance : Inhabited S40 := ⟨z40⟩
theorem elem_step : Elem enc Tryz.prog w 0 (fun _ => true) true 40 k40 (fun s => (Lit.int .i64 s.f1).wf = true ∧ s.f4.length ≤ maxLen ∧ ∀ x ∈ s.f4, x.f0.size ≤ maxLen) := by
 intro n cs x hl0 h; have hl : cs.length = 6 := hl0; obtain ⟨y0, y1, y2, y3, y4, n', g0, g1, g2, g3, g4⟩ := trod_struct5 Tryz.underlying40 h
 obtain ⟨v0, v1, v2, v3, v4, v5, rfl⟩ : ∃ v0 v1 v2 v3 v4 v5, cs = [v0, v1, v2, v3, v4, v5] := by
  match cs, hl with
  | [v0, v1, v2, v3, v4, v5], _ => exact ⟨v0, v1, v2, v3, v4, v5, rfl⟩
 dsimp only at g0 g1 g2 g3 g4
 rw [cells3] at g0 g1 g2; rw [cells27] at g3; rw [cells38] at g4; have g0' : DataW.trod enc Tryz.prog w 0 (fun _ => true) true n' 3 [v0] = some y0 := g0; have g1' : DataW.trod enc Tryz.prog w 0 (fun _ => true) true n' 3 [v1] = some y1 := g1; have g2' : DataW.trod enc Tryz.prog w 0 (fun _ => true) true n' 3 [v2] = some y2 := g2; have g3' : DataW.trod enc Tryz.prog w 0 (fun _ => true) true n' 27 [v3, v4] = some y3 := g3; have g4' : DataW.trod enc Tryz.prog w 0 (fun _ => true) true n' 38 [v5] = some y4 := g4; obtain ⟨b0, c0, _, _⟩ := DataW.trod_int Tryz.underlying3 g0'; obtain ⟨b1, c1, _, w1⟩ := DataW.trod_int Tryz.underlying3 g1'; obtain ⟨b2, c2, _, _⟩ := DataW.trod_int Tryz.underlying3 g2'; obtain ⟨z0, z1, n2, _, _, e0, e1⟩ := trod_struct2 Tryz.underlying27 g3'
 dsimp only at e0 e1
 rw [cells3] at e0 e1; have e0' : DataW.trod enc Tryz.prog w 0 (fun _ => true) true n2 3 [v3] = some z0 := e0; have e1' : DataW.trod enc Tryz.prog w 0 (fun _ => true) true n2 3 [v4] = some z1 := e1; obtain ⟨b3, c3, _, _⟩ := DataW.trod_int Tryz.underlying3 e0'; obtain ⟨b4, c4, _, _⟩ := DataW.trod_int Tryz.underlying3 e1'; obtain ⟨A, c, l, c5, hc, hml, hC, hx⟩ := open_rows (d := k55) Tryz.underlying38 cells55 elem_series g4'; simp only [List.cons.injEq, and_true] at c0 c1 c2 c3 c4 c5; subst c0 c1 c2 c3 c4 c5; exact ⟨⟨b0, b1, b2, ⟨b3, b4⟩, l⟩, k40_mk w ⟨b0, b1, b2, ⟨b3, b4⟩, l⟩ hc hC, w1, hml, hx⟩
end
theorem lifted (os : Os) (started : os.Started) (H : Type) (enc : TypeId × Value → H) :
  ReturnsInHanded {} Tryz.checked os 3 .any (Rows.bootstrapTwiceSpec.pre6 enc Tryz.prog Tryz.f3 Rows.bootstrapTwiceRow.domain false) (Rows.bootstrapTwiceSpec.post enc Tryz.prog Tryz.f3 false true false false) := by
 refine returnsInHanded_of_change_sized (C := Tryz.checked) own started (by kernel_rfl) Tryz.func3
  (ChangeSpec.witness6 (enc := enc) (C := Tryz.checked) false ⟨#[], #[.agg #[.int .i64 0, .slice none 0 0, .slice none 0 0], .int .i64 0, .int .i64 0, .agg #[.int .i64 0, .int .i64 0], .slice none 0 0], []⟩ 8 (by kernel_rfl) (by kernel_rfl) (by kernel_rfl) (by kernel_rfl)) ?_
 intro W base args ds gs before hval0 hW hcnd hsz0 _; have hval : ∀ (j : Nat) t v, Tryz.f3.params[j]? = some t → args[j]? = some v → Value.okWide Tryz.prog W .any base t v := hval0; have hW' := hW; obtain ⟨p, q, hA0, hV, rfl, hfz, hnd⟩ := hW; have hA : DataW.TrodAll enc Tryz.prog W 0 (fun _ => true) true Tryz.f3.params.toList args.toList ds p := hA0; rw [Tryz.params3] at hA hval; obtain ⟨v0, vs0, d0, ds0, p0, q0, hargs, rfl, rfl, h0, r0⟩ := trodAll_cons hA; obtain ⟨v1, vs1, d1, ds1, p1, q1, rfl, rfl, rfl, h1, r1⟩ := trodAll_cons r0; obtain ⟨v2, vs2, d2, ds2, p2, q2, rfl, rfl, rfl, h2, r2⟩ := trodAll_cons r1; obtain ⟨v3, vs3, d3, ds3, p3, q3, rfl, rfl, rfl, h3, r3⟩ := trodAll_cons r2; obtain ⟨v4, vs4, d4, ds4, p4, q4, rfl, rfl, rfl, h4, r4⟩ := trodAll_cons r3; obtain ⟨rfl, rfl, rfl⟩ := trodAll_nil r4; obtain rfl : args = #[v0, v1, v2, v3, v4] := by cases args; simp_all
 obtain ⟨rfl, rfl⟩ := trodVars_none hV; have k0 := h0; have k1 := h1; have k2 := h2; have k3 := h3; have k4 := h4; have lt0 : ∀ x ∈ p0, x.block < W.heap.size := by obtain ⟨m, hm⟩ := k0; exact DataW.trod_lt m _ _ _ hm
 have lt1 : ∀ x ∈ p1, x.block < W.heap.size := by obtain ⟨m, hm⟩ := k1; exact DataW.trod_lt m _ _ _ hm
 have lt2 : ∀ x ∈ p2, x.block < W.heap.size := by obtain ⟨m, hm⟩ := k2; exact DataW.trod_lt m _ _ _ hm
 have lt3 : ∀ x ∈ p3, x.block < W.heap.size := by obtain ⟨m, hm⟩ := k3; exact DataW.trod_lt m _ _ _ hm
 have lt4 : ∀ x ∈ p4, x.block < W.heap.size := by obtain ⟨m, hm⟩ := k4; exact DataW.trod_lt m _ _ _ hm
 obtain ⟨V, An, cn, nodes, As, cs, shards, rfl, hP⟩ := open_place (hval 0 25 v0 rfl rfl) h0; obtain ⟨sh, rfl, rfl, rfl, _⟩ := open_int Tryz.underlying3 (hval 1 3 v1 rfl rfl) h1; obtain ⟨n, rfl, rfl, rfl, _⟩ := open_int Tryz.underlying3 (hval 2 3 v2 rfl rfl) h2
 obtain ⟨n0, n1, rfl⟩ : ∃ n0 n1 : Int, v3 = .agg #[.int .i64 n0, .int .i64 n1] := by
  obtain ⟨w0, w1, z0, z1, m, rfl, _, _, g0, g1⟩ := open_agg2 Tryz.underlying27 (by kernel_rfl) cells27 (hval 3 27 v3 rfl rfl) h3; obtain ⟨b0, c0, _, _⟩ := DataW.trod_int Tryz.underlying3 g0; obtain ⟨b1, c1, _, _⟩ := DataW.trod_int Tryz.underlying3 g1; simp only [List.cons.injEq, and_true] at c0 c1; subst c0 c1; exact ⟨b0, b1, rfl⟩
 obtain ⟨a4, len4, cap4, rfl⟩ := okWide_slice Tryz.underlying28 (hval 4 28 v4 rfl rfl)
 obtain ⟨l, hlen, hcap, hC, hids⟩ : ∃ l : List S40, len4 = l.length ∧ l.length ≤ cap4 ∧ Kd.C k40 W a4 l.length l ∧ ∀ s ∈ l, (Lit.int .i64 s.f1).wf = true ∧ s.f4.length ≤ maxLen ∧ ∀ x ∈ s.f4, x.f0.size ≤ maxLen := by
  obtain ⟨fuel, hf⟩ := h4; obtain ⟨A, c, l, hcs, hl, _, hC, hw⟩ := open_rows (d := k40) Tryz.underlying28 cells40 elem_step hf; simp [Value.cells] at hcs
  obtain ⟨rfl, rfl, rfl⟩ := hcs; exact ⟨l, rfl, hl, hC, hw⟩
 subst hlen; clear hA0 hval0 hsz0; have main := twice_calls W V An cn nodes As cs shards hP sh n ⟨n0, n1⟩ a4 cap4 l hC hcap hids; refine main.mono fun e W' ⟨he, bel⟩ => ?_; subst he; exact ⟨_, rfl, _, _, _, [], _, [], hW', trodAll_mk1 (shut_bool Tryz.underlying4 _), (trodAll_cons_mk (Below.trod laidOut (by kernel_rfl) (of_decide_eq_true (by kernel_rfl)) k0 bel lt0) (trodAll_cons_mk (Below.trod laidOut (by kernel_rfl) (of_decide_eq_true (by kernel_rfl)) k1 bel lt1) (trodAll_cons_mk (Below.trod laidOut (by kernel_rfl) (of_decide_eq_true (by kernel_rfl)) k2 bel lt2) (trodAll_cons_mk (Below.trod laidOut (by kernel_rfl) (of_decide_eq_true (by kernel_rfl)) k3 bel lt3) (trodAll_cons_mk (Below.trod laidOut (by kernel_rfl) (of_decide_eq_true (by kernel_rfl)) k4 bel lt4) trodAll_mk0))))), rfl, bel.frame _, fun h => by cases h⟩
theorem said : Rows.BootstrapTwiceSaid :=
 OpenClaim.holds_of_wide 3 Tryz.f3 rfl rfl rfl rfl rfl rfl rfl ⟨rfl, rfl, rfl, rfl, rfl⟩ rfl rfl rfl rfl rfl (by kernel_rfl) Tryz.func3 (by kernel_rfl)
  (of_decide_eq_true (by kernel_rfl)) (by unfold Func.isWrapper; (rw [if_neg (by decide +kernel)]; exact ⟨rfl, rfl⟩))
  (fun os started H enc _ => lifted os started H enc)
end TwRow
/-- BootstrapTwice is true for every input; the input reads as it did. -/
theorem bootstrapTwice_holds : Rows.BootstrapTwiceSaid := TwRow.said
#print axioms bootstrapTwice_holds
end Go.Proofs.YtiinmagnpkfbbaaGreat
