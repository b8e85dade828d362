/- PeersScript: whatever a fetch begins with, whatever messages come, fitted or not: the Go function returns true, and its arguments read as before. -/
import Derived.Test.YtgagcimfkmegnaaRows
import Derived.Test.YtgagcimfkmegnaaPScript
set_option maxRecDepth 100000
namespace Go.Proofs.Ytgagcimfkmegnaa
set_option linter.unusedVariables false
set_option linter.unusedSimpArgs false
open Go.ChangeShapes Go.WideShapes Go.ChangeAt Go.RowKit Go.Joins Go.Deep Go.Proofs.YtgagcimfkmegnaaW.PrintWords Go.Proofs.YtgagcimfkmegnaaW.PrintLast Go.Proofs.YtgagcimfkmegnaaW.PrintMore Go.Proofs.Ytgagcimfkmegnaa.QT
open Go.ChangeMaps (open_string shut_string)
namespace PsRow
open OpenRows
theorem laidOut : laidOutB Try.prog = true := by kernel_rfl
theorem own : ownKnob Try.prog.godebug = none := by kernel_rfl
theorem cells3 : Try.prog.cellsOf 3 = 1 := by kernel_rfl
theorem cells4 : Try.prog.cellsOf 4 = 1 := by kernel_rfl
theorem cells9 : Try.prog.cellsOf 9 = 1 := by kernel_rfl
theorem cells22 : Try.prog.cellsOf 22 = 1 := by kernel_rfl
theorem cells23 : Try.prog.cellsOf 23 = 1 := by kernel_rfl
theorem cells25 : Try.prog.cellsOf 25 = 4 := by kernel_rfl
theorem cells30 : Try.prog.cellsOf 30 = 2 := by kernel_rfl
theorem cells32 : Try.prog.cellsOf 32 = 7 := by kernel_rfl
theorem cells40 : Try.prog.cellsOf 40 = 1 := by kernel_rfl
theorem cells42 : Try.prog.cellsOf 42 = 3 := by kernel_rfl
theorem cells43 : Try.prog.cellsOf 43 = 1 := by kernel_rfl
theorem cells44 : Try.prog.cellsOf 44 = 1 := by kernel_rfl
theorem cells46 : Try.prog.cellsOf 46 = 16 := by kernel_rfl
section
variable {H : Type} {enc : TypeId × Value → H} {w : World}
theorem field_some {P : Program} {base : Nat} {spare : Nat → Bool} {held : Bool} {t : TypeId} {fs : Array Field} {fuel : Nat} {cs : List Value} {x : DataW H × List MemPlace} (ht : P.underlying t = some (.struct fs)) (h : DataW.trod enc P w base spare held fuel t cs = some x) :
  ∃ n, ∀ (i : Nat) (ty : TypeId) (off k : Nat), fs[i]?.map (fun f => (f.type, f.offset)) = some (ty, off) → P.cellsOf ty = k → ∃ y, DataW.trod enc P w base spare held n ty ((cs.drop off).take k) = some y := by
 obtain ⟨xs, n, _, rfl, hl, hlen, hf⟩ := DataW.trod_struct ht h; refine ⟨n, fun i ty off k hi hk => ?_⟩; obtain ⟨f, h3, h4⟩ := Option.map_eq_some_iff.1 hi; have h1 := hf i f h3; have h2 : i < xs.length := by rw [hlen]; exact (Array.getElem?_eq_some_iff.1 h3).1
 rw [List.getElem?_eq_getElem h2] at h1; cases h4; subst hk; exact ⟨_, h1⟩
instance : Inhabited S42 := ⟨z42⟩
theorem elem_point : Elem enc Try.prog w 0 (fun _ => true) true 42 k42 (fun s => True) := by
 intro n cs x hl0 h; have hl : cs.length = 3 := hl0; obtain ⟨n', hf⟩ := field_some Try.underlying42 h
 obtain ⟨v0, v1, v2, rfl⟩ : ∃ v0 v1 v2, cs = [v0, v1, v2] := by
  match cs, hl with
  | [v0, v1, v2], _ => exact ⟨v0, v1, v2, rfl⟩
 obtain ⟨y0, g0⟩ := hf 0 3 0 1 rfl cells3; have e0 : DataW.trod enc Try.prog w 0 (fun _ => true) true n' 3 [v0] = some y0 := g0; obtain ⟨y1, g1⟩ := hf 1 40 1 1 rfl cells40; have e1 : DataW.trod enc Try.prog w 0 (fun _ => true) true n' 40 [v1] = some y1 := g1; obtain ⟨y2, g2⟩ := hf 2 40 2 1 rfl cells40; have e2 : DataW.trod enc Try.prog w 0 (fun _ => true) true n' 40 [v2] = some y2 := g2; obtain ⟨b0, c0, _, _⟩ := DataW.trod_int Try.underlying3 e0; obtain ⟨b1, c1, _, _⟩ := DataW.trod_int Try.underlying40 e1; obtain ⟨b2, c2, _, _⟩ := DataW.trod_int Try.underlying40 e2; simp only [List.cons.injEq, and_true] at c0 c1 c2; subst c0 c1 c2; exact ⟨⟨b0, b1, b2⟩, k42_mk w ⟨b0, b1, b2⟩, trivial⟩
instance : Inhabited S25 := ⟨z25⟩
theorem elem_meta : Elem enc Try.prog w 0 (fun _ => true) true 25 k25 (fun s => True) := by
 intro n cs x hl0 h; have hl : cs.length = 4 := hl0; obtain ⟨n', hf⟩ := field_some Try.underlying25 h
 obtain ⟨v0, v1, v2, v3, rfl⟩ : ∃ v0 v1 v2 v3, cs = [v0, v1, v2, v3] := by
  match cs, hl with
  | [v0, v1, v2, v3], _ => exact ⟨v0, v1, v2, v3, rfl⟩
 obtain ⟨y0, g0⟩ := hf 0 9 0 1 rfl cells9; have e0 : DataW.trod enc Try.prog w 0 (fun _ => true) true n' 9 [v0] = some y0 := g0; obtain ⟨y1, g1⟩ := hf 1 3 1 1 rfl cells3; have e1 : DataW.trod enc Try.prog w 0 (fun _ => true) true n' 3 [v1] = some y1 := g1; obtain ⟨y2, g2⟩ := hf 2 3 2 1 rfl cells3; have e2 : DataW.trod enc Try.prog w 0 (fun _ => true) true n' 3 [v2] = some y2 := g2; obtain ⟨y3, g3⟩ := hf 3 23 3 1 rfl cells23; have e3 : DataW.trod enc Try.prog w 0 (fun _ => true) true n' 23 [v3] = some y3 := g3; obtain ⟨b0, c0, _, _⟩ := DataW.trod_string Try.underlying9 e0; obtain ⟨b1, c1, _, _⟩ := DataW.trod_int Try.underlying3 e1; obtain ⟨b2, c2, _, _⟩ := DataW.trod_int Try.underlying3 e2; obtain ⟨b3, c3, _, _⟩ := DataW.trod_int Try.underlying23 e3; simp only [List.cons.injEq, and_true] at c0 c1 c2 c3; subst c0 c1 c2 c3; exact ⟨⟨b0, b1, b2, b3⟩, k25_mk w ⟨b0, b1, b2, b3⟩, trivial⟩
instance : Inhabited S46 := ⟨z46⟩
theorem elem_msg : Elem enc Try.prog w 0 (fun _ => true) true 46 k46 (fun s => s.f12.length ≤ maxLen) := by
 intro n cs x hl0 h; have hl : cs.length = 16 := hl0; obtain ⟨n', hf⟩ := field_some Try.underlying46 h
 obtain ⟨v0, v1, v2, v3, v4, v5, v6, v7, v8, v9, v10, v11, v12, v13, v14, v15, rfl⟩ : ∃ v0 v1 v2 v3 v4 v5 v6 v7 v8 v9 v10 v11 v12 v13 v14 v15, cs = [v0, v1, v2, v3, v4, v5, v6, v7, v8, v9, v10, v11, v12, v13, v14, v15] := by
  match cs, hl with
  | [v0, v1, v2, v3, v4, v5, v6, v7, v8, v9, v10, v11, v12, v13, v14, v15], _ => exact ⟨v0, v1, v2, v3, v4, v5, v6, v7, v8, v9, v10, v11, v12, v13, v14, v15, rfl⟩
 obtain ⟨y0, g0⟩ := hf 0 3 0 1 rfl cells3; have e0 : DataW.trod enc Try.prog w 0 (fun _ => true) true n' 3 [v0] = some y0 := g0; obtain ⟨y1, g1⟩ := hf 1 3 1 1 rfl cells3; have e1 : DataW.trod enc Try.prog w 0 (fun _ => true) true n' 3 [v1] = some y1 := g1; obtain ⟨y2, g2⟩ := hf 2 3 2 1 rfl cells3; have e2 : DataW.trod enc Try.prog w 0 (fun _ => true) true n' 3 [v2] = some y2 := g2; obtain ⟨y3, g3⟩ := hf 3 3 3 1 rfl cells3; have e3 : DataW.trod enc Try.prog w 0 (fun _ => true) true n' 3 [v3] = some y3 := g3; obtain ⟨y4, g4⟩ := hf 4 3 4 1 rfl cells3; have e4 : DataW.trod enc Try.prog w 0 (fun _ => true) true n' 3 [v4] = some y4 := g4; obtain ⟨y5, g5⟩ := hf 5 9 5 1 rfl cells9; have e5 : DataW.trod enc Try.prog w 0 (fun _ => true) true n' 9 [v5] = some y5 := g5; obtain ⟨y6, g6⟩ := hf 6 3 6 1 rfl cells3; have e6 : DataW.trod enc Try.prog w 0 (fun _ => true) true n' 3 [v6] = some y6 := g6; obtain ⟨y7, g7⟩ := hf 7 30 7 2 rfl cells30; have e7 : DataW.trod enc Try.prog w 0 (fun _ => true) true n' 30 [v7, v8] = some y7 := g7; obtain ⟨y8, g8⟩ := hf 8 42 9 3 rfl cells42; have e8 : DataW.trod enc Try.prog w 0 (fun _ => true) true n' 42 [v9, v10, v11] = some y8 := g8; obtain ⟨y9, g9⟩ := hf 9 43 12 1 rfl cells43; have e9 : DataW.trod enc Try.prog w 0 (fun _ => true) true n' 43 [v12] = some y9 := g9; obtain ⟨y10, g10⟩ := hf 10 4 13 1 rfl cells4; have e10 : DataW.trod enc Try.prog w 0 (fun _ => true) true n' 4 [v13] = some y10 := g10; obtain ⟨y11, g11⟩ := hf 11 44 14 1 rfl cells44; have e11 : DataW.trod enc Try.prog w 0 (fun _ => true) true n' 44 [v14] = some y11 := g11; obtain ⟨y12, g12⟩ := hf 12 22 15 1 rfl cells22; have e12 : DataW.trod enc Try.prog w 0 (fun _ => true) true n' 22 [v15] = some y12 := g12; obtain ⟨b0, c0, _, _⟩ := DataW.trod_int Try.underlying3 e0; obtain ⟨b1, c1, _, _⟩ := DataW.trod_int Try.underlying3 e1; obtain ⟨b2, c2, _, _⟩ := DataW.trod_int Try.underlying3 e2; obtain ⟨b3, c3, _, _⟩ := DataW.trod_int Try.underlying3 e3; obtain ⟨b4, c4, _, _⟩ := DataW.trod_int Try.underlying3 e4; obtain ⟨b5, c5, _, _⟩ := DataW.trod_string Try.underlying9 e5; obtain ⟨b6, c6, _, _⟩ := DataW.trod_int Try.underlying3 e6; obtain ⟨m7, hf7⟩ := field_some Try.underlying30 e7; obtain ⟨y7_0, g7_0⟩ := hf7 0 3 0 1 rfl cells3; have e7_0 : DataW.trod enc Try.prog w 0 (fun _ => true) true m7 3 [v7] = some y7_0 := g7_0; obtain ⟨b7_0, c7_0, _, _⟩ := DataW.trod_int Try.underlying3 e7_0; obtain ⟨y7_1, g7_1⟩ := hf7 1 3 1 1 rfl cells3; have e7_1 : DataW.trod enc Try.prog w 0 (fun _ => true) true m7 3 [v8] = some y7_1 := g7_1; obtain ⟨b7_1, c7_1, _, _⟩ := DataW.trod_int Try.underlying3 e7_1; obtain ⟨m8, hf8⟩ := field_some Try.underlying42 e8; obtain ⟨y8_0, g8_0⟩ := hf8 0 3 0 1 rfl cells3; have e8_0 : DataW.trod enc Try.prog w 0 (fun _ => true) true m8 3 [v9] = some y8_0 := g8_0; obtain ⟨b8_0, c8_0, _, _⟩ := DataW.trod_int Try.underlying3 e8_0; obtain ⟨y8_1, g8_1⟩ := hf8 1 40 1 1 rfl cells40; have e8_1 : DataW.trod enc Try.prog w 0 (fun _ => true) true m8 40 [v10] = some y8_1 := g8_1; obtain ⟨b8_1, c8_1, _, _⟩ := DataW.trod_int Try.underlying40 e8_1; obtain ⟨y8_2, g8_2⟩ := hf8 2 40 2 1 rfl cells40; have e8_2 : DataW.trod enc Try.prog w 0 (fun _ => true) true m8 40 [v11] = some y8_2 := g8_2; obtain ⟨b8_2, c8_2, _, _⟩ := DataW.trod_int Try.underlying40 e8_2; obtain ⟨b9, c9, _, _⟩ := DataW.trod_int Try.underlying43 e9; obtain ⟨b10, c10, _⟩ := DataW.trod_bool Try.underlying4 e10; obtain ⟨A1, n1, l1, c11, h1, _, hC1, _⟩ := open_rows (d := k42) Try.underlying44 cells42 elem_point e11; obtain ⟨A2, n2, l2, c12, h2, hm2, hC2, _⟩ := open_rows (d := k25) Try.underlying22 cells25 elem_meta e12; simp only [List.cons.injEq, and_true] at c0 c1 c2 c3 c4 c5 c6 c7_0 c7_1 c8_0 c8_1 c8_2 c9 c10 c11 c12; subst c0 c1 c2 c3 c4 c5 c6 c7_0 c7_1 c8_0 c8_1 c8_2 c9 c10 c11 c12; exact ⟨⟨b0, b1, b2, b3, b4, b5, b6, ⟨b7_0, b7_1⟩, ⟨b8_0, b8_1, b8_2⟩, b9, b10, l1, l2⟩, k46_mk w ⟨b0, b1, b2, b3, b4, b5, b6, ⟨b7_0, b7_1⟩, ⟨b8_0, b8_1, b8_2⟩, b9, b10, l1, l2⟩ h1 hC1 h2 hC2, hm2⟩
theorem open_begin {r : Reach} {b0 : Nat} {v : Value} {d : DataW H} {p : List MemPlace} (hv : Value.okWide Try.prog w r b0 32 v) (h : DataW.Trod enc Try.prog w 0 (fun _ => true) true 32 v d p) :
  ∃ sp sh sz f0 f1 ep seq : Int, v = .agg #[.int .i64 sp, .int .i64 sh, .int .i64 sz, .int .i64 f0, .int .i64 f1, .int .i64 ep, .int .i64 seq] := by
 obtain ⟨cs, rfl, hsz⟩ := okWide_struct Try.underlying32 hv; rw [cells32] at hsz; obtain ⟨fuel, h⟩ := h; obtain ⟨n', hf⟩ := field_some Try.underlying32 h; obtain ⟨L⟩ := cs
 obtain ⟨v0, v1, v2, v3, v4, v5, v6, rfl⟩ : ∃ v0 v1 v2 v3 v4 v5 v6, L = [v0, v1, v2, v3, v4, v5, v6] := by
  match L, hsz with
  | [v0, v1, v2, v3, v4, v5, v6], _ => exact ⟨v0, v1, v2, v3, v4, v5, v6, rfl⟩
 obtain ⟨y0, g0⟩ := hf 0 3 0 1 rfl cells3; have e0 : DataW.trod enc Try.prog w 0 (fun _ => true) true n' 3 [v0] = some y0 := g0; obtain ⟨y1, g1⟩ := hf 1 3 1 1 rfl cells3; have e1 : DataW.trod enc Try.prog w 0 (fun _ => true) true n' 3 [v1] = some y1 := g1; obtain ⟨y2, g2⟩ := hf 2 3 2 1 rfl cells3; have e2 : DataW.trod enc Try.prog w 0 (fun _ => true) true n' 3 [v2] = some y2 := g2; obtain ⟨y3, g3⟩ := hf 3 30 3 2 rfl cells30; have e3 : DataW.trod enc Try.prog w 0 (fun _ => true) true n' 30 [v3, v4] = some y3 := g3; obtain ⟨y4, g4⟩ := hf 4 3 5 1 rfl cells3; have e4 : DataW.trod enc Try.prog w 0 (fun _ => true) true n' 3 [v5] = some y4 := g4; obtain ⟨y5, g5⟩ := hf 5 3 6 1 rfl cells3; have e5 : DataW.trod enc Try.prog w 0 (fun _ => true) true n' 3 [v6] = some y5 := g5; obtain ⟨b0, c0, _, _⟩ := DataW.trod_int Try.underlying3 e0; obtain ⟨b1, c1, _, _⟩ := DataW.trod_int Try.underlying3 e1; obtain ⟨b2, c2, _, _⟩ := DataW.trod_int Try.underlying3 e2; obtain ⟨m3, hf3⟩ := field_some Try.underlying30 e3; obtain ⟨y3_0, g3_0⟩ := hf3 0 3 0 1 rfl cells3; have e3_0 : DataW.trod enc Try.prog w 0 (fun _ => true) true m3 3 [v3] = some y3_0 := g3_0; obtain ⟨b3_0, c3_0, _, _⟩ := DataW.trod_int Try.underlying3 e3_0; obtain ⟨y3_1, g3_1⟩ := hf3 1 3 1 1 rfl cells3; have e3_1 : DataW.trod enc Try.prog w 0 (fun _ => true) true m3 3 [v4] = some y3_1 := g3_1; obtain ⟨b3_1, c3_1, _, _⟩ := DataW.trod_int Try.underlying3 e3_1; obtain ⟨b4, c4, _, _⟩ := DataW.trod_int Try.underlying3 e4; obtain ⟨b5, c5, _, _⟩ := DataW.trod_int Try.underlying3 e5; simp only [List.cons.injEq, and_true] at c0 c1 c2 c3_0 c3_1 c4 c5; subst c0 c1 c2 c3_0 c3_1 c4 c5; exact ⟨b0, b1, b2, b3_0, b3_1, b4, b5, rfl⟩
end
theorem lifted (os : Os) (started : os.Started) (H : Type) (enc : TypeId × Value → H) :
  ReturnsInHanded {} Try.checked os 4 .any (Rows.peersScriptSpec.pre6 enc Try.prog Try.f4 Rows.peersScriptRow.domain false) (Rows.peersScriptSpec.post enc Try.prog Try.f4 false true false false) := by
 refine returnsInHanded_of_change_sized (C := Try.checked) own started (by kernel_rfl) Try.func4
  (ChangeSpec.witness6 (enc := enc) (C := Try.checked) false ⟨#[], #[.agg #[.int .i64 0, .int .i64 0, .int .i64 0, .int .i64 0, .int .i64 0, .int .i64 0, .int .i64 0], .slice none 0 0, .slice none 0 0], []⟩ 8 (by kernel_rfl) (by kernel_rfl) (by kernel_rfl) (by kernel_rfl)) ?_
 intro W base args ds gs before hval0 hW hcnd hsz0 _; have hval : ∀ (j : Nat) t v, Try.f4.params[j]? = some t → args[j]? = some v → Value.okWide Try.prog W .any base t v := hval0; have hW' := hW; obtain ⟨p, q, hA0, hV, rfl, hfz, hnd⟩ := hW; have hA : DataW.TrodAll enc Try.prog W 0 (fun _ => true) true Try.f4.params.toList args.toList ds p := hA0; rw [Try.params4] at hA hval; obtain ⟨v0, vs0, d0, ds0, p0, q0, hargs, rfl, rfl, h0, r0⟩ := trodAll_cons hA; obtain ⟨v1, vs1, d1, ds1, p1, q1, rfl, rfl, rfl, h1, r1⟩ := trodAll_cons r0; obtain ⟨v2, vs2, d2, ds2, p2, q2, rfl, rfl, rfl, h2, r2⟩ := trodAll_cons r1; obtain ⟨rfl, rfl, rfl⟩ := trodAll_nil r2; obtain rfl : args = #[v0, v1, v2] := by cases args; simp_all
 obtain ⟨rfl, rfl⟩ := trodVars_none hV; have k0 := h0; have k1 := h1; have k2 := h2; have lt0 : ∀ x ∈ p0, x.block < W.heap.size := by obtain ⟨m, hm⟩ := k0; exact DataW.trod_lt m _ _ _ hm
 have lt1 : ∀ x ∈ p1, x.block < W.heap.size := by obtain ⟨m, hm⟩ := k1; exact DataW.trod_lt m _ _ _ hm
 have lt2 : ∀ x ∈ p2, x.block < W.heap.size := by obtain ⟨m, hm⟩ := k2; exact DataW.trod_lt m _ _ _ hm
 obtain ⟨sp, sh, sz, f0, f1, ep, seq, rfl⟩ := open_begin (hval 0 32 v0 rfl rfl) h0; obtain ⟨a1, len1, cap1, rfl⟩ := okWide_slice Try.underlying33 (hval 1 33 v1 rfl rfl)
 obtain ⟨l, hlen, hcap, hml, hC, hids⟩ : ∃ l : List S46, len1 = l.length ∧ l.length ≤ cap1 ∧ l.length ≤ maxLen ∧ Kd.C k46 W a1 l.length l ∧ ∀ s ∈ l, s.f12.length ≤ maxLen := by
  obtain ⟨fuel, hf⟩ := h1; obtain ⟨A, c, l, hcs, hl, hm, hC, hw⟩ := open_rows (d := k46) Try.underlying33 cells46 elem_msg hf; simp [Value.cells] at hcs
  obtain ⟨rfl, rfl, rfl⟩ := hcs; exact ⟨l, rfl, hl, hm, hC, hw⟩
 subst hlen; obtain ⟨a2, len2, cap2, rfl⟩ := okWide_slice Try.underlying34 (hval 2 34 v2 rfl rfl)
 obtain ⟨fit, hlen2, hF⟩ : ∃ fit : List Bool, len2 = fit.length ∧ Kd.C Kd.bool W a2 fit.length fit := by
  obtain ⟨fuel, hf⟩ := h2; obtain ⟨A, c, l, hcs, hl, hm, hC, hw⟩ := open_rows (d := Kd.bool) Try.underlying34 cells4 (elem_bool Try.underlying4) hf; simp [Value.cells] at hcs
  obtain ⟨rfl, rfl, rfl⟩ := hcs; exact ⟨l, rfl, hC⟩
 subst hlen2; clear hA0 hval0 hsz0; unfold maxLen at hml hids; have main := Ps.script_calls W sp sh sz ⟨f0, f1⟩ ep seq a1 cap1 l a2 cap2 fit hC hcap (by omega) (fun s hs => by have := hids s hs; omega) hF; refine main.mono fun e W' ⟨he, bel⟩ => ?_; subst he; exact ⟨_, rfl, _, _, _, [], _, [], hW', trodAll_mk1 (shut_bool Try.underlying4 _), (trodAll_cons_mk (Below.trod laidOut (by kernel_rfl) (of_decide_eq_true (by kernel_rfl)) k0 bel lt0) (trodAll_cons_mk (Below.trod laidOut (by kernel_rfl) (of_decide_eq_true (by kernel_rfl)) k1 bel lt1) (trodAll_cons_mk (Below.trod laidOut (by kernel_rfl) (of_decide_eq_true (by kernel_rfl)) k2 bel lt2) trodAll_mk0))), rfl, bel.frame _, fun h => by cases h⟩
theorem said : Rows.PeersScriptSaid :=
 OpenClaim.holds_of_wide 4 Try.f4 rfl rfl rfl rfl rfl rfl rfl ⟨rfl, rfl, rfl, rfl, rfl⟩ rfl rfl rfl rfl rfl (by kernel_rfl) Try.func4 (by kernel_rfl)
  (of_decide_eq_true (by kernel_rfl)) (by unfold Func.isWrapper; (rw [if_neg (by decide +kernel)]; exact ⟨rfl, rfl⟩))
  (fun os started H enc _ => lifted os started H enc)
end PsRow
/-- PeersScript is true for every input; the input reads as it did. -/
theorem peersScript_holds : Rows.PeersScriptSaid := PsRow.said
#print axioms peersScript_holds
end Go.Proofs.Ytgagcimfkmegnaa
