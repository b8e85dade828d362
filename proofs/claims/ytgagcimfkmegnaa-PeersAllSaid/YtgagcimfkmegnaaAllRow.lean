/- PeersAll: whatever series the other one has, whatever else is heard: the Go function returns true, and its arguments read as before. -/
import Derived.Lib.SmallJoins
import Derived.Test.YtgagcimfkmegnaaRows
import Derived.Test.YtgagcimfkmegnaaAll
section
namespace Go.Proofs.Ytgagcimfkmegnaa
set_option linter.unusedVariables false
set_option linter.unusedSimpArgs false
open Go.ChangeShapes Go.WideShapes Go.ChangeAt Go.RowKit Go.Joins Go.Deep Go.Proofs.YtgagcimfkmegnaaW.PrintWords
namespace OpenRows
section
variable {H : Type} {enc : TypeId × Value → H} {P : Program} {w : World} {base : Nat} {spare : Nat → Bool} {held : Bool}
/-- What the cells of one element say. -/
def Elem {α : Type} (enc : TypeId × Value → H) (P : Program) (w : World) (base : Nat) (spare : Nat → Bool) (held : Bool) (e : TypeId) (d : Kd α) (Pr : α → Prop) : Prop :=
 ∀ n cs x, cs.length = d.sz → DataW.trod enc P w base spare held n e cs = some x → ∃ y, d.K w y cs ∧ Pr y
theorem open_rows {α : Type} [Inhabited α] {d : Kd α} {t e : TypeId} {Pr : α → Prop} (ht : P.underlying t = some (.slice e)) (hC : P.cellsOf e = d.sz) (hd : Elem enc P w base spare held e d Pr) {fuel : Nat} {cs : List Value} {x : DataW H × List MemPlace} (h : DataW.trod enc P w base spare held fuel t cs = some x) :
  ∃ (A : Option Addr) (cap : Nat) (l : List α), cs = [.slice A l.length cap] ∧ l.length ≤ cap ∧ l.length ≤ maxLen ∧ d.C w A l.length l ∧ ∀ y ∈ l, Pr y := by
 rcases open_slice ht h with ⟨h0, _⟩ | ⟨a, len, cap, m, n, D, Pl, rfl, hb, hl, hm, hmm, rfl, hx⟩
 ·
  exact ⟨none, 0, [], h0, Nat.le_refl _, by simp, Kd.C_nil _ _, by simp⟩
 have hlm : len ≤ m := by rw [hmm]; split <;> omega
 have each : ∀ i, i < len → ∃ y : α, (∃ c, c.length = d.sz ∧ d.K w y c ∧ ∀ k u, c[k]? = some u → w.cell? (a.add (i * d.sz + k)) = some u) ∧ Pr y := by
  intro i hi; obtain ⟨cs', h1, h2⟩ := hx i (by omega); rw [hC] at h1; obtain ⟨_, hlen, hcell⟩ := World.cells?_some h1; obtain ⟨y, hK, hP⟩ := hd n cs' _ hlen h2; refine ⟨y, ⟨cs', hlen, hK, fun k u hu => ?_⟩, hP⟩; obtain ⟨hk, hget⟩ := List.getElem?_eq_some_iff.1 hu; have := hcell k (by omega); rw [Addr.add_add] at this; rw [this]; simpa using hu
 obtain ⟨Y, hY⟩ := choose_lt each; refine ⟨some a, cap, (List.range len).map Y, by simp, by simpa using hl, by simp only [List.length_map, List.length_range]; exact Nat.le_trans hl hm, ⟨by simp, by simp only [List.length_map, List.length_range]; unfold maxLen at hm; omega, fun hp => ⟨a, rfl, fun j p hj => ?_⟩⟩, fun p hp => ?_⟩
 ·
  have hjl : j < len := by have := (List.getElem?_eq_some_iff.1 hj).1; simpa using this
  have hp : p = Y j := by
   rw [List.getElem?_map, List.getElem?_range hjl] at hj; exact (Option.some.inj hj).symm
  subst hp; exact (hY j hjl).1
 ·
  obtain ⟨j, hj, rfl⟩ := List.mem_map.1 hp; exact (hY j (List.mem_range.1 hj)).2
end
end OpenRows
end Go.Proofs.Ytgagcimfkmegnaa
end
section
set_option maxRecDepth 100000
namespace Go.Proofs.Ytgagcimfkmegnaa
set_option linter.unusedVariables false
set_option linter.unusedSimpArgs false
open Go.ChangeShapes Go.WideShapes Go.ChangeAt Go.RowKit Go.Joins Go.Deep Go.Proofs.YtgagcimfkmegnaaW.PrintWords Go.Proofs.YtgagcimfkmegnaaW.PrintLast Go.Proofs.YtgagcimfkmegnaaW.PrintMore Go.Proofs.Ytgagcimfkmegnaa.QT
open Go.ChangeMaps (open_string shut_string)
namespace AllRow
open OpenRows
theorem laidOut : laidOutB Try.prog = true := by kernel_rfl
theorem own : ownKnob Try.prog.godebug = none := by kernel_rfl
theorem cells3 : Try.prog.cellsOf 3 = 1 := by kernel_rfl
theorem cells4 : Try.prog.cellsOf 4 = 1 := by kernel_rfl
theorem cells9 : Try.prog.cellsOf 9 = 1 := by kernel_rfl
theorem cells22 : Try.prog.cellsOf 22 = 1 := by kernel_rfl
theorem cells23 : Try.prog.cellsOf 23 = 1 := by kernel_rfl
theorem cells25 : Try.prog.cellsOf 25 = 4 := by kernel_rfl
theorem cells30 : Try.prog.cellsOf 30 = 2 := by kernel_rfl
theorem cells40 : Try.prog.cellsOf 40 = 1 := by kernel_rfl
theorem cells42 : Try.prog.cellsOf 42 = 3 := by kernel_rfl
theorem cells43 : Try.prog.cellsOf 43 = 1 := by kernel_rfl
theorem cells44 : Try.prog.cellsOf 44 = 1 := by kernel_rfl
theorem cells46 : Try.prog.cellsOf 46 = 16 := by kernel_rfl
theorem cells65 : Try.prog.cellsOf 65 = 2 := by kernel_rfl
section
variable {H : Type} {enc : TypeId × Value → H} {w : World}
theorem field_some {P : Program} {base : Nat} {spare : Nat → Bool} {held : Bool} {t : TypeId} {fs : Array Field} {fuel : Nat} {cs : List Value} {x : DataW H × List MemPlace} (ht : P.underlying t = some (.struct fs)) (h : DataW.trod enc P w base spare held fuel t cs = some x) :
  ∃ n, ∀ (i : Nat) (ty : TypeId) (off k : Nat), fs[i]?.map (fun f => (f.type, f.offset)) = some (ty, off) → P.cellsOf ty = k → ∃ y, DataW.trod enc P w base spare held n ty ((cs.drop off).take k) = some y := by
 obtain ⟨xs, n, _, rfl, hl, hlen, hf⟩ := DataW.trod_struct ht h; refine ⟨n, fun i ty off k hi hk => ?_⟩; obtain ⟨f, h3, h4⟩ := Option.map_eq_some_iff.1 hi; have h1 := hf i f h3; have h2 : i < xs.length := by rw [hlen]; exact (Array.getElem?_eq_some_iff.1 h3).1
 rw [List.getElem?_eq_getElem h2] at h1; cases h4; subst hk; exact ⟨_, h1⟩
instance : Inhabited S42 := ⟨z42⟩
theorem elem_point : Elem enc Try.prog w 0 (fun _ => true) true 42 k42 (fun s => True) := by
 intro n cs x hl0 h; have hl : cs.length = 3 := hl0; obtain ⟨n', hf⟩ := field_some Try.underlying42 h
 obtain ⟨v0, v1, v2, rfl⟩ : ∃ v0 v1 v2, cs = [v0, v1, v2] := by
  match cs, hl with
  | [v0, v1, v2], _ => exact ⟨v0, v1, v2, rfl⟩
 obtain ⟨y0, g0⟩ := hf 0 3 0 1 rfl cells3; have e0 : DataW.trod enc Try.prog w 0 (fun _ => true) true n' 3 [v0] = some y0 := g0; obtain ⟨y1, g1⟩ := hf 1 40 1 1 rfl cells40; have e1 : DataW.trod enc Try.prog w 0 (fun _ => true) true n' 40 [v1] = some y1 := g1; obtain ⟨y2, g2⟩ := hf 2 40 2 1 rfl cells40; have e2 : DataW.trod enc Try.prog w 0 (fun _ => true) true n' 40 [v2] = some y2 := g2; obtain ⟨b0, c0, _, _⟩ := DataW.trod_int Try.underlying3 e0; obtain ⟨b1, c1, _, _⟩ := DataW.trod_int Try.underlying40 e1; obtain ⟨b2, c2, _, _⟩ := DataW.trod_int Try.underlying40 e2; simp only [List.cons.injEq, and_true] at c0 c1 c2; subst c0 c1 c2; exact ⟨⟨b0, b1, b2⟩, k42_mk w ⟨b0, b1, b2⟩, trivial⟩
instance : Inhabited S25 := ⟨z25⟩
theorem elem_meta : Elem enc Try.prog w 0 (fun _ => true) true 25 k25 (fun s => True) := by
 intro n cs x hl0 h; have hl : cs.length = 4 := hl0; obtain ⟨n', hf⟩ := field_some Try.underlying25 h
 obtain ⟨v0, v1, v2, v3, rfl⟩ : ∃ v0 v1 v2 v3, cs = [v0, v1, v2, v3] := by
  match cs, hl with
  | [v0, v1, v2, v3], _ => exact ⟨v0, v1, v2, v3, rfl⟩
 obtain ⟨y0, g0⟩ := hf 0 9 0 1 rfl cells9; have e0 : DataW.trod enc Try.prog w 0 (fun _ => true) true n' 9 [v0] = some y0 := g0; obtain ⟨y1, g1⟩ := hf 1 3 1 1 rfl cells3; have e1 : DataW.trod enc Try.prog w 0 (fun _ => true) true n' 3 [v1] = some y1 := g1; obtain ⟨y2, g2⟩ := hf 2 3 2 1 rfl cells3; have e2 : DataW.trod enc Try.prog w 0 (fun _ => true) true n' 3 [v2] = some y2 := g2; obtain ⟨y3, g3⟩ := hf 3 23 3 1 rfl cells23; have e3 : DataW.trod enc Try.prog w 0 (fun _ => true) true n' 23 [v3] = some y3 := g3; obtain ⟨b0, c0, _, _⟩ := DataW.trod_string Try.underlying9 e0; obtain ⟨b1, c1, _, _⟩ := DataW.trod_int Try.underlying3 e1; obtain ⟨b2, c2, _, _⟩ := DataW.trod_int Try.underlying3 e2; obtain ⟨b3, c3, _, _⟩ := DataW.trod_int Try.underlying23 e3; simp only [List.cons.injEq, and_true] at c0 c1 c2 c3; subst c0 c1 c2 c3; exact ⟨⟨b0, b1, b2, b3⟩, k25_mk w ⟨b0, b1, b2, b3⟩, trivial⟩
instance : Inhabited S46 := ⟨z46⟩
theorem elem_msg : Elem enc Try.prog w 0 (fun _ => true) true 46 k46 (fun s => s.f12.length ≤ maxLen) := by
 intro n cs x hl0 h; have hl : cs.length = 16 := hl0; obtain ⟨n', hf⟩ := field_some Try.underlying46 h
 obtain ⟨v0, v1, v2, v3, v4, v5, v6, v7, v8, v9, v10, v11, v12, v13, v14, v15, rfl⟩ : ∃ v0 v1 v2 v3 v4 v5 v6 v7 v8 v9 v10 v11 v12 v13 v14 v15, cs = [v0, v1, v2, v3, v4, v5, v6, v7, v8, v9, v10, v11, v12, v13, v14, v15] := by
  match cs, hl with
  | [v0, v1, v2, v3, v4, v5, v6, v7, v8, v9, v10, v11, v12, v13, v14, v15], _ => exact ⟨v0, v1, v2, v3, v4, v5, v6, v7, v8, v9, v10, v11, v12, v13, v14, v15, rfl⟩
 obtain ⟨y0, g0⟩ := hf 0 3 0 1 rfl cells3; have e0 : DataW.trod enc Try.prog w 0 (fun _ => true) true n' 3 [v0] = some y0 := g0; obtain ⟨y1, g1⟩ := hf 1 3 1 1 rfl cells3; have e1 : DataW.trod enc Try.prog w 0 (fun _ => true) true n' 3 [v1] = some y1 := g1; obtain ⟨y2, g2⟩ := hf 2 3 2 1 rfl cells3; have e2 : DataW.trod enc Try.prog w 0 (fun _ => true) true n' 3 [v2] = some y2 := g2; obtain ⟨y3, g3⟩ := hf 3 3 3 1 rfl cells3; have e3 : DataW.trod enc Try.prog w 0 (fun _ => true) true n' 3 [v3] = some y3 := g3; obtain ⟨y4, g4⟩ := hf 4 3 4 1 rfl cells3; have e4 : DataW.trod enc Try.prog w 0 (fun _ => true) true n' 3 [v4] = some y4 := g4; obtain ⟨y5, g5⟩ := hf 5 9 5 1 rfl cells9; have e5 : DataW.trod enc Try.prog w 0 (fun _ => true) true n' 9 [v5] = some y5 := g5; obtain ⟨y6, g6⟩ := hf 6 3 6 1 rfl cells3; have e6 : DataW.trod enc Try.prog w 0 (fun _ => true) true n' 3 [v6] = some y6 := g6; obtain ⟨y7, g7⟩ := hf 7 30 7 2 rfl cells30; have e7 : DataW.trod enc Try.prog w 0 (fun _ => true) true n' 30 [v7, v8] = some y7 := g7; obtain ⟨y8, g8⟩ := hf 8 42 9 3 rfl cells42; have e8 : DataW.trod enc Try.prog w 0 (fun _ => true) true n' 42 [v9, v10, v11] = some y8 := g8; obtain ⟨y9, g9⟩ := hf 9 43 12 1 rfl cells43; have e9 : DataW.trod enc Try.prog w 0 (fun _ => true) true n' 43 [v12] = some y9 := g9; obtain ⟨y10, g10⟩ := hf 10 4 13 1 rfl cells4; have e10 : DataW.trod enc Try.prog w 0 (fun _ => true) true n' 4 [v13] = some y10 := g10; obtain ⟨y11, g11⟩ := hf 11 44 14 1 rfl cells44; have e11 : DataW.trod enc Try.prog w 0 (fun _ => true) true n' 44 [v14] = some y11 := g11; obtain ⟨y12, g12⟩ := hf 12 22 15 1 rfl cells22; have e12 : DataW.trod enc Try.prog w 0 (fun _ => true) true n' 22 [v15] = some y12 := g12; obtain ⟨b0, c0, _, _⟩ := DataW.trod_int Try.underlying3 e0; obtain ⟨b1, c1, _, _⟩ := DataW.trod_int Try.underlying3 e1; obtain ⟨b2, c2, _, _⟩ := DataW.trod_int Try.underlying3 e2; obtain ⟨b3, c3, _, _⟩ := DataW.trod_int Try.underlying3 e3; obtain ⟨b4, c4, _, _⟩ := DataW.trod_int Try.underlying3 e4; obtain ⟨b5, c5, _, _⟩ := DataW.trod_string Try.underlying9 e5; obtain ⟨b6, c6, _, _⟩ := DataW.trod_int Try.underlying3 e6; obtain ⟨m7, hf7⟩ := field_some Try.underlying30 e7; obtain ⟨y7_0, g7_0⟩ := hf7 0 3 0 1 rfl cells3; have e7_0 : DataW.trod enc Try.prog w 0 (fun _ => true) true m7 3 [v7] = some y7_0 := g7_0; obtain ⟨b7_0, c7_0, _, _⟩ := DataW.trod_int Try.underlying3 e7_0; obtain ⟨y7_1, g7_1⟩ := hf7 1 3 1 1 rfl cells3; have e7_1 : DataW.trod enc Try.prog w 0 (fun _ => true) true m7 3 [v8] = some y7_1 := g7_1; obtain ⟨b7_1, c7_1, _, _⟩ := DataW.trod_int Try.underlying3 e7_1; obtain ⟨m8, hf8⟩ := field_some Try.underlying42 e8; obtain ⟨y8_0, g8_0⟩ := hf8 0 3 0 1 rfl cells3; have e8_0 : DataW.trod enc Try.prog w 0 (fun _ => true) true m8 3 [v9] = some y8_0 := g8_0; obtain ⟨b8_0, c8_0, _, _⟩ := DataW.trod_int Try.underlying3 e8_0; obtain ⟨y8_1, g8_1⟩ := hf8 1 40 1 1 rfl cells40; have e8_1 : DataW.trod enc Try.prog w 0 (fun _ => true) true m8 40 [v10] = some y8_1 := g8_1; obtain ⟨b8_1, c8_1, _, _⟩ := DataW.trod_int Try.underlying40 e8_1; obtain ⟨y8_2, g8_2⟩ := hf8 2 40 2 1 rfl cells40; have e8_2 : DataW.trod enc Try.prog w 0 (fun _ => true) true m8 40 [v11] = some y8_2 := g8_2; obtain ⟨b8_2, c8_2, _, _⟩ := DataW.trod_int Try.underlying40 e8_2; obtain ⟨b9, c9, _, _⟩ := DataW.trod_int Try.underlying43 e9; obtain ⟨b10, c10, _⟩ := DataW.trod_bool Try.underlying4 e10; obtain ⟨A1, n1, l1, c11, h1, _, hC1, _⟩ := open_rows (d := k42) Try.underlying44 cells42 elem_point e11; obtain ⟨A2, n2, l2, c12, h2, hm2, hC2, _⟩ := open_rows (d := k25) Try.underlying22 cells25 elem_meta e12; simp only [List.cons.injEq, and_true] at c0 c1 c2 c3 c4 c5 c6 c7_0 c7_1 c8_0 c8_1 c8_2 c9 c10 c11 c12; subst c0 c1 c2 c3 c4 c5 c6 c7_0 c7_1 c8_0 c8_1 c8_2 c9 c10 c11 c12; exact ⟨⟨b0, b1, b2, b3, b4, b5, b6, ⟨b7_0, b7_1⟩, ⟨b8_0, b8_1, b8_2⟩, b9, b10, l1, l2⟩, k46_mk w ⟨b0, b1, b2, b3, b4, b5, b6, ⟨b7_0, b7_1⟩, ⟨b8_0, b8_1, b8_2⟩, b9, b10, l1, l2⟩ h1 hC1 h2 hC2, hm2⟩
instance : Inhabited S65 := ⟨z65⟩
theorem elem_series : Elem enc Try.prog w 0 (fun _ => true) true 65 k65 (fun s => s.f0.size ≤ maxLen) := by
 intro n cs x hl0 h; have hl : cs.length = 2 := hl0; obtain ⟨n', hf⟩ := field_some Try.underlying65 h
 obtain ⟨v0, v1, rfl⟩ : ∃ v0 v1, cs = [v0, v1] := by
  match cs, hl with
  | [v0, v1], _ => exact ⟨v0, v1, rfl⟩
 obtain ⟨y0, g0⟩ := hf 0 9 0 1 rfl cells9; have e0 : DataW.trod enc Try.prog w 0 (fun _ => true) true n' 9 [v0] = some y0 := g0; obtain ⟨y1, g1⟩ := hf 1 44 1 1 rfl cells44; have e1 : DataW.trod enc Try.prog w 0 (fun _ => true) true n' 44 [v1] = some y1 := g1; obtain ⟨b0, c0, _, hb0⟩ := DataW.trod_string Try.underlying9 e0; obtain ⟨A1, n1, l1, c1, h1, _, hC1, _⟩ := open_rows (d := k42) Try.underlying44 cells42 elem_point e1; simp only [List.cons.injEq, and_true] at c0 c1; subst c0 c1; exact ⟨⟨b0, l1⟩, k65_mk w ⟨b0, l1⟩ h1 hC1, hb0⟩
end
theorem lifted (os : Os) (started : os.Started) (H : Type) (enc : TypeId × Value → H) :
  ReturnsInHanded {} Try.checked os 5 .any (Rows.peersAllSpec.pre6 enc Try.prog Try.f5 Rows.peersAllRow.domain false) (Rows.peersAllSpec.post enc Try.prog Try.f5 false true false false) := by
 refine returnsInHanded_of_change_sized (C := Try.checked) own started (by kernel_rfl) Try.func5
  (ChangeSpec.witness6 (enc := enc) (C := Try.checked) false ⟨#[], #[.slice none 0 0, .slice none 0 0], []⟩ 8 (by kernel_rfl) (by kernel_rfl) (by kernel_rfl) (by kernel_rfl)) ?_
 intro W base args ds gs before hval0 hW hcnd hsz0 _; have hval : ∀ (j : Nat) t v, Try.f5.params[j]? = some t → args[j]? = some v → Value.okWide Try.prog W .any base t v := hval0; have hW' := hW; obtain ⟨p, q, hA0, hV, rfl, hfz, hnd⟩ := hW; have hA : DataW.TrodAll enc Try.prog W 0 (fun _ => true) true Try.f5.params.toList args.toList ds p := hA0; rw [Try.params5] at hA hval; obtain ⟨v0, vs0, d0, ds0, p0, q0, hargs, rfl, rfl, h0, r0⟩ := trodAll_cons hA; obtain ⟨v1, vs1, d1, ds1, p1, q1, rfl, rfl, rfl, h1, r1⟩ := trodAll_cons r0; obtain ⟨rfl, rfl, rfl⟩ := trodAll_nil r1; obtain rfl : args = #[v0, v1] := by cases args; simp_all
 obtain ⟨rfl, rfl⟩ := trodVars_none hV; have k0 := h0; have k1 := h1; have lt0 : ∀ x ∈ p0, x.block < W.heap.size := by obtain ⟨m, hm⟩ := k0; exact DataW.trod_lt m _ _ _ hm
 have lt1 : ∀ x ∈ p1, x.block < W.heap.size := by obtain ⟨m, hm⟩ := k1; exact DataW.trod_lt m _ _ _ hm
 obtain ⟨a0, len0, cap0, rfl⟩ := okWide_slice Try.underlying58 (hval 0 58 v0 rfl rfl)
 obtain ⟨l, hlen, hcap, hC, hids⟩ : ∃ l : List S65, len0 = l.length ∧ l.length ≤ cap0 ∧ Kd.C k65 W a0 l.length l ∧ ∀ s ∈ l, s.f0.size ≤ maxLen := by
  obtain ⟨fuel, hf⟩ := h0; obtain ⟨A, c, l, hcs, hl, hm, hC, hw⟩ := open_rows (d := k65) Try.underlying58 cells65 elem_series hf; simp [Value.cells] at hcs
  obtain ⟨rfl, rfl, rfl⟩ := hcs; exact ⟨l, rfl, hl, hC, hw⟩
 subst hlen; obtain ⟨a1, len1, cap1, rfl⟩ := okWide_slice Try.underlying33 (hval 1 33 v1 rfl rfl)
 obtain ⟨nz, hlen, hcap1, hml, hN, hmet⟩ : ∃ nz : List S46, len1 = nz.length ∧ nz.length ≤ cap1 ∧ nz.length ≤ maxLen ∧ Kd.C k46 W a1 nz.length nz ∧ ∀ s ∈ nz, s.f12.length ≤ maxLen := by
  obtain ⟨fuel, hf⟩ := h1; obtain ⟨A, c, l, hcs, hl, hm, hC, hw⟩ := open_rows (d := k46) Try.underlying33 cells46 elem_msg hf; simp [Value.cells] at hcs
  obtain ⟨rfl, rfl, rfl⟩ := hcs; exact ⟨l, rfl, hl, hm, hC, hw⟩
 subst hlen; clear hA0 hval0 hsz0; unfold maxLen at hml hmet; have main := Pa.all_calls W a0 cap0 l a1 cap1 nz hC hcap hN hcap1 (by omega) (fun s hs => by have := hmet s hs; omega) hids; refine main.mono fun e W' ⟨he, bel⟩ => ?_; subst he; exact ⟨_, rfl, _, _, _, [], _, [], hW', trodAll_mk1 (shut_bool Try.underlying4 _), (trodAll_cons_mk (Below.trod laidOut (by kernel_rfl) (of_decide_eq_true (by kernel_rfl)) k0 bel lt0) (trodAll_cons_mk (Below.trod laidOut (by kernel_rfl) (of_decide_eq_true (by kernel_rfl)) k1 bel lt1) trodAll_mk0)), rfl, bel.frame _, fun h => by cases h⟩
theorem said : Rows.PeersAllSaid :=
 OpenClaim.holds_of_wide 5 Try.f5 rfl rfl rfl rfl rfl rfl rfl ⟨rfl, rfl, rfl, rfl, rfl⟩ rfl rfl rfl rfl rfl (by kernel_rfl) Try.func5 (by kernel_rfl)
  (of_decide_eq_true (by kernel_rfl)) (by unfold Func.isWrapper; first | (rw [if_pos (by decide +kernel)]; kernel_rfl) | (rw [if_neg (by decide +kernel)]; exact ⟨rfl, rfl⟩))
  (fun os started H enc _ => lifted os started H enc)
end AllRow
/-- PeersAll is true for every input; the input reads as it did. -/
theorem peersAll_holds : Rows.PeersAllSaid := AllRow.said
#print axioms peersAll_holds
end Go.Proofs.Ytgagcimfkmegnaa
end
