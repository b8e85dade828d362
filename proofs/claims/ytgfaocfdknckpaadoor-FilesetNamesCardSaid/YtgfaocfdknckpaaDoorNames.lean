/-
FilesetNames: any volume's files have the document's names, or none. Of every key and every string: the Go function returns true, and its arguments read as before. The package-level tables that it reads start as the program's text lays them (the card ties them).
-/
import Derived.Test.YtgfaocfdknckpaaDoorCards
import Derived.Test.YtgfaocfdknckpaaDoorTie
import Derived.Test.YtgfaocfdknckpaaDoorPure
import Derived.WalkKit
import Derived.ProofKit
import Derived.OpenShut
import Derived.ShutString
import Derived.Deep.DeepHandedRow
import Derived.Deep.DeepWitnessRowRef
import Derived.Lib.LaidTab
import Derived.Lib.SmallJoins
import Derived.LaidMore
import Derived.LaidLaws
import Derived.Stop.LaidErr
import Derived.SizedLaws
namespace Go.Proofs.YtgfaocfdknckpaaDoor
open Go.ChangeShapes Go.WideShapes Go.ChangeAt Go.RowKit Go.Joins
open Go.ChangeMaps (open_string shut_string)
namespace NamesRow

theorem laidOut : laidOutB Tryd.prog = true := by kernel_rfl
theorem own : ownKnob Tryd.prog.godebug = none := by kernel_rfl
theorem gParts : Tryd.prog.globalNamed "thermograph/fileset.parts" = some 0 := by kernel_rfl
theorem tParts : (Tryd.prog.globals[0]?).map (·.type) = some 30 := by kernel_rfl
theorem cells30 : Tryd.prog.cellsOf 30 = 7 := by kernel_rfl
theorem cells9 : Tryd.prog.cellsOf 9 = 1 := by kernel_rfl
theorem cells23 : Tryd.prog.cellsOf 23 = 4 := by kernel_rfl
theorem gPow : Tryd.prog.globalNamed "internal/strconv.uint64pow10" = some 1 := by kernel_rfl
theorem tPow : (Tryd.prog.globals[1]?).map (·.type) = some 49 := by kernel_rfl
theorem cellsPow : Tryd.prog.cellsOf 49 = 20 := by kernel_rfl
theorem cells41 : Tryd.prog.cellsOf 41 = 1 := by kernel_rfl

/-- An array of strings that reads as these texts holds just them, cell for cell. -/
theorem cells_of_texts {H : Type} {enc : TypeId × Value → H} {P : Program} {w : World} {base : Nat} {sp : Nat → Bool} {held : Bool} {fuel : Nat} {t e : TypeId} {n : Nat} {cs : List Value} {zs : List (List UInt8)} {p : List MemPlace}
    (ht : P.underlying t = some (.array n e)) (he : P.underlying e = some .string) (hce : P.cellsOf e = 1) (hct : P.cellsOf t = n)
    (h : DataW.trod enc P w base sp held fuel t cs = some (.agg (zs.map fun z => .lit (.string z)), p)) : cs = zs.map fun z => Value.string ⟨z.toArray⟩ := by
  obtain ⟨xs, m, rfl, hx, hlen, hn, hel⟩ := DataW.trod_array ht h
  simp only [Prod.mk.injEq, DataW.agg.injEq] at hx
  have hxs := hx.1
  have hzl : zs.length = n := by have := congrArg List.length hxs; simp at this; omega
  rw [hct] at hlen
  rw [hce] at hel
  apply List.ext_getElem?
  intro i
  by_cases hi : i < n
  · have hf := hel i hi
    have hxi : xs[i]? = some (xs[i]'(by omega)) := List.getElem?_eq_getElem (by omega)
    rw [hxi] at hf
    obtain ⟨s, hc, hs, _⟩ := DataW.trod_string he hf
    have h1 : cs[i]? = some (.string s) := by
      have := congrArg (·[0]?) hc
      simpa [List.getElem?_take, List.getElem?_drop] using this
    have h2 : (zs.map fun z => (DataW.lit (.string z) : DataW H))[i]? = some (xs[i]'(by omega)).1 := by rw [hxs]; simp [hxi]
    rw [hs] at h2
    simp only [List.getElem?_map, Option.map_eq_some_iff, DataW.lit.injEq, Lit.string.injEq] at h2
    obtain ⟨z', hz', e'⟩ := h2
    rw [h1]
    simp only [List.getElem?_map, hz', Option.map_some, e', Array.toArray_toList]
  · rw [List.getElem?_eq_none (by omega), List.getElem?_eq_none (by simp; omega)]

/-- WHAT THE ROW's LIST GIVES. -/
theorem glob_at {W : World} (h : laidMet Tryd.prog Rows.filesetNamesRow.laid W) : GlobAt W where
  pow := Lib.tabIs_of_head (zs := Lib.pow10Tab) gPow tPow Tryd.underlying49 Tryd.underlying41 cells41 cellsPow h.tail.tail
  parts := by
    obtain ⟨ps, ⟨g', t', cs, fuel, p, q, hg', ht', hvar, hd, _, _⟩, _⟩ := h.tail.tail.tail
    obtain rfl := Option.some.inj (gParts.symm.trans hg')
    obtain rfl := Option.some.inj (tParts.symm.trans ht')
    have hc := cells_of_texts (zs := [[105, 110, 102, 111], [105, 110, 100, 101, 120], [115, 117, 109, 109, 97, 114, 121], [98, 108, 111, 111, 109], [100, 97, 116, 97], [100, 105, 103, 101, 115, 116], [99, 104, 101, 99, 107]]) Tryd.underlying30 Tryd.underlying9 cells9 cells30 hd
    have hcs : cs = partsCells := by
      have := congrArg List.toArray hc
      simpa [partsCells] using this
    unfold World.var? at hvar
    rw [gParts, Option.bind_some] at hvar
    split at hvar
    · rename_i cs' t fr hh
      have e := Option.some.inj hvar
      exact ⟨t, fr, by rw [hh, e, hcs]⟩
    · cases hvar
theorem glob {W : World} (h : laidMet Tryd.prog Rows.filesetNamesRow.laid W) (h0 : 2 ≤ W.heap.size) : Glob W := fun W2 hb => by
  have g := glob_at h
  obtain ⟨t, fr, hp⟩ := g.parts
  exact ⟨var?_below hb gPow (by omega) g.pow, t, fr, (hb.block 0 (by omega)).trans hp⟩
theorem globals_there {W : World} (h : laidMet Tryd.prog Rows.filesetNamesRow.laid W) : 2 ≤ W.heap.size := by
  have hp := (glob_at h).pow
  unfold Lib.TabIs World.var? at hp
  rw [gPow, Option.bind_some] at hp
  split at hp
  · rename_i hh
    have := (Array.getElem?_eq_some_iff.1 hh).1
    omega
  · cases hp

/-- WHAT THE WALK GIVES, FOR EVERY ARGUMENT AND EVERY WORLD THAT HOLDS THE TABLES. -/
theorem contract (H : Type) (enc : TypeId × Value → H) (W : World) (base : Nat) (args : Array Value) (ds gs : List (DataW H)) (before : List MemPlace)
    (hval : ∀ (j : Nat) t v, Tryd.f3.params[j]? = some t → args[j]? = some v → Value.okWide Tryd.prog W .any base t v)
    (hW : DataW.Whole enc Tryd.prog Tryd.f3.params.toList Rows.filesetNamesSpec.vars false W args.toList ds gs before) (hL : laidMet Tryd.prog Rows.filesetNamesRow.laid W) :
    Calls Tryd.prog 3 args W fun e W' => ∃ v, e = .returned v ∧ Rows.filesetNamesSpec.post enc Tryd.prog Tryd.f3 false true false false W args v W' := by
  have hW' := hW
  obtain ⟨p, q, hA0, hV, rfl, hfz, hnd⟩ := hW
  have hA : DataW.TrodAll enc Tryd.prog W 0 (fun _ => true) true Tryd.f3.params.toList args.toList ds p := hA0
  rw [Tryd.params3] at hA hval
  obtain ⟨v0, vs0, d0, ds0, p0, q0, hargs, rfl, rfl, h0, r0⟩ := trodAll_cons hA
  obtain ⟨v1, vs1, d1, ds1, p1, q1, rfl, rfl, rfl, h1, r1⟩ := trodAll_cons r0
  obtain ⟨rfl, rfl, rfl⟩ := trodAll_nil r1
  obtain rfl : args = #[v0, v1] := by cases args; simp_all
  obtain ⟨rfl, rfl⟩ := trodVars_none hV
  have k0 := h0
  have k1 := h1
  have lt0 : ∀ x ∈ p0, x.block < W.heap.size := by obtain ⟨m, hm⟩ := k0; exact DataW.trod_lt m _ _ _ hm
  have lt1 : ∀ x ∈ p1, x.block < W.heap.size := by obtain ⟨m, hm⟩ := k1; exact DataW.trod_lt m _ _ _ hm
  obtain ⟨c0, c1, c2, c3, y0, y1, y2, y3, m, rfl, rfl, rfl, hy0, hy1, hy2, hy3⟩ := open_agg4 Tryd.underlying23 (by kernel_rfl) cells23 (hval 0 23 v0 rfl rfl) h0
  obtain ⟨a0, e0, rfl, w0⟩ := DataW.trod_int Tryd.underlying3 hy0
  obtain ⟨a1, e1, rfl, w1⟩ := DataW.trod_int Tryd.underlying3 hy1
  obtain ⟨a2, e2, rfl, w2⟩ := DataW.trod_int Tryd.underlying3 hy2
  obtain ⟨a3, e3, rfl, w3⟩ := DataW.trod_int Tryd.underlying3 hy3
  simp at e0 e1 e2 e3
  subst e0 e1 e2 e3
  obtain ⟨s, rfl, rfl, rfl, ws⟩ := open_string Tryd.underlying9 (hval 1 9 v1 rfl rfl) h1
  clear hA0
  refine (QB.thermographlaw10_FilesetNames.calls 17 a0 a1 a2 a3 s true W (glob hL (globals_there hL)) (names_pure a0 a1 a2 a3 s)).mono fun e W' ⟨he, bel⟩ => ?_
  subst he
  exact ⟨_, rfl, _, _, _, [], _, [], hW', trodAll_mk1 (shut_bool Tryd.underlying4 _), (trodAll_cons_mk (Below.trod laidOut (by kernel_rfl) (of_decide_eq_true (by kernel_rfl)) k0 bel lt0) (trodAll_cons_mk (Below.trod laidOut (by kernel_rfl) (of_decide_eq_true (by kernel_rfl)) k1 bel lt1) trodAll_mk0)), rfl, bel.frame _, fun h => by cases h⟩

theorem laid_met (os : Os) : laidMet Tryd.prog Rows.filesetNamesRow.laid ((World.doorLaid Tryd.prog 29 os).forCall (fun _ _ => 0) ⟨#[], #[.agg #[.int .i64 0, .int .i64 0, .int .i64 0, .int .i64 0], .string ByteArray.empty], []⟩).memory :=
  laidMet_of_run' 8 (by kernel_rfl) (by kernel_rfl)
theorem reads (os : Os) {H : Type} (enc : TypeId × Value → H) : ∃ places, DataW.whole enc Tryd.prog ((World.doorLaid Tryd.prog 29 os).forCall (fun _ _ => 0) ⟨#[], #[.agg #[.int .i64 0, .int .i64 0, .int .i64 0, .int .i64 0], .string ByteArray.empty], []⟩).memory Tryd.f3.params.toList Rows.filesetNamesSpec.vars false #[Value.agg #[.int .i64 0, .int .i64 0, .int .i64 0, .int .i64 0], .string ByteArray.empty].toList 8 = some ([.agg [.lit (.int .i64 0), .lit (.int .i64 0), .lit (.int .i64 0), .lit (.int .i64 0)], .lit (.string [])], [], places) :=
  ⟨[], by kernel_rfl⟩

set_option maxRecDepth 100000 in
theorem lifted (os : Os) (started : os.Started) (H : Type) (enc : TypeId × Value → H) (F : Stop.Interp) :
    ReturnsInHanded {} Tryd.checked os 3 .any ((OpenSpec.ofChange Rows.filesetNamesSpec).preRow enc Tryd.prog Tryd.f3 Rows.filesetNamesRow.domain false Rows.filesetNamesRow.laid) (((OpenSpec.ofChange Rows.filesetNamesSpec).at F).post enc Tryd.prog Tryd.f3 false true false false) := by
  obtain ⟨places, hx⟩ := reads os enc
  refine returnsInHanded_of_row (C := Tryd.checked) (s := OpenSpec.ofChange Rows.filesetNamesSpec) own started (by kernel_rfl) Tryd.func3
    (witness_row_atRef (enc := enc) (C := Tryd.checked) false (World.doorLaid Tryd.prog 29 os) #[.agg #[.int .i64 0, .int .i64 0, .int .i64 0, .int .i64 0], .string ByteArray.empty] rfl (by kernel_rfl) (by kernel_rfl) (by kernel_rfl)
      (OpenSpec.preRow_of_cond 8 hx (by kernel_rfl) (fun k hk => by cases hk) (by kernel_rfl) (laid_met os))) ?_
  intro W base args ds gs before hval hW _ _ _ hL _ _
  exact contract H enc W base args ds gs before hval hW hL

theorem said : Rows.FilesetNamesSaid :=
  OpenClaim.holds_of_cond 3 Tryd.f3 rfl rfl rfl rfl rfl rfl rfl ⟨rfl, rfl, rfl, rfl, rfl⟩ rfl rfl rfl rfl rfl (by kernel_rfl) Tryd.func3 (by kernel_rfl)
    (of_decide_eq_true (by kernel_rfl)) (by unfold Func.isWrapper; first | (rw [if_pos (by decide +kernel)]; kernel_rfl) | (rw [if_neg (by decide +kernel)]; exact ⟨rfl, rfl⟩))
    (fun os started H enc _ F => by rw [OpenClaim.pre_eq_preRow]; exact lifted os started H enc F)

/-- No parameter wants a stand-in; the program's own looks are off: what the card asks. -/
theorem plain (f : FuncId) (fn : Func) (hf : Tryd.pinned.checked.prog.funcNamed "thermograph/thermographlaw10.FilesetNames" = some f) (hfn : Tryd.pinned.checked.prog.funcs[f]? = some fn) :
    false = Tryd.pinned.checked.prog.looks [] ∧ ∀ (j : Nat) t, fn.params[j]? = some t → Tryd.pinned.checked.prog.wantsStandIn t = false := by
  obtain rfl : f = 3 := Option.some.inj ((show Tryd.prog.funcNamed "thermograph/thermographlaw10.FilesetNames" = some 3 by kernel_rfl).symm.trans hf) |>.symm
  obtain rfl : fn = Tryd.f3 := (Option.some.inj (Tryd.func3.symm.trans hfn)).symm
  refine ⟨by kernel_rfl, fun j t ht => ?_⟩
  rw [Tryd.params3] at ht
  have hm := Array.mem_of_getElem? ht
  simp only [Array.mem_def, List.mem_cons, List.not_mem_nil, or_false] at hm
  rcases hm with rfl | rfl
  · exact (show Tryd.prog.wantsStandIn 23 = false by kernel_rfl)
  · exact (show Tryd.prog.wantsStandIn 9 = false by kernel_rfl)
end NamesRow

/-- The card. -/
theorem filesetNames_card : Rows.FilesetNamesCardSaid :=
  Claim7.holds_tied_plain_at .later [] _ _ _ _ NamesRow.said (fun _ h => by cases h) (by kernel_rfl) (fun _ h => by cases h) filesetNames_row_tie rfl ⟨rfl, rfl⟩ (by kernel_rfl) rfl NamesRow.plain (by kernel_rfl)
#print axioms filesetNames_card

end Go.Proofs.YtgfaocfdknckpaaDoor
