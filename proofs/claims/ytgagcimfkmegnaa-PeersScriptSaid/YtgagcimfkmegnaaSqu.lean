/- The steps of a drawing region's walk, told shortly. -/
import Derived.Test.YtgagcimfkmegnaaLayE
section
set_option maxHeartbeats 4000000
namespace Go.Proofs.Ytgagcimfkmegnaa
set_option linter.unusedVariables false
set_option linter.unusedSimpArgs false
open Go.RowKit Go.Proofs.YtgagcimfkmegnaaW.PrintWords Go.Proofs.YtgagcimfkmegnaaW.PrintLast Go.Proofs.YtgagcimfkmegnaaW.PrintMore Go.Proofs.Ytgagcimfkmegnaa.QT Go.Sort
instance : Inhabited S42 := ⟨z42⟩
def cellsPoint (x : S42) : List Value := [.int .i64 x.f0, .int .u64 x.f1, .int .u64 x.f2]
/-- Wins. -/
def winsP (a b : S42) : Bool := decide (a.f2 > b.f2) || (a.f2 == b.f2 && decide (a.f1 > b.f1))
/-- What lays blocks and draws alone. -/
def Lays (W w' : World) : Prop := ∃ q os, w' = grow (W.drewN q) os
theorem wins_calls (a b : S42) (W : World) : Calls Try.prog 70 #[.agg #[.int .i64 a.f0, .int .u64 a.f1, .int .u64 a.f2], .agg #[.int .i64 b.f0, .int .u64 b.f1, .int .u64 b.f2]] W fun e w' => e = .returned (.bool (winsP a b)) ∧ Lays W w' := by
 obtain ⟨a0, a1, a2⟩ := a; obtain ⟨b0, b1, b2⟩ := b; have hw : winsP ⟨a0, a1, a2⟩ ⟨b0, b1, b2⟩ = (decide (a2 > b2) || (a2 == b2 && decide (a1 > b1))) := rfl; rw [hw]; clear hw
 by_cases h1 : a2 > b2
 ·
  have h1b : decide (a2 > b2) = true := decide_eq_true h1; rw [h1b, Bool.true_or]; clear h1; go_enter Try.func70, Try.ntmps70
  go_wp2; go_ret; exact ⟨rfl, 0, _, by rw [alloc_eq_grow, alloc_eq_grow, grow_grow]; rfl⟩
 ·
  have h1b : decide (a2 > b2) = false := decide_eq_false h1; rw [h1b, Bool.false_or]
  by_cases h2 : a2 = b2
  ·
   subst h2; have h2b : (a2 == a2) = true := by simp
   rw [h2b, Bool.true_and]; clear h1
   obtain ⟨c, hc⟩ : ∃ c, decide (a1 > b1) = c := ⟨_, rfl⟩
   rw [hc]; go_enter Try.func70, Try.ntmps70
   go_wp2; go_ret; exact ⟨rfl, 0, _, by rw [alloc_eq_grow, alloc_eq_grow, grow_grow]; rfl⟩
  ·
   have h2b : (a2 == b2) = false := by simpa using h2
   rw [h2b, Bool.false_and]; clear h1 h2; go_enter Try.func70, Try.ntmps70
   go_wp2; go_ret; exact ⟨rfl, 0, _, by rw [alloc_eq_grow, alloc_eq_grow, grow_grow]; rfl⟩
theorem Lays.refl (W : World) : Lays W W := ⟨0, #[], by rw [grow_empty]; rfl⟩
theorem Lays.trans {a b c : World} (h : Lays a b) (k : Lays b c) : Lays a c := by
 obtain ⟨q, os, rfl⟩ := h; obtain ⟨q', os', rfl⟩ := k; exact ⟨q + q', os ++ os', by simp [grow, World.drewN, Nat.add_assoc]⟩
theorem Lays.alloc {a b : World} (h : Lays a b) (o : Obj) : Lays a (b.alloc o) := h.trans ⟨0, #[o], by rw [alloc_eq_grow]; rfl⟩
theorem Lays.below {W w' : World} (h : Lays W w') : Below W.heap.size W w' := by
 obtain ⟨q, os, rfl⟩ := h; refine ⟨rfl, rfl, rfl, by simp [grow, World.drewN], fun k hk => ?_⟩; simp only [grow, World.drewN]; rw [Array.getElem?_append_left hk]
/-- ahead: by times, of one time the one that wins. -/
def aheadP (a b : S42) : Int := if a.f0 = b.f0 then (if winsP a b = true then -1 else if winsP b a = true then 1 else 0) else if a.f0 < b.f0 then -1 else 1
theorem ahead_calls (a b : S42) (W : World) : Calls Try.prog 53 #[.agg #[.int .i64 a.f0, .int .u64 a.f1, .int .u64 a.f2], .agg #[.int .i64 b.f0, .int .u64 b.f1, .int .u64 b.f2]] W fun e w' => e = .returned (.int .i64 (aheadP a b)) ∧ Lays W w' := by
 by_cases h0 : a.f0 = b.f0
 ·
  have hw : aheadP a b = (if winsP a b = true then -1 else if winsP b a = true then 1 else 0) := by unfold aheadP; rw [if_pos h0]
  rw [hw]; clear hw; have h0n : (a.f0 != b.f0) = false := by simp [h0]
  have HC1 := Lib.hid (fun w => wins_calls a b w); have HC2 := Lib.hid (fun w => wins_calls b a w)
  obtain ⟨r1, hr1⟩ : ∃ r, winsP a b = r := ⟨_, rfl⟩
  obtain ⟨r2, hr2⟩ : ∃ r, winsP b a = r := ⟨_, rfl⟩
  rw [hr1, hr2]; rw [hr1] at HC1; rw [hr2] at HC2; have hx := blk_new W (.cells #[.int .i64 a.f0, .int .u64 a.f1, .int .u64 a.f2] 42); have HL := Lib.hid (((Lays.refl W).alloc (.cells #[.int .i64 a.f0, .int .u64 a.f1, .int .u64 a.f2] 42)).alloc (.cells #[.int .i64 b.f0, .int .u64 b.f1, .int .u64 b.f2] 42)); have Hx := Lib.hid (blk_alloc hx (.cells #[.int .i64 b.f0, .int .u64 b.f1, .int .u64 b.f2] 42) ); have Hy := Lib.hid (blk_new (W.alloc (.cells #[.int .i64 a.f0, .int .u64 a.f1, .int .u64 a.f2] 42)) (.cells #[.int .i64 b.f0, .int .u64 b.f1, .int .u64 b.f2] 42)); clear hr1 hr2 h0 hx; go_enter Try.func53, Try.ntmps53
  go_wp2_with fail
  with_reducible refine (HC1.out _).mono ?_
  rintro e w1 ⟨rfl, hl1⟩; have hb1 := hl1.below; have hx1 := blk_below Hx.out hb1; have hy1 := blk_below Hy.out hb1; have x0 : w1.cell? ⟨W.heap.size, 0, none⟩ = some (.int .i64 a.f0) := (blk_cell hx1 0).trans rfl; have x1 : w1.cell? ⟨W.heap.size, 1, none⟩ = some (.int .u64 a.f1) := (blk_cell hx1 1).trans rfl; have x2 : w1.cell? ⟨W.heap.size, 2, none⟩ = some (.int .u64 a.f2) := (blk_cell hx1 2).trans rfl; have y0 := (blk_cell hy1 0).trans (show _ = some (.int .i64 b.f0) from rfl); have y1 := (blk_cell hy1 1).trans (show _ = some (.int .u64 b.f1) from rfl); have y2 := (blk_cell hy1 2).trans (show _ = some (.int .u64 b.f2) from rfl); have esz : (W.alloc (.cells #[.int .i64 a.f0, .int .u64 a.f1, .int .u64 a.f2] 42)).heap.size = W.heap.size + 1 := by simp
  rw [esz] at y0 y1 y2; clear esz; have HL1 := Lib.hid (HL.out.trans hl1); clear hl1 hb1 hx1 hy1
  cases r1 with
  | true =>
   go_wp2; go_ret
   exact ⟨rfl, HL1.out⟩
  | false =>
   go_wp2_with fail
   with_reducible refine (HC2.out _).mono ?_
   rintro e w2 ⟨rfl, hl2⟩; have HL2 := Lib.hid (HL1.out.trans hl2); clear hl2 x0 x1 x2 y0 y1 y2
   cases r2 with
   | true =>
    go_wp2; go_ret
    exact ⟨rfl, HL2.out⟩
   | false =>
    go_wp2; go_ret; exact ⟨rfl, HL2.out⟩
 ·
  have h0n : (a.f0 != b.f0) = true := by simp [h0]
  have HL := Lib.hid (((Lays.refl W).alloc (.cells #[.int .i64 a.f0, .int .u64 a.f1, .int .u64 a.f2] 42)).alloc (.cells #[.int .i64 b.f0, .int .u64 b.f1, .int .u64 b.f2] 42))
  by_cases h1 : a.f0 < b.f0
  ·
   have hw : aheadP a b = -1 := by unfold aheadP; rw [if_neg h0, if_pos h1]
   rw [hw]; clear hw h0; have h1b := decide_eq_true h1; clear h1; go_enter Try.func53, Try.ntmps53
   go_wp2; go_ret; exact ⟨rfl, HL.out⟩
  ·
   have hw : aheadP a b = 1 := by unfold aheadP; rw [if_neg h0, if_neg h1]
   rw [hw]; clear hw h0; have h1b := decide_eq_false h1; clear h1; go_enter Try.func53, Try.ntmps53
   go_wp2; go_ret; exact ⟨rfl, HL.out⟩
end Go.Proofs.Ytgagcimfkmegnaa
end
section
namespace Go.Proofs.YtgagcimfkmegnaaW.PrintLast
open Go.RowKit Go.Proofs.YtgagcimfkmegnaaW.PrintWords
/-- n Bools, out of the bits of k. -/
def bs (n k : Nat) : Array Bool := ((List.range n).map (fun i => Nat.testBit k i)).toArray
theorem z1 (a : Act) (n : Tmp) (v : Value) : a.put (some n) v = { a with tmps := a.tmps.setIfInBounds n v } := rfl
theorem z2 {α : Type} (l : List α) (i : Nat) (v : α) : l.toArray.setIfInBounds i v = (l.set i v).toArray := List.setIfInBounds_toArray l i v
theorem z3 {α : Type} (x y : α) (l : List α) : (x :: l).set 0 y = y :: l := List.set_cons_zero
theorem z4 {α : Type} (x y : α) (l : List α) (n : Nat) : (x :: l).set (n + 1) y = x :: l.set n y := List.set_cons_succ
/-- The rewritings of a row's end. -/
theorem zz : (∀ (a : Act) (n : Tmp) (v : Value), a.put (some n) v = { a with tmps := a.tmps.setIfInBounds n v }) ∧ (∀ (l : List Value) (i : Nat) (v : Value), l.toArray.setIfInBounds i v = (l.set i v).toArray) ∧ (∀ (x y : Value) (l : List Value), (x :: l).set 0 y = y :: l) ∧ (∀ (x y : Value) (l : List Value) (n : Nat), (x :: l).set (n + 1) y = x :: l.set n y) ∧ (∀ n : Int, IntKind.i64.wrap n = Go.RowKit.wrap64 n) ∧ (∀ n : Int, IntKind.i32.wrap n = Go.RowKit.wrap32 n) :=
 ⟨fun _ _ _ => rfl, fun l i v => List.setIfInBounds_toArray l i v, fun _ _ _ => List.set_cons_zero, fun _ _ _ _ => List.set_cons_succ, i64_w, i32_w⟩
theorem qq {α β γ : Type} {p : α → β → γ → Prop} {x : α → β → β} : (∀ a b c, p a (x a b) c → p a (x a b) c) := fun _ _ _ h => h
section
variable {P : Program} {md : Region.Mode} {ops : Array Oper} {Q : Exit → Act → World → Prop} {S : World → Prop} {ds : List Nat} {fuel : Nat} {l : Array Bool} {a : Act} {w : World} {T : Bool × List (List Nat × List Nat)} {B : List Nat} {oi : Oper}
/-- An operation that yields in every world. -/
theorem pu {v : Value} (i n : Nat) (l' : Array Bool) (HT : Aside0 (rtab md ops = T)) (hi : ops[i]? = some oi) (hN : oi.dst = some n) (hc : anyT T l.toList l'.toList i = true) (hQ : ∀ c a w, Q (.panic c) (a.put oi.dst v) w → Q (.panic c) a w)
  (h1 : Region.wanted oi (yielded ops a.tmps) = true) (h2 : ∀ w', (execOp a.eval oi).run P w' = .ok (.value v) w') {a' : Act} (ha : a.put (some n) v = a') (h : wpAnyLast P md ops Q S ds fuel l' a' w) : wpAnyLast P md ops Q S ds (fuel + 1) l a w :=
 pure_ l' hi hN (any_of HT.out hc) hQ (.inl ⟨h1, h2⟩) ha h
/-- An operation whose guard is not met. -/
theorem px (i n : Nat) (l' : Array Bool) (HT : Aside0 (rtab md ops = T)) (hi : ops[i]? = some oi) (hN : oi.dst = some n) (hc : anyT T l.toList l'.toList i = true) (hQ : ∀ c a w, Q (.panic c) (a.put oi.dst undef) w → Q (.panic c) a w)
  (h1 : Region.wanted oi (yielded ops a.tmps) = false) {a' : Act} (ha : a.put (some n) undef = a') (h : wpAnyLast P md ops Q S ds fuel l' a' w) : wpAnyLast P md ops Q S ds (fuel + 1) l a w :=
 pure_ l' hi hN (any_of HT.out hc) hQ (.inr ⟨h1, rfl⟩) ha h
/-- An operation that reads what S tells. -/
theorem ta {v : Value} (i n : Nat) (l' : Array Bool) (HT : Aside0 (rtab md ops = T)) (HW : Aside0 (waitsOk T.2 B = true)) (hS : S w) (hi : ops[i]? = some oi) (hN : oi.dst = some n) (hc : takeW T B ds l.toList l'.toList i = true) (hQ : ∀ c a w, Q (.panic c) (a.put oi.dst v) w → Q (.panic c) a w)
  (h1 : Region.wanted oi (yielded ops a.tmps) = true) (h2 : ∀ w', S w' → (execOp a.eval oi).run P w' = .ok (.value v) w') {a' : Act} (ha : a.put (some n) v = a') (h : wpAnyLast P md ops Q S ds fuel l' a' w) : wpAnyLast P md ops Q S ds (fuel + 1) l a w :=
 take_ l' hi hN (take_ofW HT.out HW.out hc) hQ (.inl ⟨h1, h2⟩) hS ha h
/-- The same three, for 'apply': what is to be shown comes in this order. -/
theorem pv {oi : Oper} {v : Value} {a' : Act} (i n : Nat) (l' : Array Bool) (HT : Aside0 (rtab md ops = T)) (hi : ops[i]? = some oi) (hN : oi.dst = some n) (hc : anyT T l.toList l'.toList i = true) (hQ : ∀ c a w, Q (.panic c) (a.put oi.dst v) w → Q (.panic c) a w)
  (h1 : Region.wanted oi (yielded ops a.tmps) = true) (h2 : ∀ w', (execOp a.eval oi).run P w' = .ok (.value v) w') (ha : a.put (some n) v = a') (h : wpAnyLast P md ops Q S ds fuel l' a' w) : wpAnyLast P md ops Q S ds (fuel + 1) l a w :=
 pure_ l' hi hN (any_of HT.out hc) hQ (.inl ⟨h1, h2⟩) ha h
theorem py {oi : Oper} {a' : Act} (i n : Nat) (l' : Array Bool) (HT : Aside0 (rtab md ops = T)) (hi : ops[i]? = some oi) (hN : oi.dst = some n) (hc : anyT T l.toList l'.toList i = true) (hQ : ∀ c a w, Q (.panic c) (a.put oi.dst undef) w → Q (.panic c) a w)
  (h1 : Region.wanted oi (yielded ops a.tmps) = false) (ha : a.put (some n) undef = a') (h : wpAnyLast P md ops Q S ds fuel l' a' w) : wpAnyLast P md ops Q S ds (fuel + 1) l a w :=
 pure_ l' hi hN (any_of HT.out hc) hQ (.inr ⟨h1, rfl⟩) ha h
theorem tb {oi : Oper} {v : Value} {a' : Act} (i n : Nat) (l' : Array Bool) (HT : Aside0 (rtab md ops = T)) (HW : Aside0 (waitsOk T.2 B = true)) (hS : S w) (hi : ops[i]? = some oi) (hN : oi.dst = some n) (hc : takeW T B ds l.toList l'.toList i = true) (hQ : ∀ c a w, Q (.panic c) (a.put oi.dst v) w → Q (.panic c) a w)
  (h1 : Region.wanted oi (yielded ops a.tmps) = true) (h2 : ∀ w', S w' → (execOp a.eval oi).run P w' = .ok (.value v) w') (ha : a.put (some n) v = a') (h : wpAnyLast P md ops Q S ds fuel l' a' w) : wpAnyLast P md ops Q S ds (fuel + 1) l a w :=
 take_ l' hi hN (take_ofW HT.out HW.out hc) hQ (.inl ⟨h1, h2⟩) hS ha h
end
end Go.Proofs.YtgagcimfkmegnaaW.PrintLast
end
