/- The steps of a drawing region's walk, told shortly. -/
import Derived.Test.YtgagcimfkmegnaaWTab
namespace Go.Proofs.YtgagcimfkmegnaaW.PrintLast
open Go.RowKit Go.Proofs.YtgagcimfkmegnaaW.PrintWords
/-- n Bools, out of the bits of k. -/
def bs (n k : Nat) : Array Bool := ((List.range n).map (fun i => Nat.testBit k i)).toArray
theorem z1 (a : Act) (n : Tmp) (v : Value) : a.put (some n) v = { a with tmps := a.tmps.setIfInBounds n v } := rfl
theorem z2 {α : Type} (l : List α) (i : Nat) (v : α) : l.toArray.setIfInBounds i v = (l.set i v).toArray := List.setIfInBounds_toArray l i v
theorem z3 {α : Type} (x y : α) (l : List α) : (x :: l).set 0 y = y :: l := List.set_cons_zero
theorem z4 {α : Type} (x y : α) (l : List α) (n : Nat) : (x :: l).set (n + 1) y = x :: l.set n y := List.set_cons_succ
/-- The rewritings of a row's end. -/
theorem zz : (∀ (a : Act) (n : Tmp) (v : Value), a.put (some n) v = { a with tmps := a.tmps.setIfInBounds n v }) ∧ (∀ (l : List Value) (i : Nat) (v : Value), l.toArray.setIfInBounds i v = (l.set i v).toArray) ∧ (∀ (x y : Value) (l : List Value), (x :: l).set 0 y = y :: l) ∧ (∀ (x y : Value) (l : List Value) (n : Nat), (x :: l).set (n + 1) y = x :: l.set n y) ∧ (∀ n : Int, IntKind.i64.wrap n = Go.RowKit.wrap64 n) ∧ (∀ n : Int, IntKind.i32.wrap n = Go.RowKit.wrap32 n) :=
 ⟨fun _ _ _ => rfl, fun l i v => List.setIfInBounds_toArray l i v, fun _ _ _ => List.set_cons_zero, fun _ _ _ _ => List.set_cons_succ, i64_w, i32_w⟩
theorem qq {α β γ : Type} {p : α → β → γ → Prop} {x : α → β → β} : (∀ a b c, p a (x a b) c → p a (x a b) c) := fun _ _ _ h => h
section
variable {P : Program} {md : Region.Mode} {ops : Array Oper} {Q : Exit → Act → World → Prop} {S : World → Prop} {ds : List Nat} {fuel : Nat} {l : Array Bool} {a : Act} {w : World} {T : Bool × List (List Nat × List Nat)} {B : List Nat} {oi : Oper}
/-- An operation that yields in every world. -/
theorem pu {v : Value} (i n : Nat) (l' : Array Bool) (HT : Aside0 (rtab md ops = T)) (hi : ops[i]? = some oi) (hN : oi.dst = some n) (hc : anyT T l.toList l'.toList i = true) (hQ : ∀ c a w, Q (.panic c) (a.put oi.dst v) w → Q (.panic c) a w)
  (h1 : Region.wanted oi (yielded ops a.tmps) = true) (h2 : ∀ w', (execOp a.eval oi).run P w' = .ok (.value v) w') {a' : Act} (ha : a.put (some n) v = a') (h : wpAnyLast P md ops Q S ds fuel l' a' w) : wpAnyLast P md ops Q S ds (fuel + 1) l a w :=
 pure_ l' hi hN (any_of HT.out hc) hQ (.inl ⟨h1, h2⟩) ha h
/-- An operation whose guard is not met. -/
theorem px (i n : Nat) (l' : Array Bool) (HT : Aside0 (rtab md ops = T)) (hi : ops[i]? = some oi) (hN : oi.dst = some n) (hc : anyT T l.toList l'.toList i = true) (hQ : ∀ c a w, Q (.panic c) (a.put oi.dst undef) w → Q (.panic c) a w)
  (h1 : Region.wanted oi (yielded ops a.tmps) = false) {a' : Act} (ha : a.put (some n) undef = a') (h : wpAnyLast P md ops Q S ds fuel l' a' w) : wpAnyLast P md ops Q S ds (fuel + 1) l a w :=
 pure_ l' hi hN (any_of HT.out hc) hQ (.inr ⟨h1, rfl⟩) ha h
/-- An operation that reads what S tells. -/
theorem ta {v : Value} (i n : Nat) (l' : Array Bool) (HT : Aside0 (rtab md ops = T)) (HW : Aside0 (waitsOk T.2 B = true)) (hS : S w) (hi : ops[i]? = some oi) (hN : oi.dst = some n) (hc : takeW T B ds l.toList l'.toList i = true) (hQ : ∀ c a w, Q (.panic c) (a.put oi.dst v) w → Q (.panic c) a w)
  (h1 : Region.wanted oi (yielded ops a.tmps) = true) (h2 : ∀ w', S w' → (execOp a.eval oi).run P w' = .ok (.value v) w') {a' : Act} (ha : a.put (some n) v = a') (h : wpAnyLast P md ops Q S ds fuel l' a' w) : wpAnyLast P md ops Q S ds (fuel + 1) l a w :=
 take_ l' hi hN (take_ofW HT.out HW.out hc) hQ (.inl ⟨h1, h2⟩) hS ha h
/-- The same three, for 'apply': what is to be shown comes in this order. -/
theorem pv {oi : Oper} {v : Value} {a' : Act} (i n : Nat) (l' : Array Bool) (HT : Aside0 (rtab md ops = T)) (hi : ops[i]? = some oi) (hN : oi.dst = some n) (hc : anyT T l.toList l'.toList i = true) (hQ : ∀ c a w, Q (.panic c) (a.put oi.dst v) w → Q (.panic c) a w)
  (h1 : Region.wanted oi (yielded ops a.tmps) = true) (h2 : ∀ w', (execOp a.eval oi).run P w' = .ok (.value v) w') (ha : a.put (some n) v = a') (h : wpAnyLast P md ops Q S ds fuel l' a' w) : wpAnyLast P md ops Q S ds (fuel + 1) l a w :=
 pure_ l' hi hN (any_of HT.out hc) hQ (.inl ⟨h1, h2⟩) ha h
theorem py {oi : Oper} {a' : Act} (i n : Nat) (l' : Array Bool) (HT : Aside0 (rtab md ops = T)) (hi : ops[i]? = some oi) (hN : oi.dst = some n) (hc : anyT T l.toList l'.toList i = true) (hQ : ∀ c a w, Q (.panic c) (a.put oi.dst undef) w → Q (.panic c) a w)
  (h1 : Region.wanted oi (yielded ops a.tmps) = false) (ha : a.put (some n) undef = a') (h : wpAnyLast P md ops Q S ds fuel l' a' w) : wpAnyLast P md ops Q S ds (fuel + 1) l a w :=
 pure_ l' hi hN (any_of HT.out hc) hQ (.inr ⟨h1, rfl⟩) ha h
theorem tb {oi : Oper} {v : Value} {a' : Act} (i n : Nat) (l' : Array Bool) (HT : Aside0 (rtab md ops = T)) (HW : Aside0 (waitsOk T.2 B = true)) (hS : S w) (hi : ops[i]? = some oi) (hN : oi.dst = some n) (hc : takeW T B ds l.toList l'.toList i = true) (hQ : ∀ c a w, Q (.panic c) (a.put oi.dst v) w → Q (.panic c) a w)
  (h1 : Region.wanted oi (yielded ops a.tmps) = true) (h2 : ∀ w', S w' → (execOp a.eval oi).run P w' = .ok (.value v) w') (ha : a.put (some n) v = a') (h : wpAnyLast P md ops Q S ds fuel l' a' w) : wpAnyLast P md ops Q S ds (fuel + 1) l a w :=
 take_ l' hi hN (take_ofW HT.out HW.out hc) hQ (.inl ⟨h1, h2⟩) hS ha h
end
end Go.Proofs.YtgagcimfkmegnaaW.PrintLast
