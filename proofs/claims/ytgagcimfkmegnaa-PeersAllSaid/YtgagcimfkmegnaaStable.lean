/- The library's stable sort, as print writes it, sorts and keeps the order of equals: plain law, over any family of functions with print's step equations. -/
import Derived.Test.YtgagcimfkmegnaaWWords
set_option maxHeartbeats 2000000
namespace Go.Proofs.Ytgagcimfkmegnaa.StableLaw
open Go.RowKit Go.Proofs.YtgagcimfkmegnaaW.PrintWords
/-- The functions of the stable sort with print's step equations. -/
structure SortFam (α : Type) where
 z : α
 cm : Nat → α → α → Option Int
 sw : Nat → List α → Int → Int → Int → Int → Option (List α)
 sw_eq : ∀ k x0 x1 x2 x3 x10, sw (k + 1) x0 x1 x2 x3 x10 = if x10 < x3 then (if 0 ≤ (wrap64 (x2 + x10)) then (if (wrap64 (x2 + x10)) < (x0.length : Int) then (if 0 ≤ (wrap64 (x1 + x10)) then (if (wrap64 (x1 + x10)) < (x0.length : Int) then (sw k ((x0.set (wrap64 (x1 + x10)).toNat (x0.getD (wrap64 (x2 + x10)).toNat z)).set (wrap64 (x2 + x10)).toNat (x0.getD (wrap64 (x1 + x10)).toNat z)) x1 x2 x3 (wrap64 (x10 + 1))) else none) else none) else none) else none) else some x0
 rot : Nat → List α → Int → Int → Int → Option (List α)
 rot_eq : ∀ k x0 x2 x10 x11, rot (k + 1) x0 x2 x10 x11 = if x10 = x11 then ((sw k x0 (wrap64 (x2 - x10)) x2 x10 0).bind fun t => some t) else (if x10 > x11 then ((sw k x0 (wrap64 (x2 - x10)) x2 x11 0).bind fun t => (rot k t x2 (wrap64 (x10 - x11)) x11)) else ((sw k x0 (wrap64 (x2 - x10)) (wrap64 ((wrap64 (x2 + x11)) - x10)) x10 0).bind fun t => (rot k t x2 x10 (wrap64 (x11 - x10)))))
 i0 : Nat → List α → Int → Int → Int → Option (List α)
 i1 : Nat → List α → Int → Int → Int → Int → Option (List α)
 i0_eq : ∀ k x0 x1 x2 x8, i0 (k + 1) x0 x1 x2 x8 = if x8 < x2 then (i1 k x0 x1 x2 x8 x8) else (some x0)
 i1_eq : ∀ k x0 x1 x2 x8 x9, i1 (k + 1) x0 x1 x2 x8 x9 = if x9 > x1 then (if 0 ≤ x9 then (if x9 < (x0.length : Int) then (if 0 ≤ (wrap64 (x9 - 1)) then (if (wrap64 (x9 - 1)) < (x0.length : Int) then ((cm k (x0.getD x9.toNat z) (x0.getD (wrap64 (x9 - 1)).toNat z)).bind fun t => (if t < 0 then (i1 k ((x0.set x9.toNat (x0.getD (wrap64 (x9 - 1)).toNat z)).set (wrap64 (x9 - 1)).toNat (x0.getD x9.toNat z)) x1 x2 x8 (wrap64 (x9 - 1))) else (i0 k x0 x1 x2 (wrap64 (x8 + 1))))) else none) else none) else none) else none) else (i0 k x0 x1 x2 (wrap64 (x8 + 1)))
 m0 : Nat → List α → Int → Int → Int → Option (List α)
 m1 : Nat → List α → Int → Int → Option (List α)
 m2 : Nat → List α → Int → Int → Int → Option (List α)
 m3 : Nat → List α → Int → Int → Option (List α)
 j4 : Nat → List α → Int → Int → Int → Int → Int → Int → Int → Option (List α)
 l4 : Nat → List α → Int → Int → Int → Int → Int → Int → Int → Int → Option (List α)
 j6 : Nat → List α → Int → Int → Int → Int → Int → Int → Bool → Option (List α)
 j7 : Nat → List α → Int → Int → Int → Int → Int → Option (List α)
 j8 : Nat → List α → Int → Int → Int → Int → Int → Bool → Option (List α)
 mf : Nat → List α → Int → Int → Int → Option (List α)
 m0_eq : ∀ k x0 x1 x10 x11, m0 (k + 1) x0 x1 x10 x11 = if x10 < x11 then (if 0 ≤ (wrap64 ((IntKind.u64.wrap (wrap64 (x10 + x11))) / 2)) then (if (wrap64 ((IntKind.u64.wrap (wrap64 (x10 + x11))) / 2)) < (x0.length : Int) then (if 0 ≤ x1 then (if x1 < (x0.length : Int) then ((cm k (x0.getD (wrap64 ((IntKind.u64.wrap (wrap64 (x10 + x11))) / 2)).toNat z) (x0.getD x1.toNat z)).bind fun t => (if t < 0 then (m0 k x0 x1 (wrap64 ((wrap64 ((IntKind.u64.wrap (wrap64 (x10 + x11))) / 2)) + 1)) x11) else (m0 k x0 x1 x10 (wrap64 ((IntKind.u64.wrap (wrap64 (x10 + x11))) / 2))))) else none) else none) else none) else none) else (m1 k x0 x10 x1)
 m1_eq : ∀ k x0 x10 x13, m1 (k + 1) x0 x10 x13 = if x13 < (wrap64 (x10 - 1)) then (if 0 ≤ (wrap64 (x13 + 1)) then (if (wrap64 (x13 + 1)) < (x0.length : Int) then (if 0 ≤ x13 then (if x13 < (x0.length : Int) then (m1 k ((x0.set x13.toNat (x0.getD (wrap64 (x13 + 1)).toNat z)).set (wrap64 (x13 + 1)).toNat (x0.getD x13.toNat z)) x10 (wrap64 (x13 + 1))) else none) else none) else none) else none) else (some x0)
 m2_eq : ∀ k x0 x2 x14 x15, m2 (k + 1) x0 x2 x14 x15 = if x14 < x15 then (if 0 ≤ x2 then (if x2 < (x0.length : Int) then (if 0 ≤ (wrap64 ((IntKind.u64.wrap (wrap64 (x14 + x15))) / 2)) then (if (wrap64 ((IntKind.u64.wrap (wrap64 (x14 + x15))) / 2)) < (x0.length : Int) then ((cm k (x0.getD x2.toNat z) (x0.getD (wrap64 ((IntKind.u64.wrap (wrap64 (x14 + x15))) / 2)).toNat z)).bind fun t => (if t < 0 then (m2 k x0 x2 x14 (wrap64 ((IntKind.u64.wrap (wrap64 (x14 + x15))) / 2))) else (m2 k x0 x2 (wrap64 ((wrap64 ((IntKind.u64.wrap (wrap64 (x14 + x15))) / 2)) + 1)) x15))) else none) else none) else none) else none) else (m3 k x0 x14 x2)
 m3_eq : ∀ k x0 x14 x17, m3 (k + 1) x0 x14 x17 = if x17 > x14 then (if 0 ≤ (wrap64 (x17 - 1)) then (if (wrap64 (x17 - 1)) < (x0.length : Int) then (if 0 ≤ x17 then (if x17 < (x0.length : Int) then (m3 k ((x0.set x17.toNat (x0.getD (wrap64 (x17 - 1)).toNat z)).set (wrap64 (x17 - 1)).toNat (x0.getD x17.toNat z)) x14 (wrap64 (x17 - 1))) else none) else none) else none) else none) else (some x0)
 j4_eq : ∀ k x0 x1 x2 x3 x18 x19 x20 x21, j4 (k + 1) x0 x1 x2 x3 x18 x19 x20 x21 = l4 k x0 x1 x2 x3 x18 x19 x20 x21 (wrap64 (x19 - 1))
 l4_eq : ∀ k x0 x1 x2 x3 x18 x19 x20 x21 x22, l4 (k + 1) x0 x1 x2 x3 x18 x19 x20 x21 x22 = if x20 < x21 then (if 0 ≤ (wrap64 (x22 - (wrap64 ((IntKind.u64.wrap (wrap64 (x20 + x21))) / 2)))) then (if (wrap64 (x22 - (wrap64 ((IntKind.u64.wrap (wrap64 (x20 + x21))) / 2)))) < (x0.length : Int) then (if 0 ≤ (wrap64 ((IntKind.u64.wrap (wrap64 (x20 + x21))) / 2)) then (if (wrap64 ((IntKind.u64.wrap (wrap64 (x20 + x21))) / 2)) < (x0.length : Int) then ((cm k (x0.getD (wrap64 (x22 - (wrap64 ((IntKind.u64.wrap (wrap64 (x20 + x21))) / 2)))).toNat z) (x0.getD (wrap64 ((IntKind.u64.wrap (wrap64 (x20 + x21))) / 2)).toNat z)).bind fun t => (if t < 0 then (l4 k x0 x1 x2 x3 x18 x19 x20 (wrap64 ((IntKind.u64.wrap (wrap64 (x20 + x21))) / 2)) x22) else (l4 k x0 x1 x2 x3 x18 x19 (wrap64 ((wrap64 ((IntKind.u64.wrap (wrap64 (x20 + x21))) / 2)) + 1)) x21 x22))) else none) else none) else none) else none) else (if x20 < x2 then (j6 k x0 x1 x2 x3 x18 x20 (wrap64 (x19 - x20)) (decide (x2 < (wrap64 (x19 - x20))))) else (j6 k x0 x1 x2 x3 x18 x20 (wrap64 (x19 - x20)) false))
 j6_eq : ∀ k x0 x1 x2 x3 x18 x20 x24 x185, j6 (k + 1) x0 x1 x2 x3 x18 x20 x24 x185 = if x185 = true then ((rot k x0 x2 (wrap64 (x2 - x20)) (wrap64 (x24 - x2))).bind fun t => (j7 k t x1 x3 x18 x20 x24)) else (j7 k x0 x1 x3 x18 x20 x24)
 j7_eq : ∀ k x0 x1 x3 x18 x20 x24, j7 (k + 1) x0 x1 x3 x18 x20 x24 = if x1 < x20 then (j8 k x0 x1 x3 x18 x20 x24 (decide (x20 < x18))) else (j8 k x0 x1 x3 x18 x20 x24 false)
 j8_eq : ∀ k x0 x1 x3 x18 x20 x24 x199, j8 (k + 1) x0 x1 x3 x18 x20 x24 x199 = if x199 = true then ((mf k x0 x1 x20 x18).bind fun t => (if x18 < x24 then (if x24 < x3 then ((mf k t x18 x24 x3).bind fun t' => (some t')) else (some t)) else (some t))) else (if x18 < x24 then (if x24 < x3 then ((mf k x0 x18 x24 x3).bind fun t' => (some t')) else (some x0)) else (some x0))
 mf_eq : ∀ k l0 a1 a2 a3, mf (k + 1) l0 a1 a2 a3 = if (wrap64 (a2 - a1)) = 1 then (m0 k l0 a1 a2 a3) else (if (wrap64 (a3 - a2)) = 1 then (m2 k l0 a2 a1 a2) else (if a2 > (wrap64 ((IntKind.u64.wrap (wrap64 (a1 + a3))) / 2)) then (j4 k l0 a1 a2 a3 (wrap64 ((IntKind.u64.wrap (wrap64 (a1 + a3))) / 2)) (wrap64 ((wrap64 ((IntKind.u64.wrap (wrap64 (a1 + a3))) / 2)) + a2)) (wrap64 ((wrap64 ((wrap64 ((IntKind.u64.wrap (wrap64 (a1 + a3))) / 2)) + a2)) - a3)) (wrap64 ((IntKind.u64.wrap (wrap64 (a1 + a3))) / 2))) else (j4 k l0 a1 a2 a3 (wrap64 ((IntKind.u64.wrap (wrap64 (a1 + a3))) / 2)) (wrap64 ((wrap64 ((IntKind.u64.wrap (wrap64 (a1 + a3))) / 2)) + a2)) a1 a2)))
 s0 : Nat → List α → Int → Int → Int → Int → Option (List α)
 s1 : Nat → List α → Int → Int → Option (List α)
 s2 : Nat → List α → Int → Int → Int → Int → Option (List α)
 s0_eq : ∀ k x0 x1 x6 x7 x8, s0 (k + 1) x0 x1 x6 x7 x8 = if x8 ≤ x1 then ((i0 k x0 x7 x8 (wrap64 (x7 + 1))).bind fun t => (s0 k t x1 x6 x8 (wrap64 (x8 + x6)))) else ((i0 k x0 x7 x1 (wrap64 (x7 + 1))).bind fun t => (s1 k t x1 x6))
 s1_eq : ∀ k x0 x1 x6, s1 (k + 1) x0 x1 x6 = if x6 < x1 then (s2 k x0 x1 x6 0 (wrap64 (2 * x6))) else (some x0)
 s2_eq : ∀ k x0 x1 x6 x7 x8, s2 (k + 1) x0 x1 x6 x7 x8 = if x8 ≤ x1 then ((mf k x0 x7 (wrap64 (x7 + x6)) x8).bind fun t => (s2 k t x1 x6 x8 (wrap64 (x8 + (wrap64 (2 * x6)))))) else (if (wrap64 (x7 + x6)) < x1 then ((mf k x0 x7 (wrap64 (x7 + x6)) x1).bind fun t => (s1 k t x1 (wrap64 (x6 * 2)))) else (s1 k x0 x1 (wrap64 (x6 * 2))))
theorem w64 {x : Int} (h : -9223372036854775808 ≤ x) (h' : x < 9223372036854775808) : wrap64 x = x := by unfold wrap64; omega
theorem half {x y : Int} (h : 0 ≤ x + y) (h' : x + y < 9223372036854775808) : wrap64 ((IntKind.u64.wrap (wrap64 (x + y))) / 2) = (x + y) / 2 := by
 rw [w64 (x := x + y) (by omega) (by omega), show IntKind.u64.wrap (x + y) = x + y from by simp [IntKind.wrap, IntKind.signed, IntKind.bits]; omega, w64 (by omega) (by omega)]
theorem getD_at {α : Type} (z : α) {l : List α} (P S : List α) (x : α) (i : Int) (hl : l = P ++ x :: S) (hi : i = (P.length : Int)) : l.getD i.toNat z = x := by
 subst hl; subst hi; simp
theorem set_at {α : Type} {l : List α} (P S : List α) (x y : α) (i : Int) (hl : l = P ++ x :: S) (hi : i = (P.length : Int)) : l.set i.toNat y = P ++ y :: S := by
 subst hl; subst hi; simp
variable {α : Type} (F : SortFam α)
theorem sw_ev : ∀ (X P M Y S : List α) (a b n i : Int), X.length = Y.length → (P.length + X.length + M.length + Y.length + S.length) ≤ 1099511627776 → a + i = P.length → b + i = P.length + X.length + M.length → n - i = X.length → 0 ≤ i → 0 ≤ a → a ≤ b → n ≤ 1099511627776 →
  Ev (fun k => F.sw k (P ++ (X ++ (M ++ (Y ++ S)))) a b n i) (P ++ (Y ++ (M ++ (X ++ S))))
 | [], P, M, Y, S, a, b, n, i, hl, hb, ha, hbb, hn, h0, h1, h2, h3 => by
  have hY : Y = [] := List.eq_nil_of_length_eq_zero (by simpa using hl.symm); subst hY; simp only [List.length_nil] at hn
  exact Ev.step (f := fun _ => some _) (fun k => by rw [F.sw_eq, if_neg (by omega)]) (Ev.now _)
 | x :: X, P, M, Y, S, a, b, n, i, hl, hb, ha, hbb, hn, h0, h1, h2, h3 => by
  cases Y with
  | nil => simp at hl
  | cons y Y =>
   simp only [List.length_cons] at hl hb hn hbb; have ih := sw_ev X (P ++ [y]) (M ++ [x]) Y S a b n (i + 1) (by omega) (by simp; omega) (by simp; omega) (by simp; omega) (by omega) (by omega) h1 h2 h3; have e : P ++ [y] ++ (X ++ (M ++ [x] ++ (Y ++ S))) = P ++ (y :: X ++ (M ++ (x :: Y ++ S))) := by simp
   have e2 : P ++ [y] ++ (Y ++ (M ++ [x] ++ (X ++ S))) = P ++ (y :: Y ++ (M ++ (x :: X ++ S))) := by simp
   rw [e, e2] at ih; refine Ev.step (fun k => ?_) ih; have hlen : ((P ++ (x :: X ++ (M ++ (y :: Y ++ S)))).length : Int) = P.length + (X.length + 1) + M.length + (Y.length + 1) + S.length := by simp; omega
   rw [F.sw_eq, w64 (x := b + i) (by omega) (by omega), w64 (x := a + i) (by omega) (by omega), w64 (x := i + 1) (by omega) (by omega), if_pos (by omega), if_pos (by omega), hlen, if_pos (by omega), if_pos (by omega), if_pos (by omega)]; rw [getD_at F.z P (X ++ (M ++ (y :: Y ++ S))) x (a + i) (by simp) ha, getD_at F.z (P ++ (x :: X ++ M)) (Y ++ S) y (b + i) (by simp) (by simp; omega)]; rw [set_at P (X ++ (M ++ (y :: Y ++ S))) x y (a + i) (by simp) ha, set_at (P ++ (y :: X ++ M)) (Y ++ S) y x (b + i) (by simp) (by simp; omega)]; simp
theorem rot_ev : ∀ (t : Nat) (P X Y S : List α) (m i j : Int), X.length + Y.length ≤ t → 0 < X.length → 0 < Y.length → (P.length + X.length + Y.length + S.length) ≤ 1099511627776 → m = P.length + X.length → i = X.length → j = Y.length →
  Ev (fun k => F.rot k (P ++ (X ++ (Y ++ S))) m i j) (P ++ (Y ++ (X ++ S)))
 | 0, P, X, Y, S, m, i, j, ht, hX, hY, hb, hm, hi, hj => by omega
 | t + 1, P, X, Y, S, m, i, j, ht, hX, hY, hb, hm, hi, hj => by
  by_cases h1 : i = j
  ·
   have h := sw_ev F X P [] Y S (m - i) m i 0 (by omega) (by simp; omega) (by omega) (by simp; omega) (by omega) (by omega) (by omega) (by omega) (by omega); simp only [List.nil_append] at h; refine Ev.step (fun k => ?_) (h.bind (f := fun _ t => some t) (Ev.now _)); rw [F.rot_eq, if_pos h1, w64 (x := m - i) (by omega) (by omega)]
  ·
   by_cases h2 : i > j
   ·
    obtain ⟨X1, X2, rfl, hx⟩ : ∃ X1 X2, X = X1 ++ X2 ∧ X1.length = Y.length := ⟨X.take Y.length, X.drop Y.length, (List.take_append_drop _ _).symm, by rw [List.length_take]; omega⟩
    rw [List.length_append] at hi hm hb hX ht; have h := sw_ev F X1 P X2 Y S (m - i) m j 0 hx (by omega) (by omega) (by omega) (by omega) (by omega) (by omega) (by omega) (by omega); have ih := rot_ev t (P ++ Y) X2 X1 S m (i - j) j (by omega) (by omega) (by omega) (by rw [List.length_append]; omega) (by rw [List.length_append]; omega) (by omega) (by omega); have e1 : P ++ Y ++ (X2 ++ (X1 ++ S)) = P ++ (Y ++ (X2 ++ (X1 ++ S))) := by simp
    rw [e1] at ih
    refine Ev.step (fun k => ?_) (show Ev _ _ from (by
     have := h.bind (f := fun k t => F.rot k t m (i - j) j) ih; have e2 : P ++ Y ++ (X1 ++ (X2 ++ S)) = P ++ (Y ++ (X1 ++ X2 ++ S)) := by simp
     rw [e2] at this
     exact this))
    rw [F.rot_eq, if_neg h1, if_pos h2, w64 (x := m - i) (by omega) (by omega), w64 (x := i - j) (by omega) (by omega)]; simp only [List.append_assoc]
   ·
    obtain ⟨Y1, Y2, rfl, hy⟩ : ∃ Y1 Y2, Y = Y1 ++ Y2 ∧ Y2.length = X.length := ⟨Y.take (Y.length - X.length), Y.drop (Y.length - X.length), (List.take_append_drop _ _).symm, by rw [List.length_drop]; omega⟩
    rw [List.length_append] at hj hb hY ht; have h := sw_ev F X P Y1 Y2 S (m - i) (m + j - i) i 0 (by omega) (by omega) (by omega) (by omega) (by omega) (by omega) (by omega) (by omega) (by omega); have ih := rot_ev t P Y2 Y1 (X ++ S) m i (j - i) (by omega) (by omega) (by omega) (by rw [List.length_append]; omega) (by omega) (by omega) (by omega)
    refine Ev.step (fun k => ?_) (show Ev _ _ from (by
     have := h.bind (f := fun k t => F.rot k t m i (j - i)) ih; have e2 : P ++ (Y1 ++ (Y2 ++ (X ++ S))) = P ++ (Y1 ++ Y2 ++ (X ++ S)) := by simp
     rw [e2] at this
     exact this))
    rw [F.rot_eq, if_neg h1, if_neg h2, w64 (x := m - i) (by omega) (by omega), w64 (x := m + j) (by omega) (by omega), w64 (x := m + j - i) (by omega) (by omega), w64 (x := j - i) (by omega) (by omega)]; simp only [List.append_assoc]
/-- The comparison's order. -/
structure Ord (lt : α → α → Bool) : Prop where
 asymm : ∀ a b, lt a b = true → lt b a = false
 neg : ∀ a b c, lt a b = false → lt b c = false → lt a c = false
def eqv (lt : α → α → Bool) (a b : α) : Bool := !lt a b && !lt b a
/-- The same elements, equals in the same order. -/
structure Same (lt : α → α → Bool) (l r : List α) : Prop where
 perm : l.Perm r
 cls : ∀ a, l.filter (eqv lt a) = r.filter (eqv lt a)
def Up (lt : α → α → Bool) (l : List α) : Prop := l.Pairwise (fun a b => lt b a = false)
/-- r is l sorted, equals in their order. -/
structure Srt (lt : α → α → Bool) (l r : List α) : Prop where
 same : Same lt r l
 up : Up lt r
variable {lt : α → α → Bool}
theorem Same.refl (l : List α) : Same lt l l := ⟨List.Perm.refl _, fun _ => rfl⟩
theorem Same.symm {l r : List α} (h : Same lt l r) : Same lt r l := ⟨h.1.symm, fun a => (h.2 a).symm⟩
theorem Same.trans {l r s : List α} (h : Same lt l r) (k : Same lt r s) : Same lt l s := ⟨h.1.trans k.1, fun a => (h.2 a).trans (k.2 a)⟩
theorem Same.app {l r l' r' : List α} (h : Same lt l r) (k : Same lt l' r') : Same lt (l ++ l') (r ++ r') := ⟨h.1.append k.1, fun a => by rw [List.filter_append, List.filter_append, h.2 a, k.2 a]⟩
theorem Ord.irrefl (o : Ord lt) (a : α) : lt a a = false := by
 cases h : lt a a with
 | false => rfl
 | true => rw [← h]; exact o.asymm a a h
/-- Two lists, one of which is all below the other: they change places. -/
theorem Ord.swap (o : Ord lt) {A B : List α} (h : ∀ x ∈ A, ∀ y ∈ B, lt y x = true) : Same lt (A ++ B) (B ++ A) := by
 refine ⟨List.perm_append_comm, fun a => ?_⟩; rw [List.filter_append, List.filter_append]; rcases hA : A.filter (eqv lt a) with _ | ⟨x, xs⟩
 ·
  simp
 ·
  rcases hB : B.filter (eqv lt a) with _ | ⟨y, ys⟩
  ·
   simp
  ·
   have h1 : x ∈ A.filter (eqv lt a) := by rw [hA]; simp
   have h2 : y ∈ B.filter (eqv lt a) := by rw [hB]; simp
   obtain ⟨h1, e1⟩ := List.mem_filter.1 h1; obtain ⟨h2, e2⟩ := List.mem_filter.1 h2; have h3 := h x h1 y h2; simp only [eqv, Bool.and_eq_true, Bool.not_eq_true'] at e1 e2; rw [o.neg y a x e2.2 e1.1] at h3; cases h3
theorem up_app {A B : List α} (hA : Up lt A) (hB : Up lt B) (h : ∀ x ∈ A, ∀ y ∈ B, lt y x = false) : Up lt (A ++ B) := List.pairwise_append.2 ⟨hA, hB, h⟩
theorem Up.left {A B : List α} (h : Up lt (A ++ B)) : Up lt A := (List.pairwise_append.1 h).1
theorem Up.right {A B : List α} (h : Up lt (A ++ B)) : Up lt B := (List.pairwise_append.1 h).2.1
theorem Up.cross {A B : List α} (h : Up lt (A ++ B)) : ∀ x ∈ A, ∀ y ∈ B, lt y x = false := (List.pairwise_append.1 h).2.2
/-- Insertion's inner loop. -/
theorem i1_ev (o : Ord lt) (c : α → α → Int) (hlt : ∀ a b, lt a b = decide (c a b < 0)) (hc : ∀ a b, Ev (fun k => F.cm k a b) (c a b)) :
  ∀ (t : Nat) (A P B S : List α) (y : α) (x1 x2 x8 j : Int), A.length = t → x1 = P.length → j = P.length + A.length → (P.length + A.length + B.length + S.length) ≤ 1099511627776 → 0 ≤ x8 → x8 ≤ 1099511627776 → Up lt (A ++ B) → (∀ b ∈ B, lt y b = true) →
  ∃ r, Srt lt (A ++ B ++ [y]) r ∧ ∀ R, Ev (fun k => F.i0 k (P ++ (r ++ S)) x1 x2 (x8 + 1)) R → Ev (fun k => F.i1 k (P ++ (A ++ y :: (B ++ S))) x1 x2 x8 j) R
 | 0, A, P, B, S, y, x1, x2, x8, j, hA, h1, hj, hb, h80, h8, hu, hB => by
  obtain rfl := List.eq_nil_of_length_eq_zero hA; refine ⟨y :: B, ⟨?_, ?_⟩, fun R hR => ?_⟩
  ·
   exact (o.swap (A := B) (B := [y]) (fun x hx z hz => by rw [List.mem_singleton.1 hz]; exact hB x hx)).symm
  ·
   exact up_app (A := [y]) (List.pairwise_singleton _ _) hu (fun x hx z hz => by rw [List.mem_singleton.1 hx]; exact o.asymm _ _ (hB z hz))
  ·
   refine Ev.step (fun k => ?_) hR; simp only [List.length_nil] at hj; rw [F.i1_eq, if_neg (by omega), w64 (x := x8 + 1) (by omega) (by omega)]
   simp
 | t + 1, A, P, B, S, y, x1, x2, x8, j, hA, h1, hj, hb, h80, h8, hu, hB => by
  obtain ⟨A', c', rfl⟩ : ∃ A' c', A = A' ++ [c'] := by
   rcases List.eq_nil_or_concat A with rfl | ⟨L, b, h⟩
   ·
    simp at hA
   ·
    exact ⟨L, b, by rw [h]; simp⟩
  simp only [List.length_append, List.length_cons, List.length_nil] at hA hj hb; have hlen : ((P ++ (A' ++ [c'] ++ y :: (B ++ S))).length : Int) = P.length + A'.length + 1 + 1 + B.length + S.length := by simp; omega
  have hy : (P ++ (A' ++ [c'] ++ y :: (B ++ S))).getD j.toNat F.z = y := getD_at F.z (P ++ (A' ++ [c'])) (B ++ S) y j (by simp) (by simp; omega); have hcc : (P ++ (A' ++ [c'] ++ y :: (B ++ S))).getD (j - 1).toNat F.z = c' := getD_at F.z (P ++ A') (y :: (B ++ S)) c' (j - 1) (by simp) (by simp; omega)
  have hset : ((P ++ (A' ++ [c'] ++ y :: (B ++ S))).set j.toNat c').set (j - 1).toNat y = P ++ (A' ++ y :: (c' :: B ++ S)) := by
   rw [set_at (P ++ (A' ++ [c'])) (B ++ S) y c' j (by simp) (by simp; omega), set_at (P ++ A') (c' :: (B ++ S)) c' y (j - 1) (by simp) (by simp; omega)]; simp
  have hstep : ∀ k, F.i1 (k + 1) (P ++ (A' ++ [c'] ++ y :: (B ++ S))) x1 x2 x8 j = (F.cm k y c').bind fun t => if t < 0 then F.i1 k (P ++ (A' ++ y :: (c' :: B ++ S))) x1 x2 x8 (j - 1) else F.i0 k (P ++ (A' ++ [c'] ++ y :: (B ++ S))) x1 x2 (x8 + 1) := by
   intro k; rw [F.i1_eq, if_pos (by omega), if_pos (by omega), hlen, if_pos (by omega), w64 (x := j - 1) (by omega) (by omega), if_pos (by omega), if_pos (by omega), hy, hcc, hset, w64 (x := x8 + 1) (by omega) (by omega)]
  by_cases hlt' : c y c' < 0
  ·
   have hyc : lt y c' = true := by rw [hlt]; exact decide_eq_true hlt'
   obtain ⟨r, hr, hev⟩ := i1_ev o c hlt hc t A' P (c' :: B) S y x1 x2 x8 (j - 1) (by omega) h1 (by omega) (by simp; omega) h80 h8 (by simpa using hu) (fun b hb => by
    rcases List.mem_cons.1 hb with rfl | hb
    ·
     exact hyc
    ·
     exact hB b hb)
   refine ⟨r, by simpa using hr, fun R hR => ?_⟩; exact Ev.step hstep ((hc y c').bind (f := fun k t => if t < 0 then F.i1 k (P ++ (A' ++ y :: (c' :: B ++ S))) x1 x2 x8 (j - 1) else F.i0 k (P ++ (A' ++ [c'] ++ y :: (B ++ S))) x1 x2 (x8 + 1)) (Ev.congr (fun k => if_pos hlt') (hev R hR)))
  ·
   have hyc : lt y c' = false := by rw [hlt]; exact decide_eq_false hlt'
   refine ⟨A' ++ [c'] ++ y :: B, ⟨?_, ?_⟩, fun R hR => ?_⟩
   ·
    rw [List.append_assoc (A' ++ [c']) B [y]]; exact (Same.refl (A' ++ [c'])).app ((o.swap (A := B) (B := [y]) (fun x hx z hz => by rw [List.mem_singleton.1 hz]; exact hB x hx)).symm)
   ·
    refine up_app hu.left (up_app (A := [y]) (List.pairwise_singleton _ _) hu.right (fun x hx z hz => by rw [List.mem_singleton.1 hx]; exact o.asymm _ _ (hB z hz))) ?_; intro x hx z hz; rcases List.mem_cons.1 hz with rfl | hz
    ·
     rcases List.mem_append.1 hx with hx | hx
     ·
      exact o.neg _ _ _ hyc (hu.left.cross x hx c' (by simp))
     ·
      rw [List.mem_singleton.1 hx]; exact hyc
    ·
     exact hu.cross x hx z hz
   ·
    refine Ev.step hstep ((hc y c').bind (f := fun k t => if t < 0 then F.i1 k (P ++ (A' ++ y :: (c' :: B ++ S))) x1 x2 x8 (j - 1) else F.i0 k (P ++ (A' ++ [c'] ++ y :: (B ++ S))) x1 x2 (x8 + 1)) (Ev.congr (fun k => if_neg hlt') ?_)); have e : P ++ (A' ++ [c'] ++ y :: B ++ S) = P ++ (A' ++ [c'] ++ y :: (B ++ S)) := by simp
    rw [e] at hR; exact hR
theorem i0_ev (o : Ord lt) (c : α → α → Int) (hlt : ∀ a b, lt a b = decide (c a b < 0)) (hc : ∀ a b, Ev (fun k => F.cm k a b) (c a b)) :
  ∀ (X D P S : List α) (x1 x2 x8 : Int), x1 = P.length → x8 = P.length + D.length → x2 = P.length + D.length + X.length → (P.length + D.length + X.length + S.length) ≤ 1099511627776 → Up lt D →
  ∃ r, Srt lt (D ++ X) r ∧ Ev (fun k => F.i0 k (P ++ (D ++ (X ++ S))) x1 x2 x8) (P ++ (r ++ S))
 | [], D, P, S, x1, x2, x8, h1, h8, h2, hb, hD => by
  refine ⟨D, ⟨by simpa using Same.refl D, hD⟩, Ev.step (f := fun _ => some _) (fun k => ?_) (Ev.now _)⟩; simp only [List.length_nil] at h2; rw [F.i0_eq, if_neg (by omega)]
  simp
 | y :: X, D, P, S, x1, x2, x8, h1, h8, h2, hb, hD => by
  simp only [List.length_cons] at h2 hb; obtain ⟨r1, hr1, hev1⟩ := i1_ev F o c hlt hc D.length D P [] (X ++ S) y x1 x2 x8 x8 rfl h1 h8 (by simp; omega) (by omega) (by omega) (by simpa using hD) (by simp); have hl1 : r1.length = D.length + 1 := by rw [hr1.same.perm.length_eq]; simp
  obtain ⟨r, hr, hev⟩ := i0_ev o c hlt hc X r1 P S x1 x2 (x8 + 1) h1 (by omega) (by omega) (by omega) hr1.up; refine ⟨r, ⟨?_, hr.up⟩, Ev.step (fun k => ?_) (hev1 _ hev)⟩
  ·
   have := hr.same.trans (hr1.same.app (Same.refl X)); simpa using this
  ·
   rw [F.i0_eq, if_pos (by omega)]; simp
/-- The insertion sort of a block. -/
theorem ins_ev (o : Ord lt) (c : α → α → Int) (hlt : ∀ a b, lt a b = decide (c a b < 0)) (hc : ∀ a b, Ev (fun k => F.cm k a b) (c a b))
  (X P S : List α) (x1 x2 : Int) (h1 : x1 = P.length) (h2 : x2 = P.length + X.length) (hb : (P.length + X.length + S.length) ≤ 1099511627776) :
  ∃ r, Srt lt X r ∧ Ev (fun k => F.i0 k (P ++ (X ++ S)) x1 x2 (wrap64 (x1 + 1))) (P ++ (r ++ S)) := by
 rw [w64 (x := x1 + 1) (by omega) (by omega)]
 cases X with
 | nil =>
  refine ⟨[], ⟨Same.refl _, List.Pairwise.nil⟩, Ev.step (f := fun _ => some _) (fun k => ?_) (Ev.now _)⟩; simp only [List.length_nil] at h2
  rw [F.i0_eq, if_neg (by omega)]
 | cons y X =>
  have := i0_ev F o c hlt hc X [y] P S x1 x2 (x1 + 1) h1 (by simp; omega) (by simp at h2 ⊢; omega) (by simp at hb ⊢; omega) (List.pairwise_singleton _ _); simpa using this
/-- A binary search, whatever its loop. -/
theorem bv {β : Type} (f : Nat → Int → Int → Option β) (Pd : Nat → Prop) : ∀ (t lo hi : Nat), hi - lo ≤ t → lo ≤ hi →
  (∀ i j : Nat, lo ≤ i → i < j → j ≤ hi → ∀ R, (Pd ((i + j) / 2) → Ev (fun k => f k (((i + j) / 2 : Nat) + 1 : Nat) j) R → Ev (fun k => f k i j) R) ∧ (¬ Pd ((i + j) / 2) → Ev (fun k => f k i ((i + j) / 2 : Nat)) R → Ev (fun k => f k i j) R)) →
  (∀ s t, lo ≤ s → s ≤ t → t < hi → Pd t → Pd s) →
  ∃ s, lo ≤ s ∧ s ≤ hi ∧ (∀ t, lo ≤ t → t < s → Pd t) ∧ (∀ t, s ≤ t → t < hi → ¬ Pd t) ∧ ∀ R, Ev (fun k => f k (s : Int) (s : Int)) R → Ev (fun k => f k (lo : Int) (hi : Int)) R
 | 0, lo, hi, ht, hle, hs, hm => by
  obtain rfl : lo = hi := by omega
  exact ⟨lo, Nat.le_refl _, Nat.le_refl _, fun t h1 h2 => by omega, fun t h1 h2 => by omega, fun R h => h⟩
 | t + 1, lo, hi, ht, hle, hs, hm => by
  by_cases hlt : lo < hi
  ·
   by_cases hp : Pd ((lo + hi) / 2)
   ·
    obtain ⟨s, h1, h2, h3, h4, h5⟩ := bv f Pd t ((lo + hi) / 2 + 1) hi (by omega) (by omega) (fun i j hi' hij hj => hs i j (by omega) hij hj) (fun s t h1 h2 h3 => hm s t (by omega) h2 h3)
    exact ⟨s, by omega, h2, fun u hu1 hu2 => by
     by_cases hu : u ≤ (lo + hi) / 2
     ·
      exact hm u _ hu1 hu (by omega) hp
     ·
      exact h3 u (by omega) hu2, h4, fun R hR => (hs lo hi (Nat.le_refl _) hlt (Nat.le_refl _) R).1 hp (h5 R hR)⟩
   ·
    obtain ⟨s, h1, h2, h3, h4, h5⟩ := bv f Pd t lo ((lo + hi) / 2) (by omega) (by omega) (fun i j hi' hij hj => hs i j hi' hij (by omega)) (fun s t h1 h2 h3 => hm s t h1 h2 (by omega))
    exact ⟨s, h1, by omega, h3, fun u hu1 hu2 hu => by
     by_cases hu' : u < (lo + hi) / 2
     ·
      exact h4 u hu1 hu' hu
     ·
      exact hp (hm _ u (by omega) (by omega) hu2 hu), fun R hR => (hs lo hi (Nat.le_refl _) hlt (Nat.le_refl _) R).2 hp (h5 R hR)⟩
  ·
   obtain rfl : lo = hi := by omega
   exact ⟨lo, Nat.le_refl _, Nat.le_refl _, fun t h1 h2 => by omega, fun t h1 h2 => by omega, fun R h => h⟩
/-- What stands in a part of a list. -/
theorem at_part (z : α) {l : List α} (P X S : List α) (hl : l = P ++ (X ++ S)) {t : Nat} (h0 : P.length ≤ t) (h1 : t < P.length + X.length) : X[t - P.length]? = some (l.getD t z) := by
 subst hl; rw [List.getD_eq_getElem?_getD, List.getElem?_append_right h0, List.getElem?_append_left (by omega), List.getElem?_eq_getElem (by omega)]; rfl
theorem mem_part (z : α) {l : List α} (P X S : List α) (hl : l = P ++ (X ++ S)) {x : α} (hx : x ∈ X) : ∃ t, P.length ≤ t ∧ t < P.length + X.length ∧ l.getD t z = x := by
 obtain ⟨i, hi, rfl⟩ := List.mem_iff_getElem.1 hx; refine ⟨P.length + i, by omega, by omega, ?_⟩; have := at_part z P X S hl (t := P.length + i) (by omega) (by omega); rw [show P.length + i - P.length = i from by omega, List.getElem?_eq_getElem hi] at this; exact (Option.some.inj this).symm
theorem Up.at (o : Ord lt) (z : α) {l : List α} {P X S : List α} (hX : Up lt X) (hl : l = P ++ (X ++ S)) {s t : Nat} (h0 : P.length ≤ s) (hst : s ≤ t) (h1 : t < P.length + X.length) : lt (l.getD t z) (l.getD s z) = false := by
 by_cases h : s = t
 ·
  subst h; exact o.irrefl _
 ·
  have e1 := at_part z P X S hl h0 (by omega); have e2 := at_part z P X S hl (Nat.le_trans h0 hst) h1; obtain ⟨g1, e1⟩ := List.getElem?_eq_some_iff.1 e1; obtain ⟨g2, e2⟩ := List.getElem?_eq_some_iff.1 e2; rw [← e1, ← e2]; exact List.pairwise_iff_getElem.1 hX _ _ g1 g2 (by omega)
/-- The first one moves to the right. -/
theorem m1_ev : ∀ (X P T : List α) (x : α) (x10 x13 : Int), x13 = P.length → x10 - 1 = P.length + X.length → (P.length + X.length + T.length) ≤ 1099511627776 →
  Ev (fun k => F.m1 k (P ++ x :: (X ++ T)) x10 x13) (P ++ (X ++ x :: T))
 | [], P, T, x, x10, x13, h1, h2, hb => by
  simp only [List.length_nil] at h2; refine Ev.step (f := fun _ => some _) (fun k => ?_) (Ev.now _); rw [F.m1_eq, w64 (x := x10 - 1) (by omega) (by omega), if_neg (by omega)]
  rfl
 | y :: X, P, T, x, x10, x13, h1, h2, hb => by
  simp only [List.length_cons] at h2 hb; have ih := m1_ev X (P ++ [y]) T x x10 (x13 + 1) (by simp; omega) (by simp; omega) (by simp; omega); have e1 : P ++ [y] ++ (X ++ x :: T) = P ++ (y :: X ++ x :: T) := by simp
  rw [e1] at ih; refine Ev.step (fun k => ?_) ih; have hlen : ((P ++ x :: (y :: X ++ T)).length : Int) = P.length + 1 + (X.length + 1) + T.length := by simp; omega
  rw [F.m1_eq, w64 (x := x10 - 1) (by omega) (by omega), w64 (x := x13 + 1) (by omega) (by omega), if_pos (by omega), if_pos (by omega), hlen, if_pos (by omega), if_pos (by omega), if_pos (by omega)]; rw [getD_at F.z P (y :: X ++ T) x x13 rfl h1, getD_at F.z (P ++ [x]) (X ++ T) y (x13 + 1) (by simp) (by simp; omega)]; rw [set_at P (y :: X ++ T) x y x13 rfl h1, set_at (P ++ [y]) (X ++ T) y x (x13 + 1) (by simp) (by simp; omega)]
/-- The last one moves to the left. -/
theorem m3_ev : ∀ (t : Nat) (X P T : List α) (y : α) (x14 x17 : Int), X.length = t → x14 = P.length → x17 = P.length + X.length → (P.length + X.length + T.length) ≤ 1099511627776 →
  Ev (fun k => F.m3 k (P ++ (X ++ y :: T)) x14 x17) (P ++ y :: (X ++ T))
 | 0, X, P, T, y, x14, x17, hX, h1, h2, hb => by
  obtain rfl := List.eq_nil_of_length_eq_zero hX; simp only [List.length_nil] at h2; refine Ev.step (f := fun _ => some _) (fun k => ?_) (Ev.now _); rw [F.m3_eq, if_neg (by omega)]
  rfl
 | t + 1, X, P, T, y, x14, x17, hX, h1, h2, hb => by
  obtain ⟨X', x, rfl⟩ : ∃ A' c', X = A' ++ [c'] := by
   rcases List.eq_nil_or_concat X with rfl | ⟨L, b, h⟩
   ·
    simp at hX
   ·
    exact ⟨L, b, by rw [h]; simp⟩
  simp only [List.length_append, List.length_cons, List.length_nil] at h2 hb hX; have ih := m3_ev t X' P (x :: T) y x14 (x17 - 1) (by omega) h1 (by omega) (by simp; omega); have e1 : P ++ y :: (X' ++ x :: T) = P ++ y :: (X' ++ [x] ++ T) := by simp
  rw [e1] at ih; refine Ev.step (fun k => ?_) ih; have hlen : ((P ++ (X' ++ [x] ++ y :: T)).length : Int) = P.length + X'.length + 1 + 1 + T.length := by simp; omega
  rw [F.m3_eq, w64 (x := x17 - 1) (by omega) (by omega), if_pos (by omega), if_pos (by omega), hlen, if_pos (by omega), if_pos (by omega), if_pos (by omega)]; rw [getD_at F.z (P ++ (X' ++ [x])) T y x17 (by simp) (by simp; omega), getD_at F.z (P ++ X') (y :: T) x (x17 - 1) (by simp) (by simp; omega)]; rw [set_at (P ++ (X' ++ [x])) T y x x17 (by simp) (by simp; omega), set_at (P ++ X') (x :: T) x y (x17 - 1) (by simp) (by simp; omega)]; simp
theorem cast_half (i j : Nat) : ((i : Int) + (j : Int)) / 2 = (((i + j) / 2 : Nat) : Int) := by omega
/-- symMerge of a single one. -/
theorem merge_one (o : Ord lt) (c : α → α → Int) (hlt : ∀ a b, lt a b = decide (c a b < 0)) (hc : ∀ a b, Ev (fun k => F.cm k a b) (c a b))
  (P R S : List α) (x : α) (hb : P.length + 1 + R.length + S.length ≤ 1099511627776) (hR : Up lt R) :
  ∃ r, Srt lt ([x] ++ R) r ∧ Ev (fun k => F.m0 k (P ++ x :: (R ++ S)) (P.length : Int) ((P.length + 1 : Nat) : Int) ((P.length + 1 + R.length : Nat) : Int)) (P ++ (r ++ S)) := by
 have hl : P ++ x :: (R ++ S) = (P ++ [x]) ++ (R ++ S) := by simp
 have hlen : ((P ++ x :: (R ++ S)).length : Int) = P.length + 1 + R.length + S.length := by simp; omega
 have hx : (P ++ x :: (R ++ S)).getD (P.length : Int).toNat F.z = x := getD_at F.z P (R ++ S) x _ rfl rfl
 obtain ⟨s, h1, h2, h3, h4, h5⟩ := bv (fun k i j => F.m0 k (P ++ x :: (R ++ S)) (P.length : Int) i j) (fun t => lt ((P ++ x :: (R ++ S)).getD t F.z) x = true) (R.length) (P.length + 1) (P.length + 1 + R.length) (by omega) (by omega) (fun i j hi hij hj Q => by
   have hstep : ∀ k, F.m0 (k + 1) (P ++ x :: (R ++ S)) (P.length : Int) i j = (F.cm k ((P ++ x :: (R ++ S)).getD ((i + j) / 2) F.z) x).bind fun t => if t < 0 then F.m0 k (P ++ x :: (R ++ S)) (P.length : Int) (((i + j) / 2 : Nat) + 1 : Nat) j else F.m0 k (P ++ x :: (R ++ S)) (P.length : Int) i ((i + j) / 2 : Nat) := by
    intro k; rw [F.m0_eq, half (by omega) (by omega), cast_half, if_pos (by omega), if_pos (by omega), hlen, if_pos (by omega), if_pos (by omega), if_pos (by omega), hx, Int.toNat_natCast, w64 (by omega) (by omega)]; rfl
   have hlt' := hlt ((P ++ x :: (R ++ S)).getD ((i + j) / 2) F.z) x
   constructor
   ·
    intro hp hQ; rw [hp] at hlt'; exact Ev.step hstep ((hc _ _).bind (f := fun k t => if t < 0 then F.m0 k (P ++ x :: (R ++ S)) (P.length : Int) (((i + j) / 2 : Nat) + 1 : Nat) j else F.m0 k (P ++ x :: (R ++ S)) (P.length : Int) i ((i + j) / 2 : Nat)) (Ev.congr (fun k => if_pos (of_decide_eq_true hlt'.symm)) hQ))
   ·
    intro hp hQ; rw [Bool.not_eq_true] at hp; rw [hp] at hlt'
    exact Ev.step hstep ((hc _ _).bind (f := fun k t => if t < 0 then F.m0 k (P ++ x :: (R ++ S)) (P.length : Int) (((i + j) / 2 : Nat) + 1 : Nat) j else F.m0 k (P ++ x :: (R ++ S)) (P.length : Int) i ((i + j) / 2 : Nat)) (Ev.congr (fun k => if_neg (of_decide_eq_false hlt'.symm)) hQ)))
  (fun u v hu huv hv hp => by
   cases h : lt ((P ++ x :: (R ++ S)).getD u F.z) x with
   | true => rfl
   | false =>
    have := Up.at o F.z hR hl (s := u) (t := v) (by simp; omega) huv (by simp; omega); rw [o.neg _ _ _ this h] at hp
    cases hp)
 obtain ⟨R1, R2, rfl, hl1⟩ : ∃ R1 R2, R = R1 ++ R2 ∧ R1.length = s - (P.length + 1) := ⟨R.take (s - (P.length + 1)), R.drop (s - (P.length + 1)), (List.take_append_drop _ _).symm, by rw [List.length_take]; omega⟩
 rw [List.length_append] at h2 h4 hb
 have a1 : ∀ y ∈ R1, lt y x = true := by
  intro y hy; obtain ⟨t, t1, t2, rfl⟩ := mem_part F.z (P ++ [x]) R1 (R2 ++ S) (l := P ++ x :: (R1 ++ R2 ++ S)) (by simp) hy; simp only [List.length_append, List.length_cons, List.length_nil] at t1 t2; exact h3 t (by omega) (by omega)
 have a2 : ∀ y ∈ R2, lt y x = false := by
  intro y hy; obtain ⟨t, t1, t2, rfl⟩ := mem_part F.z (P ++ [x] ++ R1) R2 S (l := P ++ x :: (R1 ++ R2 ++ S)) (by simp) hy; simp only [List.length_append, List.length_cons, List.length_nil] at t1 t2; exact (Bool.not_eq_true _).mp (h4 t (by omega) (by omega))
 refine ⟨R1 ++ x :: R2, ⟨?_, ?_⟩, ?_⟩
 ·
  have := (o.swap (A := [x]) (B := R1) (fun u hu v hv => by rw [List.mem_singleton.1 hu]; exact a1 v hv)).symm.app (Same.refl R2); simpa using this
 ·
  refine up_app hR.left (up_app (A := [x]) (List.pairwise_singleton _ _) hR.right (fun u hu v hv => by rw [List.mem_singleton.1 hu]; exact a2 v hv)) (fun u hu v hv => ?_); rcases List.mem_cons.1 hv with rfl | hv
  ·
   exact o.asymm _ _ (a1 u hu)
  ·
   exact hR.cross u hu v hv
 ·
  refine h5 _ ?_; have := m1_ev F R1 P (R2 ++ S) x (s : Int) (P.length : Int) rfl (by omega) (by simp; omega); refine Ev.step (fun k => ?_) (show Ev (fun k => F.m1 k (P ++ x :: (R1 ++ R2 ++ S)) (s : Int) (P.length : Int)) (P ++ (R1 ++ x :: R2 ++ S)) from by simpa using this); rw [F.m0_eq, if_neg (by omega)]
/-- symMerge with a single one. -/
theorem merge_last (o : Ord lt) (c : α → α → Int) (hlt : ∀ a b, lt a b = decide (c a b < 0)) (hc : ∀ a b, Ev (fun k => F.cm k a b) (c a b))
  (P L S : List α) (y : α) (hb : P.length + L.length + 1 + S.length ≤ 1099511627776) (hL : Up lt L) :
  ∃ r, Srt lt (L ++ [y]) r ∧ Ev (fun k => F.m2 k (P ++ (L ++ y :: S)) ((P.length + L.length : Nat) : Int) (P.length : Int) ((P.length + L.length : Nat) : Int)) (P ++ (r ++ S)) := by
 have hl : P ++ (L ++ y :: S) = P ++ (L ++ (y :: S)) := rfl; have hlen : ((P ++ (L ++ y :: S)).length : Int) = P.length + L.length + 1 + S.length := by simp; omega
 have hy : (P ++ (L ++ y :: S)).getD (((P.length + L.length : Nat) : Int)).toNat F.z = y := getD_at F.z (P ++ L) S y _ (by simp) (by simp)
 obtain ⟨s, h1, h2, h3, h4, h5⟩ := bv (fun k i j => F.m2 k (P ++ (L ++ y :: S)) ((P.length + L.length : Nat) : Int) i j) (fun t => lt y ((P ++ (L ++ y :: S)).getD t F.z) = false) (L.length) (P.length) (P.length + L.length) (by omega) (by omega) (fun i j hi hij hj Q => by
   have hstep : ∀ k, F.m2 (k + 1) (P ++ (L ++ y :: S)) ((P.length + L.length : Nat) : Int) i j = (F.cm k y ((P ++ (L ++ y :: S)).getD ((i + j) / 2) F.z)).bind fun t => if t < 0 then F.m2 k (P ++ (L ++ y :: S)) ((P.length + L.length : Nat) : Int) i ((i + j) / 2 : Nat) else F.m2 k (P ++ (L ++ y :: S)) ((P.length + L.length : Nat) : Int) (((i + j) / 2 : Nat) + 1 : Nat) j := by
    intro k; rw [F.m2_eq, half (by omega) (by omega), cast_half, if_pos (by omega), if_pos (by omega), hlen, if_pos (by omega), if_pos (by omega), if_pos (by omega), hy, Int.toNat_natCast, w64 (by omega) (by omega)]; rfl
   have hlt' := hlt y ((P ++ (L ++ y :: S)).getD ((i + j) / 2) F.z)
   constructor
   ·
    intro hp hQ; rw [hp] at hlt'; exact Ev.step hstep ((hc _ _).bind (f := fun k t => if t < 0 then F.m2 k (P ++ (L ++ y :: S)) ((P.length + L.length : Nat) : Int) i ((i + j) / 2 : Nat) else F.m2 k (P ++ (L ++ y :: S)) ((P.length + L.length : Nat) : Int) (((i + j) / 2 : Nat) + 1 : Nat) j) (Ev.congr (fun k => if_neg (of_decide_eq_false hlt'.symm)) hQ))
   ·
    intro hp hQ; rw [Bool.not_eq_false] at hp; rw [hp] at hlt'
    exact Ev.step hstep ((hc _ _).bind (f := fun k t => if t < 0 then F.m2 k (P ++ (L ++ y :: S)) ((P.length + L.length : Nat) : Int) i ((i + j) / 2 : Nat) else F.m2 k (P ++ (L ++ y :: S)) ((P.length + L.length : Nat) : Int) (((i + j) / 2 : Nat) + 1 : Nat) j) (Ev.congr (fun k => if_pos (of_decide_eq_true hlt'.symm)) hQ)))
  (fun u v hu huv hv hp => o.neg _ _ _ hp (Up.at o F.z hL hl hu huv hv))
 obtain ⟨L1, L2, rfl, hl1⟩ : ∃ L1 L2, L = L1 ++ L2 ∧ L1.length = s - P.length := ⟨L.take (s - P.length), L.drop (s - P.length), (List.take_append_drop _ _).symm, by rw [List.length_take]; omega⟩
 rw [List.length_append] at h2 h4 hb
 have a1 : ∀ x ∈ L1, lt y x = false := by
  intro x hx; obtain ⟨t, t1, t2, rfl⟩ := mem_part F.z P L1 (L2 ++ y :: S) (l := P ++ (L1 ++ L2 ++ y :: S)) (by simp) hx; exact h3 t (by omega) (by omega)
 have a2 : ∀ x ∈ L2, lt y x = true := by
  intro x hx; obtain ⟨t, t1, t2, rfl⟩ := mem_part F.z (P ++ L1) L2 (y :: S) (l := P ++ (L1 ++ L2 ++ y :: S)) (by simp) hx; simp only [List.length_append] at t1 t2; exact (Bool.not_eq_false _).mp (h4 t (by omega) (by omega))
 refine ⟨L1 ++ y :: L2, ⟨?_, ?_⟩, ?_⟩
 ·
  have := (Same.refl (lt := lt) L1).app (o.swap (A := L2) (B := [y]) (fun u hu v hv => by rw [List.mem_singleton.1 hv]; exact a2 u hu)).symm; simpa using this
 ·
  refine up_app hL.left (up_app (A := [y]) (List.pairwise_singleton _ _) hL.right (fun u hu v hv => by rw [List.mem_singleton.1 hu]; exact o.asymm _ _ (a2 v hv))) (fun u hu v hv => ?_); rcases List.mem_cons.1 hv with rfl | hv
  ·
   exact a1 u hu
  ·
   exact hL.cross u hu v hv
 ·
  refine h5 _ ?_; have := m3_ev F L2.length L2 (P ++ L1) S y (s : Int) ((P.length + (L1 ++ L2).length : Nat) : Int) rfl (by simp; omega) (by simp; omega) (by simp; omega); refine Ev.step (fun k => ?_) (show Ev (fun k => F.m3 k (P ++ (L1 ++ L2 ++ y :: S)) (s : Int) ((P.length + (L1 ++ L2).length : Nat) : Int)) (P ++ (L1 ++ y :: L2 ++ S)) from by simpa using this); rw [F.m2_eq, if_neg (by omega)]
theorem Srt.len {l r : List α} (h : Srt lt l r) : r.length = l.length := h.same.perm.length_eq
theorem Srt.mem {l r : List α} (h : Srt lt l r) {x : α} (hx : x ∈ r) : x ∈ l := h.same.perm.mem_iff.1 hx
/-- symMerge. -/
theorem mf_ev (o : Ord lt) (c : α → α → Int) (hlt : ∀ a b, lt a b = decide (c a b < 0)) (hc : ∀ a b, Ev (fun k => F.cm k a b) (c a b)) :
  ∀ (t : Nat) (P L R S : List α) (a m b : Int), L.length + R.length ≤ t → 0 < L.length → 0 < R.length → (P.length + L.length + R.length + S.length) ≤ 1099511627776 → a = P.length → m = P.length + L.length → b = P.length + L.length + R.length → Up lt L → Up lt R →
  ∃ r, Srt lt (L ++ R) r ∧ Ev (fun k => F.mf k (P ++ (L ++ (R ++ S))) a m b) (P ++ (r ++ S))
 | 0, P, L, R, S, a, m, b, ht, hL0, hR0, hb, ha, hm, hbb, hL, hR => by omega
 | t + 1, P, L, R, S, a, m, b, ht, hL0, hR0, hb, ha, hm, hbb, hL, hR => by
  by_cases hL1 : L.length = 1
  ·
   obtain ⟨x, rfl⟩ : ∃ x, L = [x] := by
    match L, hL1 with
    | [x], _ => exact ⟨x, rfl⟩
   obtain ⟨r, hr, hev⟩ := merge_one F o c hlt hc P R S x (by simpa using hb) hR; refine ⟨r, hr, Ev.step (fun k => ?_) hev⟩; rw [F.mf_eq, if_pos (by rw [w64 (x := m - a) (by omega) (by omega)]; omega), ha, hm, hbb]; simp
  by_cases hR1 : R.length = 1
  ·
   obtain ⟨y, rfl⟩ : ∃ x, R = [x] := by
    match R, hR1 with
    | [x], _ => exact ⟨x, rfl⟩
   obtain ⟨r, hr, hev⟩ := merge_last F o c hlt hc P L S y (by simpa using hb) hL; refine ⟨r, hr, Ev.step (fun k => ?_) hev⟩; rw [F.mf_eq, if_neg (by rw [w64 (x := m - a) (by omega) (by omega)]; omega), if_pos (by rw [w64 (x := b - m) (by omega) (by omega)]; omega), ha, hm]; simp
  obtain ⟨D, hD⟩ : ∃ D, P ++ (L ++ (R ++ S)) = D := ⟨_, rfl⟩
  have hDl : (D.length : Int) = P.length + L.length + R.length + S.length := by rw [← hD]; simp; omega
  obtain ⟨pa, hpa⟩ : ∃ pa, P.length = pa := ⟨_, rfl⟩
  obtain ⟨pm, hpm⟩ : ∃ pm, P.length + L.length = pm := ⟨_, rfl⟩
  obtain ⟨pb, hpb⟩ : ∃ pb, P.length + L.length + R.length = pb := ⟨_, rfl⟩
  obtain ⟨mid, hmid⟩ : ∃ mid, (pa + pb) / 2 = mid := ⟨_, rfl⟩
  obtain ⟨lo, hi, hlo1, hlohi, hhi1, hhi2, hplo, hclo, hchi, hstart⟩ : ∃ lo hi : Nat, pa ≤ lo ∧ lo ≤ hi ∧ hi ≤ pm ∧ hi ≤ mid ∧ mid + pm ≤ lo + pb ∧ (lo = pa ∨ mid + pm = lo + pb) ∧ (hi = pm ∨ hi = mid) ∧
    ∀ k, F.mf (k + 1) D a m b = F.j4 k D a m b (mid : Int) ((mid + pm : Nat) : Int) (lo : Int) (hi : Int) := by
   have e0 : wrap64 ((IntKind.u64.wrap (wrap64 (a + b))) / 2) = (mid : Int) := by rw [half (by omega) (by omega)]; omega
   have e1 : ∀ k, F.mf (k + 1) D a m b = if m > (mid : Int) then (F.j4 k D a m b (mid : Int) ((mid + pm : Nat) : Int) (((mid + pm : Nat) : Int) - b) (mid : Int)) else (F.j4 k D a m b (mid : Int) ((mid + pm : Nat) : Int) a m) := by
    intro k; rw [F.mf_eq, if_neg (by rw [w64 (x := m - a) (by omega) (by omega)]; omega), if_neg (by rw [w64 (x := b - m) (by omega) (by omega)]; omega), e0, show wrap64 ((mid : Int) + m) = ((mid + pm : Nat) : Int) from by rw [w64 (by omega) (by omega)]; omega, w64 (x := ((mid + pm : Nat) : Int) - b) (by omega) (by omega)]
   by_cases h : m > (mid : Int)
   ·
    refine ⟨mid + pm - pb, mid, by omega, by omega, by omega, by omega, by omega, .inr (by omega), .inr rfl, fun k => ?_⟩; rw [e1 k, if_pos h, show ((mid + pm : Nat) : Int) - b = ((mid + pm - pb : Nat) : Int) from by omega]
   ·
    refine ⟨pa, pm, by omega, by omega, by omega, by omega, by omega, .inl rfl, .inl rfl, fun k => ?_⟩; rw [e1 k, if_neg h, show a = (pa : Int) from by omega, show m = (pm : Int) from by omega]
  have elt : ∀ u, lt (D.getD u F.z) (D.getD u F.z) = false := fun u => o.irrefl _; have atL : ∀ {u v : Nat}, pa ≤ u → u ≤ v → v < pm → lt (D.getD v F.z) (D.getD u F.z) = false := fun h1 h2 h3 => Up.at o F.z hL hD.symm (by omega) h2 (by omega); have atR : ∀ {u v : Nat}, pm ≤ u → u ≤ v → v < pb → lt (D.getD v F.z) (D.getD u F.z) = false := fun h1 h2 h3 => Up.at o F.z hR (P := P ++ L) (S := S) (by rw [← hD]; simp) (by simp; omega) h2 (by simp; omega)
  obtain ⟨s, h1, h2, h3, h4, h5⟩ := bv (fun k i j => F.l4 k D a m b (mid : Int) ((mid + pm : Nat) : Int) i j ((mid + pm : Nat) - 1 : Int)) (fun u => lt (D.getD (mid + pm - 1 - u) F.z) (D.getD u F.z) = false) (hi - lo) lo hi (Nat.le_refl _) hlohi (fun i j hi' hij hj Q => by
    have hstep : ∀ k, F.l4 (k + 1) D a m b (mid : Int) ((mid + pm : Nat) : Int) i j ((mid + pm : Nat) - 1 : Int) = (F.cm k (D.getD (mid + pm - 1 - (i + j) / 2) F.z) (D.getD ((i + j) / 2) F.z)).bind fun t => if t < 0 then F.l4 k D a m b (mid : Int) ((mid + pm : Nat) : Int) i ((i + j) / 2 : Nat) ((mid + pm : Nat) - 1 : Int) else F.l4 k D a m b (mid : Int) ((mid + pm : Nat) : Int) (((i + j) / 2 : Nat) + 1 : Nat) j ((mid + pm : Nat) - 1 : Int) := by
     intro k; have e2 : wrap64 ((((mid + pm : Nat) : Int) - 1) - (((i + j) / 2 : Nat) : Int)) = ((mid + pm - 1 - (i + j) / 2 : Nat) : Int) := by rw [w64 (by omega) (by omega)]; omega
     rw [F.l4_eq, half (by omega) (by omega), cast_half, e2, if_pos (by omega), if_pos (by omega), hDl, if_pos (by omega), if_pos (by omega), if_pos (by omega), Int.toNat_natCast, Int.toNat_natCast, w64 (x := (((i + j) / 2 : Nat) : Int) + 1) (by omega) (by omega)]; rfl
    have hlt' := hlt (D.getD (mid + pm - 1 - (i + j) / 2) F.z) (D.getD ((i + j) / 2) F.z)
    constructor
    ·
     intro hp hQ; rw [hp] at hlt'; exact Ev.step hstep ((hc _ _).bind (f := fun k t => if t < 0 then F.l4 k D a m b (mid : Int) ((mid + pm : Nat) : Int) i ((i + j) / 2 : Nat) ((mid + pm : Nat) - 1 : Int) else F.l4 k D a m b (mid : Int) ((mid + pm : Nat) : Int) (((i + j) / 2 : Nat) + 1 : Nat) j ((mid + pm : Nat) - 1 : Int)) (Ev.congr (fun k => if_neg (of_decide_eq_false hlt'.symm)) hQ))
    ·
     intro hp hQ; rw [Bool.not_eq_false] at hp; rw [hp] at hlt'
     exact Ev.step hstep ((hc _ _).bind (f := fun k t => if t < 0 then F.l4 k D a m b (mid : Int) ((mid + pm : Nat) : Int) i ((i + j) / 2 : Nat) ((mid + pm : Nat) - 1 : Int) else F.l4 k D a m b (mid : Int) ((mid + pm : Nat) : Int) (((i + j) / 2 : Nat) + 1 : Nat) j ((mid + pm : Nat) - 1 : Int)) (Ev.congr (fun k => if_pos (of_decide_eq_true hlt'.symm)) hQ)))
   (fun u v hu huv hv hp => o.neg _ _ _ (o.neg _ _ _ (atR (by omega) (by omega) (by omega)) hp) (atL (by omega) huv (by omega)))
  obtain ⟨E, hE⟩ : ∃ E, mid + pm - s = E := ⟨_, rfl⟩
  obtain ⟨L1, L2, hLL, hl1⟩ : ∃ L1 L2, L = L1 ++ L2 ∧ L1.length = s - pa := ⟨L.take (s - pa), L.drop (s - pa), (List.take_append_drop _ _).symm, by rw [List.length_take]; omega⟩
  obtain ⟨R1, R2, hRR, hr1⟩ : ∃ R1 R2, R = R1 ++ R2 ∧ R1.length = E - pm := ⟨R.take (E - pm), R.drop (E - pm), (List.take_append_drop _ _).symm, by rw [List.length_take]; omega⟩
  have hl2 : L2.length = pm - s := by have := congrArg List.length hLL; rw [List.length_append] at this; omega
  have hr2 : R2.length = pb - E := by have := congrArg List.length hRR; rw [List.length_append] at this; omega
  subst hLL hRR; have hD' : D = P ++ (L1 ++ (L2 ++ (R1 ++ (R2 ++ S)))) := by rw [← hD]; simp
  have c1 : ∀ x ∈ L1, ∀ y ∈ R2, lt y x = false := by
   intro x hx y hy; obtain ⟨u, u1, u2, rfl⟩ := mem_part F.z P L1 _ hD' hx; obtain ⟨v, v1, v2, rfl⟩ := mem_part F.z (P ++ (L1 ++ (L2 ++ R1))) R2 S (l := D) (by rw [hD']; simp) hy; simp only [List.length_append] at v1 v2; have h6 := h3 (s - 1) (by omega) (by omega); exact o.neg _ _ _ (o.neg _ _ _ (atR (u := mid + pm - 1 - (s - 1)) (v := v) (by omega) (by omega) (by omega)) h6) (atL (by omega) (by omega) (by omega))
  have c2 : ∀ x ∈ R1, ∀ y ∈ L2, lt x y = true := by
   intro x hx y hy; obtain ⟨u, u1, u2, rfl⟩ := mem_part F.z (P ++ (L1 ++ L2)) R1 (R2 ++ S) (l := D) (by rw [hD']; simp) hx; obtain ⟨v, v1, v2, rfl⟩ := mem_part F.z (P ++ L1) L2 (R1 ++ (R2 ++ S)) (l := D) (by rw [hD']; simp) hy; simp only [List.length_append] at u1 u2 v1 v2; have h6 := h4 s (Nat.le_refl _) (by omega)
   cases h : lt (D.getD u F.z) (D.getD v F.z) with
   | true => rfl
   | false => exact absurd (o.neg _ _ _ (o.neg _ _ _ (atR (u := u) (v := mid + pm - 1 - s) (by omega) (by omega) (by omega)) h) (atL (u := s) (v := v) (by omega) (by omega) (by omega))) h6
  obtain ⟨X, hX, hXe, hXn⟩ : ∃ X, Srt lt (L1 ++ R1) X ∧ (pa < s → s < mid → Ev (fun k => F.mf k (P ++ (L1 ++ (R1 ++ (L2 ++ (R2 ++ S))))) a s mid) (P ++ (X ++ (L2 ++ (R2 ++ S))))) ∧ (¬ (pa < s ∧ s < mid) → X = L1 ++ R1) := by
   by_cases h : pa < s ∧ s < mid
   ·
    obtain ⟨X, hX, hXe⟩ := mf_ev o c hlt hc t P L1 R1 (L2 ++ (R2 ++ S)) a s mid (by simp at ht; omega) (by omega) (by omega) (by simp at hb ⊢; omega) ha (by omega) (by omega) hL.left hR.left; exact ⟨X, hX, fun _ _ => hXe, fun hn => absurd h hn⟩
   ·
    refine ⟨L1 ++ R1, ⟨Same.refl _, ?_⟩, fun h1 h2 => absurd ⟨h1, h2⟩ h, fun _ => rfl⟩; rcases Nat.lt_or_ge pa s with h6 | h6
    ·
     rw [List.eq_nil_of_length_eq_zero (l := R1) (by omega), List.append_nil]; exact hL.left
    ·
     rw [List.eq_nil_of_length_eq_zero (l := L1) (by omega)]; exact hR.left
  have hXl : X.length = L1.length + R1.length := by rw [hX.len, List.length_append]
  obtain ⟨Y, hY, hYe, hYn⟩ : ∃ Y, Srt lt (L2 ++ R2) Y ∧ (mid < E → E < pb → Ev (fun k => F.mf k (P ++ (X ++ (L2 ++ (R2 ++ S)))) mid E b) (P ++ (X ++ (Y ++ S)))) ∧ (¬ (mid < E ∧ E < pb) → Y = L2 ++ R2) := by
   by_cases h : mid < E ∧ E < pb
   ·
    obtain ⟨Y, hY, hYe⟩ := mf_ev o c hlt hc t (P ++ X) L2 R2 S mid E b (by simp at ht; omega) (by omega) (by omega) (by simp at hb ⊢; omega) (by simp; omega) (by simp; omega) (by simp at hbb ⊢; omega) hL.right hR.right; exact ⟨Y, hY, fun _ _ => by simpa using hYe, fun hn => absurd h hn⟩
   ·
    refine ⟨L2 ++ R2, ⟨Same.refl _, ?_⟩, fun h1 h2 => absurd ⟨h1, h2⟩ h, fun _ => rfl⟩; rcases Nat.lt_or_ge mid E with h6 | h6
    ·
     rw [List.eq_nil_of_length_eq_zero (l := R2) (by omega), List.append_nil]; exact hL.right
    ·
     rw [List.eq_nil_of_length_eq_zero (l := L2) (by omega)]; exact hR.right
  refine ⟨X ++ Y, ⟨?_, ?_⟩, ?_⟩
  ·
   refine (hX.same.app hY.same).trans ?_; have := ((Same.refl (lt := lt) L1).app (o.swap (A := L2) (B := R1) (fun x hx y hy => c2 y hy x hx)).symm).app (Same.refl R2); simpa using this
  ·
   refine up_app hX.up hY.up (fun x hx y hy => ?_); rcases List.mem_append.1 (hX.mem hx) with hx | hx <;> rcases List.mem_append.1 (hY.mem hy) with hy | hy
   ·
    exact hL.cross x hx y hy
   ·
    exact c1 x hx y hy
   ·
    exact o.asymm _ _ (c2 x hx y hy)
   ·
    exact hR.cross x hx y hy
  ·
   -- the walk through the last parts
   have hj8 : ∀ (A B : Bool), A = decide (pa < s ∧ s < mid) → Ev (fun k => F.j8 k (P ++ (L1 ++ (R1 ++ (L2 ++ (R2 ++ S))))) a b mid s E A) (P ++ (X ++ (Y ++ S))) := by
    intro A B hA
    have hsec : Ev (fun k => if (mid : Int) < E then (if (E : Int) < b then ((F.mf k (P ++ (X ++ (L2 ++ (R2 ++ S)))) mid E b).bind fun t' => (some t')) else (some (P ++ (X ++ (L2 ++ (R2 ++ S)))))) else (some (P ++ (X ++ (L2 ++ (R2 ++ S)))))) (P ++ (X ++ (Y ++ S))) := by
     by_cases h6 : mid < E
     ·
      refine Ev.congr (fun k => if_pos (by omega)) ?_
      by_cases h7 : E < pb
      ·
       exact Ev.congr (fun k => if_pos (by omega)) ((hYe h6 h7).bind (f := fun _ t => some t) (Ev.now _))
      ·
       refine Ev.congr (fun k => if_neg (by omega)) ?_; rw [hYn (fun h => h7 h.2)]; simpa using Ev.now (P ++ (X ++ (L2 ++ (R2 ++ S))))
     ·
      refine Ev.congr (fun k => if_neg (by omega)) ?_; rw [hYn (fun h => h6 h.1)]; simpa using Ev.now (P ++ (X ++ (L2 ++ (R2 ++ S))))
    by_cases h : pa < s ∧ s < mid
    ·
     rw [hA, decide_eq_true h]; refine Ev.step (fun k => by rw [F.j8_eq, if_pos rfl]) ((hXe h.1 h.2).bind (f := fun k t => if (mid : Int) < E then (if (E : Int) < b then ((F.mf k t mid E b).bind fun t' => (some t')) else (some t)) else (some t)) hsec)
    ·
     rw [hA, decide_eq_false h]; have e : P ++ (X ++ (L2 ++ (R2 ++ S))) = P ++ (L1 ++ (R1 ++ (L2 ++ (R2 ++ S)))) := by rw [hXn h]; simp
     rw [e] at hsec; exact Ev.step (fun k => by rw [F.j8_eq, if_neg (by simp)]) hsec
   have hj7 : Ev (fun k => F.j7 k (P ++ (L1 ++ (R1 ++ (L2 ++ (R2 ++ S))))) a b mid s E) (P ++ (X ++ (Y ++ S))) := by
    by_cases h : pa < s
    ·
     refine Ev.step (fun k => ?_) (hj8 (decide ((s : Int) < mid)) true (by simp [h])); rw [F.j7_eq, if_pos (by omega)]
    ·
     refine Ev.step (fun k => ?_) (hj8 false true (by simp [h])); rw [F.j7_eq, if_neg (by omega)]
   have hj6 : ∀ fl : Bool, fl = decide (s < pm ∧ pm < E) → Ev (fun k => F.j6 k D a m b mid s E fl) (P ++ (X ++ (Y ++ S))) := by
    intro fl hfl
    by_cases h : s < pm ∧ pm < E
    ·
     rw [hfl, decide_eq_true h]; have hrot := rot_ev F (L2.length + R1.length) (P ++ L1) L2 R1 (R2 ++ S) m (m - s) (E - m) (Nat.le_refl _) (by omega) (by omega) (by simp at hb ⊢; omega) (by simp; omega) (by omega) (by omega); have e1 : P ++ L1 ++ (L2 ++ (R1 ++ (R2 ++ S))) = D := by rw [hD']; simp
     have e2 : P ++ L1 ++ (R1 ++ (L2 ++ (R2 ++ S))) = P ++ (L1 ++ (R1 ++ (L2 ++ (R2 ++ S)))) := by simp
     rw [e1, e2] at hrot; refine Ev.step (fun k => ?_) (hrot.bind (f := fun k t => F.j7 k t a b mid s E) hj7); rw [F.j6_eq, if_pos rfl, w64 (x := m - s) (by omega) (by omega), w64 (x := E - m) (by omega) (by omega)]
    ·
     rw [hfl, decide_eq_false h]
     have e : P ++ (L1 ++ (R1 ++ (L2 ++ (R2 ++ S)))) = D := by
      rw [hD']; rcases Nat.lt_or_ge s pm with h6 | h6
      ·
       rw [List.eq_nil_of_length_eq_zero (l := R1) (by omega)]; simp
      ·
       rw [List.eq_nil_of_length_eq_zero (l := L2) (by omega)]; simp
     rw [e] at hj7; exact Ev.step (fun k => by rw [F.j6_eq, if_neg (by simp)]) hj7
   have hl4 : Ev (fun k => F.l4 k D a m b (mid : Int) ((mid + pm : Nat) : Int) s s ((mid + pm : Nat) - 1 : Int)) (P ++ (X ++ (Y ++ S))) := by
    have eE : wrap64 (((mid + pm : Nat) : Int) - s) = (E : Int) := by rw [w64 (by omega) (by omega)]; omega
    by_cases h : s < pm
    ·
     refine Ev.step (fun k => ?_) (hj6 (decide (m < E)) (by
      by_cases h6 : pm < E
      ·
       rw [decide_eq_true (show m < (E : Int) from by omega), decide_eq_true ⟨h, h6⟩]
      ·
       rw [decide_eq_false (show ¬ m < (E : Int) from by omega), decide_eq_false (fun h7 => h6 h7.2)]))
     rw [F.l4_eq, if_neg (by omega), if_pos (by omega), eE]
    ·
     refine Ev.step (fun k => ?_) (hj6 false (by rw [decide_eq_false (fun h7 => h h7.1)])); rw [F.l4_eq, if_neg (by omega), if_neg (by omega), eE]
   have hfin := h5 _ hl4; have e3 : P ++ (L1 ++ L2 ++ (R1 ++ R2 ++ S)) = D := hD; rw [e3]; have e4 : P ++ (X ++ (Y ++ S)) = P ++ (X ++ Y ++ S) := by simp
   rw [e4] at hfin; refine Ev.step hstart (Ev.step (fun k => ?_) hfin); rw [F.j4_eq, w64 (x := ((mid + pm : Nat) : Int) - 1) (by omega) (by omega)]
/-- Blocks of size s, each sorted; the last may be short. -/
inductive CS (lt : α → α → Bool) (s : Nat) : List α → Prop
 | last (l) (hl : l.length ≤ s) (hu : Up lt l) : CS lt s l
 | cons (l r) (hl : l.length = s) (hu : Up lt l) (hr : CS lt s r) : CS lt s (l ++ r)
/-- Full blocks alone. -/
inductive Full (lt : α → α → Bool) (s : Nat) : List α → Prop
 | nil : Full lt s []
 | snoc (l r) (h : Full lt s l) (hl : r.length = s) (hu : Up lt r) : Full lt s (l ++ r)
theorem Full.cs {s : Nat} {D : List α} (h : Full lt s D) : ∀ E, CS lt s E → CS lt s (D ++ E) := by
 induction h with
 | nil => intro E h; exact h
 | snoc l r _ hl hu ih => intro E hE; rw [List.append_assoc]; exact ih _ (.cons r E hl hu hE)
/-- A block's head. -/
theorem CS.head {s : Nat} {E : List α} (h : CS lt s E) (hE : s < E.length) : ∃ E1 E2, E = E1 ++ E2 ∧ E1.length = s ∧ Up lt E1 ∧ CS lt s E2 := by
 cases h with
 | last _ hl hu => omega
 | cons l r hl hu hr => exact ⟨l, r, rfl, hl, hu, hr⟩
theorem CS.small {s : Nat} {E : List α} (h : CS lt s E) (hE : E.length ≤ s) : Up lt E := by
 cases h with
 | last _ hl hu => exact hu
 | cons l r hl hu hr =>
  rw [List.length_append] at hE; rw [List.eq_nil_of_length_eq_zero (l := r) (by omega), List.append_nil]; exact hu
/-- Two heads, or one and a rest that is sorted. -/
theorem CS.two {s : Nat} {E : List α} (h : CS lt s E) (hE : s + s ≤ E.length) (hs : 0 < s) : ∃ E1 E2 E3, E = E1 ++ (E2 ++ E3) ∧ E1.length = s ∧ E2.length = s ∧ Up lt E1 ∧ Up lt E2 ∧ CS lt s E3 := by
 obtain ⟨E1, Z, rfl, h1, h2, h3⟩ := h.head (by omega); rw [List.length_append] at hE
 by_cases hz : s < Z.length
 ·
  obtain ⟨E2, E3, rfl, h4, h5, h6⟩ := h3.head hz; exact ⟨E1, E2, E3, rfl, h1, h4, h2, h5, h6⟩
 ·
  exact ⟨E1, Z, [], by simp, h1, by omega, h2, h3.small (by omega), .last [] (by simp) List.Pairwise.nil⟩
/-- A round of merges. -/
theorem s2_ev (o : Ord lt) (c : α → α → Int) (hlt : ∀ a b, lt a b = decide (c a b < 0)) (hc : ∀ a b, Ev (fun k => F.cm k a b) (c a b)) (s : Nat) (hs : 0 < s) (hs2 : s ≤ 1099511627776) :
  ∀ (t : Nat) (D E : List α), E.length ≤ t → (D.length + E.length) ≤ 1099511627776 → Full lt (s + s) D → CS lt s E →
  ∃ r, Same lt r (D ++ E) ∧ CS lt (s + s) r ∧ ∀ R, Ev (fun k => F.s1 k r ((D.length + E.length : Nat) : Int) ((s + s : Nat) : Int)) R → Ev (fun k => F.s2 k (D ++ E) ((D.length + E.length : Nat) : Int) s D.length ((D.length + (s + s) : Nat) : Int)) R
 | t, D, E, ht, hb, hD, hE => by
  by_cases h : s + s ≤ E.length
  ·
   obtain ⟨E1, E2, E3, rfl, h1, h2, h3, h4, h5⟩ := hE.two h hs; rw [List.length_append, List.length_append] at hb ht; obtain ⟨r, hr, hev⟩ := mf_ev F o c hlt hc (s + s) D E1 E2 E3 D.length ((D.length + s : Nat) : Int) ((D.length + (s + s) : Nat) : Int) (by omega) (by omega) (by omega) (by omega) rfl (by omega) (by omega) h3 h4; have hrl : r.length = s + s := by rw [hr.len, List.length_append]; omega
   match t, ht with
   | 0, ht => omega
   | t + 1, ht =>
    obtain ⟨q, hq, hcs, hq2⟩ := s2_ev o c hlt hc s hs hs2 t (D ++ r) E3 (by omega) (by rw [List.length_append]; omega) (.snoc D r hD hrl hr.up) h5; rw [List.length_append, hrl] at hq2; refine ⟨q, ?_, hcs, fun R hR => ?_⟩
    ·
     refine hq.trans ?_; have := ((Same.refl D).app hr.same).app (Same.refl E3); simpa using this
    ·
     have e0 : (D ++ (E1 ++ (E2 ++ E3))).length = D.length + (s + s) + E3.length := by simp; omega
     have e1 : D.length + (E1 ++ (E2 ++ E3)).length = D.length + (s + s) + E3.length := by simp; omega
     rw [e1] at hR ⊢; have h6 := hq2 R hR; rw [List.append_assoc] at h6; refine Ev.step (fun k => ?_) (hev.bind (f := fun k t => F.s2 k t ((D.length + (s + s) + E3.length : Nat) : Int) s ((D.length + (s + s) : Nat) : Int) ((D.length + (s + s) + (s + s) : Nat) : Int)) h6); rw [F.s2_eq, if_pos (by omega), w64 (x := (D.length : Int) + s) (by omega) (by omega), w64 (x := 2 * (s : Int)) (by omega) (by omega), w64 (x := ((D.length + (s + s) : Nat) : Int) + 2 * (s : Int)) (by omega) (by omega)]; rw [show ((D.length + (s + s) : Nat) : Int) + 2 * (s : Int) = ((D.length + (s + s) + (s + s) : Nat) : Int) from by omega, show (D.length : Int) + s = ((D.length + s : Nat) : Int) from by omega]
  ·
   have e2 : ((s : Int) * 2) = ((s + s : Nat) : Int) := by omega
   by_cases h6 : s < E.length
   ·
    obtain ⟨E1, E2, rfl, h1, h2, h3⟩ := hE.head h6; rw [List.length_append] at h h6 hb; obtain ⟨r, hr, hev⟩ := mf_ev F o c hlt hc (E1.length + E2.length) D E1 E2 [] D.length ((D.length + s : Nat) : Int) ((D.length + (E1 ++ E2).length : Nat) : Int) (Nat.le_refl _) (by omega) (by omega) (by simp; omega) rfl (by omega) (by simp; omega) h2 (h3.small (by omega)); have hrl : r.length = E1.length + E2.length := by rw [hr.len, List.length_append]
    refine ⟨D ++ r, ?_, hD.cs _ (.last r (by omega) hr.up), fun R hR => ?_⟩
    ·
     exact (Same.refl D).app hr.same
    ·
     simp only [List.append_nil] at hev; refine Ev.step (fun k => ?_) (hev.bind (f := fun k t => F.s1 k t ((D.length + (E1 ++ E2).length : Nat) : Int) ((s + s : Nat) : Int)) hR); rw [F.s2_eq, if_neg (by rw [List.length_append]; omega), w64 (x := (D.length : Int) + s) (by omega) (by omega), if_pos (by rw [List.length_append]; omega), w64 (x := (s : Int) * 2) (by omega) (by omega), e2]; rw [show (D.length : Int) + s = ((D.length + s : Nat) : Int) from by omega]
   ·
    refine ⟨D ++ E, Same.refl _, hD.cs _ (.last E (by omega) (hE.small (by omega))), fun R hR => Ev.step (fun k => ?_) hR⟩; rw [F.s2_eq, if_neg (by omega), w64 (x := (D.length : Int) + s) (by omega) (by omega), if_neg (by omega), w64 (x := (s : Int) * 2) (by omega) (by omega), e2]
/-- All rounds. -/
theorem s1_ev (o : Ord lt) (c : α → α → Int) (hlt : ∀ a b, lt a b = decide (c a b < 0)) (hc : ∀ a b, Ev (fun k => F.cm k a b) (c a b)) :
  ∀ (t s : Nat) (E : List α), 0 < s → s ≤ 1099511627776 → E.length ≤ s + t → E.length ≤ 549755813888 → CS lt s E →
  ∃ r, Srt lt E r ∧ Ev (fun k => F.s1 k E (E.length : Int) (s : Int)) r
 | t, s, E, hs, hs2, ht, hb, hE => by
  by_cases h : s < E.length
  ·
   match t, ht with
   | 0, ht => omega
   | t + 1, ht =>
    obtain ⟨r, hr, hcs, hev⟩ := s2_ev F o c hlt hc s hs hs2 E.length [] E (Nat.le_refl _) (by simp; omega) .nil hE; have hl : r.length = E.length := by simpa using hr.perm.length_eq
    obtain ⟨q, hq, hq2⟩ := s1_ev o c hlt hc t (s + s) r (by omega) (by omega) (by omega) (by omega) hcs; refine ⟨q, ⟨hq.same.trans (by simpa using hr), hq.up⟩, ?_⟩; rw [hl] at hq2; simp only [List.length_nil, Nat.zero_add, List.nil_append] at hev; refine Ev.step (fun k => ?_) (hev q hq2); rw [F.s1_eq, if_pos (by omega), w64 (x := 2 * (s : Int)) (by omega) (by omega), show 2 * (s : Int) = ((s + s : Nat) : Int) from by omega]; rfl
  ·
   exact ⟨E, ⟨Same.refl _, hE.small (by omega)⟩, Ev.step (f := fun _ => some E) (fun k => by rw [F.s1_eq, if_neg (by omega)]) (Ev.now _)⟩
/-- The first round: blocks of twenty. -/
theorem s0_ev (o : Ord lt) (c : α → α → Int) (hlt : ∀ a b, lt a b = decide (c a b < 0)) (hc : ∀ a b, Ev (fun k => F.cm k a b) (c a b)) :
  ∀ (t : Nat) (D E : List α), E.length ≤ t → (D.length + E.length) ≤ 549755813888 → Full lt 20 D →
  ∃ r, Srt lt (D ++ E) r ∧ Ev (fun k => F.s0 k (D ++ E) ((D.length + E.length : Nat) : Int) 20 D.length ((D.length + 20 : Nat) : Int)) r
 | t, D, E, ht, hb, hD => by
  by_cases h : 20 ≤ E.length
  ·
   obtain ⟨E1, E2, rfl, h1⟩ : ∃ E1 E2, E = E1 ++ E2 ∧ E1.length = 20 := ⟨E.take 20, E.drop 20, (List.take_append_drop _ _).symm, by rw [List.length_take]; omega⟩
   rw [List.length_append] at hb ht; obtain ⟨r, hr, hev⟩ := ins_ev F o c hlt hc E1 D E2 D.length ((D.length + 20 : Nat) : Int) rfl (by omega) (by omega); have hrl : r.length = 20 := by rw [hr.len]; omega
   match t, ht with
   | 0, ht => omega
   | t + 1, ht =>
    obtain ⟨q, hq, hq2⟩ := s0_ev o c hlt hc t (D ++ r) E2 (by omega) (by rw [List.length_append]; omega) (.snoc D r hD hrl hr.up); rw [List.length_append, hrl, List.append_assoc] at hq2; refine ⟨q, ⟨hq.same.trans ?_, hq.up⟩, ?_⟩
    ·
     have := ((Same.refl D).app hr.same).app (Same.refl E2); simpa using this
    ·
     have e1 : D.length + (E1 ++ E2).length = D.length + 20 + E2.length := by simp; omega
     rw [e1]; refine Ev.step (fun k => ?_) (hev.bind (f := fun k t => F.s0 k t ((D.length + 20 + E2.length : Nat) : Int) 20 ((D.length + 20 : Nat) : Int) ((D.length + 20 + 20 : Nat) : Int)) hq2); rw [F.s0_eq, if_pos (by omega), w64 (x := ((D.length + 20 : Nat) : Int) + 20) (by omega) (by omega)]; rfl
  ·
   obtain ⟨r, hr, hev⟩ := ins_ev F o c hlt hc E D [] D.length ((D.length + E.length : Nat) : Int) rfl (by omega) (by simp; omega); have hrl : r.length = E.length := hr.len; simp only [List.append_nil] at hev; obtain ⟨q, hq, hq2⟩ := s1_ev F o c hlt hc (D ++ r).length 20 (D ++ r) (by omega) (by omega) (by omega) (by simp; omega) (hD.cs _ (.last r (by omega) hr.up)); rw [List.length_append, hrl] at hq2; refine ⟨q, ⟨hq.same.trans ((Same.refl D).app hr.same), hq.up⟩, ?_⟩; refine Ev.step (fun k => ?_) (hev.bind (f := fun k t => F.s1 k t ((D.length + E.length : Nat) : Int) 20) hq2); rw [F.s0_eq, if_neg (by omega)]
/-- The stable sort sorts, equals in their order. -/
theorem stable_ev (o : Ord lt) (c : α → α → Int) (hlt : ∀ a b, lt a b = decide (c a b < 0)) (hc : ∀ a b, Ev (fun k => F.cm k a b) (c a b)) (l : List α) (hb : l.length ≤ 549755813888) :
  ∃ r, Srt lt l r ∧ Ev (fun k => F.s0 k l (l.length : Int) 20 0 20) r := by
 have := s0_ev F o c hlt hc l.length [] l (Nat.le_refl _) (by simpa using hb) .nil; simpa using this
/-- What is sorted from the same is the same. -/
theorem Srt.unique (o : Ord lt) : ∀ (r r' : List α), Same lt r r' → Up lt r → Up lt r' → r = r'
 | [], r', h, _, _ => by
  have := h.perm.length_eq
  exact (List.eq_nil_of_length_eq_zero (by simpa using this.symm)).symm
 | x :: r, [], h, _, _ => by
  have := h.perm.length_eq
  simp at this
 | x :: r, y :: r', h, hu, hu' => by
  have exy : eqv lt x y = true := by
   have h1 : lt y x = false := by
    have : y ∈ x :: r := h.perm.mem_iff.2 (by simp); rcases List.mem_cons.1 this with e | hm
    ·
     rw [e]; exact o.irrefl _
    ·
     exact (List.pairwise_cons.1 hu).1 y hm
   have h2 : lt x y = false := by
    have : x ∈ y :: r' := h.perm.mem_iff.1 (by simp); rcases List.mem_cons.1 this with e | hm
    ·
     rw [e]; exact o.irrefl _
    ·
     exact (List.pairwise_cons.1 hu').1 x hm
   simp [eqv, h1, h2]
  have exx : eqv lt x x = true := by simp [eqv, o.irrefl]
  have hc := h.cls x; rw [List.filter_cons, List.filter_cons, if_pos exx, if_pos exy] at hc; obtain ⟨rfl, _⟩ := List.cons.inj hc
  congr 1
  refine Srt.unique o r r' ⟨?_, fun a => ?_⟩ (List.pairwise_cons.1 hu).2 (List.pairwise_cons.1 hu').2
  ·
   exact h.perm.cons_inv
  ·
   have := h.cls a; rw [List.filter_cons, List.filter_cons] at this
   split at this
   ·
    exact (List.cons.inj this).2
   ·
    exact this
end Go.Proofs.Ytgagcimfkmegnaa.StableLaw
