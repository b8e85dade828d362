/- The document's shard: it says of owners what placement.right says. -/
import Derived.Test.YtiinmagnpkfbbaaGreatRight
namespace Go.Proofs.YtiinmagnpkfbbaaGreat
set_option linter.unusedVariables false
set_option linter.unusedSimpArgs false
open Go.RowKit Go.Proofs.YtiinmagnpkfbbaaGreatW.PrintWords Go.Proofs.YtiinmagnpkfbbaaGreatW.PrintLast Go.Proofs.YtiinmagnpkfbbaaGreatW.PrintMore Go.Proofs.YtiinmagnpkfbbaaGreat.QT
namespace Pl
theorem w1 (n : Nat) (h : n ≤ 9223372036854775806) : wrap64 ((n : Int) + 1) = ((n + 1 : Nat) : Int) := by unfold wrap64; omega
theorem rd38_mid (P S : List Ow) (x : Ow) (i : Int) (hi : i = P.length) : rd_T57 (P ++ x :: S) i = x := by subst hi; unfold rd_T57; simp
/-- How many that leave a node has. -/
def src (l : List Ow) (n : Int) : Nat := (l.filter (fun o => o.f1 == 3 && o.f0 == n)).length
theorem has_ev0 (x : Int) (l : List Int) (hl : l.length ≤ 9223372036854775807) : ∀ (R P : List Int), l = P ++ R → Ev (fun k => thermographref14_has.l0 k l x (P.length : Int)) (decide (x ∈ R))
 | [], P, h => by
  rw [List.append_nil] at h; subst h; refine Ev.step (f := fun _ => some false) (fun k => ?_) (Ev.now _)
  rw [thermographref14_has.l0, if_neg (by omega)]
 | y :: R, P, h => by
  have hll : l.length = P.length + R.length + 1 := by rw [h]; simp; omega
  have e : rd l (P.length : Int) = y := by rw [h]; unfold rd; simp
  have ih := has_ev0 x l hl R (P ++ [y]) (by rw [h]; simp); rw [List.length_append, List.length_singleton] at ih
  by_cases hxy : y = x
  ·
   rw [decide_eq_true (by rw [hxy]; exact List.mem_cons_self)]; refine Ev.step (f := fun _ => some true) (fun k => ?_) (Ev.now _); rw [thermographref14_has.l0, if_pos (by omega), if_pos (by omega), e, if_pos hxy]
  ·
   have hd : decide (x ∈ y :: R) = decide (x ∈ R) := by
    rw [decide_eq_decide, List.mem_cons]; exact ⟨fun h => h.elim (fun e => absurd e.symm hxy) id, .inr⟩
   rw [hd]; refine Ev.step (fun k => ?_) ih; rw [thermographref14_has.l0, if_pos (by omega), if_pos (by omega), e, if_neg hxy, w1 _ (by omega)]
theorem has_ev (x : Int) (l : List Int) (hl : l.length ≤ 9223372036854775807) : Ev (fun k => thermographref14_has.f k l x) (decide (x ∈ l)) := Ev.congr (fun k => by unfold thermographref14_has.f; rfl) (has_ev0 x l hl l [] rfl)
theorem node_eq (n : Int) : thermographref14_node.f n = some (nodeB n) := by
 unfold thermographref14_node.f nodeB
 by_cases h : 0 ≤ n
 ·
  rw [if_pos (by omega), decide_eq_true h, Bool.true_and]
 ·
  rw [if_neg (by omega), decide_eq_false h, Bool.false_and]
/-- What comes behind the counting. -/
def shE (k : Nat) (x1 : List Ow) (x5 x6 x8 x9 v : Int) (nodes : List Int) (sh : List (List Ow)) (n s f : Int) : Option Bool :=
 if s = 3 then (if s = 1 then (if x8 = 1 then (if x9 = 1 then (thermographref14_shard.l0 k x1 x5 (wrap64 (x6 + 1)) v nodes sh) else (some false)) else (some false)) else (if f = (-1) then (if x9 = 1 then (thermographref14_shard.l0 k x1 x5 (wrap64 (x6 + 1)) v nodes sh) else (some false)) else (some false)))
 else ((thermographref14_has.f k nodes n).bind fun t118 => (if t118 = true then (if s = 1 then (if x8 = 1 then (thermographref14_shard.l0 k x1 (wrap64 (x5 + 1)) (wrap64 (x6 + 1)) v nodes sh) else (some false)) else (if f = (-1) then (thermographref14_shard.l0 k x1 (wrap64 (x5 + 1)) (wrap64 (x6 + 1)) v nodes sh) else (some false))) else (some false)))
theorem sh_j3 (l : List Ow) (x5 x6 : Int) (s h : Nat) (v : Int) (nodes : List Int) (sh : List (List Ow)) (n st f : Int) (P R : List Ow) (x : Ow) (hl : l = P ++ x :: R) (hn : l.length ≤ 9223372036854775807) (hs : s ≤ 9223372036854775806) (hh : h ≤ 9223372036854775806) (b : Bool) (k : Nat) :
  thermographref14_shard.j3 (k + 1) l x5 x6 (s : Int) (h : Int) (P.length : Int) b v nodes sh n st f = thermographref14_shard.l1 k l x5 x6 ((s + (if b = true then 1 else 0) : Nat) : Int) ((h + (if x.f1 = 1 ∧ x.f2 = n then 1 else 0) : Nat) : Int) (((P ++ [x]).length : Nat) : Int) v nodes sh n st f := by
 have hll : l.length = P.length + R.length + 1 := by rw [hl]; simp; omega
 have e : rd_T57 l (P.length : Int) = x := by rw [hl]; exact rd38_mid P R x _ rfl
 rw [thermographref14_shard.j3, e, List.length_append, List.length_singleton, w1 P.length (by omega), w1 s (by omega), w1 h (by omega)]
 cases b with
 | true =>
  rw [if_pos rfl, if_pos (by omega), if_pos (by omega), if_pos rfl]
  by_cases h1 : x.f1 = 1
  ·
   rw [if_pos h1]
   by_cases h2 : x.f2 = n
   ·
    rw [if_pos h2, if_pos ⟨h1, h2⟩]
   ·
    rw [if_neg h2, if_neg (fun h => h2 h.2)]; rfl
  ·
   rw [if_neg h1, if_neg (fun h => h1 h.1)]; rfl
 | false =>
  rw [if_neg (show ¬ (false = true) by simp), if_pos (by omega), if_pos (by omega), if_neg (show ¬ (false = true) by simp)]
  by_cases h1 : x.f1 = 1
  ·
   rw [if_pos h1]
   by_cases h2 : x.f2 = n
   ·
    rw [if_pos h2, if_pos ⟨h1, h2⟩]; rfl
   ·
    rw [if_neg h2, if_neg (fun h => h2 h.2)]; rfl
  ·
   rw [if_neg h1, if_neg (fun h => h1 h.1)]; rfl
theorem src_cons (x : Ow) (R : List Ow) (n : Int) : src (x :: R) n = (if x.f1 = 3 ∧ x.f0 = n then 1 else 0) + src R n := by
 unfold src
 by_cases h : x.f1 = 3 ∧ x.f0 = n
 ·
  rw [if_pos h, List.filter_cons, if_pos (by simp [h.1, h.2]), List.length_cons]; omega
 ·
  rw [if_neg h, List.filter_cons, if_neg (by simpa using h)]; omega
theorem cnt_cons (x : Ow) (R : List Ow) (n : Int) : cnt (x :: R) n = (if x.f1 = 1 ∧ x.f2 = n then 1 else 0) + cnt R n := by
 unfold cnt
 by_cases h : x.f1 = 1 ∧ x.f2 = n
 ·
  rw [if_pos h, List.filter_cons, if_pos (by simp [h.1, h.2]), List.length_cons]; omega
 ·
  rw [if_neg h, List.filter_cons, if_neg (by simpa using h)]; omega
theorem sh_l1 (l : List Ow) (hn : l.length ≤ 9223372036854775807) (x5 x6 v : Int) (nodes : List Int) (sh : List (List Ow)) (n st f : Int) (r : Bool) : ∀ (R P : List Ow) (s h : Nat), l = P ++ R → s ≤ P.length → h ≤ P.length →
  Ev (fun k => shE k l x5 x6 ((s + src R f : Nat) : Int) ((h + cnt R n : Nat) : Int) v nodes sh n st f) r → Ev (fun k => thermographref14_shard.l1 k l x5 x6 (s : Int) (h : Int) (P.length : Int) v nodes sh n st f) r
 | [], P, s, h, hl, hs, hh, hE => by
  rw [List.append_nil] at hl; subst hl; refine Ev.step (fun k => ?_) hE; rw [thermographref14_shard.l1, if_neg (by omega)]
  rfl
 | x :: R, P, s, h, hl, hs, hh, hE => by
  have hll : l.length = P.length + R.length + 1 := by rw [hl]; simp; omega
  have e : rd_T57 l (P.length : Int) = x := by rw [hl]; exact rd38_mid P R x _ rfl
  rw [src_cons, cnt_cons, ← Nat.add_assoc, ← Nat.add_assoc] at hE; have ih := sh_l1 l hn x5 x6 v nodes sh n st f r R (P ++ [x]) _ _ (by rw [hl]; simp) (by rw [List.length_append, List.length_singleton]; split <;> omega) (by rw [List.length_append, List.length_singleton]; split <;> omega) hE
  have hj : Ev (fun k => thermographref14_shard.j3 k l x5 x6 (s : Int) (h : Int) (P.length : Int) (decide (x.f1 = 3 ∧ x.f0 = f)) v nodes sh n st f) r := by
   refine Ev.step (fun k => ?_) ih; rw [sh_j3 l x5 x6 s h v nodes sh n st f P R x hl hn (by omega) (by omega)]
   congr 2
   by_cases hc : x.f1 = 3 ∧ x.f0 = f
   ·
    rw [if_pos hc, if_pos (decide_eq_true hc)]
   ·
    rw [if_neg hc, if_neg (by rw [decide_eq_false hc]; simp)]
  refine Ev.step (fun k => ?_) hj; rw [thermographref14_shard.l1, if_pos (by omega), if_pos (by omega), e]
  by_cases h3 : x.f1 = 3
  ·
   rw [if_pos h3]
   congr 1
   by_cases hf : x.f0 = f
   ·
    rw [decide_eq_true ⟨h3, hf⟩]; simpa using hf
   ·
    rw [decide_eq_false (fun h => hf h.2)]; simpa using hf
  ·
   rw [if_neg h3, decide_eq_false (fun h => h3 h.1)]
def okR (nodes : List Int) (l : List Ow) (i : Nat) (o : Ow) : Bool := nodeB o.f0 && ((i == 0 || decide ((rd_T57 l ((i : Int) - 1)).f0 < o.f0)) && ((decide (1 ≤ o.f1) && decide (o.f1 ≤ 3)) && ((o.f1 == 3 || decide (o.f0 ∈ nodes)) && ((if o.f1 = 1 then src l o.f2 == 1 else o.f2 == -1) && (o.f1 != 3 || cnt l o.f0 == 1)))))
def allR (nodes : List Int) (l : List Ow) : List Ow → Nat → Bool
 | [], _ => true
 | o :: r, i => okR nodes l i o && allR nodes l r (i + 1)
def stays (l : List Ow) : Nat := (l.filter (fun o => o.f1 != 3)).length
theorem stays_cons (x : Ow) (R : List Ow) : stays (x :: R) = (if x.f1 = 3 then 0 else 1) + stays R := by
 unfold stays
 by_cases h : x.f1 = 3
 ·
  rw [if_pos h, List.filter_cons, if_neg (by rw [h]; simp)]; omega
 ·
  rw [if_neg h, List.filter_cons, if_pos (by simpa using h), List.length_cons]; omega
/-- Behind the counting: where all is right the loop goes on. -/
theorem shE_ev (l : List Ow) (hn : l.length ≤ 9223372036854775807) (nodes : List Int) (hns : nodes.length ≤ 9223372036854775807) (sh : List (List Ow)) (v : Int) (o : Ow) (i st : Nat) (hi : i ≤ 9223372036854775806) (hst : st ≤ 9223372036854775806) (r : Bool) (hr : Ev (fun k => thermographref14_shard.l0 k l ((st + (if o.f1 = 3 then 0 else 1) : Nat) : Int) ((i + 1 : Nat) : Int) v nodes sh) r) :
  Ev (fun k => shE k l (st : Int) (i : Int) ((src l o.f2 : Nat) : Int) ((cnt l o.f0 : Nat) : Int) v nodes sh o.f0 o.f1 o.f2) (((o.f1 == 3 || decide (o.f0 ∈ nodes)) && ((if o.f1 = 1 then src l o.f2 == 1 else o.f2 == -1) && (o.f1 != 3 || cnt l o.f0 == 1))) && r) := by
 have c1 : ((src l o.f2 : Nat) : Int) = 1 ↔ src l o.f2 = 1 := by omega
 have c2 : ((cnt l o.f0 : Nat) : Int) = 1 ↔ cnt l o.f0 = 1 := by omega
 by_cases h3 : o.f1 = 3
 ·
  have h1 : ¬ o.f1 = 1 := by omega
  rw [if_pos h3, Nat.add_zero] at hr; rw [show (o.f1 == 3) = true by simpa using h3, show (o.f1 != 3) = false by simpa using h3, if_neg h1, Bool.true_or, Bool.true_and, Bool.false_or]
  by_cases hf : o.f2 = -1
  ·
   by_cases hc : cnt l o.f0 = 1
   ·
    rw [show (o.f2 == -1) = true by simpa using hf, show (cnt l o.f0 == 1) = true by simpa using hc, Bool.true_and, Bool.true_and]; refine Ev.congr (fun k => ?_) hr; unfold shE; rw [if_pos h3, if_neg h1, if_pos hf, if_pos (c2.2 hc), w1 _ (by omega)]
   ·
    rw [show (cnt l o.f0 == 1) = false by simpa using hc, Bool.and_false, Bool.false_and]; refine Ev.congr (f := fun _ => some false) (fun k => ?_) (Ev.now _); unfold shE; rw [if_pos h3, if_neg h1, if_pos hf, if_neg (fun h => hc (c2.1 h))]
  ·
   rw [show (o.f2 == -1) = false by simpa using hf, Bool.false_and, Bool.false_and]; refine Ev.congr (f := fun _ => some false) (fun k => ?_) (Ev.now _); unfold shE; rw [if_pos h3, if_neg h1, if_neg hf]
 ·
  rw [if_neg h3] at hr; rw [show (o.f1 == 3) = false by simpa using h3, show (o.f1 != 3) = true by simpa using h3, Bool.false_or, Bool.true_or, Bool.and_true]; have hh := has_ev o.f0 nodes hns
  by_cases hin : o.f0 ∈ nodes
  ·
   rw [decide_eq_true hin] at hh; rw [decide_eq_true hin, Bool.true_and]
   by_cases h1 : o.f1 = 1
   ·
    rw [if_pos h1]
    by_cases hs : src l o.f2 = 1
    ·
     rw [show (src l o.f2 == 1) = true by simpa using hs, Bool.true_and]; refine Ev.congr (fun k => ?_) (Ev.bind (f := fun k (t : Bool) => if t = true then thermographref14_shard.l0 k l ((st + 1 : Nat) : Int) ((i + 1 : Nat) : Int) v nodes sh else some false) hh (Ev.congr (fun k => by rw [if_pos rfl]) hr)); unfold shE; rw [if_neg h3]
     congr 1
     funext t
     rw [if_pos h1, if_pos (c1.2 hs), w1 _ (by omega), w1 _ (by omega)]
    ·
     rw [show (src l o.f2 == 1) = false by simpa using hs, Bool.false_and]; refine Ev.congr (fun k => ?_) (Ev.bind (f := fun _ (t : Bool) => some false) hh (Ev.now _)); unfold shE; rw [if_neg h3]
     congr 1
     funext t
     rw [if_pos h1, if_neg (fun h => hs (c1.1 h))]
     split <;> rfl
   ·
    rw [if_neg h1]
    by_cases hf : o.f2 = -1
    ·
     rw [show (o.f2 == -1) = true by simpa using hf, Bool.true_and]; refine Ev.congr (fun k => ?_) (Ev.bind (f := fun k (t : Bool) => if t = true then thermographref14_shard.l0 k l ((st + 1 : Nat) : Int) ((i + 1 : Nat) : Int) v nodes sh else some false) hh (Ev.congr (fun k => by rw [if_pos rfl]) hr)); unfold shE; rw [if_neg h3]
     congr 1
     funext t
     rw [if_neg h1, if_pos hf, w1 _ (by omega), w1 _ (by omega)]
    ·
     rw [show (o.f2 == -1) = false by simpa using hf, Bool.false_and]; refine Ev.congr (fun k => ?_) (Ev.bind (f := fun _ (t : Bool) => some false) hh (Ev.now _)); unfold shE; rw [if_neg h3]
     congr 1
     funext t
     rw [if_neg h1, if_neg hf]
     split <;> rfl
  ·
   rw [decide_eq_false hin] at hh; rw [decide_eq_false hin, Bool.false_and, Bool.false_and]; refine Ev.congr (fun k => ?_) (Ev.bind (f := fun k (t : Bool) => if t = true then (if o.f1 = 1 then (if ((src l o.f2 : Nat) : Int) = 1 then (thermographref14_shard.l0 k l (wrap64 ((st : Int) + 1)) (wrap64 ((i : Int) + 1)) v nodes sh) else (some false)) else (if o.f2 = (-1) then (thermographref14_shard.l0 k l (wrap64 ((st : Int) + 1)) (wrap64 ((i : Int) + 1)) v nodes sh) else (some false))) else (some false)) hh (Ev.congr (f := fun _ => some false) (fun k => by rw [if_neg (by simp)]) (Ev.now _))); unfold shE; rw [if_neg h3]
theorem sh_l0 (l : List Ow) (hn : l.length ≤ 9223372036854775807) (nodes : List Int) (hns : nodes.length ≤ 9223372036854775807) (sh : List (List Ow)) (v : Int) : ∀ (R P : List Ow) (st : Nat), l = P ++ R → st ≤ P.length →
  Ev (fun k => thermographref14_shard.l0 k l (st : Int) (P.length : Int) v nodes sh) (allR nodes l R P.length && (st + stays R == 3))
 | [], P, st, hl, hst => by
  rw [List.append_nil] at hl; subst hl; refine Ev.step (f := fun _ => some _) (fun k => ?_) (Ev.now _); rw [thermographref14_shard.l0, if_neg (by omega)]
  congr 1
  simp only [allR, stays, List.filter_nil, List.length_nil, Nat.add_zero, Bool.true_and]
  by_cases h : st = 3
  ·
   subst h; rfl
  ·
   rw [show (st == 3) = false by simpa using h, beq_eq_false_iff_ne]; omega
 | o :: R, P, st, hl, hst => by
  have hll : l.length = P.length + R.length + 1 := by rw [hl]; simp; omega
  have e : rd_T57 l (P.length : Int) = o := by rw [hl]; exact rd38_mid P R o _ rfl
  have ih := sh_l0 l hn nodes hns sh v R (P ++ [o]) (st + (if o.f1 = 3 then 0 else 1)) (by rw [hl]; simp) (by rw [List.length_append, List.length_singleton]; split <;> omega); rw [List.length_append, List.length_singleton] at ih; have hE := shE_ev l hn nodes hns sh v o P.length st (by omega) (by omega) _ ih; have hL := sh_l1 l hn (st : Int) (P.length : Int) v nodes sh o.f0 o.f1 o.f2 _ l [] 0 0 rfl (Nat.le_refl _) (Nat.le_refl _) (by rw [Nat.zero_add, Nat.zero_add]; exact hE)
  have hfin : (allR nodes l (o :: R) P.length && (st + stays (o :: R) == 3)) = (nodeB o.f0 && ((P.length == 0 || decide ((rd_T57 l ((P.length : Int) - 1)).f0 < o.f0)) && ((decide (1 ≤ o.f1) && decide (o.f1 ≤ 3)) && (((o.f1 == 3 || decide (o.f0 ∈ nodes)) && ((if o.f1 = 1 then src l o.f2 == 1 else o.f2 == -1) && (o.f1 != 3 || cnt l o.f0 == 1))) && (allR nodes l R (P.length + 1) && (st + (if o.f1 = 3 then 0 else 1) + stays R == 3)))))) := by
   rw [stays_cons, ← Nat.add_assoc]; rw [show allR nodes l (o :: R) P.length = (okR nodes l P.length o && allR nodes l R (P.length + 1)) from rfl]; unfold okR; simp only [Bool.and_assoc]
  rw [hfin]; have bad : ∀ {k' : Nat → Option Bool}, (∀ k, k' (k + 1) = some false) → Ev k' false := fun h => Ev.step (f := fun _ => some false) h (Ev.now _); have j1bad : Ev (fun k => thermographref14_shard.j1 k l (st : Int) (P.length : Int) true v nodes sh o.f0 o.f1 o.f2) false := bad (fun k => by rw [thermographref14_shard.j1, if_pos rfl]); have j1good : Ev (fun k => thermographref14_shard.j1 k l (st : Int) (P.length : Int) false v nodes sh o.f0 o.f1 o.f2) _ := Ev.step (fun k => by rw [thermographref14_shard.j1, if_neg (by simp)]; rfl) hL
  cases hnb : nodeB o.f0 with
  | false =>
   rw [Bool.false_and]; refine Ev.step (fun k => ?_) j1bad
   rw [thermographref14_shard.l0, if_pos (by omega), if_pos (by omega), e, node_eq, hnb, Option.bind_some, if_neg (by simp)]
  | true =>
   rw [Bool.true_and]
   have hk : ∀ (r : Bool), (decide (1 ≤ o.f1) = false → r = false) → (decide (1 ≤ o.f1) = true → decide (o.f1 ≤ 3) = false → r = false) → (decide (1 ≤ o.f1) = true → decide (o.f1 ≤ 3) = true → Ev (fun k => thermographref14_shard.j1 k l (st : Int) (P.length : Int) false v nodes sh o.f0 o.f1 o.f2) r) → Ev (fun k => if o.f1 < 1 then thermographref14_shard.j1 k l (st : Int) (P.length : Int) true v nodes sh o.f0 o.f1 o.f2 else thermographref14_shard.j1 k l (st : Int) (P.length : Int) (decide (o.f1 > 3)) v nodes sh o.f0 o.f1 o.f2) r := by
    intro r h1 h2 h3
    by_cases c1 : o.f1 < 1
    ·
     rw [h1 (decide_eq_false (by omega))]; exact Ev.congr (fun k => by rw [if_pos c1]) j1bad
    ·
     by_cases c2 : o.f1 > 3
     ·
      rw [h2 (decide_eq_true (by omega)) (decide_eq_false (by omega))]; exact Ev.congr (fun k => by rw [if_neg c1, decide_eq_true c2]) j1bad
     ·
      exact Ev.congr (fun k => by rw [if_neg c1, decide_eq_false c2]) (h3 (decide_eq_true (by omega)) (decide_eq_true (by omega)))
   by_cases hz : P.length = 0
   ·
    rw [show (P.length == 0) = true by simpa using hz, Bool.true_or, Bool.true_and]; refine Ev.step (fun k => ?_) (hk _ (fun h => by rw [h, Bool.false_and, Bool.false_and]) (fun h h' => by rw [h, h', Bool.and_false, Bool.false_and]) (fun h h' => by rw [h, h', Bool.and_true, Bool.true_and]; exact j1good)); rw [thermographref14_shard.l0, if_pos (by omega), if_pos (by omega), e, node_eq, hnb, Option.bind_some, if_pos rfl, if_neg (by omega)]
   ·
    rw [show (P.length == 0) = false by simpa using hz, Bool.false_or]; have hwm : wrap64 ((P.length : Int) - 1) = (P.length : Int) - 1 := by unfold wrap64; omega
    by_cases hp : (rd_T57 l ((P.length : Int) - 1)).f0 < o.f0
    ·
     rw [decide_eq_true hp, Bool.true_and]; refine Ev.step (fun k => ?_) (hk _ (fun h => by rw [h, Bool.false_and, Bool.false_and]) (fun h h' => by rw [h, h', Bool.and_false, Bool.false_and]) (fun h h' => by rw [h, h', Bool.and_true, Bool.true_and]; exact j1good)); rw [thermographref14_shard.l0, if_pos (by omega), if_pos (by omega), e, node_eq, hnb, Option.bind_some, if_pos rfl, if_pos (by omega), hwm, if_pos (by omega), if_pos (by omega), if_neg (by omega)]
    ·
     rw [decide_eq_false hp, Bool.false_and]; refine Ev.step (fun k => ?_) j1bad; rw [thermographref14_shard.l0, if_pos (by omega), if_pos (by omega), e, node_eq, hnb, Option.bind_some, if_pos rfl, if_pos (by omega), hwm, if_pos (by omega), if_pos (by omega), if_pos (by omega)]
def shardP (nodes : List Int) (l : List Ow) : Bool := allR nodes l l 0 && (stays l == 3)
theorem shard_ev (l : List Ow) (hn : l.length ≤ 9223372036854775807) (nodes : List Int) (hns : nodes.length ≤ 9223372036854775807) (sh : List (List Ow)) (v : Int) : Ev (fun k => thermographref14_shard.f k v nodes sh l) (shardP nodes l) := by
 have h := sh_l0 l hn nodes hns sh v l [] 0 rfl (Nat.le_refl _); rw [Nat.zero_add] at h; exact Ev.congr (fun k => by unfold thermographref14_shard.f; rfl) h
theorem filter_one {n : Int} : ∀ {l : List Ow} {x : Ow}, l.Pairwise (fun a b => a.f0 < b.f0) → x ∈ l → x.f0 = n → l.filter (fun o => o.f0 == n) = [x]
 | [], _, _, h, _ => by cases h
 | y :: r, x, hp, hx, hn => by
  obtain ⟨h1, h2⟩ := List.pairwise_cons.1 hp; rcases List.mem_cons.1 hx with rfl | hx
  ·
   rw [List.filter_cons, if_pos (by simpa using hn)]
   congr 1
   rw [List.filter_eq_nil_iff]; intro z hz; have := h1 z hz; simp
   omega
  ·
   have := h1 x hx; rw [List.filter_cons, if_neg (by simp; omega)]; exact filter_one h2 hx hn
theorem src_eq (l : List Ow) (n : Int) : src l n = ((l.filter (fun o => o.f0 == n)).filter (fun o => o.f1 == 3)).length := by
 unfold src; rw [List.filter_filter]
theorem st_src {l : List Ow} (hp : l.Pairwise (fun a b => a.f0 < b.f0)) (n : Int) : (decide (0 ≤ ix (at_ n) l) && ((rd_T57 l (ix (at_ n) l)).f1 == 3)) = (src l n == 1) := by
 rw [src_eq]; unfold ix; rcases ix_ge (at_ n) l 0 with ⟨e, h⟩ | ⟨k, e, hk, h⟩
 ·
  rw [e, decide_eq_false (by omega), Bool.false_and]
  have : l.filter (fun o => o.f0 == n) = [] := by
   rw [List.filter_eq_nil_iff]; intro x hx; have := h x hx; unfold at_ at this; rw [this]; simp
  rw [this]; rfl
 ·
  rw [e, Nat.zero_add, decide_eq_true (by omega), Bool.true_and, rd38 hk]; have hf : l[k].f0 = n := by unfold at_ at h; simpa using h
  rw [filter_one hp (List.getElem_mem hk) hf, List.filter_cons]
  by_cases h3 : l[k].f1 = 3
  ·
   rw [show (l[k].f1 == 3) = true by simpa using h3]; rfl
  ·
   rw [show (l[k].f1 == 3) = false by simpa using h3]; rfl
theorem allR_iff (nodes : List Int) (l : List Ow) : ∀ (R P : List Ow), l = P ++ R → (allR nodes l R P.length = true ↔ ∀ i, P.length ≤ i → i < l.length → okR nodes l i (l.getD i z57) = true)
 | [], P, h => by
  rw [List.append_nil] at h; subst h; simp only [allR, true_iff]; intro i h1 h2
  omega
 | o :: R, P, h => by
  have hll : l.length = P.length + R.length + 1 := by rw [h]; simp; omega
  have ih := allR_iff nodes l R (P ++ [o]) (by rw [h]; simp); rw [List.length_append, List.length_singleton] at ih; have e : l.getD P.length z57 = o := by rw [h]; simp
  rw [show allR nodes l (o :: R) P.length = (okR nodes l P.length o && allR nodes l R (P.length + 1)) from rfl, Bool.and_eq_true, ih]
  constructor
  ·
   rintro ⟨h1, h2⟩ i hi hl
   by_cases e2 : i = P.length
   ·
    rw [e2, e]; exact h1
   ·
    exact h2 i (by omega) hl
  ·
   intro h1; refine ⟨?_, fun i hi hl => h1 i (by omega) hl⟩; have := h1 P.length (Nat.le_refl _) (by omega)
   rwa [e] at this
theorem up_of {l : List Ow} (h : ∀ i, i < l.length → i = 0 ∨ (rd_T57 l ((i : Int) - 1)).f0 < (l.getD i z57).f0) : l.Pairwise (fun a b => a.f0 < b.f0) := by
 have step : ∀ i (hi : i + 1 < l.length), l[i].f0 < l[i + 1].f0 := by
  intro i hi; rcases h (i + 1) hi with h | h
  ·
   omega
  ·
   rw [show ((i + 1 : Nat) : Int) - 1 = (i : Int) by omega, rd38 (by omega), getD_at hi] at h; exact h
 rw [List.pairwise_iff_getElem]; intro i j hi hj hij
 have key : ∀ d, ∀ (hd : i + d + 1 < l.length), l[i].f0 < l[i + d + 1].f0 := by
  intro d
  induction d with
  | zero => intro hd; exact step i hd
  | succ d ih =>
   intro hd; have h1 := ih (by omega); have h2 := step (i + d + 1) hd; exact Int.lt_trans h1 h2
 have := key (j - i - 1) (by omega); simpa [show i + (j - i - 1) + 1 = j by omega] using this
theorem right_eq (nodes : List Int) (l : List Ow) : rightP nodes l = shardP nodes l := by
 have hA := allR_iff nodes l l [] rfl; rw [Bool.eq_iff_iff]; unfold rightP shardP stays; simp only [Bool.and_eq_true, List.all_eq_true]; rw [List.length_nil] at hA; rw [hA]
 have getok : ∀ i, i < l.length → ∀ {a b c d : Bool}, (a && (b && (c && d))) = true → a = true ∧ b = true ∧ c = true ∧ d = true := by
  intro i hi a b c d h; simpa [Bool.and_eq_true] using h
 constructor
 ·
  rintro ⟨h1, h2, h3⟩
  have hp : l.Pairwise (fun a b => a.f0 < b.f0) := up_of (fun i hi => by
   have := h1 i (List.mem_range.2 hi); unfold okAt okO at this; obtain ⟨_, hb, _, _⟩ := getok i hi this
   simpa using hb)
  refine ⟨fun i _ hi => ?_, h3⟩; have hh := h1 i (List.mem_range.2 hi); have hm := h2 (l.getD i z57) (by rw [getD_at hi]; exact List.getElem_mem hi); unfold okAt okO at hh; obtain ⟨ha, hb, hc, hd⟩ := getok i hi hh; unfold okR; rw [ha, hb, hd, hm, Bool.true_and, Bool.true_and, Bool.true_and, Bool.and_true]; unfold stB at hc
  by_cases e1 : (l.getD i z57).f1 = 1
  ·
   rw [if_pos e1, st_src hp] at hc; rw [if_pos e1, hc, e1]; rfl
  ·
   rw [if_neg e1] at hc ⊢; simp only [Bool.and_eq_true, Bool.or_eq_true, beq_iff_eq] at hc; rw [decide_eq_true (by omega), decide_eq_true (by omega), hc.2]; rfl
 ·
  rintro ⟨h1, h3⟩
  have get6 : ∀ i, i < l.length → nodeB (l.getD i z57).f0 = true ∧ (i == 0 || decide ((rd_T57 l ((i : Int) - 1)).f0 < (l.getD i z57).f0)) = true ∧ ((decide (1 ≤ (l.getD i z57).f1) && decide ((l.getD i z57).f1 ≤ 3)) = true) ∧ ((l.getD i z57).f1 == 3 || decide ((l.getD i z57).f0 ∈ nodes)) = true ∧ (if (l.getD i z57).f1 = 1 then src l (l.getD i z57).f2 == 1 else (l.getD i z57).f2 == -1) = true ∧ ((l.getD i z57).f1 != 3 || cnt l (l.getD i z57).f0 == 1) = true := by
   intro i hi; have := h1 i (Nat.zero_le _) hi; unfold okR at this; simp only [Bool.and_eq_true] at this; obtain ⟨g1, g2, g3, g4, g5, g6⟩ := this; exact ⟨g1, g2, by rw [Bool.and_eq_true]; exact g3, g4, g5, g6⟩
  have hp : l.Pairwise (fun a b => a.f0 < b.f0) := up_of (fun i hi => by
   have := (get6 i hi).2.1
   simpa using this)
  refine ⟨fun i hi => ?_, fun o ho => ?_, h3⟩
  ·
   have hi := List.mem_range.1 hi; obtain ⟨ha, hb, hc, hd, he, _⟩ := get6 i hi; unfold okAt okO; rw [ha, hb, hd, Bool.true_and, Bool.true_and, Bool.and_true]; unfold stB
   by_cases e1 : (l.getD i z57).f1 = 1
   ·
    rw [if_pos e1] at he ⊢; rw [st_src hp]; exact he
   ·
    rw [if_neg e1] at he ⊢; rw [Bool.and_eq_true, decide_eq_true_eq, decide_eq_true_eq] at hc; rw [he, Bool.and_true, Bool.or_eq_true, beq_iff_eq, beq_iff_eq]; omega
  ·
   obtain ⟨i, hi, rfl⟩ := List.getElem_of_mem ho; have := (get6 i hi).2.2.2.2.2
   rwa [getD_at hi] at this
end Pl
end Go.Proofs.YtiinmagnpkfbbaaGreat
