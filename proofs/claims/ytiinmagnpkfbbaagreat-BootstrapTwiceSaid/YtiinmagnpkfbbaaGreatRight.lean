/- placement.right: whether a shard's owners are right. -/
import Derived.Test.YtiinmagnpkfbbaaGreatMap
set_option maxHeartbeats 4000000
set_option maxRecDepth 100000
namespace Go.Proofs.YtiinmagnpkfbbaaGreat
set_option linter.unusedVariables false
set_option linter.unusedSimpArgs false
open Go.RowKit Go.Proofs.YtiinmagnpkfbbaaGreatW.PrintWords Go.Proofs.YtiinmagnpkfbbaaGreatW.PrintLast Go.Proofs.YtiinmagnpkfbbaaGreatW.PrintMore Go.Proofs.YtiinmagnpkfbbaaGreat.QT
namespace Pl
def nodeB (n : Int) : Bool := decide (0 ≤ n) && decide (n < 8)
theorem isNode_calls (w : World) (n : Int) : Calls Tryz.prog 48 #[.int .i64 n] w fun e w' => e = .returned (.bool (nodeB n)) ∧ Below w.heap.size w w' := by
 refine (placement_isNode.calls n (nodeB n) w ?_).mono fun e w' h => ⟨h.1, h.2.below⟩
 unfold placement_isNode.f nodeB
 by_cases h : 0 ≤ n
 ·
  rw [if_pos h, decide_eq_true h, Bool.true_and]
 ·
  rw [if_neg h, decide_eq_false h, Bool.false_and]
theorem stays_calls (w : World) (o : Ow) : Calls Tryz.prog 77 #[.agg #[.int .i64 o.f0, .int .i64 o.f1, .int .i64 o.f2]] w fun e w' => e = .returned (.bool (o.f1 != 3)) ∧ Below w.heap.size w w' :=
 placement_stays.calls o.f0 o.f1 o.f2 _ w rfl
theorem index_ev0 (x : Int) (l : List Int) (hl : l.length ≤ 9223372036854775807) : ∀ (R P : List Int), l = P ++ R → Ev (fun k => slices_Index_int_int.l0 k l x (l.length : Int) (P.length : Int)) (ixFrom (fun y => x == y) R P.length)
 | [], P, h => by
  rw [List.append_nil] at h; subst h; refine Ev.step (f := fun _ => some (-1)) (fun k => ?_) (Ev.now _)
  rw [slices_Index_int_int.l0, if_neg (by omega)]
 | y :: R, P, h => by
  have hll : l.length = P.length + R.length + 1 := by rw [h]; simp; omega
  have e : rd l (P.length : Int) = y := by rw [h]; unfold rd; simp
  have ih := index_ev0 x l hl R (P ++ [y]) (by rw [h]; simp); rw [List.length_append, List.length_singleton] at ih; have hw : wrap64 ((P.length : Int) + 1) = ((P.length + 1 : Nat) : Int) := by unfold wrap64; omega
  by_cases hxy : x = y
  ·
   rw [ixFrom, if_pos (by simpa using hxy)]; refine Ev.step (f := fun _ => some _) (fun k => ?_) (Ev.now _); rw [slices_Index_int_int.l0, if_pos (by omega), if_pos (by omega), if_pos (by omega), e, if_pos hxy]
  ·
   rw [ixFrom, if_neg (by simpa using hxy)]; refine Ev.step (fun k => ?_) ih; rw [slices_Index_int_int.l0, if_pos (by omega), if_pos (by omega), if_pos (by omega), e, if_neg hxy, hw]
theorem ix_ge {α : Type} (p : α → Bool) : ∀ (l : List α) (i : Nat), (ixFrom p l i = -1 ∧ ∀ x ∈ l, p x = false) ∨ ∃ k, ixFrom p l i = ((i + k : Nat) : Int) ∧ ∃ h : k < l.length, p l[k] = true
 | [], _ => .inl ⟨rfl, by simp⟩
 | x :: r, i => by
  unfold ixFrom
  cases h : p x with
  | true => exact .inr ⟨0, by simp, by simp, by simpa using h⟩
  | false =>
   rcases ix_ge p r (i + 1) with ⟨e, h2⟩ | ⟨k, e, h2, h3⟩
   ·
    exact .inl ⟨by simpa using e, fun y hy => by rcases List.mem_cons.1 hy with rfl | hy; exact h; exact h2 y hy⟩
   ·
    exact .inr ⟨k + 1, by simp only [Bool.false_eq_true, if_false]; rw [e]; congr 1; omega, by simpa using h2, by simpa using h3⟩
theorem ix_range {α : Type} (p : α → Bool) (l : List α) : -1 ≤ ix p l ∧ ix p l < l.length := by
 unfold ix; rcases ix_ge p l 0 with ⟨e, _⟩ | ⟨k, e, h, _⟩
 ·
  omega
 ·
  omega
theorem contains_calls (w : World) (A : Option Addr) (c : Nat) (l : List Int) (hC : Kd.C (Kd.int .i64) w A l.length l) (hc : l.length ≤ c) (hl : l.length ≤ 9223372036854775807) (n : Int) :
  Calls Tryz.prog 32 #[.slice A l.length c, .int .i64 n] w fun e w' => e = .returned (.bool (decide (n ∈ l))) ∧ Below w.heap.size w w' := by
 have h0 := index_ev0 n l hl l [] rfl
 have h1 : Ev (fun k => slices_Contains_int_int.f k l n) (decide (n ∈ l)) := by
  have hd : decide (ixFrom (fun y => n == y) l 0 ≥ 0) = decide (n ∈ l) := by
   rcases ix_ge (fun y => n == y) l 0 with ⟨e, h⟩ | ⟨k, e, h, h2⟩
   ·
    rw [e, decide_eq_false (by omega), decide_eq_false]; intro hm; have := h n hm; simp at this
   ·
    rw [e, decide_eq_true (by omega), decide_eq_true]; have : n = l[k] := by simpa using h2
    rw [this]; exact List.getElem_mem h
  rw [← hd]; refine Ev.congr (g := fun k => slices_Contains_int_int.f k l n) (f := fun k => (slices_Index_int_int.f k l n).bind fun t => some (decide (t ≥ 0))) (fun k => rfl) (Ev.bind (f := fun _ t => some (decide (t ≥ 0))) (Ev.congr (fun k => by unfold slices_Index_int_int.f; rfl) h0) (Ev.now _))
 obtain ⟨k, hk⟩ := h1.rounds
 exact (slices_Contains_int_int.calls k A c l n _ w hC hc hk).mono fun e w' h => ⟨h.1, h.2.below⟩
def stB (l : List Ow) (o : Ow) : Bool := if o.f1 = 1 then decide (0 ≤ ix (at_ o.f2) l) && ((rd_T57 l (ix (at_ o.f2) l)).f1 == 3) else ((o.f1 == 2 || o.f1 == 3) && o.f2 == -1)
def okO (nodes : List Int) (l : List Ow) (i : Nat) (o : Ow) : Bool := nodeB o.f0 && ((i == 0 || decide ((rd_T57 l ((i : Int) - 1)).f0 < o.f0)) && (stB l o && (o.f1 == 3 || decide (o.f0 ∈ nodes))))
def okAt (nodes : List Int) (l : List Ow) (i : Nat) : Bool := okO nodes l i (l.getD i z57)
/-- How many come new from a node. -/
def cnt (l : List Ow) (n : Int) : Nat := (l.filter (fun o => o.f1 == 1 && o.f2 == n)).length
def rightP (nodes : List Int) (l : List Ow) : Bool := (List.range l.length).all (okAt nodes l) && (l.all (fun o => o.f1 != 3 || cnt l o.f0 == 1) && ((l.filter (fun o => o.f1 != 3)).length == 3))
theorem getD_at {l : List Ow} {i : Nat} (h : i < l.length) : l.getD i z57 = l[i] := by rw [List.getD_eq_getElem?_getD, List.getElem?_eq_getElem h]; rfl
theorem right_bad {nodes : List Int} {l : List Ow} {i : Nat} (hi : i < l.length) (h : okAt nodes l i = false) : rightP nodes l = false := by
 unfold rightP
 have : (List.range l.length).all (okAt nodes l) = false := by
  rw [← Bool.not_eq_true, List.all_eq_true]; intro hall; rw [hall i (List.mem_range.2 hi)] at h; cases h
 rw [this, Bool.false_and]
theorem bad_of {nodes : List Int} {l : List Ow} {i : Nat} {o : Ow} (hli : l.getD i z57 = o) (h : okO nodes l i o = false) : okAt nodes l i = false := by unfold okAt; rw [hli]; exact h
theorem bad_node {nodes : List Int} {l : List Ow} {i : Nat} {o : Ow} (hli : l.getD i z57 = o) (h : nodeB o.f0 = false) : okAt nodes l i = false := bad_of hli (by unfold okO; rw [h, Bool.false_and])
theorem bad_order {nodes : List Int} {l : List Ow} {i : Nat} {o : Ow} (hli : l.getD i z57 = o) (hz : ¬ i = 0) (h : o.f0 ≤ (rd_T57 l ((i : Int) - 1)).f0) : okAt nodes l i = false := bad_of hli (by
 unfold okO; have h1 : (i == 0) = false := by simpa using hz
 rw [h1, Bool.false_or, decide_eq_false (by omega), Bool.false_and, Bool.and_false])
theorem bad_st {nodes : List Int} {l : List Ow} {i : Nat} {o : Ow} (hli : l.getD i z57 = o) (h : stB l o = false) : okAt nodes l i = false := bad_of hli (by unfold okO; rw [h, Bool.false_and, Bool.and_false, Bool.and_false])
theorem bad_own {nodes : List Int} {l : List Ow} {i : Nat} {o : Ow} {k0 : Int} (hli : l.getD i z57 = o) (h1 : o.f1 = 1) (h : ix (at_ o.f2) l = k0) (hk : k0 < 0) : okAt nodes l i = false := bad_st hli (by unfold stB; rw [if_pos h1, h, decide_eq_false (by omega), Bool.false_and])
theorem bad_stay {nodes : List Int} {l : List Ow} {i : Nat} {o p : Ow} {k0 : Int} (hli : l.getD i z57 = o) (h1 : o.f1 = 1) (h : ix (at_ o.f2) l = k0) (hp : rd_T57 l k0 = p) (hs : (p.f1 != 3) = true) : okAt nodes l i = false := bad_st hli (by
 unfold stB
 rw [if_pos h1, h, hp, show (p.f1 == 3) = false by simpa using hs, Bool.and_false])
theorem bad_from {nodes : List Int} {l : List Ow} {i : Nat} {o : Ow} {n : Int} (hli : l.getD i z57 = o) (h1 : o.f1 = n) (hn : n ≠ 1) (hs : (o.f2 != -1) = true) : okAt nodes l i = false := bad_st hli (by
 unfold stB
 rw [if_neg (by rw [h1]; exact hn), show (o.f2 == -1) = false by simpa using hs, Bool.and_false])
theorem bad_kind {nodes : List Int} {l : List Ow} {i : Nat} {o : Ow} (hli : l.getD i z57 = o) (h : o.f1 ≠ 1 ∧ o.f1 ≠ 2 ∧ o.f1 ≠ 3) : okAt nodes l i = false := bad_st hli (by
 unfold stB; rw [if_neg h.1, show (o.f1 == 2) = false by simpa using h.2.1, show (o.f1 == 3) = false by simpa using h.2.2]
 rfl)
theorem bad_in {nodes : List Int} {l : List Ow} {i : Nat} {o : Ow} {n : Int} (hli : l.getD i z57 = o) (h1 : o.f1 = n) (hn : n ≠ 3) (h : decide (o.f0 ∈ nodes) = false) : okAt nodes l i = false := bad_of hli (by
 unfold okO
 rw [h, show (o.f1 == 3) = false by rw [h1]; simpa using hn, Bool.or_false, Bool.and_false, Bool.and_false, Bool.and_false])
theorem ok_of {nodes : List Int} {l : List Ow} {i : Nat} {o : Ow} (hli : l.getD i z57 = o) (hn : nodeB o.f0 = true) (hp : i = 0 ∨ (rd_T57 l ((i : Int) - 1)).f0 < o.f0) (hs : stB l o = true) (hi : (o.f1 == 3 || decide (o.f0 ∈ nodes)) = true) : okAt nodes l i = true := by
 unfold okAt okO; rw [hli, hn, hs, hi]; rcases hp with rfl | hp
 ·
  rfl
 ·
  rw [decide_eq_true hp, Bool.or_true]; rfl
theorem ok1 {nodes : List Int} {l : List Ow} {i : Nat} {o : Ow} (hli : l.getD i z57 = o) (hn : nodeB o.f0 = true) (hp : i = 0 ∨ (rd_T57 l ((i : Int) - 1)).f0 < o.f0) (h1 : o.f1 = 1) (ho : 0 ≤ ix (at_ o.f2) l) (hs : (rd_T57 l (ix (at_ o.f2) l)).f1 = 3) (hi : decide (o.f0 ∈ nodes) = true) : okAt nodes l i = true :=
 ok_of hli hn hp (by unfold stB; rw [if_pos h1, decide_eq_true ho, hs]; rfl) (by rw [hi, Bool.or_true])
theorem ok2 {nodes : List Int} {l : List Ow} {i : Nat} {o : Ow} (hli : l.getD i z57 = o) (hn : nodeB o.f0 = true) (hp : i = 0 ∨ (rd_T57 l ((i : Int) - 1)).f0 < o.f0) (h1 : o.f1 = 2) (hs : (o.f2 != -1) = false) (hi : decide (o.f0 ∈ nodes) = true) : okAt nodes l i = true :=
 ok_of hli hn hp (by unfold stB; rw [if_neg (by omega), h1, show (o.f2 == -1) = true by simpa using hs]; rfl) (by rw [hi, Bool.or_true])
theorem ok3 {nodes : List Int} {l : List Ow} {i : Nat} {o : Ow} (hli : l.getD i z57 = o) (hn : nodeB o.f0 = true) (hp : i = 0 ∨ (rd_T57 l ((i : Int) - 1)).f0 < o.f0) (h1 : o.f1 = 3) (hs : (o.f2 != -1) = false) : okAt nodes l i = true :=
 ok_of hli hn hp (by unfold stB; rw [if_neg (by omega), h1, show (o.f2 == -1) = true by simpa using hs]; rfl) (by rw [h1]; rfl)
theorem ok_next {nodes : List Int} {l : List Ow} {i : Nat} (h : ∀ j, j < i → okAt nodes l j = true) (h2 : okAt nodes l i = true) : ∀ j, j < i + 1 → okAt nodes l j = true := fun j hj => by
 by_cases e : j = i
 ·
  rw [e]; exact h2
 ·
  exact h j (by omega)
theorem kind_or (n : Int) : n = 1 ∨ n = 2 ∨ n = 3 ∨ (n ≠ 1 ∧ n ≠ 2 ∧ n ≠ 3) := by omega
abbrev Im := List (Int × Int)
def ekI (n : Int) : Value := .int .i64 n
def evI (n : Int) : Value := .int .i64 n
theorem encI : XM.Enc Tryz.prog 3 ekI := ⟨Maps.int_keyed Tryz.underlying3, fun a a' h => by unfold ekI at h; cases h; rfl⟩
def IM (w : World) (b : Nat) (gm : Im) : Prop := XM.MapIs Tryz.prog 3 ekI evI w b gm
theorem keyI (n : Int) (h : (Lit.int .i64 n).wf = true) : keyOf Tryz.prog 3 (.int .i64 n) = some (.int .i64 n) := by
 unfold keyOf; rw [Tryz.underlying3]; simp [mapKey, Tryz.underlying3, h]
theorem isKI (n : Int) (h : (Lit.int .i64 n).wf = true) : XM.IsK Tryz.prog 3 ekI n := ⟨_, keyI n h⟩
def got (gm : Im) (n : Int) : Int := (XM.aget gm n).getD 0
theorem zI : ∀ w, (zeroValue 3).run Tryz.prog w = .ok (.int .i64 0) w := fun w => by kernel_rfl
theorem look_calls {w : World} {mb : Nat} {gm : Im} (h : IM w mb gm) (n : Int) (hn : (Lit.int .i64 n).wf = true) : (Instr.lookup 113 (.map (some mb)) (.int .i64 n) false).run Tryz.prog w = .ok (.int .i64 (got gm n)) w := by
 unfold got
 cases hg : XM.aget gm n with
 | none => exact XM.MapIs.look_none h encI Tryz.underlying113 (zI _) (isKI n hn) false hg
 | some v => exact XM.MapIs.look_some h encI Tryz.underlying113 (isKI n hn) false hg
theorem got_aput (n v k : Int) : ∀ (gm : Im), got (XM.aput gm n v) k = if k = n then v else got gm k
 | [] => by
  unfold got; simp only [XM.aput, XM.aget]
  by_cases h : k = n
  ·
   rw [if_pos h, if_pos h.symm]; rfl
  ·
   rw [if_neg h, if_neg (fun e => h e.symm)]
 | q :: r => by
  have ih := got_aput n v k r; unfold got at ih ⊢; simp only [XM.aput]
  by_cases hq : q.1 = n
  ·
   rw [if_pos hq]; simp only [XM.aget]
   by_cases h : k = n
   ·
    rw [if_pos h, if_pos h.symm]; rfl
   ·
    rw [if_neg h, if_neg (fun e => h e.symm), if_neg (fun e => h (by rw [← e, hq]))]
  ·
   rw [if_neg hq]; simp only [XM.aget]
   by_cases h : q.1 = k
   ·
    rw [if_pos h, if_pos h, if_neg (fun e => hq (by rw [h, e]))]
   ·
    rw [if_neg h, if_neg h, ih]
theorem cnt_le (l : List Ow) (n : Int) : cnt l n ≤ l.length := List.length_filter_le _ _
theorem cnt_snoc (P : List Ow) (o : Ow) (n : Int) : cnt (P ++ [o]) n = cnt P n + (if o.f1 = 1 ∧ o.f2 = n then 1 else 0) := by
 unfold cnt; rw [List.filter_append, List.length_append]
 congr 1
 by_cases h : o.f1 = 1 ∧ o.f2 = n
 ·
  rw [if_pos h, List.filter_cons, if_pos (by simp [h.1, h.2])]; rfl
 ·
  rw [if_neg h, List.filter_cons, if_neg (by simpa using h)]; rfl
theorem cnt_hit {gm : Im} {l : List Ow} {i : Nat} {o : Ow} (h : ∀ n, got gm n = cnt (l.take i) n) (ht : l.take (i + 1) = l.take i ++ [o]) (h1 : o.f1 = 1) : ∀ n, got (XM.aput gm o.f2 (got gm o.f2 + 1)) n = cnt (l.take (i + 1)) n := fun n => by
 rw [got_aput, ht, cnt_snoc]
 by_cases hn : n = o.f2
 ·
  rw [if_pos hn, if_pos ⟨h1, hn.symm⟩, h, hn]; omega
 ·
  rw [if_neg hn, if_neg (fun e => hn e.2.symm), h]; rfl
theorem cnt_miss {gm : Im} {l : List Ow} {i : Nat} {o : Ow} {m : Int} (h : ∀ n, got gm n = cnt (l.take i) n) (ht : l.take (i + 1) = l.take i ++ [o]) (h1 : o.f1 = m) (hm : m ≠ 1 := by decide) : ∀ n, got gm n = cnt (l.take (i + 1)) n := fun n => by
 rw [ht, cnt_snoc, if_neg (fun e => hm (by rw [← h1]; exact e.1)), h]; rfl
theorem st_hit {st : Int} {l : List Ow} {i : Nat} {o : Ow} {m : Int} (h : st = ((l.take i).filter (fun o => o.f1 != 3)).length) (ht : l.take (i + 1) = l.take i ++ [o]) (h1 : o.f1 = m) (hm : m ≠ 3) : st + 1 = ((l.take (i + 1)).filter (fun o => o.f1 != 3)).length := by
 rw [ht, List.filter_append, List.length_append, List.filter_cons, if_pos (by rw [h1]; simpa using hm), h]; rfl
theorem st_miss {st : Int} {l : List Ow} {i : Nat} {o : Ow} (h : st = ((l.take i).filter (fun o => o.f1 != 3)).length) (ht : l.take (i + 1) = l.take i ++ [o]) (h1 : o.f1 = 3) : st = ((l.take (i + 1)).filter (fun o => o.f1 != 3)).length := by
 rw [ht, List.filter_append, List.length_append, List.filter_cons, if_neg (by rw [h1]; simp), h]; rfl
def Right_A.T6 : Bool × List (List Nat × List Nat) := (true, [([], []), ([0], [0]), ([1], [1]), ([2], [2]), ([3, 2], [3]), ([4], [4]), ([5, 4], [4, 5]), ([6, 4, 4], [4, 6]), ([7], [7]), ([8, 7], [7, 8]), ([7], [7]), ([7], [7]), ([11, 7], [7, 11]), ([10, 12, 7], [7, 10, 12]), ([13, 7], [7, 13]), ([14, 7], [7, 14]), ([9, 15, 7], [7, 9, 15]), ([7, 16, 4], [4, 7, 16]), ([4, 17], [4, 17])])
def Right_A.B6 : List Nat := [0, 1, 3, 7, 15, 31, 63, 127, 255, 511, 255, 255, 2303, 7423, 15615, 31999, 65535, 131071, 262143]
theorem Right_A.tab6 : rtab .any (opsOf Tryz.f51 6) = Right_A.T6 := by kernel_rfl
theorem Right_A.bits6 : waitsOk Right_A.T6.2 Right_A.B6 = true := by kernel_rfl
def Right_B.T6 : Bool × List (List Nat × List Nat) := (true, [([], []), ([0], [0]), ([1], [1]), ([2], [2]), ([3, 2], [3]), ([4], [4]), ([5, 4], [4, 5]), ([6, 4, 4], [4, 6]), ([7], [7]), ([8, 7], [7, 8]), ([7], [7]), ([7], [7]), ([11, 7], [7, 11]), ([10, 12, 7], [7, 10, 12]), ([13, 7], [7, 13]), ([14, 7], [7, 14]), ([9, 15, 7], [7, 9, 15]), ([7, 16, 4], [4, 7, 16]), ([4, 17], [4, 17])])
def Right_B.B6 : List Nat := [0, 1, 3, 7, 15, 31, 63, 127, 255, 511, 255, 255, 2303, 7423, 15615, 31999, 65535, 131071, 262143]
theorem Right_B.tab6 : rtab .any (opsOf Tryz.f51 6) = Right_B.T6 := by kernel_rfl
theorem Right_B.bits6 : waitsOk Right_B.T6.2 Right_B.B6 = true := by kernel_rfl
def Right_C.T6 : Bool × List (List Nat × List Nat) := (true, [([], []), ([0], [0]), ([1], [1]), ([2], [2]), ([3, 2], [3]), ([4], [4]), ([5, 4], [4, 5]), ([6, 4, 4], [4, 6]), ([7], [7]), ([8, 7], [7, 8]), ([7], [7]), ([7], [7]), ([11, 7], [7, 11]), ([10, 12, 7], [7, 10, 12]), ([13, 7], [7, 13]), ([14, 7], [7, 14]), ([9, 15, 7], [7, 9, 15]), ([7, 16, 4], [4, 7, 16]), ([4, 17], [4, 17])])
def Right_C.B6 : List Nat := [0, 1, 3, 7, 15, 31, 63, 127, 255, 511, 255, 255, 2303, 7423, 15615, 31999, 65535, 131071, 262143]
theorem Right_C.tab6 : rtab .any (opsOf Tryz.f51 6) = Right_C.T6 := by kernel_rfl
theorem Right_C.bits6 : waitsOk Right_C.T6.2 Right_C.B6 = true := by kernel_rfl
theorem right_calls (w : World) (An : Option Addr) (cn : Nat) (nodes : List Int) (hCN : Kd.C (Kd.int .i64) w An nodes.length nodes) (hcn : nodes.length ≤ cn) (hln : nodes.length ≤ 9223372036854775807)
  (A : Option Addr) (c : Nat) (l : List Ow) (hC : Kd.C k57 w A l.length l) (hl : l.length ≤ 9223372036854775807) (hwf : ∀ o ∈ l, (Lit.int .i64 o.f2).wf = true ∧ (Lit.int .i64 o.f0).wf = true) :
  Calls Tryz.prog 51 #[.slice An nodes.length cn, .slice A l.length c] w fun e w' => e = .returned (.bool (rightP nodes l)) ∧ Below w.heap.size w w' := by
 have HCN := Lib.hid hCN; have HLN := Lib.hid (And.intro hcn hln); have HC := Lib.hid hC; have HWA := Lib.hid hwf; have hmm := @run_makeMap Tryz.prog; clear hCN hC hwf; go_enter Tryz.func51, Tryz.ntmps51
 go_wp2_with fail
 obtain ⟨mb, hmb⟩ : ∃ mb, mb = w.heap.size := ⟨_, rfl⟩
 obtain ⟨X0, hX0⟩ : ∃ X : World, X = w.alloc (.map #[] 0) := ⟨_, rfl⟩
 have HM0 := Lib.hid (show IM X0 mb [] by rw [hX0, hmb]; exact XM.MapIs.made _ _ _ _ _); have HB0 := Lib.hid (show Below w.heap.size w X0 by rw [hX0]; exact below_alloc (Below.refl _ _) _); have HMB := Lib.hid (show w.heap.size ≤ mb by omega); rw [← hX0, ← hmb]; clear hX0 hmb; go_loopg [5, 15] l.length (fun gn v5 v15 wr => ∃ (i : Nat) (st : Int) (gm : Im), v5 = .int .i64 st ∧ v15 = .int .i64 (i : Int) ∧ Aside0 (gn = l.length - i) ∧ Aside0 (i ≤ l.length) ∧ Aside0 (∀ j, j < i → okAt nodes l j = true) ∧ Aside0 (st = ((l.take i).filter (fun o => o.f1 != 3)).length) ∧ Aside0 (IM wr mb gm) ∧ Aside0 (∀ n, got gm n = cnt (l.take i) n) ∧ Aside0 (gm.length ≤ i) ∧ Aside0 (Below w.heap.size w wr))
 case atStart => exact ⟨0, 0, [], rfl, rfl, ⟨rfl⟩, ⟨Nat.zero_le _⟩, ⟨by omega⟩, ⟨rfl⟩, ⟨HM0.out⟩, ⟨fun n => rfl⟩, ⟨Nat.le_refl _⟩, ⟨HB0.out⟩⟩
 case round =>
  clear HM0 HB0; obtain ⟨i, st, gm, rfl, rfl, HN, HI, HOK, HST, HM, HGC, HGL, HB⟩ := hrel
  by_cases hi : i < l.length
  ·
   have hi0 : (i : Int) < (l.length : Int) := by omega
   have hwr : wrap64 ((i : Int) + 1) = (i : Int) + 1 := by unfold wrap64; omega
   have hst0 : 0 ≤ st ∧ st ≤ 9223372036854775806 := by have := HST.out; have h2 := List.length_filter_le (fun o : Ow => o.f1 != 3) (l.take i); rw [List.length_take] at h2; omega
   have hws : wrap64 (st + 1) = st + 1 := by unfold wrap64; omega
   obtain ⟨ad, ead, q0, q1, q2⟩ := at_T57 (Kd.C_below HC.out HB.out) (i : Int) (by omega) hi0; cases ead; have hto : ((i : Int)).toNat = i := Int.toNat_natCast i; rw [hto] at q0 q1 q2
   obtain ⟨o, ho⟩ : ∃ o, rd_T57 l (i : Int) = o := ⟨_, rfl⟩
   rw [ho] at q0 q1 q2; have hLi : l[i] = o := by rw [← ho, rd38 hi]
   have HLI := Lib.hid (show l.getD i z57 = o by rw [getD_at hi, hLi]); have HTK := Lib.hid (show l.take (i + 1) = l.take i ++ [o] by rw [← hLi]; exact List.take_succ_eq_append_getElem hi); have HWF := Lib.hid (HWA.out o (by rw [← hLi]; exact List.getElem_mem hi)); clear ho hLi hto hst0; go_wp2_with fail
   obtain ⟨gq, hgq⟩ : ∃ gq, gq = wr.heap.size := ⟨_, rfl⟩
   obtain ⟨X, hX⟩ : ∃ X : World, X = wr.alloc (.cells #[.int .i64 o.f0, .int .i64 o.f1, .int .i64 o.f2] 57) := ⟨_, rfl⟩
   have hbX : Below wr.heap.size wr X := by rw [hX]; exact below_alloc (Below.refl _ _) _
   have HQX := Lib.hid (show X.heap[gq]? = some (.cells #[.int .i64 o.f0, .int .i64 o.f1, .int .i64 o.f2] 57 (0, 0)) from by rw [hX, hgq]; exact blk_new _ _); have HBX := Lib.hid (below_then HB.out HB.out.size hbX); have HMX := Lib.hid (XM.MapIs.below HM.out hbX); have b0 : X.cell? ⟨gq, 0, none⟩ = some (.int .i64 o.f0) := (blk_cell HQX.out 0).trans rfl; rw [← hX, ← hgq]; clear hX hgq hbX HB HM q0 q1 q2
   cases hnb : nodeB o.f0 with
   | false =>
    have hk := isNode_calls X.drew o.f0; rw [hnb] at hk; have HKN := Lib.hid hk; have HND := Lib.hid hnb; clear hk hnb; refine start_ (n := 19) (S := fun w' => w'.cell? ⟨gq, 0, none⟩ = some (.int .i64 o.f0)) (ds := []) (bs 19 0) (by kernel_rfl) rfl rfl (b0) (fun hHeld => ?_); refine with_tabW Right_A.tab6 Right_A.bits6 (fun HT_ HW_ => ?_); apply pv 0 20 (bs 19 1) HT_; rfl; rfl; kernel_rfl; exact qq; rfl; intro w'; go_simp; with_reducible rfl; simp only [zz]; rfl
    apply tb 1 21 (bs 19 3) HT_ HW_ hHeld; rfl; rfl; kernel_rfl; exact qq; rfl; intro w' s0; go_simp; with_reducible rfl; simp only [zz]; rfl
    refine one_ (i := 2) (N := some 22) (bs 19 7) rfl rfl (one_of HT_.out (by kernel_rfl)) (by decide) (fun K hK => ?_); refine goes_ Tryz.func48 (by kernel_rfl) rfl #[.int .i64 o.f0] (by rfl) rfl rfl (by simp only [List.map_toArray, List.map_cons, List.map_nil]; rfl) ?_; with_reducible refine (HKN.out).mono ?_
    rintro e w9 ⟨rfl, hB9⟩; refine ⟨_, rfl, ?_⟩; have HB9 := Lib.hid hB9; have HQ9 := Lib.hid (blk_below (w := X.drew) HQX.out hB9); clear hB9; refine hK.out _ _ ((blk_cell HQ9.out 0).trans rfl) (fun hHeld => ?_); clear hK K; refine norm_ (a' := ?_) ?_ ?_; rotate_left
    ·
     show Act.put _ (some 22) _ = _; simp only [Act.put, List.setIfInBounds_toArray, List.set_cons_zero, List.set_cons_succ, i64_w, i32_w]; rfl
    apply pv 3 23 (bs 19 15) HT_; rfl; rfl; kernel_rfl; exact qq; rfl; intro w'; go_simp; with_reducible rfl; simp only [zz]; rfl
    apply pv 4 24 (bs 19 31) HT_; rfl; rfl; kernel_rfl; exact qq; rfl; intro w'; go_simp; with_reducible rfl; simp only [zz]; rfl
    apply py 5 25 (bs 19 63) HT_; rfl; rfl; kernel_rfl; exact qq; rfl; simp only [zz]; rfl; apply py 6 26 (bs 19 127) HT_; rfl; rfl; kernel_rfl; exact qq; rfl; simp only [zz]; rfl; apply py 7 27 (bs 19 255) HT_; rfl; rfl; kernel_rfl; exact qq; rfl; simp only [zz]; rfl; apply py 8 28 (bs 19 511) HT_; rfl; rfl; kernel_rfl; exact qq; rfl; simp only [zz]; rfl; apply py 9 29 (bs 19 1023) HT_; rfl; rfl; kernel_rfl; exact qq; rfl; simp only [zz]; rfl; apply py 10 30 (bs 19 2047) HT_; rfl; rfl; kernel_rfl; exact qq; rfl; simp only [zz]; rfl; apply py 11 31 (bs 19 4095) HT_; rfl; rfl; kernel_rfl; exact qq; rfl; simp only [zz]; rfl; apply py 12 32 (bs 19 8191) HT_; rfl; rfl; kernel_rfl; exact qq; rfl; simp only [zz]; rfl; apply py 13 33 (bs 19 16383) HT_; rfl; rfl; kernel_rfl; exact qq; rfl; simp only [zz]; rfl; apply py 14 34 (bs 19 32767) HT_; rfl; rfl; kernel_rfl; exact qq; rfl; simp only [zz]; rfl; apply py 15 35 (bs 19 65535) HT_; rfl; rfl; kernel_rfl; exact qq; rfl; simp only [zz]; rfl; apply py 16 36 (bs 19 131071) HT_; rfl; rfl; kernel_rfl; exact qq; rfl; simp only [zz]; rfl; apply py 17 37 (bs 19 262143) HT_; rfl; rfl; kernel_rfl; exact qq; rfl; simp only [zz]; rfl; apply pv 18 38 (bs 19 524287) HT_; rfl; rfl; kernel_rfl; exact qq; rfl; intro w'; go_simp; with_reducible rfl; simp only [zz]; rfl
    refine done_ (done_of HT_.out (by kernel_rfl)) ?_; have HBZ := Lib.hid (below_then (below_drew HBX.out) HBX.out.size HB9.out); go_wp2; go_ret
    exact ⟨by (rw [right_bad hi (bad_node HLI.out HND.out)]; rfl), HBZ.out⟩
   | true =>
    have hk := isNode_calls X.drew o.f0; rw [hnb] at hk; have HKN := Lib.hid hk; have HND := Lib.hid hnb; clear hk hnb
    by_cases hz : i = 0
    ·
     have hz0 : decide ((0 : Int) < (i : Int)) = false := decide_eq_false (by omega); have hz1 : decide (0 < i) = false := decide_eq_false (by omega); have HPV := Lib.hid (show i = 0 ∨ (rd_T57 l ((i : Int) - 1)).f0 < o.f0 from .inl hz); have HZ := Lib.hid hz; clear hz; refine start_ (n := 19) (S := fun w' => w'.cell? ⟨gq, 0, none⟩ = some (.int .i64 o.f0)) (ds := []) (bs 19 0) (by kernel_rfl) rfl rfl (b0) (fun hHeld => ?_); refine with_tabW Right_B.tab6 Right_B.bits6 (fun HT_ HW_ => ?_); apply pv 0 20 (bs 19 1) HT_; rfl; rfl; kernel_rfl; exact qq; rfl; intro w'; go_simp; with_reducible rfl; simp only [zz]; rfl
     apply tb 1 21 (bs 19 3) HT_ HW_ hHeld; rfl; rfl; kernel_rfl; exact qq; rfl; intro w' s0; go_simp; with_reducible rfl; simp only [zz]; rfl
     refine one_ (i := 2) (N := some 22) (bs 19 7) rfl rfl (one_of HT_.out (by kernel_rfl)) (by decide) (fun K hK => ?_); refine goes_ Tryz.func48 (by kernel_rfl) rfl #[.int .i64 o.f0] (by rfl) rfl rfl (by simp only [List.map_toArray, List.map_cons, List.map_nil]; rfl) ?_; with_reducible refine (HKN.out).mono ?_
     rintro e w9 ⟨rfl, hB9⟩; refine ⟨_, rfl, ?_⟩; have HB9 := Lib.hid hB9; have HQ9 := Lib.hid (blk_below (w := X.drew) HQX.out hB9); clear hB9; refine hK.out _ _ ((blk_cell HQ9.out 0).trans rfl) (fun hHeld => ?_); clear hK K; refine norm_ (a' := ?_) ?_ ?_; rotate_left
     ·
      show Act.put _ (some 22) _ = _; simp only [Act.put, List.setIfInBounds_toArray, List.set_cons_zero, List.set_cons_succ, i64_w, i32_w]; rfl
     apply pv 3 23 (bs 19 15) HT_; rfl; rfl; kernel_rfl; exact qq; rfl; intro w'; go_simp; with_reducible rfl; simp only [zz]; rfl
     apply pv 4 24 (bs 19 31) HT_; rfl; rfl; kernel_rfl; exact qq; rfl; intro w'; go_simp; with_reducible rfl; simp only [zz]; rfl
     apply pv 5 25 (bs 19 63) HT_; rfl; rfl; kernel_rfl; exact qq; rfl; intro w'; go_simp; with_reducible rfl; simp only [zz]; rfl
     apply pv 6 26 (bs 19 127) HT_; rfl; rfl; kernel_rfl; exact qq; rfl; intro w'; go_simp; with_reducible rfl; simp only [zz]; rfl
     apply pv 7 27 (bs 19 255) HT_; rfl; rfl; kernel_rfl; exact qq; rfl; intro w'; go_simp; with_reducible rfl; simp only [zz]; rfl
     apply py 8 28 (bs 19 511) HT_; rfl; rfl; kernel_rfl; exact qq; rfl; simp only [zz]; rfl; apply py 9 29 (bs 19 1023) HT_; rfl; rfl; kernel_rfl; exact qq; rfl; simp only [zz]; rfl; apply py 10 30 (bs 19 2047) HT_; rfl; rfl; kernel_rfl; exact qq; rfl; simp only [zz]; rfl; apply py 11 31 (bs 19 4095) HT_; rfl; rfl; kernel_rfl; exact qq; rfl; simp only [zz]; rfl; apply py 12 32 (bs 19 8191) HT_; rfl; rfl; kernel_rfl; exact qq; rfl; simp only [zz]; rfl; apply py 13 33 (bs 19 16383) HT_; rfl; rfl; kernel_rfl; exact qq; rfl; simp only [zz]; rfl; apply py 14 34 (bs 19 32767) HT_; rfl; rfl; kernel_rfl; exact qq; rfl; simp only [zz]; rfl; apply py 15 35 (bs 19 65535) HT_; rfl; rfl; kernel_rfl; exact qq; rfl; simp only [zz]; rfl; apply py 16 36 (bs 19 131071) HT_; rfl; rfl; kernel_rfl; exact qq; rfl; simp only [zz]; rfl; apply pv 17 37 (bs 19 262143) HT_; rfl; rfl; kernel_rfl; exact qq; rfl; intro w'; go_simp; with_reducible rfl; simp only [zz]; rfl
     apply pv 18 38 (bs 19 524287) HT_; rfl; rfl; kernel_rfl; exact qq; rfl; intro w'; go_simp; with_reducible rfl; simp only [zz]; rfl
     refine done_ (done_of HT_.out (by kernel_rfl)) ?_; have HBZ := Lib.hid (below_then (below_drew HBX.out) HBX.out.size HB9.out); have HM9 := Lib.hid (XM.MapIs.below (w := X.drew) HMX.out HB9.out); have z1 : w9.cell? ⟨gq, 1, none⟩ = some (.int .i64 o.f1) := (blk_cell HQ9.out 1).trans rfl; have z2 : w9.cell? ⟨gq, 2, none⟩ = some (.int .i64 o.f2) := (blk_cell HQ9.out 2).trans rfl; clear HKN HBX HMX HQX HB9; rcases kind_or o.f1 with hk | hk | hk | ⟨hk1, hk2, hk3⟩
     ·
      have HK1 := Lib.hid hk; have e1 : (o.f1 == 1) = true := by rw [beq_iff_eq]; exact hk
      clear hk; have HOW := Lib.hid (owner_calls w9 _ c l (Kd.C_below HC.out HBZ.out) hl o.f2); go_wp2_with fail
      with_reducible refine HOW.out.mono ?_
      rintro e w10 ⟨rfl, hB10⟩; have HBY := Lib.hid (below_then HBZ.out HBZ.out.size hB10); have HQY := Lib.hid (blk_below HQ9.out hB10); have HMY := Lib.hid (XM.MapIs.below HM9.out hB10); clear hB10 HOW HBZ HQ9 HM9 z1 z2 e1
      obtain ⟨k0, hk0⟩ : ∃ k0, ix (at_ o.f2) l = k0 := ⟨_, rfl⟩
      rw [hk0]; have hkr := ix_range (at_ o.f2) l; rw [hk0] at hkr; have HK0 := Lib.hid hk0; clear hk0
      by_cases hkn : k0 < 0
      ·
       have HKN := Lib.hid hkn; have HBZ := HBY; go_wp2; go_ret; exact ⟨by (rw [right_bad hi (bad_own HLI.out HK1.out HK0.out HKN.out)]; rfl), HBZ.out⟩
      ·
       have hk0' : 0 ≤ k0 := by omega
       have hkl : k0 < (l.length : Int) := by omega
       obtain ⟨ad2, ead, r0, r1, r2⟩ := at_T57 (Kd.C_below HC.out HBY.out) k0 hk0' hkl; cases ead
       obtain ⟨p, hp⟩ : ∃ p, rd_T57 l k0 = p := ⟨_, rfl⟩
       rw [hp] at r0 r1 r2; have HP := Lib.hid hp; clear hp; have HOWN := Lib.hid (show 0 ≤ ix (at_ o.f2) l by rw [HK0.out]; exact hk0')
       cases hsl : (p.f1 != 3) with
       | true =>
        have hst := stays_calls w10 p; rw [hsl] at hst; have HSTY := Lib.hid hst; have HSL := Lib.hid hsl; clear hst hsl; go_wp2_with fail
        with_reducible refine HSTY.out.mono ?_
        rintro e w11 ⟨rfl, hB11⟩; have HBZ := Lib.hid (below_then HBY.out HBY.out.size hB11); clear hB11 HSTY; go_wp2; go_ret
        exact ⟨by (rw [right_bad hi (bad_stay HLI.out HK1.out HK0.out HP.out HSL.out)]; rfl), HBZ.out⟩
       | false =>
        have hst := stays_calls w10 p; rw [hsl] at hst; have HSTY := Lib.hid hst; have HSTL := Lib.hid (show (rd_T57 l (ix (at_ o.f2) l)).f1 = 3 by rw [HK0.out, HP.out]; simpa using hsl); clear hst hsl; go_wp2_with fail
        with_reducible refine HSTY.out.mono ?_
        rintro e w11 ⟨rfl, hB11⟩; have HBV := Lib.hid (below_then HBY.out HBY.out.size hB11); have HQV := Lib.hid (blk_below HQY.out hB11); have hmV := XM.MapIs.below HMY.out hB11; have y2 : w11.cell? ⟨gq, 2, none⟩ = some (.int .i64 o.f2) := (blk_cell HQV.out 2).trans rfl; have hlk := look_calls hmV o.f2 HWF.out.1; have hgb : 0 ≤ got gm o.f2 ∧ got gm o.f2 ≤ 9223372036854775806 := by have := HGC.out o.f2; have := cnt_le (l.take i) o.f2; rw [List.length_take] at this; omega
        have hwg : wrap64 (got gm o.f2 + 1) = got gm o.f2 + 1 := by unfold wrap64; omega
        obtain ⟨W12, hrun, hmap, hgr, hsz⟩ := XM.MapIs.store hmV encI Tryz.underlying113 (isKI o.f2 HWF.out.1) (by have := HGL.out; unfold maxLen; omega) (got gm o.f2 + 1); have HMZ := Lib.hid hmap; have HQZ := Lib.hid (show W12.heap[gq]? = some (.cells #[.int .i64 o.f0, .int .i64 o.f1, .int .i64 o.f2] 57 (0, 0)) from (hgr.block gq (blk_lt HQV.out) (fun e => by cases e; exact (hmV.noCells HQV.out) rfl)).trans HQV.out); have HBZ := Lib.hid (HBV.out.grown hgr HBV.out.size (fun j hj => by cases hj; exact HMB.out)); simp only [ekI, evI] at hrun; clear hB11 HSTY HQV HQY HBY HBV HMY hmV hmap hgr hsz r0 r1 r2 hgb; have z0 : W12.cell? ⟨gq, 0, none⟩ = some (.int .i64 o.f0) := (blk_cell HQZ.out 0).trans rfl; have z1 : W12.cell? ⟨gq, 1, none⟩ = some (.int .i64 o.f1) := (blk_cell HQZ.out 1).trans rfl; have z2 : W12.cell? ⟨gq, 2, none⟩ = some (.int .i64 o.f2) := (blk_cell HQZ.out 2).trans rfl; have hst := stays_calls W12 o; rw [show (o.f1 != 3) = true by rw [HK1.out]; rfl] at hst; have HSTY := Lib.hid hst; clear hst; go_wp2_with fail
        with_reducible refine HSTY.out.mono ?_
        rintro e wS ⟨rfl, hBS⟩; clear y2 hlk hrun hwg; have HQS := Lib.hid (blk_below HQZ.out hBS); have HMS := Lib.hid (XM.MapIs.below HMZ.out hBS); have HBS := Lib.hid (below_then HBZ.out HBZ.out.size hBS); clear hBS HSTY HQZ HMZ HBZ z0 z1 z2; have z0 : wS.cell? ⟨gq, 0, none⟩ = some (.int .i64 o.f0) := (blk_cell HQS.out 0).trans rfl; have hct := contains_calls wS An cn nodes (Kd.C_below HCN.out HBS.out) HLN.out.1 HLN.out.2 o.f0; have HCT := Lib.hid hct; clear hct; go_wp2_with fail
        with_reducible refine HCT.out.mono ?_
        rintro e wU ⟨rfl, hBU⟩; have HMZ := Lib.hid (XM.MapIs.below HMS.out hBU); have HBZ := Lib.hid (below_then HBS.out HBS.out.size hBU); clear hBU HCT HQS HMS HBS z0
        cases hin : decide (o.f0 ∈ nodes) with
        | false =>
         have HIN := Lib.hid hin; clear hin; go_wp2; go_ret
         exact ⟨by (rw [right_bad hi (bad_in HLI.out HK1.out (by decide) HIN.out)]; rfl), HBZ.out⟩
        | true =>
         have HIN := Lib.hid hin; clear hin; go_wp2; go_roundg (l.length - (i + 1))
         case measure => have := HN.out; omega
         case rel => exact ⟨i + 1, st + 1, (XM.aput gm o.f2 (got gm o.f2 + 1)), by rfl, by rfl, ⟨rfl⟩, ⟨hi⟩, ⟨ok_next HOK.out (ok1 HLI.out HND.out HPV.out HK1.out HOWN.out HSTL.out HIN.out)⟩, ⟨st_hit HST.out HTK.out HK1.out (by decide)⟩, ⟨HMZ.out⟩, ⟨cnt_hit HGC.out HTK.out HK1.out⟩, ⟨by have := HGL.out; have := XM.length_aput gm o.f2 (got gm o.f2 + 1); omega⟩, ⟨HBZ.out⟩⟩
     ·
      have HK1 := Lib.hid hk; have e1 : (o.f1 == 1) = false := by rw [hk]; rfl
      have e2 : (o.f1 == 2) = true := by rw [hk]; rfl
      clear hk
      cases hf : (o.f2 != -1) with
      | true =>
       have HF2 := Lib.hid hf; go_wp2; go_ret
       exact ⟨by (rw [right_bad hi (bad_from HLI.out HK1.out (by decide) HF2.out)]; rfl), HBZ.out⟩
      | false =>
       have HF2 := Lib.hid hf; have HQZ := HQ9; have HMZ := HM9; clear HQ9 HM9; have z0 : w9.cell? ⟨gq, 0, none⟩ = some (.int .i64 o.f0) := (blk_cell HQZ.out 0).trans rfl; have z1 : w9.cell? ⟨gq, 1, none⟩ = some (.int .i64 o.f1) := (blk_cell HQZ.out 1).trans rfl; have z2 : w9.cell? ⟨gq, 2, none⟩ = some (.int .i64 o.f2) := (blk_cell HQZ.out 2).trans rfl; have hst := stays_calls w9 o; rw [show (o.f1 != 3) = true by rw [HK1.out]; rfl] at hst; have HSTY := Lib.hid hst; clear hst; go_wp2_with fail
       with_reducible refine HSTY.out.mono ?_
       rintro e wS ⟨rfl, hBS⟩; clear hf e1 e2; have HQS := Lib.hid (blk_below HQZ.out hBS); have HMS := Lib.hid (XM.MapIs.below HMZ.out hBS); have HBS := Lib.hid (below_then HBZ.out HBZ.out.size hBS); clear hBS HSTY HQZ HMZ HBZ z0 z1 z2; have z0 : wS.cell? ⟨gq, 0, none⟩ = some (.int .i64 o.f0) := (blk_cell HQS.out 0).trans rfl; have hct := contains_calls wS An cn nodes (Kd.C_below HCN.out HBS.out) HLN.out.1 HLN.out.2 o.f0; have HCT := Lib.hid hct; clear hct; go_wp2_with fail
       with_reducible refine HCT.out.mono ?_
       rintro e wU ⟨rfl, hBU⟩; have HMZ := Lib.hid (XM.MapIs.below HMS.out hBU); have HBZ := Lib.hid (below_then HBS.out HBS.out.size hBU); clear hBU HCT HQS HMS HBS z0
       cases hin : decide (o.f0 ∈ nodes) with
       | false =>
        have HIN := Lib.hid hin; clear hin; go_wp2; go_ret
        exact ⟨by (rw [right_bad hi (bad_in HLI.out HK1.out (by decide) HIN.out)]; rfl), HBZ.out⟩
       | true =>
        have HIN := Lib.hid hin; clear hin; go_wp2; go_roundg (l.length - (i + 1))
        case measure => have := HN.out; omega
        case rel => exact ⟨i + 1, st + 1, gm, by rfl, by rfl, ⟨rfl⟩, ⟨hi⟩, ⟨ok_next HOK.out (ok2 HLI.out HND.out HPV.out HK1.out HF2.out HIN.out)⟩, ⟨st_hit HST.out HTK.out HK1.out (by decide)⟩, ⟨HMZ.out⟩, ⟨cnt_miss HGC.out HTK.out HK1.out⟩, ⟨by have := HGL.out; omega⟩, ⟨HBZ.out⟩⟩
     ·
      have HK1 := Lib.hid hk; have e1 : (o.f1 == 1) = false := by rw [hk]; rfl
      have e2 : (o.f1 == 2) = false := by rw [hk]; rfl
      have e3 : (o.f1 == 3) = true := by rw [hk]; rfl
      clear hk
      cases hf : (o.f2 != -1) with
      | true =>
       have HF2 := Lib.hid hf; go_wp2; go_ret
       exact ⟨by (rw [right_bad hi (bad_from HLI.out HK1.out (by decide) HF2.out)]; rfl), HBZ.out⟩
      | false =>
       have HF2 := Lib.hid hf; have HQZ := HQ9; have HMZ := HM9; clear HQ9 HM9; have z0 : w9.cell? ⟨gq, 0, none⟩ = some (.int .i64 o.f0) := (blk_cell HQZ.out 0).trans rfl; have z1 : w9.cell? ⟨gq, 1, none⟩ = some (.int .i64 o.f1) := (blk_cell HQZ.out 1).trans rfl; have z2 : w9.cell? ⟨gq, 2, none⟩ = some (.int .i64 o.f2) := (blk_cell HQZ.out 2).trans rfl; have hst := stays_calls w9 o; rw [show (o.f1 != 3) = false by rw [HK1.out]; rfl] at hst; have HSTY := Lib.hid hst; clear hst; go_wp2_with fail
       with_reducible refine HSTY.out.mono ?_
       rintro e wS ⟨rfl, hBS⟩; clear hf e1 e2 e3; have HQS := Lib.hid (blk_below HQZ.out hBS); have HMS := Lib.hid (XM.MapIs.below HMZ.out hBS); have HBS := Lib.hid (below_then HBZ.out HBZ.out.size hBS); clear hBS HSTY HQZ HMZ HBZ z0 z1 z2; have HMZ := HMS; have HBZ := HBS; clear HQS HMS HBS; go_wp2; go_roundg (l.length - (i + 1))
       case measure => have := HN.out; omega
       case rel => exact ⟨i + 1, st, gm, by rfl, by rfl, ⟨rfl⟩, ⟨hi⟩, ⟨ok_next HOK.out (ok3 HLI.out HND.out HPV.out HK1.out HF2.out)⟩, ⟨st_miss HST.out HTK.out HK1.out⟩, ⟨HMZ.out⟩, ⟨cnt_miss HGC.out HTK.out HK1.out⟩, ⟨by have := HGL.out; omega⟩, ⟨HBZ.out⟩⟩
     ·
      have e1 : (o.f1 == 1) = false := by rw [beq_eq_false_iff_ne]; exact hk1
      have e2 : (o.f1 == 2) = false := by rw [beq_eq_false_iff_ne]; exact hk2
      have e3 : (o.f1 == 3) = false := by rw [beq_eq_false_iff_ne]; exact hk3
      have HKX := Lib.hid (And.intro hk1 (And.intro hk2 hk3)); clear hk1 hk2 hk3; go_wp2; go_ret; exact ⟨by (rw [right_bad hi (bad_kind HLI.out HKX.out)]; rfl), HBZ.out⟩
    ·
     have hz0 : decide ((0 : Int) < (i : Int)) = true := decide_eq_true (by omega); have hz1 : decide (0 < i) = true := decide_eq_true (by omega); have hwm : wrap64 ((i : Int) - 1) = (i : Int) - 1 := by unfold wrap64; omega
     have hm0 : (0 : Int) ≤ (i : Int) - 1 := by omega
     have hm1 : (i : Int) - 1 < (l.length : Int) := by omega
     obtain ⟨ad2, ead, p0, _, _⟩ := at_T57 (Kd.C_below HC.out HBX.out) ((i : Int) - 1) hm0 hm1; cases ead; rw [show ((i : Int) - 1).toNat = i - 1 by omega] at p0; have h1i : (1 : Int) ≤ (i : Int) := by omega
     have HZ := Lib.hid hz; clear hz
     cases hle : decide (o.f0 ≤ (rd_T57 l ((i : Int) - 1)).f0) with
     | true =>
      have HLE := Lib.hid (of_decide_eq_true hle); refine start_ (n := 19) (S := fun w' => w'.cell? ⟨gq, 0, none⟩ = some (.int .i64 o.f0) ∧ w'.cell? (ad.add ((i - 1) * 3)) = some (.int .i64 (rd_T57 l ((i : Int) - 1)).f0)) (ds := []) (bs 19 0) (by kernel_rfl) rfl rfl ⟨b0, p0⟩ (fun hHeld => ?_); refine with_tabW Right_C.tab6 Right_C.bits6 (fun HT_ HW_ => ?_); apply pv 0 20 (bs 19 1) HT_; rfl; rfl; kernel_rfl; exact qq; rfl; intro w'; go_simp; with_reducible rfl; simp only [zz]; rfl
      apply tb 1 21 (bs 19 3) HT_ HW_ hHeld; rfl; rfl; kernel_rfl; exact qq; rfl; rintro w' ⟨s0, s1⟩; go_simp; with_reducible rfl; simp only [zz]; rfl
      refine one_ (i := 2) (N := some 22) (bs 19 7) rfl rfl (one_of HT_.out (by kernel_rfl)) (by decide) (fun K hK => ?_); refine goes_ Tryz.func48 (by kernel_rfl) rfl #[.int .i64 o.f0] (by rfl) rfl rfl (by simp only [List.map_toArray, List.map_cons, List.map_nil]; rfl) ?_; with_reducible refine (HKN.out).mono ?_
      rintro e w9 ⟨rfl, hB9⟩; refine ⟨_, rfl, ?_⟩; have HB9 := Lib.hid hB9; have HQ9 := Lib.hid (blk_below (w := X.drew) HQX.out hB9); clear hB9; refine hK.out _ _ ⟨(blk_cell HQ9.out 0).trans rfl, pw_cell_below HB9.out p0⟩ (fun hHeld => ?_); clear hK K; refine norm_ (a' := ?_) ?_ ?_; rotate_left
      ·
       show Act.put _ (some 22) _ = _; simp only [Act.put, List.setIfInBounds_toArray, List.set_cons_zero, List.set_cons_succ, i64_w, i32_w]; rfl
      apply pv 3 23 (bs 19 15) HT_; rfl; rfl; kernel_rfl; exact qq; rfl; intro w'; go_simp; with_reducible rfl; simp only [zz]; rfl
      apply pv 4 24 (bs 19 31) HT_; rfl; rfl; kernel_rfl; exact qq; rfl; intro w'; go_simp; with_reducible rfl; simp only [zz]; rfl
      apply pv 5 25 (bs 19 63) HT_; rfl; rfl; kernel_rfl; exact qq; rfl; intro w'; go_simp; with_reducible rfl; simp only [zz]; rfl
      apply pv 6 26 (bs 19 127) HT_; rfl; rfl; kernel_rfl; exact qq; rfl; intro w'; go_simp; with_reducible rfl; simp only [zz]; rfl
      apply pv 7 27 (bs 19 255) HT_; rfl; rfl; kernel_rfl; exact qq; rfl; intro w'; go_simp; with_reducible rfl; simp only [zz]; rfl
      apply pv 8 28 (bs 19 511) HT_; rfl; rfl; kernel_rfl; exact qq; rfl; intro w'; go_simp; with_reducible rfl; simp only [zz]; rfl
      apply pv 10 30 (bs 19 1535) HT_; rfl; rfl; kernel_rfl; exact qq; rfl; intro w'; go_simp; with_reducible rfl; simp only [zz]; rfl
      apply pv 11 31 (bs 19 3583) HT_; rfl; rfl; kernel_rfl; exact qq; rfl; intro w'; go_simp; with_reducible rfl; simp only [zz]; rfl
      apply pv 12 32 (bs 19 7679) HT_; rfl; rfl; kernel_rfl; exact qq; rfl; intro w'; go_simp; with_reducible rfl; simp only [zz]; rfl
      apply pv 13 33 (bs 19 15871) HT_; rfl; rfl; kernel_rfl; exact qq; rfl; intro w'; go_simp; with_reducible rfl; simp only [zz]; rfl
      apply pv 14 34 (bs 19 32255) HT_; rfl; rfl; kernel_rfl; exact qq; rfl; intro w'; go_simp; with_reducible rfl; simp only [zz]; rfl
      apply tb 9 29 (bs 19 32767) HT_ HW_ hHeld; rfl; rfl; kernel_rfl; exact qq; rfl; rintro w' ⟨s0, s1⟩; go_simp; with_reducible rfl; simp only [zz]; rfl
      apply tb 15 35 (bs 19 65535) HT_ HW_ hHeld; rfl; rfl; kernel_rfl; exact qq; rfl; rintro w' ⟨s0, s1⟩; go_simp; with_reducible rfl; simp only [zz]; rfl
      apply pv 16 36 (bs 19 131071) HT_; rfl; rfl; kernel_rfl; exact qq; rfl; intro w'; go_simp; with_reducible rfl; simp only [zz]; rfl
      apply pv 17 37 (bs 19 262143) HT_; rfl; rfl; kernel_rfl; exact qq; rfl; intro w'; go_simp; with_reducible rfl; simp only [zz]; rfl
      apply pv 18 38 (bs 19 524287) HT_; rfl; rfl; kernel_rfl; exact qq; rfl; intro w'; go_simp; with_reducible rfl; simp only [zz]; rfl
      refine done_ (done_of HT_.out (by kernel_rfl)) ?_; have HBZ := Lib.hid (below_then (below_drew HBX.out) HBX.out.size HB9.out); go_wp2; go_ret
      exact ⟨by (rw [right_bad hi (bad_order HLI.out HZ.out HLE.out)]; rfl), HBZ.out⟩
     | false =>
      have HPV := Lib.hid (show i = 0 ∨ (rd_T57 l ((i : Int) - 1)).f0 < o.f0 from .inr (by have := of_decide_eq_false hle; omega)); refine start_ (n := 19) (S := fun w' => w'.cell? ⟨gq, 0, none⟩ = some (.int .i64 o.f0) ∧ w'.cell? (ad.add ((i - 1) * 3)) = some (.int .i64 (rd_T57 l ((i : Int) - 1)).f0)) (ds := []) (bs 19 0) (by kernel_rfl) rfl rfl ⟨b0, p0⟩ (fun hHeld => ?_); refine with_tabW Right_C.tab6 Right_C.bits6 (fun HT_ HW_ => ?_); apply pv 0 20 (bs 19 1) HT_; rfl; rfl; kernel_rfl; exact qq; rfl; intro w'; go_simp; with_reducible rfl; simp only [zz]; rfl
      apply tb 1 21 (bs 19 3) HT_ HW_ hHeld; rfl; rfl; kernel_rfl; exact qq; rfl; rintro w' ⟨s0, s1⟩; go_simp; with_reducible rfl; simp only [zz]; rfl
      refine one_ (i := 2) (N := some 22) (bs 19 7) rfl rfl (one_of HT_.out (by kernel_rfl)) (by decide) (fun K hK => ?_); refine goes_ Tryz.func48 (by kernel_rfl) rfl #[.int .i64 o.f0] (by rfl) rfl rfl (by simp only [List.map_toArray, List.map_cons, List.map_nil]; rfl) ?_; with_reducible refine (HKN.out).mono ?_
      rintro e w9 ⟨rfl, hB9⟩; refine ⟨_, rfl, ?_⟩; have HB9 := Lib.hid hB9; have HQ9 := Lib.hid (blk_below (w := X.drew) HQX.out hB9); clear hB9; refine hK.out _ _ ⟨(blk_cell HQ9.out 0).trans rfl, pw_cell_below HB9.out p0⟩ (fun hHeld => ?_); clear hK K; refine norm_ (a' := ?_) ?_ ?_; rotate_left
      ·
       show Act.put _ (some 22) _ = _; simp only [Act.put, List.setIfInBounds_toArray, List.set_cons_zero, List.set_cons_succ, i64_w, i32_w]; rfl
      apply pv 3 23 (bs 19 15) HT_; rfl; rfl; kernel_rfl; exact qq; rfl; intro w'; go_simp; with_reducible rfl; simp only [zz]; rfl
      apply pv 4 24 (bs 19 31) HT_; rfl; rfl; kernel_rfl; exact qq; rfl; intro w'; go_simp; with_reducible rfl; simp only [zz]; rfl
      apply pv 5 25 (bs 19 63) HT_; rfl; rfl; kernel_rfl; exact qq; rfl; intro w'; go_simp; with_reducible rfl; simp only [zz]; rfl
      apply pv 6 26 (bs 19 127) HT_; rfl; rfl; kernel_rfl; exact qq; rfl; intro w'; go_simp; with_reducible rfl; simp only [zz]; rfl
      apply pv 7 27 (bs 19 255) HT_; rfl; rfl; kernel_rfl; exact qq; rfl; intro w'; go_simp; with_reducible rfl; simp only [zz]; rfl
      apply pv 8 28 (bs 19 511) HT_; rfl; rfl; kernel_rfl; exact qq; rfl; intro w'; go_simp; with_reducible rfl; simp only [zz]; rfl
      apply pv 10 30 (bs 19 1535) HT_; rfl; rfl; kernel_rfl; exact qq; rfl; intro w'; go_simp; with_reducible rfl; simp only [zz]; rfl
      apply pv 11 31 (bs 19 3583) HT_; rfl; rfl; kernel_rfl; exact qq; rfl; intro w'; go_simp; with_reducible rfl; simp only [zz]; rfl
      apply pv 12 32 (bs 19 7679) HT_; rfl; rfl; kernel_rfl; exact qq; rfl; intro w'; go_simp; with_reducible rfl; simp only [zz]; rfl
      apply pv 13 33 (bs 19 15871) HT_; rfl; rfl; kernel_rfl; exact qq; rfl; intro w'; go_simp; with_reducible rfl; simp only [zz]; rfl
      apply pv 14 34 (bs 19 32255) HT_; rfl; rfl; kernel_rfl; exact qq; rfl; intro w'; go_simp; with_reducible rfl; simp only [zz]; rfl
      apply tb 9 29 (bs 19 32767) HT_ HW_ hHeld; rfl; rfl; kernel_rfl; exact qq; rfl; rintro w' ⟨s0, s1⟩; go_simp; with_reducible rfl; simp only [zz]; rfl
      apply tb 15 35 (bs 19 65535) HT_ HW_ hHeld; rfl; rfl; kernel_rfl; exact qq; rfl; rintro w' ⟨s0, s1⟩; go_simp; with_reducible rfl; simp only [zz]; rfl
      apply pv 16 36 (bs 19 131071) HT_; rfl; rfl; kernel_rfl; exact qq; rfl; intro w'; go_simp; with_reducible rfl; simp only [zz]; rfl
      apply pv 17 37 (bs 19 262143) HT_; rfl; rfl; kernel_rfl; exact qq; rfl; intro w'; go_simp; with_reducible rfl; simp only [zz]; rfl
      apply pv 18 38 (bs 19 524287) HT_; rfl; rfl; kernel_rfl; exact qq; rfl; intro w'; go_simp; with_reducible rfl; simp only [zz]; rfl
      refine done_ (done_of HT_.out (by kernel_rfl)) ?_; have HBZ := Lib.hid (below_then (below_drew HBX.out) HBX.out.size HB9.out); have HM9 := Lib.hid (XM.MapIs.below (w := X.drew) HMX.out HB9.out); have z1 : w9.cell? ⟨gq, 1, none⟩ = some (.int .i64 o.f1) := (blk_cell HQ9.out 1).trans rfl; have z2 : w9.cell? ⟨gq, 2, none⟩ = some (.int .i64 o.f2) := (blk_cell HQ9.out 2).trans rfl; clear HKN HBX HMX HQX HB9; rcases kind_or o.f1 with hk | hk | hk | ⟨hk1, hk2, hk3⟩
      ·
       have HK1 := Lib.hid hk; have e1 : (o.f1 == 1) = true := by rw [beq_iff_eq]; exact hk
       clear hk; have HOW := Lib.hid (owner_calls w9 _ c l (Kd.C_below HC.out HBZ.out) hl o.f2); go_wp2_with fail
       with_reducible refine HOW.out.mono ?_
       rintro e w10 ⟨rfl, hB10⟩; have HBY := Lib.hid (below_then HBZ.out HBZ.out.size hB10); have HQY := Lib.hid (blk_below HQ9.out hB10); have HMY := Lib.hid (XM.MapIs.below HM9.out hB10); clear hB10 HOW HBZ HQ9 HM9 z1 z2 e1
       obtain ⟨k0, hk0⟩ : ∃ k0, ix (at_ o.f2) l = k0 := ⟨_, rfl⟩
       rw [hk0]; have hkr := ix_range (at_ o.f2) l; rw [hk0] at hkr; have HK0 := Lib.hid hk0; clear hk0
       by_cases hkn : k0 < 0
       ·
        have HKN := Lib.hid hkn; have HBZ := HBY; go_wp2; go_ret; exact ⟨by (rw [right_bad hi (bad_own HLI.out HK1.out HK0.out HKN.out)]; rfl), HBZ.out⟩
       ·
        have hk0' : 0 ≤ k0 := by omega
        have hkl : k0 < (l.length : Int) := by omega
        obtain ⟨ad2, ead, r0, r1, r2⟩ := at_T57 (Kd.C_below HC.out HBY.out) k0 hk0' hkl; cases ead
        obtain ⟨p, hp⟩ : ∃ p, rd_T57 l k0 = p := ⟨_, rfl⟩
        rw [hp] at r0 r1 r2; have HP := Lib.hid hp; clear hp; have HOWN := Lib.hid (show 0 ≤ ix (at_ o.f2) l by rw [HK0.out]; exact hk0')
        cases hsl : (p.f1 != 3) with
        | true =>
         have hst := stays_calls w10 p; rw [hsl] at hst; have HSTY := Lib.hid hst; have HSL := Lib.hid hsl; clear hst hsl; go_wp2_with fail
         with_reducible refine HSTY.out.mono ?_
         rintro e w11 ⟨rfl, hB11⟩; have HBZ := Lib.hid (below_then HBY.out HBY.out.size hB11); clear hB11 HSTY; go_wp2; go_ret
         exact ⟨by (rw [right_bad hi (bad_stay HLI.out HK1.out HK0.out HP.out HSL.out)]; rfl), HBZ.out⟩
        | false =>
         have hst := stays_calls w10 p; rw [hsl] at hst; have HSTY := Lib.hid hst; have HSTL := Lib.hid (show (rd_T57 l (ix (at_ o.f2) l)).f1 = 3 by rw [HK0.out, HP.out]; simpa using hsl); clear hst hsl; go_wp2_with fail
         with_reducible refine HSTY.out.mono ?_
         rintro e w11 ⟨rfl, hB11⟩; have HBV := Lib.hid (below_then HBY.out HBY.out.size hB11); have HQV := Lib.hid (blk_below HQY.out hB11); have hmV := XM.MapIs.below HMY.out hB11; have y2 : w11.cell? ⟨gq, 2, none⟩ = some (.int .i64 o.f2) := (blk_cell HQV.out 2).trans rfl; have hlk := look_calls hmV o.f2 HWF.out.1; have hgb : 0 ≤ got gm o.f2 ∧ got gm o.f2 ≤ 9223372036854775806 := by have := HGC.out o.f2; have := cnt_le (l.take i) o.f2; rw [List.length_take] at this; omega
         have hwg : wrap64 (got gm o.f2 + 1) = got gm o.f2 + 1 := by unfold wrap64; omega
         obtain ⟨W12, hrun, hmap, hgr, hsz⟩ := XM.MapIs.store hmV encI Tryz.underlying113 (isKI o.f2 HWF.out.1) (by have := HGL.out; unfold maxLen; omega) (got gm o.f2 + 1); have HMZ := Lib.hid hmap; have HQZ := Lib.hid (show W12.heap[gq]? = some (.cells #[.int .i64 o.f0, .int .i64 o.f1, .int .i64 o.f2] 57 (0, 0)) from (hgr.block gq (blk_lt HQV.out) (fun e => by cases e; exact (hmV.noCells HQV.out) rfl)).trans HQV.out); have HBZ := Lib.hid (HBV.out.grown hgr HBV.out.size (fun j hj => by cases hj; exact HMB.out)); simp only [ekI, evI] at hrun; clear hB11 HSTY HQV HQY HBY HBV HMY hmV hmap hgr hsz r0 r1 r2 hgb; have z0 : W12.cell? ⟨gq, 0, none⟩ = some (.int .i64 o.f0) := (blk_cell HQZ.out 0).trans rfl; have z1 : W12.cell? ⟨gq, 1, none⟩ = some (.int .i64 o.f1) := (blk_cell HQZ.out 1).trans rfl; have z2 : W12.cell? ⟨gq, 2, none⟩ = some (.int .i64 o.f2) := (blk_cell HQZ.out 2).trans rfl; have hst := stays_calls W12 o; rw [show (o.f1 != 3) = true by rw [HK1.out]; rfl] at hst; have HSTY := Lib.hid hst; clear hst; go_wp2_with fail
         with_reducible refine HSTY.out.mono ?_
         rintro e wS ⟨rfl, hBS⟩; clear y2 hlk hrun hwg; have HQS := Lib.hid (blk_below HQZ.out hBS); have HMS := Lib.hid (XM.MapIs.below HMZ.out hBS); have HBS := Lib.hid (below_then HBZ.out HBZ.out.size hBS); clear hBS HSTY HQZ HMZ HBZ z0 z1 z2; have z0 : wS.cell? ⟨gq, 0, none⟩ = some (.int .i64 o.f0) := (blk_cell HQS.out 0).trans rfl; have hct := contains_calls wS An cn nodes (Kd.C_below HCN.out HBS.out) HLN.out.1 HLN.out.2 o.f0; have HCT := Lib.hid hct; clear hct; go_wp2_with fail
         with_reducible refine HCT.out.mono ?_
         rintro e wU ⟨rfl, hBU⟩; have HMZ := Lib.hid (XM.MapIs.below HMS.out hBU); have HBZ := Lib.hid (below_then HBS.out HBS.out.size hBU); clear hBU HCT HQS HMS HBS z0
         cases hin : decide (o.f0 ∈ nodes) with
         | false =>
          have HIN := Lib.hid hin; clear hin; go_wp2; go_ret
          exact ⟨by (rw [right_bad hi (bad_in HLI.out HK1.out (by decide) HIN.out)]; rfl), HBZ.out⟩
         | true =>
          have HIN := Lib.hid hin; clear hin; go_wp2; go_roundg (l.length - (i + 1))
          case measure => have := HN.out; omega
          case rel => exact ⟨i + 1, st + 1, (XM.aput gm o.f2 (got gm o.f2 + 1)), by rfl, by rfl, ⟨rfl⟩, ⟨hi⟩, ⟨ok_next HOK.out (ok1 HLI.out HND.out HPV.out HK1.out HOWN.out HSTL.out HIN.out)⟩, ⟨st_hit HST.out HTK.out HK1.out (by decide)⟩, ⟨HMZ.out⟩, ⟨cnt_hit HGC.out HTK.out HK1.out⟩, ⟨by have := HGL.out; have := XM.length_aput gm o.f2 (got gm o.f2 + 1); omega⟩, ⟨HBZ.out⟩⟩
      ·
       have HK1 := Lib.hid hk; have e1 : (o.f1 == 1) = false := by rw [hk]; rfl
       have e2 : (o.f1 == 2) = true := by rw [hk]; rfl
       clear hk
       cases hf : (o.f2 != -1) with
       | true =>
        have HF2 := Lib.hid hf; go_wp2; go_ret
        exact ⟨by (rw [right_bad hi (bad_from HLI.out HK1.out (by decide) HF2.out)]; rfl), HBZ.out⟩
       | false =>
        have HF2 := Lib.hid hf; have HQZ := HQ9; have HMZ := HM9; clear HQ9 HM9; have z0 : w9.cell? ⟨gq, 0, none⟩ = some (.int .i64 o.f0) := (blk_cell HQZ.out 0).trans rfl; have z1 : w9.cell? ⟨gq, 1, none⟩ = some (.int .i64 o.f1) := (blk_cell HQZ.out 1).trans rfl; have z2 : w9.cell? ⟨gq, 2, none⟩ = some (.int .i64 o.f2) := (blk_cell HQZ.out 2).trans rfl; have hst := stays_calls w9 o; rw [show (o.f1 != 3) = true by rw [HK1.out]; rfl] at hst; have HSTY := Lib.hid hst; clear hst; go_wp2_with fail
        with_reducible refine HSTY.out.mono ?_
        rintro e wS ⟨rfl, hBS⟩; clear hf e1 e2; have HQS := Lib.hid (blk_below HQZ.out hBS); have HMS := Lib.hid (XM.MapIs.below HMZ.out hBS); have HBS := Lib.hid (below_then HBZ.out HBZ.out.size hBS); clear hBS HSTY HQZ HMZ HBZ z0 z1 z2; have z0 : wS.cell? ⟨gq, 0, none⟩ = some (.int .i64 o.f0) := (blk_cell HQS.out 0).trans rfl; have hct := contains_calls wS An cn nodes (Kd.C_below HCN.out HBS.out) HLN.out.1 HLN.out.2 o.f0; have HCT := Lib.hid hct; clear hct; go_wp2_with fail
        with_reducible refine HCT.out.mono ?_
        rintro e wU ⟨rfl, hBU⟩; have HMZ := Lib.hid (XM.MapIs.below HMS.out hBU); have HBZ := Lib.hid (below_then HBS.out HBS.out.size hBU); clear hBU HCT HQS HMS HBS z0
        cases hin : decide (o.f0 ∈ nodes) with
        | false =>
         have HIN := Lib.hid hin; clear hin; go_wp2; go_ret
         exact ⟨by (rw [right_bad hi (bad_in HLI.out HK1.out (by decide) HIN.out)]; rfl), HBZ.out⟩
        | true =>
         have HIN := Lib.hid hin; clear hin; go_wp2; go_roundg (l.length - (i + 1))
         case measure => have := HN.out; omega
         case rel => exact ⟨i + 1, st + 1, gm, by rfl, by rfl, ⟨rfl⟩, ⟨hi⟩, ⟨ok_next HOK.out (ok2 HLI.out HND.out HPV.out HK1.out HF2.out HIN.out)⟩, ⟨st_hit HST.out HTK.out HK1.out (by decide)⟩, ⟨HMZ.out⟩, ⟨cnt_miss HGC.out HTK.out HK1.out⟩, ⟨by have := HGL.out; omega⟩, ⟨HBZ.out⟩⟩
      ·
       have HK1 := Lib.hid hk; have e1 : (o.f1 == 1) = false := by rw [hk]; rfl
       have e2 : (o.f1 == 2) = false := by rw [hk]; rfl
       have e3 : (o.f1 == 3) = true := by rw [hk]; rfl
       clear hk
       cases hf : (o.f2 != -1) with
       | true =>
        have HF2 := Lib.hid hf; go_wp2; go_ret
        exact ⟨by (rw [right_bad hi (bad_from HLI.out HK1.out (by decide) HF2.out)]; rfl), HBZ.out⟩
       | false =>
        have HF2 := Lib.hid hf; have HQZ := HQ9; have HMZ := HM9; clear HQ9 HM9; have z0 : w9.cell? ⟨gq, 0, none⟩ = some (.int .i64 o.f0) := (blk_cell HQZ.out 0).trans rfl; have z1 : w9.cell? ⟨gq, 1, none⟩ = some (.int .i64 o.f1) := (blk_cell HQZ.out 1).trans rfl; have z2 : w9.cell? ⟨gq, 2, none⟩ = some (.int .i64 o.f2) := (blk_cell HQZ.out 2).trans rfl; have hst := stays_calls w9 o; rw [show (o.f1 != 3) = false by rw [HK1.out]; rfl] at hst; have HSTY := Lib.hid hst; clear hst; go_wp2_with fail
        with_reducible refine HSTY.out.mono ?_
        rintro e wS ⟨rfl, hBS⟩; clear hf e1 e2 e3; have HQS := Lib.hid (blk_below HQZ.out hBS); have HMS := Lib.hid (XM.MapIs.below HMZ.out hBS); have HBS := Lib.hid (below_then HBZ.out HBZ.out.size hBS); clear hBS HSTY HQZ HMZ HBZ z0 z1 z2; have HMZ := HMS; have HBZ := HBS; clear HQS HMS HBS; go_wp2; go_roundg (l.length - (i + 1))
        case measure => have := HN.out; omega
        case rel => exact ⟨i + 1, st, gm, by rfl, by rfl, ⟨rfl⟩, ⟨hi⟩, ⟨ok_next HOK.out (ok3 HLI.out HND.out HPV.out HK1.out HF2.out)⟩, ⟨st_miss HST.out HTK.out HK1.out⟩, ⟨HMZ.out⟩, ⟨cnt_miss HGC.out HTK.out HK1.out⟩, ⟨by have := HGL.out; omega⟩, ⟨HBZ.out⟩⟩
      ·
       have e1 : (o.f1 == 1) = false := by rw [beq_eq_false_iff_ne]; exact hk1
       have e2 : (o.f1 == 2) = false := by rw [beq_eq_false_iff_ne]; exact hk2
       have e3 : (o.f1 == 3) = false := by rw [beq_eq_false_iff_ne]; exact hk3
       have HKX := Lib.hid (And.intro hk1 (And.intro hk2 hk3)); clear hk1 hk2 hk3; go_wp2; go_ret; exact ⟨by (rw [right_bad hi (bad_kind HLI.out HKX.out)]; rfl), HBZ.out⟩
  ·
   have hge : ¬ (i : Int) < (l.length : Int) := by omega
   have hie : i = l.length := by have := HI.out; omega
   have hgc := HGC.out; have hst := HST.out; rw [hie, List.take_length] at hgc hst
   have HALL := Lib.hid (show (List.range l.length).all (okAt nodes l) = true by
    rw [List.all_eq_true]; intro j hj
    exact HOK.out j (by rw [hie]; exact List.mem_range.1 hj))
   have HGA := Lib.hid hgc; have HSA := Lib.hid hst; have HMA := Lib.hid HM.out; have HBA := Lib.hid HB.out; clear hgc hst HGC HST HOK HM HB HGL HN HI hie; go_wp2_with fail
   go_loopg [79] l.length (fun gn v79 wr' => ∃ (j : Nat), v79 = .int .i64 (j : Int) ∧ Aside0 (gn = l.length - j) ∧ Aside0 (j ≤ l.length) ∧ Aside0 (∀ o ∈ l.take j, (o.f1 != 3 || cnt l o.f0 == 1) = true) ∧ Aside0 (Below wr.heap.size wr wr'))
   case atStart => exact ⟨0, rfl, ⟨rfl⟩, ⟨Nat.zero_le _⟩, ⟨by simp⟩, ⟨Below.refl _ _⟩⟩
   case round =>
    obtain ⟨j, rfl, HN, HJ, HO, HB⟩ := hrel
    by_cases hj : j < l.length
    ·
     have hj0 : (j : Int) < (l.length : Int) := by omega
     have hwr : wrap64 ((j : Int) + 1) = (j : Int) + 1 := by unfold wrap64; omega
     have hbw := below_then HBA.out HBA.out.size HB.out; obtain ⟨ad, ead, q0, q1, q2⟩ := at_T57 (Kd.C_below HC.out hbw) (j : Int) (by omega) hj0; cases ead; have hto : ((j : Int)).toNat = j := Int.toNat_natCast j; rw [hto] at q0 q1 q2
     obtain ⟨o, ho⟩ : ∃ o, rd_T57 l (j : Int) = o := ⟨_, rfl⟩
     rw [ho] at q0 q1 q2; have hLj : l[j] = o := by rw [← ho, rd38 hj]
     have HMEM := Lib.hid (show o ∈ l by rw [← hLj]; exact List.getElem_mem hj); have HTK := Lib.hid (show l.take (j + 1) = l.take j ++ [o] by rw [← hLj]; exact List.take_succ_eq_append_getElem hj); have HWF := Lib.hid (HWA.out o HMEM.out); clear ho hLj hto hbw; have hK : ∀ W : World, Calls Tryz.prog 77 #[.agg #[.int .i64 o.f0, .int .i64 o.f1, .int .i64 o.f2]] W fun e w' => e = .returned (.bool (o.f1 != 3)) ∧ Below W.heap.size W w' := fun W => stays_calls W o
     cases hs3 : (o.f1 != 3) with
     | true =>
      rw [hs3] at hK; have HK := Lib.hid hK; have HS3 := Lib.hid hs3; clear hK hs3; go_wp2_with fail
      with_reducible refine (HK.out _).mono ?_
      rintro e w5 ⟨rfl, hb5⟩; have HB5 := Lib.hid (below_then (below_then HB.out HB.out.size (below_alloc (Below.refl _ _) _)) (by have := HB.out.size; simp; omega) hb5); clear hb5 HK q0 q1 q2; go_wp2; go_roundg (l.length - (j + 1))
      case measure => have := HN.out; omega
      case rel => exact ⟨j + 1, by rfl, ⟨rfl⟩, ⟨hj⟩, ⟨fun p hp => by
       rw [HTK.out] at hp; rcases List.mem_append.1 hp with hp | hp
       ·
        exact HO.out p hp
       ·
        rw [List.mem_singleton.1 hp, HS3.out]; rfl⟩, ⟨HB5.out⟩⟩
     | false =>
      rw [hs3] at hK; have HK := Lib.hid hK; have HS3 := Lib.hid hs3; clear hK hs3; have HBQ := Lib.hid (below_then HB.out HB.out.size (below_alloc (Below.refl wr.heap.size wr) (.cells #[.int .i64 o.f0, .int .i64 o.f1, .int .i64 o.f2] 57))); have HQQ := Lib.hid (blk_new wr (.cells #[.int .i64 o.f0, .int .i64 o.f1, .int .i64 o.f2] 57)); go_wp2_with fail
      with_reducible refine (HK.out _).mono ?_
      rintro e w5 ⟨rfl, hb5⟩; have hb5' := below_then HBQ.out HBQ.out.size hb5; have HB5 := Lib.hid hb5'; have hm5 := XM.MapIs.below HMA.out hb5'; have hlk := look_calls hm5 o.f0 HWF.out.2; have z0 : w5.cell? ⟨wr.heap.size, 0, none⟩ = some (.int .i64 o.f0) := (blk_cell (blk_below HQQ.out hb5) 0).trans rfl; clear hb5 HK q0 q1 q2 hb5' hm5
      cases hc1 : (got gm o.f0 != 1) with
      | true =>
       have HC1 := Lib.hid (show (cnt l o.f0 == 1) = false by
        have h1 := HGA.out o.f0; have h2 : got gm o.f0 ≠ 1 := by simpa using hc1
        have h3 : cnt l o.f0 ≠ 1 := fun e => h2 (by rw [h1, e]; rfl)
        simpa using h3)
       go_wp2; go_ret; refine ⟨?_, below_then HBA.out HBA.out.size HB5.out⟩
       have : l.all (fun o => o.f1 != 3 || cnt l o.f0 == 1) = false := by
        rw [← Bool.not_eq_true, List.all_eq_true]; intro hall; have h5 := hall o HMEM.out; rw [HS3.out, HC1.out] at h5; cases h5
       unfold rightP; rw [this, Bool.false_and, Bool.and_false]
       rfl
      | false =>
       have HC1 := Lib.hid (show (cnt l o.f0 == 1) = true by
        have h1 := HGA.out o.f0; have h2 : got gm o.f0 = 1 := by simpa using hc1
        rw [h2] at h1; have h3 : cnt l o.f0 = 1 := by omega
        simpa using h3)
       go_wp2; go_roundg (l.length - (j + 1))
       case measure => have := HN.out; omega
       case rel => exact ⟨j + 1, by rfl, ⟨rfl⟩, ⟨hj⟩, ⟨fun p hp => by
        rw [HTK.out] at hp; rcases List.mem_append.1 hp with hp | hp
        ·
         exact HO.out p hp
        ·
         rw [List.mem_singleton.1 hp, HC1.out, Bool.or_true]⟩, ⟨HB5.out⟩⟩
    ·
     have hge : ¬ (j : Int) < (l.length : Int) := by omega
     have hje : j = l.length := by have := HJ.out; omega
     have ho := HO.out; rw [hje, List.take_length] at ho; have HAL2 := Lib.hid (show l.all (fun o => o.f1 != 3 || cnt l o.f0 == 1) = true by rw [List.all_eq_true]; exact ho); clear ho HO hje; go_wp2; go_ret; refine ⟨?_, below_then HBA.out HBA.out.size HB.out⟩
     have e : (st == 3) = ((l.filter (fun o => o.f1 != 3)).length == 3) := by
      rw [HSA.out]
      by_cases h : (l.filter (fun o => o.f1 != 3)).length = 3
      ·
       rw [h]; rfl
      ·
       rw [show ((l.filter (fun o => o.f1 != 3)).length == 3) = false by simpa using h]; rw [beq_eq_false_iff_ne]; omega
     unfold rightP; rw [HALL.out, HAL2.out, Bool.true_and, Bool.true_and, e]; rfl
end Pl
end Go.Proofs.YtiinmagnpkfbbaaGreat
