/- The boots: the points that are held: the map of rows; merge.Cut; a bound function value's call. -/
import Derived.Test.YtiinmagnpkfbbaaBootF
import Derived.Test.YtiinmagnpkfbbaaHeavy18
namespace Go.Proofs.Ytiinmagnpkfbbaa
set_option linter.unusedVariables false
set_option linter.unusedSimpArgs false
open Go.RowKit Go.Proofs.YtiinmagnpkfbbaaW.PrintWords Go.Proofs.YtiinmagnpkfbbaaW.PrintLast Go.Proofs.YtiinmagnpkfbbaaW.PrintMore Go.Proofs.Ytiinmagnpkfbbaa.QT
namespace Hm
abbrev Pt := S97
/-! #### merge.Cut -/
def cut (l : List Pt) (a b : Int) : List Pt := l.filter (fun p => decide (a ≤ p.f0) && decide (p.f0 < b))
theorem cut_len (l : List Pt) (a b : Int) : (cut l a b).length ≤ l.length := List.length_filter_le _ _
theorem rd_mid' (P S : List Pt) (x : Pt) (i : Int) (hi : i = P.length) : rd_T97 (P ++ x :: S) i = x := by subst hi; unfold rd_T97; simp
theorem w1 (n : Nat) (h : n ≤ 1099511627776) : wrap64 ((n : Int) + 1) = ((n + 1 : Nat) : Int) := by unfold wrap64; omega
theorem cut_ev0 (a b : Int) : ∀ (R P acc l : List Pt), l = P ++ R → acc.length + R.length ≤ l.length → l.length ≤ 1099511627776 →
    Ev (fun k => merge_Cut.l0 k acc l l.length (P.length : Int) a b) (acc ++ cut R a b)
  | [], P, acc, l, hl, ha, hn => by
    simp only [List.append_nil] at hl
    have hln : l.length = P.length := by rw [hl]
    refine Ev.step (f := fun _ => some acc) (fun k => ?_) (by simpa [cut] using Ev.now acc)
    rw [merge_Cut.l0, if_neg (by omega)]
  | x :: R, P, acc, l, hl, ha, hn => by
    have e : rd_T97 l (P.length : Int) = x := by rw [hl]; exact rd_mid' P R x _ rfl
    have hln : l.length = P.length + R.length + 1 := by rw [hl]; simp; omega
    simp only [List.length_cons] at ha
    have step : ∀ k, merge_Cut.l0 (k + 1) acc l l.length (P.length : Int) a b = if a ≤ x.f0 then (if x.f0 < b then merge_Cut.l0 k (acc ++ [x]) l l.length ((P.length + 1 : Nat) : Int) a b else merge_Cut.l0 k acc l l.length ((P.length + 1 : Nat) : Int) a b) else merge_Cut.l0 k acc l l.length ((P.length + 1 : Nat) : Int) a b := by
      intro k
      have hq : acc.length < 5864062014805 := by omega
      rw [merge_Cut.l0, if_pos (by omega), if_pos (by omega), if_pos (by omega), e, w1 _ (by omega)]
      simp only [hq, if_true]
    by_cases h1 : a ≤ x.f0 ∧ x.f0 < b
    · have ih := cut_ev0 a b R (P ++ [x]) (acc ++ [x]) l (by rw [hl]; simp) (by simp; omega) hn
      rw [List.length_append, List.length_singleton] at ih
      have ec : cut (x :: R) a b = x :: cut R a b := by unfold cut; rw [List.filter_cons, if_pos (by simp [h1])]
      rw [ec, show acc ++ x :: cut R a b = acc ++ [x] ++ cut R a b from by simp]
      exact Ev.step (fun k => by rw [step k, if_pos h1.1, if_pos h1.2]) ih
    · have ih := cut_ev0 a b R (P ++ [x]) acc l (by rw [hl]; simp) (by omega) hn
      rw [List.length_append, List.length_singleton] at ih
      have ec : cut (x :: R) a b = cut R a b := by unfold cut; rw [List.filter_cons, if_neg (by simpa using h1)]
      rw [ec]
      refine Ev.step (fun k => ?_) ih
      rw [step k]
      by_cases h2 : a ≤ x.f0
      · rw [if_pos h2, if_neg (fun h3 => h1 ⟨h2, h3⟩)]
      · rw [if_neg h2]
theorem cut_calls (w : World) (A : Option Addr) (c : Nat) (l : List Pt) (a b : Int) (hC : Kd.C k97 w A l.length l) (hc : l.length ≤ c) (hl : l.length ≤ 1000000) :
    Calls Try.prog 42 #[.slice A l.length c, .agg #[.int .i64 a, .int .i64 b]] w fun e w' => ∃ v : Value, e = .returned v ∧ Kd.R k97 97 w' w.heap.size (fun _ => True) v (cut l a b) ∧ Below w.heap.size w w' := by
  obtain ⟨k, hk⟩ := (cut_ev0 a b l [] [] l rfl (by simp) (by omega)).rounds
  exact merge_Cut.calls k A c l a b _ w hC hc hk
/-! #### the call of a function value that holds what it captured -/
/-! #### the map of rows -/
theorem R97 {w : World} {base : Nat} {ok ok' : Nat → Prop} {v : Value} {xs : List Pt} (h : Kd.R k97 97 w base ok v xs) (h' : ∀ k, v.ownBlock = some k → ok' k) : Kd.R k97 97 w base ok' v xs :=
  ⟨h', h.2.imp_ (fun p c hp => by obtain rfl := k97_openM hp; exact k97_mkM _ _ _ p)⟩
theorem R97_cells {w : World} {base : Nat} {ok : Nat → Prop} {v : Value} {xs : List Pt} (h : Kd.R k97 97 w base ok v xs) : ∀ k, v.ownBlock = some k → ∃ cur, w.heap[k]? = some (.cells cur 97 (0, 0)) := by
  intro k hk
  obtain ⟨inner, ho⟩ := Kd.R_own h
  rcases ho with ⟨_, ⟨rfl, _⟩ | ⟨gb, cap, cur, rfl, _, hh, _⟩⟩
  · cases hk
  · have : gb = k := by simpa [Value.ownBlock] using hk
    subst this
    exact ⟨cur, hh⟩
theorem R97_grown {w w' : World} {base : Nat} {v : Value} {xs : List Pt} {row : Option Nat} (h : Kd.R k97 97 w base (fun _ => True) v xs) (hg : w.grownBy w' row) (hne : ∀ k, v.ownBlock = some k → some k ≠ row) : Kd.R k97 97 w' base (fun _ => True) v xs :=
  R97 (Kd.R_grown (R97 h (ok' := fun k => some k ≠ row) hne) hg (fun _ hk => hk)) (fun _ _ => trivial)
abbrev Hp := List (ByteArray × (Value × List Pt))
def evH (v : Value × List Pt) : Value := v.1
def pmOf (hm : Hp) : Bt.Pm := hm.map (fun e => (e.1, e.2.1))
def HMap (w : World) (b : Nat) (hm : Hp) : Prop := XM.MapIs Try.prog 9 Bt.ekS evH w b hm
theorem HMap.pm {w : World} {b : Nat} {hm : Hp} (h : HMap w b hm) : Bt.PM w b (pmOf hm) := by
  obtain ⟨es, clock, h1, h2, h3, h4, h5⟩ := h
  refine ⟨es, clock, h1, h2, h3, ?_, fun p hp => ?_⟩
  · rw [h4]
    unfold pmOf
    rw [List.map_map]
    rfl
  · obtain ⟨e, he, rfl⟩ := List.mem_map.1 hp
    exact h5 e he
theorem HMap.of_nil {w : World} {b : Nat} (h : Bt.PM w b []) : HMap w b [] := by
  obtain ⟨es, clock, h1, h2, h3, h4, h5⟩ := h
  exact ⟨es, clock, h1, h2, h3, h4, fun p hp => by cases hp⟩
structure HM (w : World) (gp base T : Nat) (hm : Hp) : Prop where
  map : HMap w gp hm
  rows : ∀ e ∈ hm, Kd.R k97 97 w base (fun _ => True) e.2.1 e.2.2
  apart : ∀ e ∈ hm, ∀ e' ∈ hm, e.1 ≠ e'.1 → ∀ k, e.2.1.ownBlock = some k → e'.2.1.ownBlock ≠ some k
  len : ∀ e ∈ hm, e.2.2.length ≤ T
  cnt : hm.length ≤ T
theorem HM.below {w w' : World} {gp base T : Nat} {hm : Hp} (h : HM w gp base T hm) (hb : Below w.heap.size w w') : HM w' gp base T hm :=
  ⟨XM.MapIs.below h.map hb, fun e he => Kd.R_below (h.rows e he) hb, h.apart, h.len, h.cnt⟩
theorem HM.nil {w : World} {gp base : Nat} (h : Bt.PM w gp []) : HM w gp base 0 [] := ⟨HMap.of_nil h, by simp, by simp, by simp, Nat.le_refl _⟩
theorem HM.more {w : World} {gp base T T' : Nat} {hm : Hp} (h : HM w gp base T hm) (hT : T ≤ T') : HM w gp base T' hm := ⟨h.map, h.rows, h.apart, fun e he => Nat.le_trans (h.len e he) hT, Nat.le_trans h.cnt hT⟩
/-- What the map has at a name: a nil slice, if nothing. -/
def cur (hm : Hp) (i : ByteArray) : Value × List Pt := (XM.aget hm i).getD (.slice none 0 0, [])
theorem HM.cur_R {w : World} {gp base T : Nat} {hm : Hp} (h : HM w gp base T hm) (i : ByteArray) : Kd.R k97 97 w base (fun _ => True) (cur hm i).1 (cur hm i).2 := by
  unfold cur
  cases hg : XM.aget hm i with
  | none => exact Kd.R_nil _ _ _ _ _
  | some v => exact h.rows _ (XM.aget_some hg)
theorem HM.cur_len {w : World} {gp base T : Nat} {hm : Hp} (h : HM w gp base T hm) (i : ByteArray) : (cur hm i).2.length ≤ T := by
  unfold cur
  cases hg : XM.aget hm i with
  | none => exact Nat.zero_le _
  | some v => exact h.len _ (XM.aget_some hg)
theorem zSl : ∀ w, (zeroValue 69).run Try.prog w = .ok (.slice none 0 0) w := fun w => by kernel_rfl
theorem HMap.look {w : World} {gp : Nat} {hm : Hp} (h : HMap w gp hm) (i : ByteArray) (hi : i.size ≤ maxLen) : (Instr.lookup 58 (.map (some gp)) (.string i) false).run Try.prog w = .ok (cur hm i).1 w := by
  unfold cur
  cases hg : XM.aget hm i with
  | none => exact XM.MapIs.look_none h Bt.encS Try.underlying58 (zSl w) (Bt.isKS i hi) false hg
  | some v => exact XM.MapIs.look_some h Bt.encS Try.underlying58 (Bt.isKS i hi) false hg
/-- What a name's points become. -/
def put (hm : Hp) (i : ByteArray) (v : Value) (ps : List Pt) : Hp := XM.aput hm i (v, (cur hm i).2 ++ ps)
theorem aput_self {β : Type} (i : ByteArray) (v : β) : ∀ m : List (ByteArray × β), (i, v) ∈ XM.aput m i v
  | [] => by simp [XM.aput]
  | y :: r => by
    by_cases h : y.1 = i
    · simp [XM.aput, h]
    · simp only [XM.aput, if_neg h]
      exact List.mem_cons_of_mem _ (aput_self i v r)
theorem HM.step {w w1 : World} {gp base T n : Nat} {hm : Hp} (h : HM w gp base T hm) (i : ByteArray) (hk : i.size ≤ maxLen) {v1 : Value} {ps : List Pt}
    (hR : Kd.R k97 97 w1 base (fun _ => True) v1 ((cur hm i).2 ++ ps)) (hg : w.grownBy w1 (cur hm i).1.ownBlock) (hat : v1.ownBlock = (cur hm i).1.ownBlock ∨ ∃ b, v1.ownBlock = some b ∧ w.heap.size ≤ b) (hT : T ≤ 1000000) (hn : ps.length ≤ n) (hn1 : 1 ≤ n) :
    ∃ X, (Instr.mapUpdate 58 (.map (some gp)) (.string i) v1).run Try.prog w1 = .ok () X ∧ HM X gp base (T + n) (put hm i v1 ps) ∧ w1.grownBy X (some gp) ∧ X.heap.size = w1.heap.size := by
  have hcR := h.cur_R i
  have hcl := h.cur_len i
  have hmb : some gp ≠ (cur hm i).1.ownBlock := by
    intro e
    obtain ⟨c, hc⟩ := R97_cells hcR gp e.symm
    exact XM.MapIs.noCells h.map hc rfl
  have hm1 : HMap w1 gp hm := XM.MapIs.kept h.map hg hmb
  obtain ⟨X, hrun, hmap, hgX, hsz⟩ := XM.MapIs.store hm1 Bt.encS Try.underlying58 (Bt.isKS i hk) (by have := h.cnt; unfold maxLen; omega) (v1, (cur hm i).2 ++ ps)
  have hnd := hmap.nodup
  have key : ∀ e ∈ put hm i v1 ps, (e.1 = i ∧ e = (i, (v1, (cur hm i).2 ++ ps))) ∨ (e.1 ≠ i ∧ e ∈ hm) := by
    intro e he
    unfold put at he
    by_cases hq : e.1 = i
    · left
      refine ⟨hq, ?_⟩
      have h1 := XM.aget_mem hnd he
      have h2 : XM.aget (XM.aput hm i (v1, (cur hm i).2 ++ ps)) i = some (v1, (cur hm i).2 ++ ps) := by
        have hself := aput_self i (v1, (cur hm i).2 ++ ps) hm
        exact XM.aget_mem hnd hself
      rw [hq, h2] at h1
      exact Prod.ext hq (Option.some.inj h1).symm
    · right
      refine ⟨hq, ?_⟩
      rcases XM.mem_aput he with h1 | h1
      · exact h1
      · exact absurd (by rw [h1]) hq
  have own1 : ∀ e ∈ hm, e.1 ≠ i → ∀ k, e.2.1.ownBlock = some k → some k ≠ (cur hm i).1.ownBlock ∧ v1.ownBlock ≠ some k := by
    intro e he hq k hk2
    have hne1 : some k ≠ (cur hm i).1.ownBlock := by
      unfold cur
      cases hg2 : XM.aget hm i with
      | none => intro e2; cases e2
      | some v => exact fun e2 => h.apart e he (i, v) (XM.aget_some hg2) hq k hk2 e2.symm
    refine ⟨hne1, ?_⟩
    rcases hat with h1 | ⟨b, h1, h2⟩
    · rw [h1]; exact fun e2 => hne1 e2.symm
    · rw [h1]
      intro e2
      have e3 : b = k := by cases e2; rfl
      have := Kd.R_lt (h.rows e he) k hk2
      omega
  have hX : ∀ {v : Value} {xs : List Pt}, Kd.R k97 97 w1 base (fun _ => True) v xs → Kd.R k97 97 X base (fun _ => True) v xs := fun hr => R97_grown hr hgX (fun k hk2 e => by
    cases e
    obtain ⟨c, hc⟩ := R97_cells hr gp hk2
    exact XM.MapIs.noCells hm1 hc rfl)
  refine ⟨X, hrun, ⟨hmap, fun e he => ?_, fun e he e' he' hq k hk2 => ?_, fun e he => ?_, ?_⟩, hgX, hsz⟩
  · rcases key e he with ⟨_, rfl⟩ | ⟨h1, h2⟩
    · exact hX hR
    · exact hX (R97_grown (h.rows e h2) hg (fun k hk2 => (own1 e h2 h1 k hk2).1))
  · rcases key e he with ⟨h1, rfl⟩ | ⟨h1, h2⟩
    · rcases key e' he' with ⟨h3, _⟩ | ⟨h3, h4⟩
      · exact absurd h3.symm hq
      · intro e2
        exact (own1 e' h4 h3 k e2).2 hk2
    · rcases key e' he' with ⟨_, rfl⟩ | ⟨h3, h4⟩
      · exact (own1 e h2 h1 k hk2).2
      · exact h.apart e h2 e' h4 hq k hk2
  · rcases key e he with ⟨_, rfl⟩ | ⟨h1, h2⟩
    · show ((cur hm i).2 ++ ps).length ≤ T + n
      rw [List.length_append]
      omega
    · have := h.len e h2
      omega
  · have h1 := XM.length_aput hm i (v1, (cur hm i).2 ++ ps)
    have h2 := h.cnt
    unfold put
    omega
/-- What is held, told by name. -/
abbrev Cn := List (ByteArray × List Pt)
def cont (hm : Hp) : Cn := hm.map (fun e => (e.1, e.2.2))
theorem cont_aput (i : ByteArray) (x : Value × List Pt) : ∀ hm : Hp, cont (XM.aput hm i x) = XM.aput (cont hm) i x.2
  | [] => rfl
  | y :: r => by
    have ih := cont_aput i x r
    unfold cont at ih ⊢
    show List.map _ (XM.aput (y :: r) i x) = XM.aput ((y.1, y.2.2) :: List.map (fun e => (e.1, e.2.2)) r) i x.2
    simp only [XM.aput]
    by_cases h : y.1 = i
    · rw [if_pos h, if_pos h]; rfl
    · rw [if_neg h, if_neg h, ← ih]; rfl
theorem cont_cur (i : ByteArray) : ∀ hm : Hp, (cur hm i).2 = (XM.aget (cont hm) i).getD []
  | [] => rfl
  | y :: r => by
    have ih := cont_cur i r
    unfold cur cont at ih ⊢
    rw [List.map_cons]
    unfold XM.aget
    by_cases h : y.1 = i
    · rw [if_pos h, if_pos h]; rfl
    · rw [if_neg h, if_neg h]; exact ih
/-- A series is held: what of it the boot needs. -/
def add1 (n : Rg.R) (c : Cn) (s : Hv.Ser) : Cn := if 0 < (cut s.f1 n.f0 n.f1).length then XM.aput c s.f0 ((XM.aget c s.f0).getD [] ++ cut s.f1 n.f0 n.f1) else c
theorem cont_put (hm : Hp) (n : Rg.R) (s : Hv.Ser) (v : Value) (h : 0 < (cut s.f1 n.f0 n.f1).length) : cont (put hm s.f0 v (cut s.f1 n.f0 n.f1)) = add1 n (cont hm) s := by
  unfold put add1
  rw [cont_aput, if_pos h, cont_cur]
/-! #### what stays: all but the map and rows of points -/
structure Kp (w w' : World) (gp : Nat) : Prop where
  size : w.heap.size ≤ w'.heap.size
  block : ∀ k, k < w.heap.size → k ≠ gp → (∀ cur, w.heap[k]? ≠ some (.cells cur 97 (0, 0))) → w'.heap[k]? = w.heap[k]?
theorem Kp.refl (w : World) (gp : Nat) : Kp w w gp := ⟨Nat.le_refl _, fun _ _ _ _ => rfl⟩
theorem Kp.then_ {w w' w'' : World} {gp : Nat} (h : Kp w w' gp) (h' : Kp w' w'' gp) : Kp w w'' gp :=
  ⟨Nat.le_trans h.size h'.size, fun k hk hne hc => (h'.block k (Nat.lt_of_lt_of_le hk h.size) hne (fun cur => by rw [h.block k hk hne hc]; exact hc cur)).trans (h.block k hk hne hc)⟩
theorem Kp.of_below {w w' : World} {gp : Nat} (h : Below w.heap.size w w') : Kp w w' gp := ⟨h.size, fun k hk _ _ => h.block k hk⟩
theorem Kp.of_grown {w w' : World} {gp : Nat} (h : w.grownBy w' (some gp)) : Kp w w' gp := ⟨h.size, fun k hk hne _ => h.block k hk (fun e => hne (by cases e; rfl))⟩
theorem Kp.of_row {w w' : World} {gp base : Nat} {v : Value} {xs : List Pt} (hR : Kd.R k97 97 w base (fun _ => True) v xs) (h : w.grownBy w' v.ownBlock) : Kp w w' gp :=
  ⟨h.size, fun k hk _ hc => h.block k hk (fun e => by obtain ⟨c, hh⟩ := R97_cells hR k e.symm; exact hc c hh)⟩
theorem Kp.row {α : Type} {d : Kd α} {e : Nat} {w w' : World} {gp base : Nat} {v : Value} {xs : List α} (h : Kp w w' gp) (hR : d.R e w base (fun _ => True) v xs) (hE : ∀ q ∈ e :: d.E, q ≠ 97) (hgp : ∀ c q, w.heap[gp]? ≠ some (.cells c q (0, 0))) : d.R e w' base (fun _ => True) v xs :=
  Kd.R_mono (Kd.R_move (Kd.R_bound hR) (fun k hk => by
    obtain ⟨_, _, hlt, q, hq, cells, hc⟩ := hk
    refine h.block k hlt (fun e => hgp cells q (by rw [← e]; exact hc)) (fun cur e => ?_)
    rw [hc] at e
    exact hE q hq (by cases e; rfl))) (fun _ _ => trivial)
theorem Kp.blk {w w' : World} {gp k : Nat} (h : Kp w w' gp) {cs : Array Value} {t : TypeId} {fr : Nat × Nat} (hb : w.heap[k]? = some (.cells cs t fr)) (hne : k ≠ gp) (ht : t ≠ 97) : w'.heap[k]? = some (.cells cs t fr) :=
  (h.block k (blk_lt hb) hne (fun cur e => by rw [hb] at e; exact ht (by cases e; rfl))).trans hb
theorem Is_kp {w w' : World} {B g gm gp : Nat} {vO vL : Value} {b : Bt.Bo} (h : Bt.Is w B g gm gp vO vL b) (hk : Kp w w' gp) {pm : Bt.Pm} (hm : Bt.PM w' gp pm) : Bt.Is w' B g gm gp vO vL { b with pts := pm } := by
  have hgp : ∀ c q, w.heap[gp]? ≠ some (.cells c q (0, 0)) := fun c q e => h.pts.noCells e rfl
  refine ⟨hk.blk h.blk (fun e => h.pts.noCells h.blk e.symm) (by decide), hk.row h.oth (by decide) hgp, hk.row h.left (by decide) hgp, ?_, hm, h.bg, h.bm, h.bp, h.ne⟩
  refine XM.MapIs.move h.gv (hk.block gm h.gv.lt h.ne (fun cur e => ?_))
  obtain ⟨es, clock, h1, _⟩ := h.gv
  rw [h1] at e
  cases e
end Hm
end Go.Proofs.Ytiinmagnpkfbbaa
