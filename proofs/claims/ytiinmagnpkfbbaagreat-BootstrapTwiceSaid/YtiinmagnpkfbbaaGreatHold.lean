/- The boots: hold, over a list of series. -/
import Derived.Test.YtiinmagnpkfbbaaGreatHeavy18
import Derived.Deep.Light
section
namespace Go.Proofs.YtiinmagnpkfbbaaGreat
set_option linter.unusedVariables false
set_option linter.unusedSimpArgs false
open Go.RowKit Go.Proofs.YtiinmagnpkfbbaaGreatW.PrintWords Go.Proofs.YtiinmagnpkfbbaaGreatW.PrintLast Go.Proofs.YtiinmagnpkfbbaaGreatW.PrintMore Go.Proofs.YtiinmagnpkfbbaaGreat.QT
namespace Hm
abbrev Pt := S99
def cut (l : List Pt) (a b : Int) : List Pt := l.filter (fun p => decide (a ≤ p.f0) && decide (p.f0 < b))
theorem cut_len (l : List Pt) (a b : Int) : (cut l a b).length ≤ l.length := List.length_filter_le _ _
theorem rd_mid' (P S : List Pt) (x : Pt) (i : Int) (hi : i = P.length) : rd_T99 (P ++ x :: S) i = x := by subst hi; unfold rd_T99; simp
theorem w1 (n : Nat) (h : n ≤ 1099511627776) : wrap64 ((n : Int) + 1) = ((n + 1 : Nat) : Int) := by unfold wrap64; omega
theorem cut_ev0 (a b : Int) : ∀ (R P acc l : List Pt), l = P ++ R → acc.length + R.length ≤ l.length → l.length ≤ 1099511627776 →
  Ev (fun k => merge_Cut.l0 k acc l l.length (P.length : Int) a b) (acc ++ cut R a b)
 | [], P, acc, l, hl, ha, hn => by
  simp only [List.append_nil] at hl; have hln : l.length = P.length := by rw [hl]
  refine Ev.step (f := fun _ => some acc) (fun k => ?_) (by simpa [cut] using Ev.now acc)
  rw [merge_Cut.l0, if_neg (by omega)]
 | x :: R, P, acc, l, hl, ha, hn => by
  have e : rd_T99 l (P.length : Int) = x := by rw [hl]; exact rd_mid' P R x _ rfl
  have hln : l.length = P.length + R.length + 1 := by rw [hl]; simp; omega
  simp only [List.length_cons] at ha
  have step : ∀ k, merge_Cut.l0 (k + 1) acc l l.length (P.length : Int) a b = if a ≤ x.f0 then (if x.f0 < b then merge_Cut.l0 k (acc ++ [x]) l l.length ((P.length + 1 : Nat) : Int) a b else merge_Cut.l0 k acc l l.length ((P.length + 1 : Nat) : Int) a b) else merge_Cut.l0 k acc l l.length ((P.length + 1 : Nat) : Int) a b := by
   intro k; have hq : acc.length < 5864062014805 := by omega
   rw [merge_Cut.l0, if_pos (by omega), if_pos (by omega), if_pos (by omega), e, w1 _ (by omega)]; simp only [hq, if_true]
  by_cases h1 : a ≤ x.f0 ∧ x.f0 < b
  ·
   have ih := cut_ev0 a b R (P ++ [x]) (acc ++ [x]) l (by rw [hl]; simp) (by simp; omega) hn; rw [List.length_append, List.length_singleton] at ih; have ec : cut (x :: R) a b = x :: cut R a b := by unfold cut; rw [List.filter_cons, if_pos (by simp [h1])]
   rw [ec, show acc ++ x :: cut R a b = acc ++ [x] ++ cut R a b from by simp]; exact Ev.step (fun k => by rw [step k, if_pos h1.1, if_pos h1.2]) ih
  ·
   have ih := cut_ev0 a b R (P ++ [x]) acc l (by rw [hl]; simp) (by omega) hn; rw [List.length_append, List.length_singleton] at ih; have ec : cut (x :: R) a b = cut R a b := by unfold cut; rw [List.filter_cons, if_neg (by simpa using h1)]
   rw [ec]; refine Ev.step (fun k => ?_) ih; rw [step k]
   by_cases h2 : a ≤ x.f0
   ·
    rw [if_pos h2, if_neg (fun h3 => h1 ⟨h2, h3⟩)]
   ·
    rw [if_neg h2]
theorem cut_calls (w : World) (A : Option Addr) (c : Nat) (l : List Pt) (a b : Int) (hC : Kd.C k99 w A l.length l) (hc : l.length ≤ c) (hl : l.length ≤ 1000000) :
  Calls Tryz.prog 61 #[.slice A l.length c, .agg #[.int .i64 a, .int .i64 b]] w fun e w' => ∃ v : Value, e = .returned v ∧ Kd.R k99 99 w' w.heap.size (fun _ => True) v (cut l a b) ∧ Below w.heap.size w w' := by
 obtain ⟨k, hk⟩ := (cut_ev0 a b l [] [] l rfl (by simp) (by omega)).rounds; exact merge_Cut.calls k A c l a b _ w hC hc hk
theorem R97 {w : World} {base : Nat} {ok ok' : Nat → Prop} {v : Value} {xs : List Pt} (h : Kd.R k99 99 w base ok v xs) (h' : ∀ k, v.ownBlock = some k → ok' k) : Kd.R k99 99 w base ok' v xs :=
 ⟨h', h.2.imp_ (fun p c hp => by obtain rfl := k99_openM hp; exact k99_mkM _ _ _ p)⟩
theorem R97_cells {w : World} {base : Nat} {ok : Nat → Prop} {v : Value} {xs : List Pt} (h : Kd.R k99 99 w base ok v xs) : ∀ k, v.ownBlock = some k → ∃ cur, w.heap[k]? = some (.cells cur 99 (0, 0)) := by
 intro k hk; obtain ⟨inner, ho⟩ := Kd.R_own h
 rcases ho with ⟨_, ⟨rfl, _⟩ | ⟨gb, cap, cur, rfl, _, hh, _⟩⟩
 ·
  cases hk
 ·
  have : gb = k := by simpa [Value.ownBlock] using hk
  subst this; exact ⟨cur, hh⟩
theorem R97_grown {w w' : World} {base : Nat} {v : Value} {xs : List Pt} {row : Option Nat} (h : Kd.R k99 99 w base (fun _ => True) v xs) (hg : w.grownBy w' row) (hne : ∀ k, v.ownBlock = some k → some k ≠ row) : Kd.R k99 99 w' base (fun _ => True) v xs :=
 R97 (Kd.R_grown (R97 h (ok' := fun k => some k ≠ row) hne) hg (fun _ hk => hk)) (fun _ _ => trivial)
abbrev Hp := List (ByteArray × (Value × List Pt))
def evH (v : Value × List Pt) : Value := v.1
def pmOf (hm : Hp) : Bt.Pm := hm.map (fun e => (e.1, e.2.1))
def HMap (w : World) (b : Nat) (hm : Hp) : Prop := XM.MapIs Tryz.prog 9 Bt.ekS evH w b hm
theorem HMap.pm {w : World} {b : Nat} {hm : Hp} (h : HMap w b hm) : Bt.PM w b (pmOf hm) := by
 obtain ⟨es, clock, h1, h2, h3, h4, h5⟩ := h; refine ⟨es, clock, h1, h2, h3, ?_, fun p hp => ?_⟩
 ·
  rw [h4]; unfold pmOf; rw [List.map_map]; rfl
 ·
  obtain ⟨e, he, rfl⟩ := List.mem_map.1 hp; exact h5 e he
theorem HMap.of_nil {w : World} {b : Nat} (h : Bt.PM w b []) : HMap w b [] := by
 obtain ⟨es, clock, h1, h2, h3, h4, h5⟩ := h; exact ⟨es, clock, h1, h2, h3, h4, fun p hp => by cases hp⟩
structure HM (w : World) (gp base T : Nat) (hm : Hp) : Prop where
 map : HMap w gp hm
 rows : ∀ e ∈ hm, Kd.R k99 99 w base (fun _ => True) e.2.1 e.2.2
 apart : ∀ e ∈ hm, ∀ e' ∈ hm, e.1 ≠ e'.1 → ∀ k, e.2.1.ownBlock = some k → e'.2.1.ownBlock ≠ some k
 len : ∀ e ∈ hm, e.2.2.length ≤ T
 cnt : hm.length ≤ T
theorem HM.below {w w' : World} {gp base T : Nat} {hm : Hp} (h : HM w gp base T hm) (hb : Below w.heap.size w w') : HM w' gp base T hm :=
 ⟨XM.MapIs.below h.map hb, fun e he => Kd.R_below (h.rows e he) hb, h.apart, h.len, h.cnt⟩
theorem HM.nil {w : World} {gp base : Nat} (h : Bt.PM w gp []) : HM w gp base 0 [] := ⟨HMap.of_nil h, by simp, by simp, by simp, Nat.le_refl _⟩
theorem HM.more {w : World} {gp base T T' : Nat} {hm : Hp} (h : HM w gp base T hm) (hT : T ≤ T') : HM w gp base T' hm := ⟨h.map, h.rows, h.apart, fun e he => Nat.le_trans (h.len e he) hT, Nat.le_trans h.cnt hT⟩
/-- What the map has at a name: a nil slice, if nothing. -/
def cur (hm : Hp) (i : ByteArray) : Value × List Pt := (XM.aget hm i).getD (.slice none 0 0, [])
theorem HM.cur_R {w : World} {gp base T : Nat} {hm : Hp} (h : HM w gp base T hm) (i : ByteArray) : Kd.R k99 99 w base (fun _ => True) (cur hm i).1 (cur hm i).2 := by
 unfold cur
 cases hg : XM.aget hm i with
 | none => exact Kd.R_nil _ _ _ _ _
 | some v => exact h.rows _ (XM.aget_some hg)
theorem HM.cur_len {w : World} {gp base T : Nat} {hm : Hp} (h : HM w gp base T hm) (i : ByteArray) : (cur hm i).2.length ≤ T := by
 unfold cur
 cases hg : XM.aget hm i with
 | none => exact Nat.zero_le _
 | some v => exact h.len _ (XM.aget_some hg)
theorem zSl : ∀ w, (zeroValue 53).run Tryz.prog w = .ok (.slice none 0 0) w := fun w => by kernel_rfl
theorem HMap.look {w : World} {gp : Nat} {hm : Hp} (h : HMap w gp hm) (i : ByteArray) (hi : i.size ≤ maxLen) : (Instr.lookup 63 (.map (some gp)) (.string i) false).run Tryz.prog w = .ok (cur hm i).1 w := by
 unfold cur
 cases hg : XM.aget hm i with
 | none => exact XM.MapIs.look_none h Bt.encS Tryz.underlying63 (zSl w) (Bt.isKS i hi) false hg
 | some v => exact XM.MapIs.look_some h Bt.encS Tryz.underlying63 (Bt.isKS i hi) false hg
/-- What a name's points become. -/
def put (hm : Hp) (i : ByteArray) (v : Value) (ps : List Pt) : Hp := XM.aput hm i (v, (cur hm i).2 ++ ps)
theorem aput_self {β : Type} (i : ByteArray) (v : β) : ∀ m : List (ByteArray × β), (i, v) ∈ XM.aput m i v
 | [] => by simp [XM.aput]
 | y :: r => by
  by_cases h : y.1 = i
  ·
   simp [XM.aput, h]
  ·
   simp only [XM.aput, if_neg h]; exact List.mem_cons_of_mem _ (aput_self i v r)
theorem HM.step {w w1 : World} {gp base T n : Nat} {hm : Hp} (h : HM w gp base T hm) (i : ByteArray) (hk : i.size ≤ maxLen) {v1 : Value} {ps : List Pt}
  (hR : Kd.R k99 99 w1 base (fun _ => True) v1 ((cur hm i).2 ++ ps)) (hg : w.grownBy w1 (cur hm i).1.ownBlock) (hat : v1.ownBlock = (cur hm i).1.ownBlock ∨ ∃ b, v1.ownBlock = some b ∧ w.heap.size ≤ b) (hT : T ≤ 1000000) (hn : ps.length ≤ n) (hn1 : 1 ≤ n) :
  ∃ X, (Instr.mapUpdate 63 (.map (some gp)) (.string i) v1).run Tryz.prog w1 = .ok () X ∧ HM X gp base (T + n) (put hm i v1 ps) ∧ w1.grownBy X (some gp) ∧ X.heap.size = w1.heap.size := by
 have hcR := h.cur_R i; have hcl := h.cur_len i
 have hmb : some gp ≠ (cur hm i).1.ownBlock := by
  intro e; obtain ⟨c, hc⟩ := R97_cells hcR gp e.symm; exact XM.MapIs.noCells h.map hc rfl
 have hm1 : HMap w1 gp hm := XM.MapIs.kept h.map hg hmb; obtain ⟨X, hrun, hmap, hgX, hsz⟩ := XM.MapIs.store hm1 Bt.encS Tryz.underlying63 (Bt.isKS i hk) (by have := h.cnt; unfold maxLen; omega) (v1, (cur hm i).2 ++ ps); have hnd := hmap.nodup
 have key : ∀ e ∈ put hm i v1 ps, (e.1 = i ∧ e = (i, (v1, (cur hm i).2 ++ ps))) ∨ (e.1 ≠ i ∧ e ∈ hm) := by
  intro e he; unfold put at he
  by_cases hq : e.1 = i
  ·
   left
   refine ⟨hq, ?_⟩; have h1 := XM.aget_mem hnd he
   have h2 : XM.aget (XM.aput hm i (v1, (cur hm i).2 ++ ps)) i = some (v1, (cur hm i).2 ++ ps) := by
    have hself := aput_self i (v1, (cur hm i).2 ++ ps) hm; exact XM.aget_mem hnd hself
   rw [hq, h2] at h1; exact Prod.ext hq (Option.some.inj h1).symm
  ·
   right
   refine ⟨hq, ?_⟩; rcases XM.mem_aput he with h1 | h1
   ·
    exact h1
   ·
    exact absurd (by rw [h1]) hq
 have own1 : ∀ e ∈ hm, e.1 ≠ i → ∀ k, e.2.1.ownBlock = some k → some k ≠ (cur hm i).1.ownBlock ∧ v1.ownBlock ≠ some k := by
  intro e he hq k hk2
  have hne1 : some k ≠ (cur hm i).1.ownBlock := by
   unfold cur
   cases hg2 : XM.aget hm i with
   | none => intro e2; cases e2
   | some v => exact fun e2 => h.apart e he (i, v) (XM.aget_some hg2) hq k hk2 e2.symm
  refine ⟨hne1, ?_⟩; rcases hat with h1 | ⟨b, h1, h2⟩
  ·
   rw [h1]; exact fun e2 => hne1 e2.symm
  ·
   rw [h1]; intro e2; have e3 : b = k := by cases e2; rfl
   have := Kd.R_lt (h.rows e he) k hk2; omega
 have hX : ∀ {v : Value} {xs : List Pt}, Kd.R k99 99 w1 base (fun _ => True) v xs → Kd.R k99 99 X base (fun _ => True) v xs := fun hr => R97_grown hr hgX (fun k hk2 e => by
  cases e; obtain ⟨c, hc⟩ := R97_cells hr gp hk2
  exact XM.MapIs.noCells hm1 hc rfl)
 refine ⟨X, hrun, ⟨hmap, fun e he => ?_, fun e he e' he' hq k hk2 => ?_, fun e he => ?_, ?_⟩, hgX, hsz⟩
 ·
  rcases key e he with ⟨_, rfl⟩ | ⟨h1, h2⟩
  ·
   exact hX hR
  ·
   exact hX (R97_grown (h.rows e h2) hg (fun k hk2 => (own1 e h2 h1 k hk2).1))
 ·
  rcases key e he with ⟨h1, rfl⟩ | ⟨h1, h2⟩
  ·
   rcases key e' he' with ⟨h3, _⟩ | ⟨h3, h4⟩
   ·
    exact absurd h3.symm hq
   ·
    intro e2; exact (own1 e' h4 h3 k e2).2 hk2
  ·
   rcases key e' he' with ⟨_, rfl⟩ | ⟨h3, h4⟩
   ·
    exact (own1 e h2 h1 k hk2).2
   ·
    exact h.apart e h2 e' h4 hq k hk2
 ·
  rcases key e he with ⟨_, rfl⟩ | ⟨h1, h2⟩
  ·
   show ((cur hm i).2 ++ ps).length ≤ T + n; rw [List.length_append]; omega
  ·
   have := h.len e h2; omega
 ·
  have h1 := XM.length_aput hm i (v1, (cur hm i).2 ++ ps); have h2 := h.cnt; unfold put; omega
/-- What is held, told by name. -/
abbrev Cn := List (ByteArray × List Pt)
def cont (hm : Hp) : Cn := hm.map (fun e => (e.1, e.2.2))
theorem cont_aput (i : ByteArray) (x : Value × List Pt) : ∀ hm : Hp, cont (XM.aput hm i x) = XM.aput (cont hm) i x.2
 | [] => rfl
 | y :: r => by
  have ih := cont_aput i x r; unfold cont at ih ⊢; show List.map _ (XM.aput (y :: r) i x) = XM.aput ((y.1, y.2.2) :: List.map (fun e => (e.1, e.2.2)) r) i x.2; simp only [XM.aput]
  by_cases h : y.1 = i
  ·
   rw [if_pos h, if_pos h]; rfl
  ·
   rw [if_neg h, if_neg h, ← ih]; rfl
theorem cont_cur (i : ByteArray) : ∀ hm : Hp, (cur hm i).2 = (XM.aget (cont hm) i).getD []
 | [] => rfl
 | y :: r => by
  have ih := cont_cur i r; unfold cur cont at ih ⊢; rw [List.map_cons]; unfold XM.aget
  by_cases h : y.1 = i
  ·
   rw [if_pos h, if_pos h]; rfl
  ·
   rw [if_neg h, if_neg h]; exact ih
/-- A series is held: what of it the boot needs. -/
def add1 (n : Rg.R) (c : Cn) (s : Hv.Ser) : Cn := if 0 < (cut s.f1 n.f0 n.f1).length then XM.aput c s.f0 ((XM.aget c s.f0).getD [] ++ cut s.f1 n.f0 n.f1) else c
theorem cont_put (hm : Hp) (n : Rg.R) (s : Hv.Ser) (v : Value) (h : 0 < (cut s.f1 n.f0 n.f1).length) : cont (put hm s.f0 v (cut s.f1 n.f0 n.f1)) = add1 n (cont hm) s := by
 unfold put add1; rw [cont_aput, if_pos h, cont_cur]
structure Kp (w w' : World) (gp : Nat) : Prop where
 size : w.heap.size ≤ w'.heap.size
 block : ∀ k, k < w.heap.size → k ≠ gp → (∀ cur, w.heap[k]? ≠ some (.cells cur 99 (0, 0))) → w'.heap[k]? = w.heap[k]?
theorem Kp.refl (w : World) (gp : Nat) : Kp w w gp := ⟨Nat.le_refl _, fun _ _ _ _ => rfl⟩
theorem Kp.then_ {w w' w'' : World} {gp : Nat} (h : Kp w w' gp) (h' : Kp w' w'' gp) : Kp w w'' gp :=
 ⟨Nat.le_trans h.size h'.size, fun k hk hne hc => (h'.block k (Nat.lt_of_lt_of_le hk h.size) hne (fun cur => by rw [h.block k hk hne hc]; exact hc cur)).trans (h.block k hk hne hc)⟩
theorem Kp.of_below {w w' : World} {gp : Nat} (h : Below w.heap.size w w') : Kp w w' gp := ⟨h.size, fun k hk _ _ => h.block k hk⟩
theorem Kp.of_grown {w w' : World} {gp : Nat} (h : w.grownBy w' (some gp)) : Kp w w' gp := ⟨h.size, fun k hk hne _ => h.block k hk (fun e => hne (by cases e; rfl))⟩
theorem Kp.of_row {w w' : World} {gp base : Nat} {v : Value} {xs : List Pt} (hR : Kd.R k99 99 w base (fun _ => True) v xs) (h : w.grownBy w' v.ownBlock) : Kp w w' gp :=
 ⟨h.size, fun k hk _ hc => h.block k hk (fun e => by obtain ⟨c, hh⟩ := R97_cells hR k e.symm; exact hc c hh)⟩
theorem Kp.row {α : Type} {d : Kd α} {e : Nat} {w w' : World} {gp base : Nat} {v : Value} {xs : List α} (h : Kp w w' gp) (hR : d.R e w base (fun _ => True) v xs) (hE : ∀ q ∈ e :: d.E, q ≠ 99) (hgp : ∀ c q, w.heap[gp]? ≠ some (.cells c q (0, 0))) : d.R e w' base (fun _ => True) v xs :=
 Kd.R_mono (Kd.R_move (Kd.R_bound hR) (fun k hk => by
  obtain ⟨_, _, hlt, q, hq, cells, hc⟩ := hk; refine h.block k hlt (fun e => hgp cells q (by rw [← e]; exact hc)) (fun cur e => ?_); rw [hc] at e
  exact hE q hq (by cases e; rfl))) (fun _ _ => trivial)
theorem Kp.blk {w w' : World} {gp k : Nat} (h : Kp w w' gp) {cs : Array Value} {t : TypeId} {fr : Nat × Nat} (hb : w.heap[k]? = some (.cells cs t fr)) (hne : k ≠ gp) (ht : t ≠ 99) : w'.heap[k]? = some (.cells cs t fr) :=
 (h.block k (blk_lt hb) hne (fun cur e => by rw [hb] at e; exact ht (by cases e; rfl))).trans hb
theorem Is_kp {w w' : World} {B g gm gp : Nat} {vO vL : Value} {b : Bt.Bo} (h : Bt.Is w B g gm gp vO vL b) (hk : Kp w w' gp) {pm : Bt.Pm} (hm : Bt.PM w' gp pm) : Bt.Is w' B g gm gp vO vL { b with pts := pm } := by
 have hgp : ∀ c q, w.heap[gp]? ≠ some (.cells c q (0, 0)) := fun c q e => h.pts.noCells e rfl; refine ⟨hk.blk h.blk (fun e => h.pts.noCells h.blk e.symm) (by decide), hk.row h.oth (by decide) hgp, hk.row h.left (by decide) hgp, ?_, hm, h.bg, h.bm, h.bp, h.ne⟩; refine XM.MapIs.move h.gv (hk.block gm h.gv.lt h.ne (fun cur e => ?_)); obtain ⟨es, clock, h1, _⟩ := h.gv; rw [h1] at e; cases e
def Sh (gp : Nat) (hm : Hp) (k : Nat) : Prop := k = gp ∨ ∃ e ∈ hm, e.2.1.ownBlock = some k
structure Ft (w w' : World) (gp : Nat) (hm hm' : Hp) : Prop where
 kept : Kept w w' (Sh gp hm)
 own : ∀ k, Sh gp hm' k → Sh gp hm k ∨ w.heap.size ≤ k
theorem Ft.refl (w : World) (gp : Nat) (hm : Hp) : Ft w w gp hm hm := ⟨Kept.refl _ _, fun _ h => .inl h⟩
theorem Ft.of_below {w w' : World} (hb : Below w.heap.size w w') (gp : Nat) (hm : Hp) : Ft w w' gp hm hm := ⟨Kept.of_below hb _, fun _ h => .inl h⟩
theorem Ft.then_ {w w1 w2 : World} {gp : Nat} {hm hm1 hm2 : Hp} (h : Ft w w1 gp hm hm1) (h' : Ft w1 w2 gp hm1 hm2) : Ft w w2 gp hm hm2 :=
 ⟨h.kept.then_ h'.kept h.own, fun k hk => (h'.own k hk).elim (h.own k) (fun h2 => .inr (Nat.le_trans h.kept.1 h2))⟩
theorem Ft.put {w w2 X : World} {gp : Nat} {hm : Hp} {i : ByteArray} {v1 : Value} {ps : List Pt} (hg : w.grownBy w2 (cur hm i).1.ownBlock) (hat : v1.ownBlock = (cur hm i).1.ownBlock ∨ ∃ b, v1.ownBlock = some b ∧ w.heap.size ≤ b) (hgX : w2.grownBy X (some gp)) : Ft w X gp hm (put hm i v1 ps) := by
 have hc : ∀ k, (cur hm i).1.ownBlock = some k → Sh gp hm k := by
  intro k hk; unfold cur at hk
  cases hg2 : XM.aget hm i with
  | none => rw [hg2] at hk; cases hk
  | some v => rw [hg2] at hk; exact .inr ⟨(i, v), XM.aget_some hg2, hk⟩
 refine ⟨Kept.of_grown hgX (Kept.of_grown hg (Kept.refl _ _) (fun k hk => .inl (hc k hk))) (fun k hk => .inl (.inl (by cases hk; rfl))), fun k hk => ?_⟩; rcases hk with h1 | ⟨e, he, h1⟩
 ·
  exact .inl (.inl h1)
 ·
  rcases XM.mem_aput he with h2 | h2
  ·
   exact .inl (.inr ⟨e, h2, h1⟩)
  ·
   rw [h2] at h1; have h1 : v1.ownBlock = some k := h1; rcases hat with h3 | ⟨b, h3, h4⟩
   ·
    exact .inl (hc k (h3.symm.trans h1))
   ·
    rw [h3] at h1; cases h1; exact .inr h4
end Hm
end Go.Proofs.YtiinmagnpkfbbaaGreat
end
section
set_option maxHeartbeats 4000000
set_option maxRecDepth 100000
namespace Go.Proofs.YtiinmagnpkfbbaaGreat
set_option linter.unusedVariables false
set_option linter.unusedSimpArgs false
open Go.RowKit Go.Proofs.YtiinmagnpkfbbaaGreatW.PrintWords Go.Proofs.YtiinmagnpkfbbaaGreatW.PrintLast Go.Proofs.YtiinmagnpkfbbaaGreatW.PrintMore Go.Proofs.YtiinmagnpkfbbaaGreat.QT
namespace Hm
def Hold1.T1 : Bool × List (List Nat × List Nat) := (true, [([], []), ([0], [0]), ([], []), ([2], [2]), ([3], [3]), ([4], [4]), ([1, 5], [1, 5]), ([6, 6, 0, 1, 2, 3, 4, 5, 6], [6])])
def Hold1.B1 : List Nat := [0, 1, 0, 4, 12, 28, 63, 127]
theorem Hold1.tab1 : rtab .any (opsOf Tryz.f60 1) = Hold1.T1 := by kernel_rfl
theorem Hold1.bits1 : waitsOk Hold1.T1.2 Hold1.B1 = true := by kernel_rfl
def Hold3.T3 : Bool × List (List Nat × List Nat) := (true, [([], []), ([0], [0]), ([1], [1]), ([2], [2]), ([], []), ([4], [4]), ([], []), ([6], [6]), ([7], [7]), ([8], [8]), ([], []), ([10], [10]), ([9, 11], [9, 11]), ([], []), ([12, 13], [12, 13]), ([3, 5, 14, 14, 0, 1, 2, 3, 4, 5, 6, 7, 8, 9, 10, 11, 12, 13, 14], [3, 5, 14])])
def Hold3.B3 : List Nat := [0, 1, 3, 7, 0, 16, 0, 64, 192, 448, 0, 1024, 4032, 0, 16320, 32767]
theorem Hold3.tab3 : rtab .any (opsOf Tryz.f60 3) = Hold3.T3 := by kernel_rfl
theorem Hold3.bits3 : waitsOk Hold3.T3.2 Hold3.B3 = true := by kernel_rfl
theorem hold1_calls (w0 w : World) (g gm gp gc : Nat) (vO vL : Value) (b : Bt.Bo) (hm : Hp) (T : Nat) (hI : Bt.Is w w0.heap.size g gm gp vO vL b) (hM : HM w gp w0.heap.size T hm) (hb : Below w0.heap.size w0 w)
  (hgc : w.heap[gc]? = some (.cells #[.pointer (some ⟨g, 0, none⟩)] 31 (0, 0))) (s : Hv.Ser) (A : Option Addr) (c : Nat) (hs : Kd.C k99 w0 A s.f1.length s.f1) (hc : s.f1.length ≤ c) (hid : s.f0.size ≤ maxLen) (hT : T + s.f1.length ≤ 1000000) :
  Calls Tryz.prog 60 #[.agg #[.string s.f0, .slice A s.f1.length c], .pointer (some ⟨gc, 0, none⟩)] w fun e w' => e = .returned (.tuple #[]) ∧
   ∃ hm', HM w' gp w0.heap.size (T + s.f1.length) hm' ∧ cont hm' = add1 b.need (cont hm) s ∧ Bt.Is w' w0.heap.size g gm gp vO vL { b with pts := pmOf hm' } ∧ Below w0.heap.size w0 w' ∧ Kp w w' gp ∧ Ft w w' gp hm hm' := by
 obtain ⟨P, hP⟩ : ∃ P, cut s.f1 b.need.f0 b.need.f1 = P := ⟨_, rfl⟩
 have hPl : P.length ≤ s.f1.length := by rw [← hP]; exact cut_len _ _ _
 have HI := Lib.hid hI; have HMM := Lib.hid hM; have HBW := Lib.hid hb; have HGC0 := Lib.hid hgc; have HPL := Lib.hid hPl; have HT := Lib.hid hT; have HID := Lib.hid hid; have HC := Lib.hid hs; have hgcn : gc ≠ gp := fun e => hI.pts.noCells hgc e.symm; have HNC := Lib.hid hgcn; have HNG := Lib.hid (show g ≠ gp from fun e => hI.pts.noCells hI.blk e.symm); have HPE := Lib.hid hP; clear hI hM hb hgc hs hT hid hPl hgcn hP
 by_cases h0 : 0 < P.length
 ·
  have d0 : decide ((P.length : Int) > 0) = true := decide_eq_true (by omega); have HP0 := Lib.hid h0; clear h0; go_enter Tryz.func60, Tryz.ntmps60
  go_wp2_with ((with_reducible refine gate_dst (N := 2) rfl ?_); refine box_event rfl (N := 2) rfl (cs := #[.string s.f0, .slice A s.f1.length c]) (t := 55) ?hr ?_; (case hr => go_simp; done); intro g2 hg2 X hbox hbX; have HX := Lib.hid hbX; have HG2 := Lib.hid hbox; have y1 : X.cell? ⟨g2, 1, none⟩ = some (.slice A s.f1.length c) := (blk_cell hbox 1).trans rfl; have yc : X.cell? ⟨gc, 0, none⟩ = some (.pointer (some ⟨g, 0, none⟩)) := (blk_cell (blk_below HGC0.out hbX) 0).trans rfl; have y5 : X.cell? ⟨g, 5, none⟩ = some (.int .i64 b.need.f0) := (blk_cell (blk_below HI.out.blk hbX) 5).trans rfl; have y6 : X.cell? ⟨g, 6, none⟩ = some (.int .i64 b.need.f1) := (blk_cell (blk_below HI.out.blk hbX) 6).trans rfl; have HCUT := Lib.hid (fun W (hW : Below X.heap.size X W) => cut_calls W A c s.f1 b.need.f0 b.need.f1 (Kd.C_below HC.out (below_then (below_then HBW.out HBW.out.size hbX) (below_then HBW.out HBW.out.size hbX).size hW)) hc (by have := HT.out; omega)); rw [HPE.out] at HCUT; clear hg2 hbox hbX)
  refine start_ (n := 8) (S := fun w' => w'.cell? ⟨g2, 1, none⟩ = some (.slice A s.f1.length c) ∧ w'.cell? ⟨gc, 0, none⟩ = some (.pointer (some ⟨g, 0, none⟩)) ∧ w'.cell? ⟨g, 5, none⟩ = some (.int .i64 b.need.f0) ∧ w'.cell? ⟨g, 6, none⟩ = some (.int .i64 b.need.f1)) (ds := []) (bs 8 0) (by kernel_rfl) rfl rfl ⟨y1, yc, y5, y6⟩ (fun hHeld => ?_); refine with_tabW Hold1.tab1 Hold1.bits1 (fun HT_ HW_ => ?_); apply pv 0 4 (bs 8 1) HT_; rfl; rfl; kernel_rfl; exact qq; rfl; intro w'; go_simp; with_reducible rfl; simp only [zz]; rfl
  apply tb 1 5 (bs 8 3) HT_ HW_ hHeld; rfl; rfl; kernel_rfl; exact qq; rfl; rintro w' ⟨s0, s1, s2, s3⟩; go_simp; with_reducible rfl; simp only [zz]; rfl
  apply tb 2 6 (bs 8 7) HT_ HW_ hHeld; rfl; rfl; kernel_rfl; exact qq; rfl; rintro w' ⟨s0, s1, s2, s3⟩; go_simp; with_reducible rfl; simp only [zz]; rfl
  apply pv 3 7 (bs 8 15) HT_; rfl; rfl; kernel_rfl; exact qq; rfl; intro w'; go_simp; with_reducible rfl; simp only [zz]; rfl
  apply pv 4 8 (bs 8 31) HT_; rfl; rfl; kernel_rfl; exact qq; rfl; intro w'; go_simp; with_reducible rfl; simp only [zz]; rfl
  apply tb 5 9 (bs 8 63) HT_ HW_ hHeld; rfl; rfl; kernel_rfl; exact qq; rfl; rintro w' ⟨s0, s1, s2, s3⟩; go_simp; with_reducible rfl; simp only [zz]; rfl
  refine one_ (i := 6) (N := some 10) (bs 8 127) rfl rfl (one_of HT_.out (by kernel_rfl)) (by decide) (fun K hK => ?_); refine goes_ Tryz.func61 (by kernel_rfl) rfl #[.slice A s.f1.length c, .agg #[.int .i64 b.need.f0, .int .i64 b.need.f1]] (by rfl) rfl rfl (by simp only [List.map_toArray, List.map_cons, List.map_nil]; rfl) ?_; with_reducible refine ((HCUT.out _ (below_drew (Below.refl _ _)))).mono ?_
  rintro e w1 ⟨v1, rfl, hR1, hb1⟩; refine ⟨_, rfl, ?_⟩; obtain ⟨A1, c1, rfl⟩ := Kd.R_slice hR1; have HB1 := Lib.hid (below_then (below_drew (Below.refl _ _)) (Nat.le_refl _) hb1); have HR1 := Lib.hid hR1; clear hR1 hb1; refine hK.out _ _ ⟨(pw_cell_below HB1.out y1), (pw_cell_below HB1.out yc), (pw_cell_below HB1.out y5), (pw_cell_below HB1.out y6)⟩ (fun hHeld => ?_); clear hK K; refine norm_ (a' := ?_) ?_ ?_; rotate_left
  ·
   show Act.put _ (some 10) _ = _; simp only [Act.put, List.setIfInBounds_toArray, List.set_cons_zero, List.set_cons_succ, i64_w, i32_w]; rfl
  apply pv 7 3 (bs 8 255) HT_; rfl; rfl; kernel_rfl; exact qq; rfl; intro w'; go_simp; with_reducible rfl; simp only [zz]; rfl
  refine done_ (done_of HT_.out (by kernel_rfl)) ?_; have HG2W := Lib.hid (blk_below HG2.out HB1.out); have HBX1 := Lib.hid (below_then HX.out HX.out.size HB1.out); have HRP := Lib.hid (fun W (hW : Below w1.heap.size w1 W) => (show ReadsRow (k99.K w1) 3 W A1 P.length P from ReadsRow.imp_ (Kd.R_reads' HR1.out).2.2 hW (fun _ _ h => h))); have HHM := Lib.hid (fun W (hW : Below w1.heap.size w1 W) => ((HMM.out.below HBX1.out).below hW).cur_R s.f0); have HB1W := Lib.hid (fun W (hW : Below w1.heap.size w1 W) => below_then (below_then HBW.out HBW.out.size HBX1.out) (below_then HBW.out HBW.out.size HBX1.out).size hW); have HLP := Lib.hid (show ((cur hm s.f0).2.length + P.length) * 24 ≤ 140737488355328 by have h1 := HMM.out.cur_len s.f0; have h2 := HPL.out; have h3 := HT.out; omega); have HSTEP := Lib.hid (fun W (hW : Below w1.heap.size w1 W) v1 w2 hR hg hat => ((HMM.out.below HBX1.out).below hW).step (w1 := w2) (v1 := v1) (ps := P) (n := s.f1.length) s.f0 HID.out hR hg hat (by have := HT.out; omega) HPL.out (Nat.le_trans HP0.out HPL.out)); have HGC := Lib.hid (blk_below HGC0.out HBX1.out); have HGB := Lib.hid (HI.out.below HBX1.out).blk; have HG2 := HG2W; have HN2 := Lib.hid (show g2 ≠ gp from fun e => (XM.MapIs.below HI.out.pts HBX1.out).noCells HG2.out e.symm); have HKP := Lib.hid (fun W (hW : Below w1.heap.size w1 W) w2 (hg : W.grownBy w2 (cur hm s.f0).1.ownBlock) => ((Kp.of_below (gp := gp) hW).then_ (Kp.of_row (gp := gp) (((HMM.out.below HBX1.out).below hW).cur_R s.f0) hg))); have HLKK := Lib.hid (fun W (hW : Below w1.heap.size w1 W) w2 (hg : W.grownBy w2 (cur hm s.f0).1.ownBlock) => HMap.look (w := w2) (XM.MapIs.kept ((HMM.out.below HBX1.out).below hW).map hg (fun e => by obtain ⟨cc, hc⟩ := R97_cells (((HMM.out.below HBX1.out).below hW).cur_R s.f0) gp e.symm; exact XM.MapIs.noCells ((HMM.out.below HBX1.out).below hW).map hc rfl)) s.f0 HID.out); have HGP := Lib.hid HI.out.bp; have HFTF := Lib.hid (fun W (hW : Below w1.heap.size w1 W) (w2 X : World) (v1 : Value) (hg : W.grownBy w2 (cur hm s.f0).1.ownBlock) (hat : v1.ownBlock = (cur hm s.f0).1.ownBlock ∨ ∃ b, v1.ownBlock = some b ∧ W.heap.size ≤ b) (hgX : w2.grownBy X (some gp)) => (Ft.of_below hW gp hm).then_ (Ft.put (ps := P) hg hat hgX)); have zc : w1.cell? ⟨gc, 0, none⟩ = some (.pointer (some ⟨g, 0, none⟩)) := (blk_cell HGC.out 0).trans rfl; have z8 : w1.cell? ⟨g, 8, none⟩ = some (.map (some gp)) := (blk_cell HGB.out 8).trans rfl; have z0 : w1.cell? ⟨g2, 0, none⟩ = some (.string s.f0) := (blk_cell HG2.out 0).trans rfl; have zl := HMap.look ((HMM.out.below HBX1.out).below (below_drew (Below.refl _ _))).map s.f0 HID.out; clear y1 yc y5 y6; go_wp2_with fail
  refine start_ (n := 16) (S := fun w' => w'.cell? ⟨gc, 0, none⟩ = some (.pointer (some ⟨g, 0, none⟩)) ∧ w'.cell? ⟨g, 8, none⟩ = some (.map (some gp)) ∧ w'.cell? ⟨g2, 0, none⟩ = some (.string s.f0) ∧ (Instr.lookup 63 (.map (some gp)) (.string s.f0) false).run Tryz.prog w' = .ok (cur hm s.f0).1 w') (ds := [15]) (bs 16 0) (by kernel_rfl) rfl rfl ⟨zc, z8, z0, zl⟩ (fun hHeld => ?_); refine with_tabW Hold3.tab3 Hold3.bits3 (fun HT_ HW_ => ?_); apply pv 4 18 (bs 16 16) HT_; rfl; rfl; kernel_rfl; exact qq; rfl; intro w'; go_simp; with_reducible rfl; simp only [zz]; rfl
  apply pv 10 24 (bs 16 1040) HT_; rfl; rfl; kernel_rfl; exact qq; rfl; intro w'; go_simp; with_reducible rfl; simp only [zz]; rfl
  apply pv 13 27 (bs 16 9232) HT_; rfl; rfl; kernel_rfl; exact qq; rfl; intro w'; go_simp; with_reducible rfl; simp only [zz]; rfl
  apply tb 0 14 (bs 16 9233) HT_ HW_ hHeld; rfl; rfl; kernel_rfl; exact qq; rfl; rintro w' ⟨s0, s1, s2, s3⟩; go_simp; with_reducible rfl; simp only [zz]; rfl
  apply pv 1 15 (bs 16 9235) HT_; rfl; rfl; kernel_rfl; exact qq; rfl; intro w'; go_simp; with_reducible rfl; simp only [zz]; rfl
  apply pv 2 16 (bs 16 9239) HT_; rfl; rfl; kernel_rfl; exact qq; rfl; intro w'; go_simp; with_reducible rfl; simp only [zz]; rfl
  apply tb 3 17 (bs 16 9247) HT_ HW_ hHeld; rfl; rfl; kernel_rfl; exact qq; rfl; rintro w' ⟨s0, s1, s2, s3⟩; go_simp; with_reducible rfl; simp only [zz]; rfl
  apply tb 5 19 (bs 16 9279) HT_ HW_ hHeld; rfl; rfl; kernel_rfl; exact qq; rfl; rintro w' ⟨s0, s1, s2, s3⟩; go_simp; with_reducible rfl; simp only [zz]; rfl
  apply tb 6 20 (bs 16 9343) HT_ HW_ hHeld; rfl; rfl; kernel_rfl; exact qq; rfl; rintro w' ⟨s0, s1, s2, s3⟩; go_simp; with_reducible rfl; simp only [zz]; rfl
  apply pv 7 21 (bs 16 9471) HT_; rfl; rfl; kernel_rfl; exact qq; rfl; intro w'; go_simp; with_reducible rfl; simp only [zz]; rfl
  apply pv 8 22 (bs 16 9727) HT_; rfl; rfl; kernel_rfl; exact qq; rfl; intro w'; go_simp; with_reducible rfl; simp only [zz]; rfl
  apply tb 9 23 (bs 16 10239) HT_ HW_ hHeld; rfl; rfl; kernel_rfl; exact qq; rfl; rintro w' ⟨s0, s1, s2, s3⟩; go_simp; with_reducible rfl; simp only [zz]; rfl
  apply tb 11 25 (bs 16 12287) HT_ HW_ hHeld; rfl; rfl; kernel_rfl; exact qq; rfl; rintro w' ⟨s0, s1, s2, s3⟩; go_simp; with_reducible rfl; simp only [zz]; rfl
  apply tb 12 26 (bs 16 16383) HT_ HW_ hHeld; rfl; rfl; kernel_rfl; exact qq; rfl; rintro w' ⟨s0, s1, s2, s3⟩; go_simp; with_reducible rfl; simp only [zz]; rfl
  refine one_ (i := 14) (N := some 28) (bs 16 32767) rfl rfl (one_of HT_.out (by kernel_rfl)) (by decide) (fun K hK => ?_); refine Kd.R_append_rows_step k99 (Rr := k99.K w1) (w0 := w0) w0.heap.size (by rfl) (.tmp 26) (.tmp 27) 53 99 (.agg #[.int .i64 0, .int .u64 0, .int .u64 0]) 24 (by rfl) Tryz.underlying53 info99 (by rfl) (by decide) (by decide) (cur hm s.f0).1 (cur hm s.f0).2 P A1 P.length c1 (fun _ => True) (fun _ => False) (by rfl) (by rfl) (HHM.out _ (below_drew (Below.refl _ _))) (HRP.out _ (below_drew (Below.refl _ _))) (fun x cs h => by obtain rfl := k99_open h; exact k99_mkM _ _ _ _) (fun _ h => h.elim) (fun _ _ => trivial) (HB1W.out _ (below_drew (Below.refl _ _))) (HB1W.out _ (below_drew (Below.refl _ _))).size HLP.out ?_; intro v5 w2 hR5 hB5 hg5 hat5; obtain ⟨X3, hrun, hHM3, hg3, hs3⟩ := HSTEP.out _ (below_drew (Below.refl _ _)) v5 w2 hR5 hg5 hat5; have HK2 := Lib.hid (HKP.out _ (below_drew (Below.refl _ _)) w2 hg5); have HLK := Lib.hid (HLKK.out _ (below_drew (Below.refl _ _)) w2 hg5); have HB3 := Lib.hid (hB5.grown hg3 hB5.size (fun k hk => by cases hk; exact HGP.out)); have HM3 := Lib.hid hHM3; have HG3 := Lib.hid hg3; have HFT := Lib.hid (HFTF.out _ (below_drew (Below.refl _ _)) w2 X3 v5 hg5 hat5 hg3); clear hR5 hB5 hg5 hat5 hHM3 hg3 hs3; refine hK.out _ _ ⟨((blk_cell (HK2.out.blk HGC.out HNC.out (by decide)) 0).trans rfl), ((blk_cell (HK2.out.blk HGB.out HNG.out (by decide)) 8).trans rfl), ((blk_cell (HK2.out.blk HG2.out HN2.out (by decide)) 0).trans rfl), HLK.out⟩ (fun hHeld => ?_); clear hK K; refine norm_ (a' := ?_) ?_ ?_; rotate_left
  ·
   show Act.put _ (some 28) _ = _; simp only [Act.put, List.setIfInBounds_toArray, List.set_cons_zero, List.set_cons_succ, i64_w, i32_w]; rfl
  refine last_ (i := 15) (N := none) (bs 16 65535) rfl rfl (one_of HT_.out (by kernel_rfl)) (by decide) (fun K hK => ?_); refine skip_ (w1 := ?_) (by rfl) rfl ?_ ?_; rotate_left
  ·
   go_simp; rfl
  refine hK.out _ _ ?_; clear hK K; refine done_ (done_of HT_.out (by kernel_rfl)) ?_; go_end0; refine ⟨rfl, put hm s.f0 v5 P, HM3.out, by rw [← HPE.out]; exact cont_put hm b.need s v5 (by rw [HPE.out]; exact HP0.out), ?_, HB3.out, ?_, (Ft.of_below HBX1.out gp hm).then_ HFT.out⟩
  ·
   exact Is_kp (HI.out.below HBX1.out) (HK2.out.then_ (Kp.of_grown HG3.out)) HM3.out.map.pm
  ·
   exact (Kp.of_below HBX1.out).then_ (HK2.out.then_ (Kp.of_grown HG3.out))
 ·
  have d0 : decide ((P.length : Int) > 0) = false := decide_eq_false (by omega); have HP0 := Lib.hid h0; clear h0; go_enter Tryz.func60, Tryz.ntmps60
  go_wp2_with ((with_reducible refine gate_dst (N := 2) rfl ?_); refine box_event rfl (N := 2) rfl (cs := #[.string s.f0, .slice A s.f1.length c]) (t := 55) ?hr ?_; (case hr => go_simp; done); intro g2 hg2 X hbox hbX; have HX := Lib.hid hbX; have HG2 := Lib.hid hbox; have y1 : X.cell? ⟨g2, 1, none⟩ = some (.slice A s.f1.length c) := (blk_cell hbox 1).trans rfl; have yc : X.cell? ⟨gc, 0, none⟩ = some (.pointer (some ⟨g, 0, none⟩)) := (blk_cell (blk_below HGC0.out hbX) 0).trans rfl; have y5 : X.cell? ⟨g, 5, none⟩ = some (.int .i64 b.need.f0) := (blk_cell (blk_below HI.out.blk hbX) 5).trans rfl; have y6 : X.cell? ⟨g, 6, none⟩ = some (.int .i64 b.need.f1) := (blk_cell (blk_below HI.out.blk hbX) 6).trans rfl; have HCUT := Lib.hid (fun W (hW : Below X.heap.size X W) => cut_calls W A c s.f1 b.need.f0 b.need.f1 (Kd.C_below HC.out (below_then (below_then HBW.out HBW.out.size hbX) (below_then HBW.out HBW.out.size hbX).size hW)) hc (by have := HT.out; omega)); rw [HPE.out] at HCUT; clear hg2 hbox hbX)
  refine start_ (n := 8) (S := fun w' => w'.cell? ⟨g2, 1, none⟩ = some (.slice A s.f1.length c) ∧ w'.cell? ⟨gc, 0, none⟩ = some (.pointer (some ⟨g, 0, none⟩)) ∧ w'.cell? ⟨g, 5, none⟩ = some (.int .i64 b.need.f0) ∧ w'.cell? ⟨g, 6, none⟩ = some (.int .i64 b.need.f1)) (ds := []) (bs 8 0) (by kernel_rfl) rfl rfl ⟨y1, yc, y5, y6⟩ (fun hHeld => ?_); refine with_tabW Hold1.tab1 Hold1.bits1 (fun HT_ HW_ => ?_); apply pv 0 4 (bs 8 1) HT_; rfl; rfl; kernel_rfl; exact qq; rfl; intro w'; go_simp; with_reducible rfl; simp only [zz]; rfl
  apply tb 1 5 (bs 8 3) HT_ HW_ hHeld; rfl; rfl; kernel_rfl; exact qq; rfl; rintro w' ⟨s0, s1, s2, s3⟩; go_simp; with_reducible rfl; simp only [zz]; rfl
  apply tb 2 6 (bs 8 7) HT_ HW_ hHeld; rfl; rfl; kernel_rfl; exact qq; rfl; rintro w' ⟨s0, s1, s2, s3⟩; go_simp; with_reducible rfl; simp only [zz]; rfl
  apply pv 3 7 (bs 8 15) HT_; rfl; rfl; kernel_rfl; exact qq; rfl; intro w'; go_simp; with_reducible rfl; simp only [zz]; rfl
  apply pv 4 8 (bs 8 31) HT_; rfl; rfl; kernel_rfl; exact qq; rfl; intro w'; go_simp; with_reducible rfl; simp only [zz]; rfl
  apply tb 5 9 (bs 8 63) HT_ HW_ hHeld; rfl; rfl; kernel_rfl; exact qq; rfl; rintro w' ⟨s0, s1, s2, s3⟩; go_simp; with_reducible rfl; simp only [zz]; rfl
  refine one_ (i := 6) (N := some 10) (bs 8 127) rfl rfl (one_of HT_.out (by kernel_rfl)) (by decide) (fun K hK => ?_); refine goes_ Tryz.func61 (by kernel_rfl) rfl #[.slice A s.f1.length c, .agg #[.int .i64 b.need.f0, .int .i64 b.need.f1]] (by rfl) rfl rfl (by simp only [List.map_toArray, List.map_cons, List.map_nil]; rfl) ?_; with_reducible refine ((HCUT.out _ (below_drew (Below.refl _ _)))).mono ?_
  rintro e w1 ⟨v1, rfl, hR1, hb1⟩; refine ⟨_, rfl, ?_⟩; obtain ⟨A1, c1, rfl⟩ := Kd.R_slice hR1; have HB1 := Lib.hid (below_then (below_drew (Below.refl _ _)) (Nat.le_refl _) hb1); have HR1 := Lib.hid hR1; clear hR1 hb1; refine hK.out _ _ ⟨(pw_cell_below HB1.out y1), (pw_cell_below HB1.out yc), (pw_cell_below HB1.out y5), (pw_cell_below HB1.out y6)⟩ (fun hHeld => ?_); clear hK K; refine norm_ (a' := ?_) ?_ ?_; rotate_left
  ·
   show Act.put _ (some 10) _ = _; simp only [Act.put, List.setIfInBounds_toArray, List.set_cons_zero, List.set_cons_succ, i64_w, i32_w]; rfl
  apply pv 7 3 (bs 8 255) HT_; rfl; rfl; kernel_rfl; exact qq; rfl; intro w'; go_simp; with_reducible rfl; simp only [zz]; rfl
  refine done_ (done_of HT_.out (by kernel_rfl)) ?_; have HBX1 := Lib.hid (below_then HX.out HX.out.size HB1.out); go_wp2; go_end0; exact ⟨rfl, hm, (HMM.out.below HBX1.out).more (Nat.le_add_right _ _), by unfold add1; rw [HPE.out, if_neg HP0.out], Is_kp HI.out (Kp.of_below HBX1.out) (HMM.out.below HBX1.out).map.pm, below_then HBW.out HBW.out.size HBX1.out, Kp.of_below HBX1.out, Ft.of_below HBX1.out gp hm⟩
end Hm
end Go.Proofs.YtiinmagnpkfbbaaGreat
end
section
set_option maxHeartbeats 4000000
set_option maxRecDepth 100000
namespace Go.Proofs.YtiinmagnpkfbbaaGreat
set_option linter.unusedVariables false
set_option linter.unusedSimpArgs false
open Go.RowKit Go.Proofs.YtiinmagnpkfbbaaGreatW.PrintWords Go.Proofs.YtiinmagnpkfbbaaGreatW.PrintLast Go.Proofs.YtiinmagnpkfbbaaGreatW.PrintMore Go.Proofs.YtiinmagnpkfbbaaGreat.QT
namespace Hm
theorem wrap_lt (i n : Nat) (h : i < n) (hn : n ≤ 9223372036854775807) : wrap64 ((i : Int) + 1) = (i : Int) + 1 := by unfold wrap64; omega
theorem serW_take {l : List Hv.Ser} {i : Nat} (h : i < l.length) : Hv.serW (l.take (i + 1)) = Hv.serW (l.take i) + (l[i].f0.size + l[i].f1.length) := by
 unfold Hv.serW; rw [List.take_succ_eq_append_getElem h, List.map_append, List.sum_append]; simp
theorem serW_take_le (l : List Hv.Ser) (i : Nat) : Hv.serW (l.take i) ≤ Hv.serW l := by
 conv => rhs; rw [← List.take_append_drop i l]
 unfold Hv.serW; rw [List.map_append, List.sum_append]; omega
theorem fold_take {l : List Hv.Ser} {i : Nat} (h : i < l.length) (n : Rg.R) (c : Cn) : (l.take (i + 1)).foldl (add1 n) c = add1 n ((l.take i).foldl (add1 n) c) l[i] := by
 rw [List.take_succ_eq_append_getElem h, List.foldl_append]; rfl
theorem hold_calls (w0 w : World) (g gm gp : Nat) (vO vL : Value) (b : Bt.Bo) (hm : Hp) (T : Nat) (hI : Bt.Is w w0.heap.size g gm gp vO vL b) (hM : HM w gp w0.heap.size T hm) (hb : Below w0.heap.size w0 w)
  (A : Option Addr) (c : Nat) (l : List Hv.Ser) (hl : Kd.C k55 w0 A l.length l) (hids : ∀ x ∈ l, x.f0.size ≤ maxLen) (hT : T + Hv.serW l ≤ 1000000) :
  Calls Tryz.prog 33 #[.pointer (some ⟨g, 0, none⟩), .slice A l.length c] w fun e w' => e = .returned (.tuple #[]) ∧
   ∃ hm', HM w' gp w0.heap.size (T + Hv.serW l) hm' ∧ cont hm' = l.foldl (add1 b.need) (cont hm) ∧ Bt.Is w' w0.heap.size g gm gp vO vL { b with pts := pmOf hm' } ∧ Below w0.heap.size w0 w' ∧ Kp w w' gp ∧ Ft w w' gp hm hm' := by
 have HI := Lib.hid hI; have HMM := Lib.hid hM; have HBW := Lib.hid hb; have HL := Lib.hid hl; have HIDS := Lib.hid hids; have HT := Lib.hid hT; have HLM := Lib.hid hl.2.1; clear hI hM hb hl hids hT; go_enter Tryz.func33, Tryz.ntmps33
 go_wp2_with ((with_reducible refine gate_dst (N := 2) rfl ?_); refine box_event rfl (N := 2) rfl (cs := #[.pointer (some ⟨g, 0, none⟩)]) (t := 31) ?hr ?_; (case hr => go_simp; done); intro g2 hg2 X hbox hbX; have HX := Lib.hid hbX; have HG2 := Lib.hid hbox; clear hg2 hbox hbX)
 go_loopg [6, 10] l.length (fun gn v6 v10 wr => ∃ (i : Nat) (h2 : Hp), v10 = .int .i64 (i : Int) ∧ Aside0 (gn = l.length - i) ∧ Aside0 (i ≤ l.length) ∧ Aside0 (HM wr gp w0.heap.size (T + Hv.serW (l.take i)) h2) ∧ Aside0 (cont h2 = (l.take i).foldl (add1 b.need) (cont hm)) ∧ Aside0 (Bt.Is wr w0.heap.size g gm gp vO vL { b with pts := pmOf h2 }) ∧ Aside0 (Below w0.heap.size w0 wr) ∧ Aside0 (Kp X wr gp) ∧ Aside0 (Ft X wr gp hm h2))
 case atStart => exact ⟨0, hm, rfl, ⟨rfl⟩, ⟨Nat.zero_le _⟩, ⟨HMM.out.below HX.out⟩, ⟨rfl⟩, ⟨Is_kp HI.out (Kp.of_below HX.out) (HMM.out.below HX.out).map.pm⟩, ⟨below_then HBW.out HBW.out.size HX.out⟩, ⟨Kp.refl _ _⟩, ⟨Ft.refl _ _ _⟩⟩
 case round =>
  obtain ⟨i, h2, rfl, HN, HI2, HM2, HC2, HIS, HB2, HK2, HF2⟩ := hrel; have HGC := Lib.hid (HK2.out.blk HG2.out (fun e => (XM.MapIs.below HI.out.pts HX.out).noCells HG2.out e.symm) (by decide))
  by_cases hi : i < l.length
  ·
   have hi0 : (i : Int) < (l.length : Int) := by omega
   have hwi := wrap_lt i l.length hi HLM.out; obtain ⟨ad, A1, c1, e1, r0, r1, hle, hC1⟩ := at_T55 HL.out (i : Int) (by omega) hi0; cases e1; rw [Int.toNat_natCast] at r0 r1
   obtain ⟨x, hx⟩ : ∃ x, rd_T55 l (i : Int) = x := ⟨_, rfl⟩
   rw [hx] at r0 r1 hle hC1; have hxl : l[i] = x := by rw [← hx, Hv.rdSer hi]
   have hst := serW_take hi; rw [hxl] at hst; have hfo := fold_take hi b.need (cont hm); rw [hxl, ← HC2.out] at hfo; have hle2 := serW_take_le l (i + 1); have HIX := Lib.hid (show x.f0.size ≤ maxLen from HIDS.out x (by rw [← hxl]; exact List.getElem_mem hi)); have HIN := Lib.hid (show ∀ k, k = l.length - i → l.length - (i + 1) < k by intro k hk; omega); have q0 : wr.cell? (ad.add (i * 2)) = some (.string x.f0) := pw_cell_below HB2.out r0; have q1 : wr.cell? ⟨(ad.add (i * 2)).block, (ad.add (i * 2)).off + 1, none⟩ = some (.slice A1 x.f1.length c1) := pw_cell_below HB2.out r1; have HAL := Lib.hid (below_alloc (Below.refl wr.heap.size wr) (.cells #[.string x.f0, .slice A1 x.f1.length c1] 55)); have HFO := Lib.hid hfo; have HLE := Lib.hid hle; have HCX := Lib.hid hC1; have HTX := Lib.hid (show T + Hv.serW (l.take i) + x.f1.length ≤ T + Hv.serW (l.take (i + 1)) by omega); have HTY := Lib.hid (show T + Hv.serW (l.take i) + x.f1.length ≤ 1000000 by have := HT.out; omega); have HC1 := Lib.hid (fun W (hW : Below wr.heap.size wr W) => hold1_calls w0 W g gm gp g2 vO vL { b with pts := pmOf h2 } h2 (T + Hv.serW (l.take i)) (HIS.out.below hW) (HM2.out.below hW) (below_then HB2.out HB2.out.size hW) (blk_below HGC.out hW) x A1 c1 HCX.out HLE.out HIX.out HTY.out); clear hx hxl hst hfo hle2 r0 r1 hle hC1; go_wp2_with fail
   with_reducible refine (HC1.out _ HAL.out).mono ?_
   rintro e w5 ⟨rfl, h5, hM5, hc5, hI5, hB5, hK5, hF5⟩; have HM5 := Lib.hid (hM5.more HTX.out); have HC5 := Lib.hid (hc5.trans HFO.out.symm); have HI5 := Lib.hid hI5; have HB5 := Lib.hid hB5; have HK5 := Lib.hid (HK2.out.then_ ((Kp.of_below HAL.out).then_ hK5)); have HF5 := Lib.hid (HF2.out.then_ ((Ft.of_below HAL.out gp h2).then_ hF5)); clear hM5 hc5 hI5 hB5 hK5 hF5 HC1 HCX q0 q1; go_wp2_with fail
   go_roundg (l.length - (i + 1))
   case measure => exact HIN.out _ HN.out
   case rel => exact ⟨i + 1, h5, by (rw [hwi]; rfl), ⟨rfl⟩, ⟨hi⟩, ⟨HM5.out⟩, ⟨HC5.out⟩, ⟨HI5.out⟩, ⟨HB5.out⟩, ⟨HK5.out⟩, ⟨HF5.out⟩⟩
  ·
   have hge : ¬ (i : Int) < (l.length : Int) := by omega
   have hie : i = l.length := by have := HI2.out; omega
   have hM9 := HM2.out; have hC9 := HC2.out; rw [hie, List.take_length] at hM9 hC9; have HM9 := Lib.hid hM9; have HC9 := Lib.hid hC9; clear hM9 hC9 hie; go_wp2; go_end0; exact ⟨rfl, h2, HM9.out, HC9.out, HIS.out, HB2.out, (Kp.of_below HX.out).then_ HK2.out, (Ft.of_below HX.out gp hm).then_ HF2.out⟩
end Hm
end Go.Proofs.YtiinmagnpkfbbaaGreat
end
