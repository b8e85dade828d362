-- Laid by wip/tools/myprint.py of this repo. Not trusted: Lean checks it.
import Derived.Test.YtgagcimfkmegnaaAHear
import Derived.Test.YtgagcimfkmegnaaAPts
section
namespace Go.Proofs.Ytgagcimfkmegnaa
set_option linter.unusedVariables false
set_option linter.unusedSimpArgs false
open Go.RowKit Go.Proofs.YtgagcimfkmegnaaW.PrintWords Go.Proofs.YtgagcimfkmegnaaW.PrintLast Go.Proofs.YtgagcimfkmegnaaW.PrintMore Go.Proofs.Ytgagcimfkmegnaa.QT
namespace Hv
def metW (l : List S25) : Nat := (l.map (fun x => x.f0.size)).sum
def msgW (m : S46) : Nat := m.f11.length + m.f12.length + metW m.f12
def msgsW (l : List S46) : Nat := (l.map msgW).sum
theorem metW_cons (x : S25) (l : List S25) : metW (x :: l) = x.f0.size + metW l := by unfold metW; rw [List.map_cons, List.sum_cons]
theorem msgsW_cons (x : S46) (l : List S46) : msgsW (x :: l) = msgW x + msgsW l := by unfold msgsW; rw [List.map_cons, List.sum_cons]
theorem rdMsg {l : List S46} {i : Nat} (h : i < l.length) : rd_T46 l (i : Int) = l[i] := by
 unfold rd_T46; rw [Int.toNat_natCast, List.getD_eq_getElem?_getD, List.getElem?_eq_getElem h]; rfl
theorem rdMet {l : List S25} {i : Nat} (h : i < l.length) : rd_T25 l (i : Int) = l[i] := by
 unfold rd_T25; rw [Int.toNat_natCast, List.getD_eq_getElem?_getD, List.getElem?_eq_getElem h]; rfl
theorem mn_cap (a : Nat) : 0 ≤ mn (a : Int) 1048576 ∧ mn (a : Int) 1048576 ≤ 1048576 ∧ (mn (a : Int) 1048576 ≤ 4096 → mn (a : Int) 1048576 = a) := by
 unfold mn
 split <;> omega
theorem heavy_in (l : List S46) (hl : l.length ≤ 9223372036854775807) (i : Nat) (hi : i < l.length) (hL : l[i].f12.length ≤ 9223372036854775807) (W : Nat)
  (K : ∀ x : Int, 0 ≤ x → ∃ r, Ev (fun k => thermographlaw17_heavy.l0 k l x ((i : Int) + 1)) r ∧ (r = false → x + (W : Int) ≤ 4096)) :
  ∀ (d j : Nat) (x : Int), j + d = l[i].f12.length → 0 ≤ x → x ≤ 2101248 → ∃ r, Ev (fun k => thermographlaw17_heavy.l1 k l x (i : Int) (j : Int)) r ∧ (r = false → x + (metW (l[i].f12.drop j) : Int) + (W : Int) ≤ 4096)
 | 0, j, x, hd, h0, h1 => by
  obtain ⟨r, hr, hh⟩ := K x h0; refine ⟨r, Ev.step (fun k => ?_) hr, fun h => ?_⟩
  ·
   rw [thermographlaw17_heavy.l1, rdMsg hi, if_pos (by omega), if_pos (by omega), if_neg (by omega)]; have : wrap64 ((i : Int) + 1) = (i : Int) + 1 := by unfold wrap64; omega
   rw [this]
  ·
   have := hh h; rw [List.drop_eq_nil_of_le (by omega)]; show x + 0 + (W : Int) ≤ 4096
   omega
 | d + 1, j, x, hd, h0, h1 => by
  have hj : j < l[i].f12.length := by omega
  by_cases hx : x ≤ 4096
  ·
   obtain ⟨a0, a1, a2⟩ := mn_cap (l[i].f12[j].f0.size); obtain ⟨r, hr, hh⟩ := heavy_in l hl i hi hL W K d (j + 1) (x + mn (l[i].f12[j].f0.size : Int) 1048576) (by omega) (by omega) (by omega); refine ⟨r, Ev.step (fun k => ?_) hr, fun h => ?_⟩
   ·
    rw [thermographlaw17_heavy.l1, rdMsg hi, rdMet hj, if_pos (by omega), if_pos (by omega), if_pos (by omega), if_pos hx, if_pos (by omega)]; generalize mn (l[i].f12[j].f0.size : Int) 1048576 = p at *; have e1 : wrap64 (x + p) = x + p := by unfold wrap64; omega
    have e2 : wrap64 ((j : Int) + 1) = ((j + 1 : Nat) : Int) := by unfold wrap64; omega
    rw [e1, e2]
   ·
    have := hh h; rw [List.drop_eq_getElem_cons hj, metW_cons]; generalize mn (l[i].f12[j].f0.size : Int) 1048576 = p at *; have := a2 (by omega)
    push_cast
    omega
  ·
   obtain ⟨r, hr, hh⟩ := K x h0; refine ⟨r, Ev.step (fun k => ?_) hr, fun h => ?_⟩
   ·
    rw [thermographlaw17_heavy.l1, rdMsg hi, if_pos (by omega), if_pos (by omega), if_pos (by omega), if_neg hx]; have : wrap64 ((i : Int) + 1) = (i : Int) + 1 := by unfold wrap64; omega
    rw [this]
   ·
    have := hh h; omega
theorem heavy_out (l : List S46) (hl : l.length ≤ 9223372036854775807) (hL : ∀ s ∈ l, s.f12.length ≤ 9223372036854775807) :
  ∀ (d i : Nat) (x : Int), i + d = l.length → 0 ≤ x → ∃ r, Ev (fun k => thermographlaw17_heavy.l0 k l x (i : Int)) r ∧ (r = false → x + (msgsW (l.drop i) : Int) ≤ 4096)
 | 0, i, x, hd, h0 => by
  refine ⟨decide (x > 4096), Ev.step (f := fun k => thermographlaw17_heavy.j1 k l x (i : Int) false) (fun k => by rw [thermographlaw17_heavy.l0, if_neg (by omega)]) (Ev.step (f := fun _ => some _) (fun k => by rw [thermographlaw17_heavy.j1, if_neg (by simp)]) (Ev.now _)), fun h => ?_⟩; have := of_decide_eq_false h; rw [List.drop_eq_nil_of_le (by omega)]; show x + 0 ≤ 4096
  omega
 | d + 1, i, x, hd, h0 => by
  have hi : i < l.length := by omega
  by_cases hx : x ≤ 4096
  ·
   obtain ⟨a0, a1, a2⟩ := mn_cap (l[i].f11.length); obtain ⟨b0, b1, b2⟩ := mn_cap (l[i].f12.length)
   obtain ⟨r, hr, hh⟩ := heavy_in l hl i hi (hL _ (List.getElem_mem hi)) (msgsW (l.drop (i + 1))) (fun x hx0 => by
    have := heavy_out l hl hL d (i + 1) x (by omega) hx0
    rwa [show ((i + 1 : Nat) : Int) = (i : Int) + 1 by omega] at this) (l[i].f12.length) 0 (x + (mn (l[i].f11.length : Int) 1048576 + mn (l[i].f12.length : Int) 1048576)) (by omega) (by omega) (by omega)
   refine ⟨r, Ev.step (f := fun k => thermographlaw17_heavy.j1 k l x (i : Int) true) (fun k => by rw [thermographlaw17_heavy.l0, if_pos (by omega), decide_eq_true hx]) (Ev.step (fun k => ?_) hr), fun h => ?_⟩
   ·
    rw [thermographlaw17_heavy.j1, if_pos rfl, if_pos (by omega), if_pos (by omega), rdMsg hi]; generalize mn (l[i].f11.length : Int) 1048576 = p at *; generalize mn (l[i].f12.length : Int) 1048576 = q at *; have e1 : wrap64 (x + (p + q)) = x + (p + q) := by unfold wrap64; omega
    rw [e1]; rfl
   ·
    have := hh h; rw [List.drop_eq_getElem_cons hi, msgsW_cons]; rw [List.drop_zero] at this; unfold msgW; generalize mn (l[i].f11.length : Int) 1048576 = p at *; generalize mn (l[i].f12.length : Int) 1048576 = q at *; have := a2 (by omega); have := b2 (by omega)
    push_cast
    omega
  ·
   refine ⟨true, Ev.step (f := fun k => thermographlaw17_heavy.j1 k l x (i : Int) false) (fun k => by rw [thermographlaw17_heavy.l0, if_pos (by omega), decide_eq_false hx]) (Ev.step (f := fun _ => some _) (fun k => by rw [thermographlaw17_heavy.j1, if_neg (by simp), decide_eq_true (by omega)]) (Ev.now _)), fun h => by cases h⟩
theorem heavy_any (w : World) (A : Option Addr) (c : Nat) (l : List S46) (hC : Kd.C k46 w A l.length l) (hc : l.length ≤ c) (hl : l.length ≤ 9223372036854775807) (hL : ∀ s ∈ l, s.f12.length ≤ 9223372036854775807) :
  ∃ r : Bool, (r = false → l.length + msgsW l ≤ 4096) ∧ Calls Try.prog 7 #[.slice A l.length c] w fun e w' => e = .returned (.bool r) ∧ Below w.heap.size w w' := by
 obtain ⟨r, hr, hh⟩ := heavy_out l hl hL l.length 0 (l.length : Int) (by omega) (by omega); have hf : Ev (fun k => thermographlaw17_heavy.f k l) r := Ev.congr (fun k => by unfold thermographlaw17_heavy.f; rfl) hr; obtain ⟨k, hk⟩ := hf.rounds; exact ⟨r, fun h => by have := hh h; rw [List.drop_zero] at this; omega, thermographlaw17_heavy.calls k A c l r w hC hc hk⟩
end Hv
end Go.Proofs.Ytgagcimfkmegnaa
end
section
namespace Go.Proofs.Ytgagcimfkmegnaa
set_option linter.unusedVariables false
set_option linter.unusedSimpArgs false
open Go.RowKit Go.Proofs.YtgagcimfkmegnaaW.PrintWords Go.Proofs.YtgagcimfkmegnaaW.PrintLast Go.Proofs.YtgagcimfkmegnaaW.PrintMore Go.Proofs.Ytgagcimfkmegnaa.QT
namespace Pa
open Ps
open Hm (Hp HM HMap cur put Sh)
def srv (s : Sr) : Sr := ⟨s.f0, Vw.view s.f1⟩
/-- Behind i series: their metas, their views. -/
structure Gs (l : List Sr) (i : Nat) (M : List Me) (D : List Sr) : Prop where
 gd : Gd M D
 eq : D = (l.take i).map srv
theorem rdS {l : List Sr} {i : Nat} (h : i < l.length) : rd_T65 l (i : Int) = l[i] := by
 unfold rd_T65; rw [Int.toNat_natCast, List.getD_eq_getElem?_getD, List.getElem?_eq_getElem h]; rfl
theorem gs_ser {l : List Sr} {i : Nat} {M : List Me} {D : List Sr} (h : Gs l i M D) (hl : l.length ≤ 40) {x : Int} (hx : x = (i : Int)) (hi : i < l.length) {s t : Sr} {j : Int} (hs : rd_T65 l x = s) (hj : x > 0 → wrap64 (x - 1) = j ∧ rd_T65 l j = t) (h0 : x > 0 → Op.bytesLess t.f0.toList s.f0.toList = true) (hne : s.f0.toList ≠ []) : Gd M (D ++ [⟨s.f0, []⟩]) := by
 refine gd_ser h.gd (fun d hd => ?_) (by rw [← toL]; exact hne); rcases Nat.eq_zero_or_pos i with e | hp
 ·
  rw [h.eq, e] at hd; cases hd
 ·
  have hxp : x > 0 := by omega
  have h1 := h0 hxp; obtain ⟨hj1, hj2⟩ := hj hxp; rw [bytesLess_eq, decide_eq_true_iff, toL, toL] at h1
  obtain ⟨k, rfl⟩ : ∃ k, i = k + 1 := ⟨i - 1, by omega⟩
  have hk : k < l.length := by omega
  have hjk : j = (k : Int) := by rw [← hj1, hx]; unfold wrap64; omega
  have ht : t = l[k] := by rw [← hj2, hjk, rdS hk]
  have hD : D = (l.take k).map srv ++ [srv l[k]] := by rw [h.eq, List.take_succ_eq_append_getElem hk, List.map_append]; rfl
  have hnm := h.gd.nm; rw [hD] at hd hnm; have hlast : ltB (srv l[k]).f0 s.f0 := by rw [ht] at h1; exact h1
  rcases List.mem_append.1 hd with h5 | h5
  ·
   exact List.lt_trans ((List.pairwise_append.1 hnm).2.2 d h5 _ (List.mem_singleton.2 rfl)) hlast
  ·
   rw [List.mem_singleton.1 h5]; exact hlast
theorem gs_next {l : List Sr} {i : Nat} {M M' : List Me} {D : List Sr} (h : Gs l i M D) (hi : i < l.length) {s : Sr} (hs : l[i] = s) {vw : List Pt} (hv : Vw.view s.f1 = vw) (hg : Gd M' (D ++ [⟨s.f0, vw⟩])) : Gs l (i + 1) M' (D ++ [⟨s.f0, vw⟩]) :=
 ⟨hg, by rw [h.eq, List.take_succ_eq_append_getElem hi, List.map_append, hs]; unfold srv; rw [← hv]; rfl⟩
theorem gs_pt {M : List Me} {D : List Sr} {n : ByteArray} {vw : List Pt} {k : Nat} (h : Gd M (D ++ [⟨n, vw.take k⟩])) (hk : k < vw.length) (hu : Vw.Up vw) (hl : vw.length ≤ 64) {p : Pt} (hp : vw[k] = p) (h0 : 0 ≤ p.f0) (h1 : p.f0 ≤ 1099511627776) : Gd (addM M (mk n p)) (D ++ [⟨n, vw.take (k + 1)⟩]) := by
 have e : vw.take (k + 1) = vw.take k ++ [p] := by rw [List.take_succ_eq_append_getElem hk, hp]
 rw [e]; refine gd_pt h ?_ h0 h1 ?_
 ·
  rw [← e]; exact hu.sublist (List.take_sublist _ _)
 ·
  rw [← e]; exact Nat.le_trans (List.length_take_le _ _) (by omega)
theorem rdP {l : List Pt} {i : Nat} (h : i < l.length) : rd_T42 l (i : Int) = l[i] := by
 unfold rd_T42; rw [Int.toNat_natCast, List.getD_eq_getElem?_getD, List.getElem?_eq_getElem h]; rfl
theorem view_calls (w : World) (A : Option Addr) (c : Nat) (l : List Pt) (hC : Kd.C k42 w A l.length l) (hc : l.length ≤ c) (hl : l.length ≤ 1000000) :
  Calls Try.prog 22 #[.slice A l.length c] w fun e w' => ∃ v0_ : Value, e = .returned v0_ ∧ Kd.R k42 42 w' w.heap.size (fun _ => True) v0_ (Vw.view l) ∧ Below w.heap.size w w' := by
 obtain ⟨k, hk⟩ := (Vw.view_ref l (by omega)).rounds; exact thermographref06_View.calls k A c l _ w hC hc hk
/-- The row of the series stands where the row of the metas has grown. -/
theorem N_grown {W w1 : World} {b : Nat} {u v1 vl : Value} {D : List Sr} (h : Kd.N k65 65 W b (fun k => some k ≠ u.ownBlock) vl D) (hg : W.grownBy w1 u.ownBlock) (hat : v1.ownBlock = u.ownBlock ∨ ∃ k, v1.ownBlock = some k ∧ W.heap.size ≤ k) : Kd.N k65 65 w1 b (fun k => some k ≠ v1.ownBlock) vl D := by
 refine Kd.N_mono (Kd.N_keptB (S := fun k => u.ownBlock = some k) h (Kept.of_grown hg (Kept.refl _ _) (fun k hk => .inl hk)) (fun k hk e => hk e.symm)) (fun k hk => ?_); rcases hat with e | ⟨k2, e, h2⟩
 ·
  rw [e]; exact hk.1
 ·
  rw [e]; intro h3; cases h3; have := hk.2.2; omega
theorem ne_last {M : List Me} {j : Int} (hM : ¬ M = []) (hl : M.length ≤ 1000000) (hj : wrap64 ((M.length : Int) - 1) = j) {m0 : Me} (h0 : rd_T25 M j = m0) (n : ByteArray) (b : Int) : (!(m0.f0.toList == n.toList) || (!(m0.f1 == b) || (!(m0.f2 == 0) || !(m0.f3 == 0)))) = !decide (M.getLast? = some ⟨n, b, 0, 0⟩) := by
 obtain ⟨M0, y, rfl⟩ : ∃ M0 y, M = M0 ++ [y] := ⟨M.dropLast, M.getLast hM, (List.dropLast_concat_getLast hM).symm⟩
 have e : j = (M0.length : Int) := by rw [← hj, List.length_append, List.length_singleton]; rw [List.length_append, List.length_singleton] at hl; unfold wrap64; omega
 have hy : m0 = y := by rw [← h0, e]; unfold rd_T25; rw [Int.toNat_natCast]; simp
 subst hy; rw [show (M0 ++ [m0]).getLast? = some m0 by simp]
 by_cases h : m0 = ⟨n, b, 0, 0⟩
 ·
  subst h; simp
 ·
  rw [decide_eq_false (by simpa using h), Bool.not_false]
  by_cases h1 : m0.f0.toList = n.toList
  ·
   by_cases h2 : m0.f1 = b
   ·
    by_cases h3 : m0.f2 = 0
    ·
     have h4 : ¬ m0.f3 = 0 := fun h4 => h (by cases m0; simp only at h1 h2 h3 h4; rw [toList_inj h1, h2, h3, h4]); simp [h4]
    ·
     simp [h3]
   ·
    simp [h2]
  ·
   simp [h1]
theorem addM_app {M : List Me} {m : Me} (h : true = !decide (M.getLast? = some m)) : addM M m = M ++ [m] := by
 unfold addM; rw [if_neg (by simpa using h.symm)]
theorem addM_same {M : List Me} {m : Me} (h : false = !decide (M.getLast? = some m)) : addM M m = M := by
 unfold addM; rw [if_pos (by simpa using h.symm)]
theorem pftA_lt {w : World} {B g gm T : Nat} {x : Fx} {a : Fa} {c : Me} {vM : Value} {hm : Hp} (hI : FIs w B g gm vM x c a) (hM : Hm.HM w gm B T hm) : ∀ k, PFt g gm vM hm k → k < w.heap.size := by
 rintro k (rfl | h | rfl | ⟨e, he, h⟩)
 ·
  exact blk_lt hI.blk
 ·
  exact Kd.Q_lt hI.met k h
 ·
  exact hM.map.lt
 ·
  exact Kd.R_lt (hM.rows e he) k h
theorem qmsg_live (fx : Fx) {a : Fa} (hl : a.live = true) : ∃ kd e0 p0 h0 q b r0 r1, qmsg fx a = mc kd a.seq e0 p0 h0 q b r0 r1 ∧ ((a.pg = false ∧ kd = 5 ∧ q = a.id ∧ b = a.blk) ∨ (a.pg = true ∧ kd = 7 ∧ q = (rd_T25 a.L a.n).f0 ∧ b = (rd_T25 a.L a.n).f1)) := by
 unfold qmsg; rw [if_pos hl]
 cases hp : a.pg with
 | false => rw [if_neg (by simp)]; exact ⟨_, _, _, _, _, _, _, _, rfl, .inl ⟨rfl, rfl, rfl, rfl⟩⟩
 | true => rw [if_pos rfl]; exact ⟨_, _, _, _, _, _, _, _, rfl, .inr ⟨rfl, rfl, rfl, rfl⟩⟩
/-- What an answer brings. -/
structure Step (M : List Me) (D : List Sr) (a : Fa) (m : S46) : Prop where
 hit : Ps.hit a m = true
 sq : m.f1 = a.seq
 iv : Iv M (hearA 60 a m)
 rm : rem M (hearA 60 a m) + 1 ≤ rem M a
 se : (hearA 60 a m).seq = a.seq + 1
 len : m.f11.length ≤ 64
 no : Ps.good 60 a m = false → (hearA 60 a m).n = a.n
 yes : Ps.good 60 a m = true → (hearA 60 a m).n = a.n + 1 ∧ ∃ h : a.n < (srtM M).length, (rd_T25 a.L a.n).f0 = (srtM M)[a.n].f0 ∧ m.f11 = pts D (srtM M)[a.n].f0 (srtM M)[a.n].f1
theorem step_page {M : List Me} {D : List Sr} {a : Fa} (h : Iv M a) (hl : a.live = true) (hp : a.pg = false) (hs : 0 ≤ a.seq ∧ a.seq ≤ 1000000) : Step M D a (pmsg a.seq (page M a.blk a.id)) := by
 obtain ⟨h1, h2, h3, h4, h5⟩ := page_step h hl hp hs; exact ⟨hit_pg hl hp _, rfl, h1, h2, h3, Nat.zero_le _, (fun _ => h5), (fun e => by rw [h4] at e; cases e)⟩
theorem live_n {M : List Me} {a : Fa} (h : Iv M a) (hl : a.live = true) (hp : a.pg = true) : a.n < a.L.length := by
 have h1 := h.n; unfold Ps.Fa.live Ps.Fa.fin at hl; rw [hp] at hl; rcases Nat.lt_or_ge a.n a.L.length with h2 | h2
 ·
  exact h2
 ·
  rw [show a.n = a.L.length from by omega] at hl; simp at hl
theorem step_block {M : List Me} {D : List Sr} {a : Fa} (hd : Gd M D) (h : Iv M a) (hl : a.live = true) (hp : a.pg = true) (hs : 0 ≤ a.seq ∧ a.seq ≤ 1000000) : Step M D a (bmsg a.seq (pts D (rd_T25 a.L a.n).f0 (rd_T25 a.L a.n).f1)) := by
 have hn := live_n h hl hp; have hn2 : a.n < (srtM M).length := by obtain ⟨Q2, e, -⟩ := h.sp; rw [e, List.length_append]; omega
 have hr := rd_at h hp hn; rw [hr]; have hm : (srtM M)[a.n] ∈ srtM M := List.getElem_mem hn2; obtain ⟨h1, h2, h3, h4, h5⟩ := block_step h hl hp hs (pts D (srtM M)[a.n].f0 (srtM M)[a.n].f1) (by rw [hr]; exact ok_block hd hm); refine ⟨hit_bl hl hp _, rfl, h1, h2, h3, ?_, (fun e => by rw [h4] at e; cases e), (fun _ => ⟨h5, hn2, by rw [hr], rfl⟩)⟩; obtain ⟨s, hs2, p, hp2, e⟩ := (hd.mem _).1 (mem_srt.1 hm); show (pts D (srtM M)[a.n].f0 (srtM M)[a.n].f1).length ≤ 64; rw [e, show (mk s.f0 p).f0 = s.f0 from rfl, pts_at hd hs2]; exact Nat.le_trans (List.length_filter_le _ _) (hd.sz s hs2)
/-- What was told, behind an answer. -/
theorem Step.told {w0 w w' : World} {g gm T : Nat} {fx : Fx} {vM vM' : Value} {hm hm' : Hp} {c' : Me} {M : List Me} {D : List Sr} {a : Fa} {m : S46} (h : Step M D a m) (hz : fx.sz = 60) (ht : (fun k => (cur hm k).2) = toldOf D M a.n) (ho : HearOut w0 w g gm fx vM hm T a m w' c' vM' hm') : (fun k => (cur hm' k).2) = toldOf D M (hearA 60 a m).n := by
 have h1 := ho.told; have h2 := ho.not; rw [hz] at h1 h2
 cases hg : Ps.good 60 a m with
 | false => rw [h2 hg, h.no hg]; exact ht
 | true =>
  obtain ⟨v1, e⟩ := h1 hg; obtain ⟨e1, hn, e2, e3⟩ := h.yes hg; rw [e, cur_tell, ht, e1, told_succ hn, e2, e3]
theorem rem_pos {M : List Me} {a : Fa} (h : Iv M a) (hl : a.live = true) : 1 ≤ rem M a := by
 unfold rem
 cases hp : a.pg with
 | false => rw [if_neg (by simp)]; omega
 | true =>
  rw [if_pos rfl]; have h1 := live_n h hl hp; obtain ⟨Q2, e, -⟩ := h.sp; rw [e, List.length_append]; omega
theorem dead_fin {M : List Me} {a : Fa} (h : Iv M a) (hl : a.live = false) : (a.er == 0 && a.fin) = true ∧ a.n = (srtM M).length := by
 unfold Ps.Fa.live at hl; rw [h.er] at hl ⊢; have hf : a.fin = true := by simpa using hl
 refine ⟨by rw [hf]; rfl, ?_⟩; unfold Ps.Fa.fin at hf; rw [Bool.and_eq_true, beq_iff_eq] at hf; obtain ⟨Q2, e, -, -, h4⟩ := h.sp; rw [hf.2, e, h4 hf.1, List.append_nil]
theorem srv_sz {l : List Sr} {M : List Me} (hid : ∀ s ∈ l, s.f0.size ≤ maxLen) (hd : Gd M (l.map srv)) {a : Fa} (h : Iv M a) : ∀ e ∈ a.L, e.f0.size ≤ maxLen := fun e he => by
 obtain ⟨Q2, e1, -⟩ := h.sp; have h1 : e ∈ srtM M := by rw [e1]; exact List.mem_append_left _ he
 obtain ⟨s, hs, p, hp, rfl⟩ := (hd.mem e).1 (mem_srt.1 h1); obtain ⟨s0, hs0, rfl⟩ := List.mem_map.1 hs; exact hid s0 hs0
theorem L_len {M : List Me} {a : Fa} (h : Iv M a) : a.L.length ≤ M.length := by
 obtain ⟨Q2, e, -⟩ := h.sp; have := congrArg List.length e; rw [List.length_append, (srtM_srt M).same.perm.length_eq] at this; omega
theorem want_snoc {D : List Sr} {k : Nat} (hk : k < D.length) : want (D.take (k + 1)) = want (D.take k) ++ (if (D[k].f1.length : Int) > 0 then [D[k]] else []) := by
 unfold want; rw [List.take_succ_eq_append_getElem hk, List.filter_append]
 congr 1
 by_cases h : (D[k].f1.length : Int) > 0
 ·
  rw [if_pos h, List.filter_cons_of_pos (by simpa using h), List.filter_nil]
 ·
  rw [if_neg h, List.filter_cons_of_neg (by simpa using h), List.filter_nil]
theorem nd_of {w : World} {gm B T : Nat} {hm : Hp} (h : Hm.HM w gm B T hm) : (hm.map (·.1)).Nodup := by
 obtain ⟨es, clock, h1, h2, h3, h4, h5⟩ := h.map; exact XM.nodup_of h3 h4
theorem want_len {M : List Me} {D : List Sr} (h : Gd M D) (hD : D.length ≤ 40) : (want D).length ≤ 1000000 ∧ ∀ s ∈ want D, s.f1.length ≤ 1000000 :=
 ⟨by have := List.length_filter_le (fun s : Sr => decide ((s.f1.length : Int) > 0)) D; unfold want; omega, fun s hs => by have := h.sz s (List.mem_filter.1 hs).1; omega⟩
theorem page_len (M : List Me) (b : Int) (q : ByteArray) : (page M b q).1.length ≤ 8 := by
 unfold page
 split
 ·
  assumption
 ·
  rw [List.length_take]; omega
end Pa
end Go.Proofs.Ytgagcimfkmegnaa
end
section
set_option maxHeartbeats 8000000
set_option maxRecDepth 100000
namespace Go.Proofs.Ytgagcimfkmegnaa.QS
open Go.Proofs.Ytgagcimfkmegnaa.QT
open Go.RowKit Go.Proofs.YtgagcimfkmegnaaW.PrintWords Go.Proofs.YtgagcimfkmegnaaW.PrintLast Go.Proofs.YtgagcimfkmegnaaW.PrintMore
attribute [local go_sem] max2_int min2_int max_two min_two max_three min_three max_four min_four   -- for this text's walks alone
set_option linter.unusedVariables false
set_option linter.unusedSimpArgs false
def cmp_Or_int.l0 : Nat → Int → List Int → Int → Int → Option (Int)
 | 0, _, _, _, _ => none
 | k + 1, x3, x6, x7, x8 => if x8 < x7 then (if 0 ≤ x8 then (if x8 < (x6.length : Int) then (if (rd x6 x8) = x3 then (cmp_Or_int.l0 k x3 x6 x7 (wrap64 (x8 + 1))) else (some (rd x6 x8))) else (none)) else (none)) else (some x3)
def cmp_Or_int.f (k : Nat) (l0 : List Int) : Option (Int) := cmp_Or_int.l0 k 0 l0 (l0.length : Int) 0
theorem cmp_Or_int.calls (k : Nat) (A0 : Option Addr) (c0 : Nat) (l0 : List Int) (r : Int) (w : World) (hr0 : Kd.C (Kd.int .i64) w A0 l0.length l0) (hc0 : l0.length ≤ c0) (h : cmp_Or_int.f k l0 = some r) :
  Calls Try.prog 40 #[.slice A0 l0.length c0] w fun e w' => e = .returned (.int .i64 r) ∧ Drawn0 w w' := by
 have HR0 := Aside0.mk hr0; clear hr0 hc0; have H : (cmp_Or_int.l0 k 0 l0 (l0.length : Int) 0) = some r := h; clear h; have H' := Aside0.mk H; clear H; go_enter Try.func40, Try.ntmps40
 go_wp2; go_loopg [8] k (fun kq v8 w' => ∃ (x8_1 : Int), v8 = .int .i64 x8_1 ∧ Aside0 (cmp_Or_int.l0 kq 0 l0 (l0.length : Int) x8_1 = some r) ∧ Aside0 (kq ≤ k) ∧ Drawn0 w w')
 case atStart => exact ⟨(0), (by rfl), H', ⟨Nat.le_refl _⟩, by repeat (exact Drawn0.refl _)⟩
 case round =>
  clear H'; obtain ⟨x8_1, rfl, HA, HK1, ⟨m1, rfl⟩⟩ := hrel
  cases gk with
  | zero => exact absurd HA.out (by simp [cmp_Or_int.l0])
  | succ k1 =>
   have H := HA.out; clear HA; simp only [cmp_Or_int.l0] at H
   by_cases c2 : x8_1 < (l0.length : Int)
   ·
    rw [if_pos c2] at H; have c2b0 : decide (x8_1 < (l0.length : Int)) = true := decide_eq_true c2; clear c2
    by_cases c3 : 0 ≤ x8_1
    ·
     rw [if_pos c3] at H; have c3b0 : decide (0 ≤ x8_1) = true := decide_eq_true c3; clear c3
     by_cases c4 : x8_1 < (l0.length : Int)
     ·
      rw [if_pos c4] at H; have c4b0 : decide (x8_1 < (l0.length : Int)) = true := decide_eq_true c4; clear c4
      by_cases c5 : (rd l0 x8_1) = 0
      ·
       rw [if_pos c5] at H; have c5b1 : ((rd l0 x8_1) != 0) = false := bne_eq_false_iff_eq.mpr c5; clear c5; have H' := Aside0.mk H; clear H; have p101 : 0 ≤ (x8_1 : Int) := of_decide_eq_true (by with_reducible assumption); have q101 : x8_1 < (l0.length : Int) := of_decide_eq_true (by with_reducible assumption); obtain ⟨ad101, e101, hx101_0⟩ := Kd.at_int HR0.out x8_1 p101 q101; cases e101; replace p101 := eq_true p101; replace q101 := eq_true q101; go_wp2; go_roundg k1
       case measure => have := HK1.out; omega
       case rel => exact ⟨(wrap64 (x8_1 + 1)), (by rfl), H', ⟨by have := HK1.out; omega⟩, by repeat (first | exact Drawn0.refl _ | apply Drawn0.step)⟩
      ·
       rw [if_neg c5] at H; have c5b1 : ((rd l0 x8_1) != 0) = true := bne_iff_ne.mpr c5; obtain rfl := Option.some.inj H; have p101 : 0 ≤ (x8_1 : Int) := of_decide_eq_true (by with_reducible assumption); have q101 : x8_1 < (l0.length : Int) := of_decide_eq_true (by with_reducible assumption); obtain ⟨ad101, e101, hx101_0⟩ := Kd.at_int HR0.out x8_1 p101 q101; cases e101; replace p101 := eq_true p101; replace q101 := eq_true q101; go_wp2; go_ret; exact ⟨by rfl, by repeat (first | exact Drawn0.refl _ | apply Drawn0.step)⟩
     ·
      rw [if_neg c4] at H; exact absurd H (by simp)
    ·
     rw [if_neg c3] at H; exact absurd H (by simp)
   ·
    rw [if_neg c2] at H; have c2b0 : decide (x8_1 < (l0.length : Int)) = false := decide_eq_false c2; clear c2; obtain rfl := Option.some.inj H; go_wp2; go_ret; exact ⟨by rfl, by repeat (first | exact Drawn0.refl _ | apply Drawn0.step)⟩
def cmp_isNaN_int.f (a0 : Int) : Option (Bool) := some (a0 != a0)
theorem cmp_isNaN_int.calls (a0 : Int) (r : Bool) (w : World) (h : cmp_isNaN_int.f a0 = some r) :
  Calls Try.prog 57 #[.int .i64 a0] w fun e w' => e = .returned (.bool r) ∧ Drawn0 w w' := by
 have H : (some (a0 != a0)) = some r := h; clear h; obtain rfl := Option.some.inj H; go_enter Try.func57, Try.ntmps57
 go_wp2; go_ret; exact ⟨by rfl, by repeat (exact Drawn0.refl _)⟩
def cmp_Compare_int.f (a0 : Int) (a1 : Int) : Option (Int) := (cmp_isNaN_int.f a0).bind fun t102 => ((cmp_isNaN_int.f a1).bind fun t103 => (if t102 = true then (if t103 = true then (some 0) else (some (-1))) else (if t103 = true then (some 1) else (if a0 < a1 then (some (-1)) else (if a0 > a1 then (some 1) else (some 0))))))
theorem cmp_Compare_int.calls (a0 : Int) (a1 : Int) (r : Int) (w : World) (h : cmp_Compare_int.f a0 a1 = some r) :
  Calls Try.prog 41 #[.int .i64 a0, .int .i64 a1] w fun e w' => e = .returned (.int .i64 r) ∧ Drawn0 w w' := by
 have H : ((cmp_isNaN_int.f a0).bind fun t102 => ((cmp_isNaN_int.f a1).bind fun t103 => (if t102 = true then (if t103 = true then (some 0) else (some (-1))) else (if t103 = true then (some 1) else (if a0 < a1 then (some (-1)) else (if a0 > a1 then (some 1) else (some 0))))))) = some r := h; clear h; replace H := Option.bind_eq_some_iff.mp H; obtain ⟨t102, A30, H⟩ := H; replace H : ((cmp_isNaN_int.f a1).bind fun t103 => (if t102 = true then (if t103 = true then (some 0) else (some (-1))) else (if t103 = true then (some 1) else (if a0 < a1 then (some (-1)) else (if a0 > a1 then (some 1) else (some 0)))))) = some r := H; have A3 := Aside0.mk A30; clear A30; replace H := Option.bind_eq_some_iff.mp H; obtain ⟨t103, A40, H⟩ := H; replace H : (if t102 = true then (if t103 = true then (some 0) else (some (-1))) else (if t103 = true then (some 1) else (if a0 < a1 then (some (-1)) else (if a0 > a1 then (some 1) else (some 0))))) = some r := H; have A4 := Aside0.mk A40; clear A40
 by_cases c5 : t102 = true
 ·
  subst c5; have H1 : (if t103 = true then (some 0) else (some (-1))) = some r := by rw [if_pos rfl] at H; exact H
  clear H; have H := H1; clear H1
  by_cases c6 : t103 = true
  ·
   subst c6; have H1 : (some 0) = some r := by rw [if_pos rfl] at H; exact H
   clear H; have H := H1; clear H1; obtain rfl := Option.some.inj H; go_enter Try.func41, Try.ntmps41
   go_wp2_with (first | ((with_reducible refine gate_callee (f := 57) rfl ?_); refine goesL_ (some 8) rfl rfl Try.func57 (by kernel_rfl) rfl #[.int .i64 a0] rfl (by (try simp only [List.map_toArray, List.map_cons, List.map_nil]); rfl) ?_; (with_reducible refine (cmp_isNaN_int.calls a0 true _ A3.out).mono ?_); rintro e w' ⟨rfl, ⟨nd, rfl⟩⟩; refine ⟨_, rfl, ?_⟩) | ((with_reducible refine gate_callee (f := 57) rfl ?_); refine goesL_ (some 10) rfl rfl Try.func57 (by kernel_rfl) rfl #[.int .i64 a1] rfl (by (try simp only [List.map_toArray, List.map_cons, List.map_nil]); rfl) ?_; (with_reducible refine (cmp_isNaN_int.calls a1 true _ A4.out).mono ?_); rintro e w' ⟨rfl, ⟨nd, rfl⟩⟩; refine ⟨_, rfl, ?_⟩))
   go_ret; exact ⟨by rfl, by repeat (first | exact Drawn0.refl _ | apply Drawn0.step)⟩
  ·
   replace c6 := Bool.eq_false_iff.mpr c6; subst c6; have H1 : (some (-1)) = some r := by rw [if_neg (show ¬ (false = true) by decide)] at H; exact H
   clear H; have H := H1; clear H1; obtain rfl := Option.some.inj H; go_enter Try.func41, Try.ntmps41
   go_wp2_with (first | ((with_reducible refine gate_callee (f := 57) rfl ?_); refine goesL_ (some 8) rfl rfl Try.func57 (by kernel_rfl) rfl #[.int .i64 a0] rfl (by (try simp only [List.map_toArray, List.map_cons, List.map_nil]); rfl) ?_; (with_reducible refine (cmp_isNaN_int.calls a0 true _ A3.out).mono ?_); rintro e w' ⟨rfl, ⟨nd, rfl⟩⟩; refine ⟨_, rfl, ?_⟩) | ((with_reducible refine gate_callee (f := 57) rfl ?_); refine goesL_ (some 10) rfl rfl Try.func57 (by kernel_rfl) rfl #[.int .i64 a1] rfl (by (try simp only [List.map_toArray, List.map_cons, List.map_nil]); rfl) ?_; (with_reducible refine (cmp_isNaN_int.calls a1 false _ A4.out).mono ?_); rintro e w' ⟨rfl, ⟨nd, rfl⟩⟩; refine ⟨_, rfl, ?_⟩))
   go_ret; exact ⟨by rfl, by repeat (first | exact Drawn0.refl _ | apply Drawn0.step)⟩
 ·
  replace c5 := Bool.eq_false_iff.mpr c5; subst c5; have H1 : (if t103 = true then (some 1) else (if a0 < a1 then (some (-1)) else (if a0 > a1 then (some 1) else (some 0)))) = some r := by rw [if_neg (show ¬ (false = true) by decide)] at H; exact H
  clear H; have H := H1; clear H1
  by_cases c7 : t103 = true
  ·
   subst c7; have H1 : (some 1) = some r := by rw [if_pos rfl] at H; exact H
   clear H; have H := H1; clear H1; obtain rfl := Option.some.inj H; go_enter Try.func41, Try.ntmps41
   go_wp2_with (first | ((with_reducible refine gate_callee (f := 57) rfl ?_); refine goesL_ (some 8) rfl rfl Try.func57 (by kernel_rfl) rfl #[.int .i64 a0] rfl (by (try simp only [List.map_toArray, List.map_cons, List.map_nil]); rfl) ?_; (with_reducible refine (cmp_isNaN_int.calls a0 false _ A3.out).mono ?_); rintro e w' ⟨rfl, ⟨nd, rfl⟩⟩; refine ⟨_, rfl, ?_⟩) | ((with_reducible refine gate_callee (f := 57) rfl ?_); refine goesL_ (some 10) rfl rfl Try.func57 (by kernel_rfl) rfl #[.int .i64 a1] rfl (by (try simp only [List.map_toArray, List.map_cons, List.map_nil]); rfl) ?_; (with_reducible refine (cmp_isNaN_int.calls a1 true _ A4.out).mono ?_); rintro e w' ⟨rfl, ⟨nd, rfl⟩⟩; refine ⟨_, rfl, ?_⟩))
   go_ret; exact ⟨by rfl, by repeat (first | exact Drawn0.refl _ | apply Drawn0.step)⟩
  ·
   replace c7 := Bool.eq_false_iff.mpr c7; subst c7; have H1 : (if a0 < a1 then (some (-1)) else (if a0 > a1 then (some 1) else (some 0))) = some r := by rw [if_neg (show ¬ (false = true) by decide)] at H; exact H
   clear H; have H := H1; clear H1
   by_cases c8 : a0 < a1
   ·
    rw [if_pos c8] at H; have c8b0 : decide (a0 < a1) = true := decide_eq_true c8; clear c8; obtain rfl := Option.some.inj H; go_enter Try.func41, Try.ntmps41
    go_wp2_with (first | ((with_reducible refine gate_callee (f := 57) rfl ?_); refine goesL_ (some 8) rfl rfl Try.func57 (by kernel_rfl) rfl #[.int .i64 a0] rfl (by (try simp only [List.map_toArray, List.map_cons, List.map_nil]); rfl) ?_; (with_reducible refine (cmp_isNaN_int.calls a0 false _ A3.out).mono ?_); rintro e w' ⟨rfl, ⟨nd, rfl⟩⟩; refine ⟨_, rfl, ?_⟩) | ((with_reducible refine gate_callee (f := 57) rfl ?_); refine goesL_ (some 10) rfl rfl Try.func57 (by kernel_rfl) rfl #[.int .i64 a1] rfl (by (try simp only [List.map_toArray, List.map_cons, List.map_nil]); rfl) ?_; (with_reducible refine (cmp_isNaN_int.calls a1 false _ A4.out).mono ?_); rintro e w' ⟨rfl, ⟨nd, rfl⟩⟩; refine ⟨_, rfl, ?_⟩))
    go_ret; exact ⟨by rfl, by repeat (first | exact Drawn0.refl _ | apply Drawn0.step)⟩
   ·
    rw [if_neg c8] at H; have c8b0 : decide (a0 < a1) = false := decide_eq_false c8; clear c8
    by_cases c9 : a0 > a1
    ·
     rw [if_pos c9] at H; have c9b0 : decide (a1 < a0) = true := decide_eq_true c9; clear c9; obtain rfl := Option.some.inj H; go_enter Try.func41, Try.ntmps41
     go_wp2_with (first | ((with_reducible refine gate_callee (f := 57) rfl ?_); refine goesL_ (some 8) rfl rfl Try.func57 (by kernel_rfl) rfl #[.int .i64 a0] rfl (by (try simp only [List.map_toArray, List.map_cons, List.map_nil]); rfl) ?_; (with_reducible refine (cmp_isNaN_int.calls a0 false _ A3.out).mono ?_); rintro e w' ⟨rfl, ⟨nd, rfl⟩⟩; refine ⟨_, rfl, ?_⟩) | ((with_reducible refine gate_callee (f := 57) rfl ?_); refine goesL_ (some 10) rfl rfl Try.func57 (by kernel_rfl) rfl #[.int .i64 a1] rfl (by (try simp only [List.map_toArray, List.map_cons, List.map_nil]); rfl) ?_; (with_reducible refine (cmp_isNaN_int.calls a1 false _ A4.out).mono ?_); rintro e w' ⟨rfl, ⟨nd, rfl⟩⟩; refine ⟨_, rfl, ?_⟩))
     go_ret; exact ⟨by rfl, by repeat (first | exact Drawn0.refl _ | apply Drawn0.step)⟩
    ·
     rw [if_neg c9] at H; have c9b0 : decide (a1 < a0) = false := decide_eq_false c9; clear c9; obtain rfl := Option.some.inj H; go_enter Try.func41, Try.ntmps41
     go_wp2_with (first | ((with_reducible refine gate_callee (f := 57) rfl ?_); refine goesL_ (some 8) rfl rfl Try.func57 (by kernel_rfl) rfl #[.int .i64 a0] rfl (by (try simp only [List.map_toArray, List.map_cons, List.map_nil]); rfl) ?_; (with_reducible refine (cmp_isNaN_int.calls a0 false _ A3.out).mono ?_); rintro e w' ⟨rfl, ⟨nd, rfl⟩⟩; refine ⟨_, rfl, ?_⟩) | ((with_reducible refine gate_callee (f := 57) rfl ?_); refine goesL_ (some 10) rfl rfl Try.func57 (by kernel_rfl) rfl #[.int .i64 a1] rfl (by (try simp only [List.map_toArray, List.map_cons, List.map_nil]); rfl) ?_; (with_reducible refine (cmp_isNaN_int.calls a1 false _ A4.out).mono ?_); rintro e w' ⟨rfl, ⟨nd, rfl⟩⟩; refine ⟨_, rfl, ?_⟩))
     go_ret; exact ⟨by rfl, by repeat (first | exact Drawn0.refl _ | apply Drawn0.step)⟩
def peers_order.f (k : Nat) (a0_0 : ByteArray) (a0_1 : Int) (a0_2 : Int) (a0_3 : Int) (a1_0 : ByteArray) (a1_1 : Int) (a1_2 : Int) (a1_3 : Int) : Option (Int) := (cmp_Compare_int.f a0_1 a1_1).bind fun t106 => ((cmp_Compare_string.f a0_0 a1_0).bind fun t107 => ((cmp_Or_int.f k (([t106, t107] : List Int))).bind fun t111 => (some t111)))
def peers_order.T1 : Bool × List (List Nat × List Nat) := (true, [([], []), ([0], [0]), ([], []), ([2], [2]), ([1, 3], [1, 3]), ([], []), ([5], [5]), ([], []), ([7], [7]), ([6, 8, 4], [6, 8]), ([4, 9], [4, 9]), ([10, 9], [10]), ([11, 11, 0, 1, 2, 3, 4, 5, 6, 7, 8, 9, 10, 11], [11])])
def peers_order.B1 : List Nat := [0, 1, 0, 4, 15, 0, 32, 0, 128, 511, 1023, 2047, 4095]
theorem peers_order.tab1 : rtab .any (opsOf Try.f27 1) = peers_order.T1 := by kernel_rfl
theorem peers_order.bits1 : waitsOk peers_order.T1.2 peers_order.B1 = true := by kernel_rfl
theorem peers_order.calls (k : Nat) (a0_0 : ByteArray) (a0_1 : Int) (a0_2 : Int) (a0_3 : Int) (a1_0 : ByteArray) (a1_1 : Int) (a1_2 : Int) (a1_3 : Int) (r : Int) (w : World) (h : peers_order.f k a0_0 a0_1 a0_2 a0_3 a1_0 a1_1 a1_2 a1_3 = some r) :
  Calls Try.prog 27 #[.agg #[.string a0_0, .int .i64 a0_1, .int .i64 a0_2, .int .u32 a0_3], .agg #[.string a1_0, .int .i64 a1_1, .int .i64 a1_2, .int .u32 a1_3]] w fun e w' => e = .returned (.int .i64 r) ∧ Below w.heap.size w w' := by
 have HB := Aside0.mk (Below.refl w.heap.size w); have H : ((cmp_Compare_int.f a0_1 a1_1).bind fun t106 => ((cmp_Compare_string.f a0_0 a1_0).bind fun t107 => ((cmp_Or_int.f k (([t106, t107] : List Int))).bind fun t111 => (some t111)))) = some r := h; clear h; replace H := Option.bind_eq_some_iff.mp H; obtain ⟨t106, A30, H⟩ := H; replace H : ((cmp_Compare_string.f a0_0 a1_0).bind fun t107 => ((cmp_Or_int.f k (([t106, t107] : List Int))).bind fun t111 => (some t111))) = some r := H; have A3 := Aside0.mk A30; clear A30; replace H := Option.bind_eq_some_iff.mp H; obtain ⟨t107, A40, H⟩ := H; replace H : ((cmp_Or_int.f k (([t106, t107] : List Int))).bind fun t111 => (some t111)) = some r := H; have A4 := Aside0.mk A40; clear A40
 obtain ⟨y108, hy108⟩ : ∃ y_ : List Int, y_ = (([t106, t107] : List Int)) := ⟨_, rfl⟩
 replace H : ((cmp_Or_int.f k y108).bind fun t111 => (some t111)) = some r := by (rw [hy108]; with_reducible exact H)
 have Ny108 := Aside0.mk hy108; clear hy108; replace H := Option.bind_eq_some_iff.mp H; obtain ⟨t111, A50, H⟩ := H; replace H : (some t111) = some r := H; have A5 := Aside0.mk A50; clear A50; obtain rfl := Option.some.inj H; go_enter Try.func27, Try.ntmps27
 try go_wp2_with (first | ((with_reducible refine gate_dst (N := 2) rfl ?_); refine box_event ?hg (N := 2) ?hd (cs := #[.string a0_0, .int .i64 a0_1, .int .i64 a0_2, .int .u32 a0_3]) (t := 25) ?hr ?_; (case hd => rfl); (case hg => rfl); (case hr => go_simp; done); intro gb104 hg w6 hbox hb; have n0_ := Aside0.mk (below_step HB.out hb); have n1_ := Aside0.mk (hbox); have n2_ := Aside0.mk ((by rw [hg]; exact (below_size HB.out) : w.heap.size ≤ gb104)); have n3_ := Aside0.mk ((by rw [hg]; exact (below_size HB.out) : w.heap.size ≤ gb104)); clear HB; have HB := n0_; have BK104 := n1_; clear n0_ n1_ n2_ n3_; clear hb hbox hg) | ((with_reducible refine gate_dst (N := 3) rfl ?_); refine box_event ?hg (N := 3) ?hd (cs := #[.string a1_0, .int .i64 a1_1, .int .i64 a1_2, .int .u32 a1_3]) (t := 25) ?hr ?_; (case hd => rfl); (case hg => rfl); (case hr => go_simp; done); intro gb105 hg w7 hbox hb; have n0_ := Aside0.mk (blk_below (g := gb104) (o := .cells #[.string a0_0, .int .i64 a0_1, .int .i64 a0_2, .int .u32 a0_3] 25 (0, 0)) BK104.out hb); have n1_ := Aside0.mk (below_step HB.out hb); have n2_ := Aside0.mk (hbox); have n3_ := Aside0.mk ((by rw [hg]; exact (below_size HB.out) : w.heap.size ≤ gb105)); clear BK104; clear HB; have BK104 := n0_; have HB := n1_; have BK105 := n2_; clear n0_ n1_ n2_ n3_ ; clear hb hbox hg))
 have n0_ := Aside0.mk (blk_drew BK104.out); have n1_ := Aside0.mk (blk_drew BK105.out); have n2_ := Aside0.mk (below_drew1 HB.out); clear BK104; clear BK105; clear HB; have BK104 := n0_; have BK105 := n1_; have HB := n2_; clear n0_ n1_ n2_; refine start_ (n := 13) (S := fun w' => w'.cell? ⟨gb104, 0, none⟩ = some (.string a0_0) ∧ w'.cell? ⟨gb104, 1, none⟩ = some (.int .i64 a0_1) ∧ w'.cell? ⟨gb104, 2, none⟩ = some (.int .i64 a0_2) ∧ w'.cell? ⟨gb104, 3, none⟩ = some (.int .u32 a0_3) ∧ w'.cell? ⟨gb105, 0, none⟩ = some (.string a1_0) ∧ w'.cell? ⟨gb105, 1, none⟩ = some (.int .i64 a1_1) ∧ w'.cell? ⟨gb105, 2, none⟩ = some (.int .i64 a1_2) ∧ w'.cell? ⟨gb105, 3, none⟩ = some (.int .u32 a1_3)) (ds := []) (bs 13 0) (by kernel_rfl) rfl rfl ⟨(blk_cell BK104.out 0).trans rfl, (blk_cell BK104.out 1).trans rfl, (blk_cell BK104.out 2).trans rfl, (blk_cell BK104.out 3).trans rfl, (blk_cell BK105.out 0).trans rfl, (blk_cell BK105.out 1).trans rfl, (blk_cell BK105.out 2).trans rfl, (blk_cell BK105.out 3).trans rfl⟩ (fun hHeld => ?_); refine with_tabW peers_order.tab1 peers_order.bits1 (fun HT_ HW_ => ?_); generalize w7.drew = w8 at BK104 BK105 HB hHeld ⊢; apply pv 0 5 (bs 13 1) HT_; rfl; rfl; kernel_rfl; exact qq; rfl; intro w'; go_simp; with_reducible rfl; simp only [zz]; rfl
 apply pv 2 7 (bs 13 5) HT_; rfl; rfl; kernel_rfl; exact qq; rfl; intro w'; go_simp; with_reducible rfl; simp only [zz]; rfl
 apply pv 5 10 (bs 13 37) HT_; rfl; rfl; kernel_rfl; exact qq; rfl; intro w'; go_simp; with_reducible rfl; simp only [zz]; rfl
 apply pv 7 12 (bs 13 165) HT_; rfl; rfl; kernel_rfl; exact qq; rfl; intro w'; go_simp; with_reducible rfl; simp only [zz]; rfl
 apply tb 1 6 (bs 13 167) HT_ HW_ hHeld; rfl; rfl; kernel_rfl; exact qq; rfl; rintro w' ⟨s0, s1, s2, s3, s4, s5, s6, s7⟩; go_simp; with_reducible rfl; simp only [zz]; rfl
 apply tb 3 8 (bs 13 175) HT_ HW_ hHeld; rfl; rfl; kernel_rfl; exact qq; rfl; rintro w' ⟨s0, s1, s2, s3, s4, s5, s6, s7⟩; go_simp; with_reducible rfl; simp only [zz]; rfl
 apply tb 6 11 (bs 13 239) HT_ HW_ hHeld; rfl; rfl; kernel_rfl; exact qq; rfl; rintro w' ⟨s0, s1, s2, s3, s4, s5, s6, s7⟩; go_simp; with_reducible rfl; simp only [zz]; rfl
 apply tb 8 13 (bs 13 495) HT_ HW_ hHeld; rfl; rfl; kernel_rfl; exact qq; rfl; rintro w' ⟨s0, s1, s2, s3, s4, s5, s6, s7⟩; go_simp; with_reducible rfl; simp only [zz]; rfl
 refine one_ (i := 4) (N := some 9) (bs 13 511) rfl rfl (one_of HT_.out (by kernel_rfl)) (by decide) (fun K hK => ?_); refine goes_ Try.func41 (by kernel_rfl) rfl #[.int .i64 a0_1, .int .i64 a1_1] (by rfl) rfl rfl (by (try simp only [List.map_toArray, List.map_cons, List.map_nil]); rfl) ?_; with_reducible refine (cmp_Compare_int.calls a0_1 a1_1 t106 _ A3.out).mono ?_
 rintro e w' ⟨rfl, ⟨nd, rfl⟩⟩; refine ⟨_, rfl, ?_⟩; refine hK.out _ _ ⟨(blk_cell BK104.out 0).trans rfl, (blk_cell BK104.out 1).trans rfl, (blk_cell BK104.out 2).trans rfl, (blk_cell BK104.out 3).trans rfl, (blk_cell BK105.out 0).trans rfl, (blk_cell BK105.out 1).trans rfl, (blk_cell BK105.out 2).trans rfl, (blk_cell BK105.out 3).trans rfl⟩ (fun hHeld => ?_); clear hK K; refine norm_ (a' := ?_) ?_ ?_; rotate_left
 ·
  show Act.put _ (some 9) _ = _; simp only [Act.put, List.setIfInBounds_toArray, List.set_cons_zero, List.set_cons_succ, i64_w, i32_w]; rfl
 refine one_ (i := 9) (N := some 14) (bs 13 1023) rfl rfl (one_of HT_.out (by kernel_rfl)) (by decide) (fun K hK => ?_); refine goes_ Try.func42 (by kernel_rfl) rfl #[.string a0_0, .string a1_0] (by rfl) rfl rfl (by (try simp only [List.map_toArray, List.map_cons, List.map_nil]); rfl) ?_; with_reducible refine (cmp_Compare_string.calls a0_0 a1_0 t107 _ A4.out).mono ?_
 rintro e w' ⟨rfl, ⟨nd, rfl⟩⟩; refine ⟨_, rfl, ?_⟩; refine hK.out _ _ ⟨(blk_cell BK104.out 0).trans rfl, (blk_cell BK104.out 1).trans rfl, (blk_cell BK104.out 2).trans rfl, (blk_cell BK104.out 3).trans rfl, (blk_cell BK105.out 0).trans rfl, (blk_cell BK105.out 1).trans rfl, (blk_cell BK105.out 2).trans rfl, (blk_cell BK105.out 3).trans rfl⟩ (fun hHeld => ?_); clear hK K; refine norm_ (a' := ?_) ?_ ?_; rotate_left
 ·
  show Act.put _ (some 14) _ = _; simp only [Act.put, List.setIfInBounds_toArray, List.set_cons_zero, List.set_cons_succ, i64_w, i32_w]; rfl
 refine one_ (i := 10) (N := some 15) (bs 13 2047) rfl rfl (one_of HT_.out (by kernel_rfl)) (by decide) (fun K hK => ?_); refine Kd.R_lit_step (Kd.int .i64) _ 3 ?hg (N := 15) ?hd (xs := ([t106, t107] : List Int)) (inner := [.int .i64 t106, .int .i64 t107]) (ok := fun _ => True) (okp := fun _ => True) ?hr ?hp (fun _ hk => hk) trivial (Below.refl _ _) (Nat.le_refl _) (by simp) ?_; (case hd => rfl); (case hg => rfl); (case hr => go_simp; done); (case hp => exact (Reps.one (show Kd.M (Kd.int .i64) _ _ _ t106 [.int .i64 t106] from rfl) (Reps.one (show Kd.M (Kd.int .i64) _ _ _ t107 [.int .i64 t107] from rfl) (Reps.none _ _)))); intro v109 w9 ho10 hb hg_ hnew_; clear hg_ hnew_
 ((rw [← Ny108.out] at ho10))
 have n0_ := Aside0.mk (Kd.R_lower ho10 (below_size (by repeat ((with_reducible first | exact HB.out | apply pw_below_drewN))))); have n1_ := Aside0.mk (blk_below (g := gb104) (o := .cells #[.string a0_0, .int .i64 a0_1, .int .i64 a0_2, .int .u32 a0_3] 25 (0, 0)) (by (with_reducible repeat (refine blk_drewN ?_ _)); exact BK104.out) hb); have n2_ := Aside0.mk (blk_below (g := gb105) (o := .cells #[.string a1_0, .int .i64 a1_1, .int .i64 a1_2, .int .u32 a1_3] 25 (0, 0)) (by (with_reducible repeat (refine blk_drewN ?_ _)); exact BK105.out) hb); have n3_ := Aside0.mk (below_step (by repeat ((with_reducible first | exact HB.out | apply pw_below_drewN))) hb); clear BK104; clear BK105; clear HB; have HO110 := n0_; have BK104 := n1_; have BK105 := n2_; have HB := n3_; clear n0_ n1_ n2_ n3_; clear hb ho10; obtain ⟨Ao11, co11, eo11⟩ := Kd.R_slice HO110.out
 ((subst eo11))
 refine hK.out _ _ ⟨(blk_cell BK104.out 0).trans rfl, (blk_cell BK104.out 1).trans rfl, (blk_cell BK104.out 2).trans rfl, (blk_cell BK104.out 3).trans rfl, (blk_cell BK105.out 0).trans rfl, (blk_cell BK105.out 1).trans rfl, (blk_cell BK105.out 2).trans rfl, (blk_cell BK105.out 3).trans rfl⟩ (fun hHeld => ?_); clear hK K; refine norm_ (a' := ?_) ?_ ?_; rotate_left
 ·
  show Act.put _ (some 15) _ = _; simp only [Act.put, List.setIfInBounds_toArray, List.set_cons_zero, List.set_cons_succ, i64_w, i32_w]; rfl
 refine one_ (i := 11) (N := some 16) (bs 13 4095) rfl rfl (one_of HT_.out (by kernel_rfl)) (by decide) (fun K hK => ?_); refine goes_ Try.func40 (by kernel_rfl) rfl #[.slice Ao11 y108.length co11] (by rfl) rfl rfl (by (try simp only [List.map_toArray, List.map_cons, List.map_nil]); rfl) ?_; with_reducible refine (cmp_Or_int.calls k _ _ y108 t111 _ ?side1 ?side2 A5.out).mono ?_
 (case side1 => repeat (exact (Kd.R_reads' HO110.out).2.2))
 (case side2 => exact (Kd.R_reads' HO110.out).2.1)
 rintro e w' ⟨rfl, ⟨nd, rfl⟩⟩; refine ⟨_, rfl, ?_⟩; refine hK.out _ _ ⟨(blk_cell BK104.out 0).trans rfl, (blk_cell BK104.out 1).trans rfl, (blk_cell BK104.out 2).trans rfl, (blk_cell BK104.out 3).trans rfl, (blk_cell BK105.out 0).trans rfl, (blk_cell BK105.out 1).trans rfl, (blk_cell BK105.out 2).trans rfl, (blk_cell BK105.out 3).trans rfl⟩ (fun hHeld => ?_); clear hK K; refine norm_ (a' := ?_) ?_ ?_; rotate_left
 ·
  show Act.put _ (some 16) _ = _; simp only [Act.put, List.setIfInBounds_toArray, List.set_cons_zero, List.set_cons_succ, i64_w, i32_w]; rfl
 apply pv 12 4 (bs 13 8191) HT_; rfl; rfl; kernel_rfl; exact qq; rfl; intro w'; go_simp; with_reducible rfl; simp only [zz]; rfl
 refine done_ (done_of HT_.out (by kernel_rfl)) ?_; try go_wp2
 go_ret; exact ⟨by rfl, by repeat ((with_reducible first | exact HB.out | apply pw_below_drewN))⟩
end Go.Proofs.Ytgagcimfkmegnaa.QS
end
