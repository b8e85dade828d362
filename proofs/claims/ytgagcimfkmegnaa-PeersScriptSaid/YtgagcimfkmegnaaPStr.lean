/- The fetch: stream. -/
import Derived.Test.YtgagcimfkmegnaaPPure
import Derived.Test.YtgagcimfkmegnaaKeysH
section
namespace Go.Proofs.Ytgagcimfkmegnaa
set_option linter.unusedVariables false
set_option linter.unusedSimpArgs false
open Go.RowKit Go.Proofs.YtgagcimfkmegnaaW.PrintWords Go.Proofs.YtgagcimfkmegnaaW.PrintLast Go.Proofs.YtgagcimfkmegnaaW.PrintMore Go.Proofs.Ytgagcimfkmegnaa.QT
namespace Ps
/-- Are times in bounds, and rising behind the last one? -/
def chkL : Int → List Pt → Int
 | _, [] => 0
 | t, p :: r => if p.f0 < 0 ∨ p.f0 > 1099511627776 then 1 else if p.f0 ≤ t then 51 else chkL p.f0 r
def chkP (l : List Pt) : Int := if l.length > 512 then 52 else chkL (-1) l
theorem rdP_mid (P S : List Pt) (p : Pt) (i : Int) (hi : i = P.length) : rd_T42 (P ++ p :: S) i = p := by subst hi; unfold rd_T42; simp
theorem wn (n : Nat) (h : n ≤ 1000000) : wrap64 ((n : Int) + 1) = ((n + 1 : Nat) : Int) := by unfold wrap64; omega
theorem wp (n : Nat) (h : n ≤ 1000000) : wrap64 (((n + 1 : Nat) : Int) - 1) = (n : Int) := by unfold wrap64; omega
theorem chk_ev (l : List Pt) (hl : l.length ≤ 512) : ∀ (R P : List Pt) (t : Int), l = P ++ R → Ev (fun k => tsz_Check.l0 k t l (l.length : Int) (P.length : Int)) (chkL t R)
 | [], P, t, h => by
  refine Ev.step (f := fun _ => some 0) (fun k => ?_) (Ev.now _); have : l.length = P.length := by rw [h]; simp
  rw [tsz_Check.l0, if_neg (by omega)]
 | p :: R, P, t, h => by
  have hn : l.length = P.length + R.length + 1 := by rw [h]; simp; omega
  have e : rd_T42 l (P.length : Int) = p := by rw [h]; exact rdP_mid P R p _ rfl
  have ih := chk_ev l hl R (P ++ [p]) p.f0 (by rw [h]; simp); rw [List.length_append, List.length_singleton] at ih; unfold chkL
  by_cases h1 : p.f0 < 0 ∨ p.f0 > 1099511627776
  ·
   rw [if_pos h1]; refine Ev.step (f := fun k => tsz_Check.j1 k t l (l.length : Int) (P.length : Int) true p.f0 p.f1 p.f2) (fun k => ?_) (Ev.step (f := fun _ => some 1) (fun k => by rw [tsz_Check.j1, if_pos rfl]) (Ev.now _)); rw [tsz_Check.l0, if_pos (by omega), if_pos (by omega), if_pos (by omega), e]
   by_cases h2 : p.f0 < 0
   ·
    rw [if_pos h2]
   ·
    rw [if_neg h2, decide_eq_true (by omega : p.f0 > 1099511627776)]
  ·
   rw [if_neg h1]; have h2 : ¬ p.f0 < 0 := fun h => h1 (.inl h); have h3 : ¬ p.f0 > 1099511627776 := fun h => h1 (.inr h)
   have s1 : ∀ k, tsz_Check.l0 (k + 1) t l (l.length : Int) (P.length : Int) = tsz_Check.j1 k t l (l.length : Int) (P.length : Int) false p.f0 p.f1 p.f2 := fun k => by
    rw [tsz_Check.l0, if_pos (by omega), if_pos (by omega), if_pos (by omega), e, if_neg h2, decide_eq_false h3]
   by_cases h4 : p.f0 ≤ t
   ·
    rw [if_pos h4]; exact Ev.step s1 (Ev.step (f := fun _ => some 51) (fun k => by rw [tsz_Check.j1, if_neg (by simp), if_pos h4]) (Ev.now _))
   ·
    rw [if_neg h4]; refine Ev.step s1 (Ev.step (fun k => ?_) ih); rw [tsz_Check.j1, if_neg (by simp), if_neg h4, wn _ (by omega)]
theorem rchk_ev (l : List Pt) (hl : l.length ≤ 512) : ∀ (R P : List Pt) (t : Int), l = P ++ R → (P = [] ∧ t = -1 ∨ ∃ P0 q, P = P0 ++ [q] ∧ t = q.f0) → Ev (fun k => thermographref05_Check.l0 k l (P.length : Int)) (chkL t R)
 | [], P, t, h, _ => by
  refine Ev.step (f := fun _ => some 0) (fun k => ?_) (Ev.now _); have : l.length = P.length := by rw [h]; simp
  rw [thermographref05_Check.l0, if_neg (by omega)]
 | p :: R, P, t, h, ht => by
  have hn : l.length = P.length + R.length + 1 := by rw [h]; simp; omega
  have e : rd_T42 l (P.length : Int) = p := by rw [h]; exact rdP_mid P R p _ rfl
  have ih := rchk_ev l hl R (P ++ [p]) p.f0 (by rw [h]; simp) (.inr ⟨P, p, rfl, rfl⟩); rw [List.length_append, List.length_singleton] at ih; unfold chkL
  by_cases h1 : p.f0 < 0 ∨ p.f0 > 1099511627776
  ·
   rw [if_pos h1]; refine Ev.step (f := fun k => thermographref05_Check.j1 k l (P.length : Int) true) (fun k => ?_) (Ev.step (f := fun _ => some 1) (fun k => by rw [thermographref05_Check.j1, if_pos rfl]) (Ev.now _)); rw [thermographref05_Check.l0, if_pos (by omega), if_pos (by omega), e]
   by_cases h2 : p.f0 < 0
   ·
    rw [if_pos h2]
   ·
    rw [if_neg h2, decide_eq_true (by omega : p.f0 > 1099511627776)]
  ·
   rw [if_neg h1]; have h2 : ¬ p.f0 < 0 := fun h => h1 (.inl h); have h3 : ¬ p.f0 > 1099511627776 := fun h => h1 (.inr h)
   have s1 : ∀ k, thermographref05_Check.l0 (k + 1) l (P.length : Int) = thermographref05_Check.j1 k l (P.length : Int) false := fun k => by
    rw [thermographref05_Check.l0, if_pos (by omega), if_pos (by omega), e, if_neg h2, decide_eq_false h3]
   rcases ht with ⟨hP, ht⟩ | ⟨P0, q, hP, ht⟩
   ·
    rw [if_neg (show ¬ p.f0 ≤ t by omega)]; subst hP; refine Ev.step s1 (Ev.step (fun k => ?_) ih); rw [thermographref05_Check.j1, if_neg (by simp), if_neg (by simp), wn _ (by simp)]
   ·
    have hpl : P.length = P0.length + 1 := by rw [hP]; simp
    have e2 : rd_T42 l (P0.length : Int) = q := by rw [h, hP, List.append_assoc]; exact rdP_mid P0 _ q _ rfl
    have hw : wrap64 ((P.length : Int) - 1) = (P0.length : Int) := by rw [hpl]; exact wp _ (by omega)
    have s2 : ∀ k, thermographref05_Check.j1 (k + 1) l (P.length : Int) false = if p.f0 ≤ q.f0 then some 51 else thermographref05_Check.l0 k l (wrap64 ((P.length : Int) + 1)) := fun k => by
     rw [thermographref05_Check.j1, if_neg (by simp), if_pos (by omega), if_pos (by omega), if_pos (by omega), hw, if_pos (by omega), if_pos (by omega), e, e2]
    subst ht
    by_cases h4 : p.f0 ≤ q.f0
    ·
     rw [if_pos h4]; exact Ev.step s1 (Ev.step (f := fun _ => some 51) (fun k => by rw [s2, if_pos h4]) (Ev.now _))
    ·
     rw [if_neg h4]; refine Ev.step s1 (Ev.step (fun k => ?_) ih); rw [s2, if_neg h4, wn _ (by omega)]
theorem check_calls (w : World) (A : Option Addr) (c : Nat) (l : List Pt) (hC : Kd.C k42 w A l.length l) (hc : l.length ≤ c) :
  Calls Try.prog 62 #[.slice A l.length c] w fun e w' => e = .returned (.int .i64 (chkP l)) ∧ Below w.heap.size w w' := by
 have h : Ev (fun k => tsz_Check.f k l) (chkP l) := by
  unfold chkP
  by_cases hl : l.length > 512
  ·
   rw [if_pos hl]; exact Ev.congr (fun k => by unfold tsz_Check.f; rw [if_pos (by omega)]) (Ev.now 52)
  ·
   rw [if_neg hl]; exact Ev.congr (fun k => by unfold tsz_Check.f; rw [if_neg (by omega)]; rfl) (chk_ev l (by omega) l [] (-1) rfl)
 obtain ⟨k, hk⟩ := h.rounds; exact tsz_Check.calls k A c l _ w hC hc hk
theorem rcheck_calls (w : World) (A : Option Addr) (c : Nat) (l : List Pt) (hC : Kd.C k42 w A l.length l) (hc : l.length ≤ c) :
  Calls Try.prog 46 #[.slice A l.length c] w fun e w' => e = .returned (.int .i64 (chkP l)) ∧ Below w.heap.size w w' := by
 have h : Ev (fun k => thermographref05_Check.f k l) (chkP l) := by
  unfold chkP
  by_cases hl : l.length > 512
  ·
   rw [if_pos hl]; exact Ev.congr (fun k => by unfold thermographref05_Check.f; rw [if_pos (by omega)]) (Ev.now 52)
  ·
   rw [if_neg hl]; exact Ev.congr (fun k => by unfold thermographref05_Check.f; rw [if_neg (by omega)]; rfl) (rchk_ev l (by omega) l [] (-1) rfl (.inl ⟨rfl, rfl⟩))
 obtain ⟨k, hk⟩ := h.rounds
 exact (thermographref05_Check.calls k A c l _ w hC hc hk).mono fun e w' h => ⟨h.1, h.2.below⟩
end Ps
end Go.Proofs.Ytgagcimfkmegnaa
end
section
set_option maxHeartbeats 2000000
set_option maxRecDepth 100000
namespace Go.Proofs.Ytgagcimfkmegnaa
set_option linter.unusedVariables false
set_option linter.unusedSimpArgs false
open Go.RowKit Go.Proofs.YtgagcimfkmegnaaW.PrintWords Go.Proofs.YtgagcimfkmegnaaW.PrintLast Go.Proofs.YtgagcimfkmegnaaW.PrintMore Go.Proofs.Ytgagcimfkmegnaa.QT
namespace Ps
/-- A point that lies out of its block. -/
def oddP (b sz : Int) (p : Pt) : Bool := decide (p.f0 < b) || decide (wrap64 (p.f0 - b) ≥ sz)
theorem odd_calls (w : World) (p : Pt) (gb gf g : Nat) (b sz : Int) (h1 : w.cell? ⟨gb, 1, none⟩ = some (.int .i64 b)) (h2 : w.cell? ⟨gf, 0, none⟩ = some (.pointer (some ⟨g, 0, none⟩))) (h3 : w.cell? ⟨g, 20, none⟩ = some (.int .i64 sz)) :
  Calls Try.prog 61 #[.agg #[.int .i64 p.f0, .int .u64 p.f1, .int .u64 p.f2], .pointer (some ⟨gb, 0, none⟩), .pointer (some ⟨gf, 0, none⟩)] w fun e w' => e = .returned (.bool (oddP b sz p)) ∧ Below w.heap.size w w' := by
 unfold oddP
 cases hd : decide (p.f0 < b) with
 | true =>
  rw [Bool.true_or]; go_enter Try.func61, Try.ntmps61
  go_wp2_with (first
   | ((with_reducible refine gate_dst (N := 3) rfl ?_); refine box_event rfl (N := 3) rfl (cs := #[.int .i64 p.f0, .int .u64 p.f1, .int .u64 p.f2]) (t := 42) ?hr ?_; (case hr => go_simp; done); intro gp hgp Y hboy hbY; have HY := Lib.hid hbY; have y0 : Y.cell? ⟨gp, 0, none⟩ = some (.int .i64 p.f0) := (blk_cell hboy 0).trans rfl; have y1 := pw_cell_below hbY h1; have y2 := pw_cell_below hbY h2; have y3 := pw_cell_below hbY h3; clear hgp hboy hbY h1 h2 h3))
  go_quiet (fail)
  go_wp2; go_ret
  exact ⟨rfl, below_drewN HY.out _⟩
 | false =>
  rw [Bool.false_or]; go_enter Try.func61, Try.ntmps61
  go_wp2_with (first
   | ((with_reducible refine gate_dst (N := 3) rfl ?_); refine box_event rfl (N := 3) rfl (cs := #[.int .i64 p.f0, .int .u64 p.f1, .int .u64 p.f2]) (t := 42) ?hr ?_; (case hr => go_simp; done); intro gp hgp Y hboy hbY; have HY := Lib.hid hbY; have y0 : Y.cell? ⟨gp, 0, none⟩ = some (.int .i64 p.f0) := (blk_cell hboy 0).trans rfl; have y1 := pw_cell_below hbY h1; have y2 := pw_cell_below hbY h2; have y3 := pw_cell_below hbY h3; clear hgp hboy hbY h1 h2 h3))
  go_quiet (fail)
  go_wp2; go_ret; exact ⟨rfl, below_drewN HY.out _⟩
theorem index_calls (w : World) (A : Option Addr) (c : Nat) (l : List Pt) (hC : Kd.C k42 w A l.length l) (hn : l.length ≤ 1000000) (p : Pt → Bool) (gb gf : Nat)
  (hp : ∀ W, Below w.heap.size w W → ∀ q : Pt, Calls Try.prog 61 #[.agg #[.int .i64 q.f0, .int .u64 q.f1, .int .u64 q.f2], .pointer (some ⟨gb, 0, none⟩), .pointer (some ⟨gf, 0, none⟩)] W fun e w' => e = .returned (.bool (p q)) ∧ Below W.heap.size W w') :
  Calls Try.prog 72 #[.slice A l.length c, .func (.func 61) #[] #[.pointer (some ⟨gb, 0, none⟩), .pointer (some ⟨gf, 0, none⟩)]] w fun e w' => ∃ r : Int, e = .returned (.int .i64 r) ∧ decide (r ≥ 0) = l.any p ∧ Below w.heap.size w w' := by
 have HC := Lib.hid hC; have HP := Lib.hid hp; have HNL := Lib.hid hn; clear hC hp hn; go_enter Try.func72, Try.ntmps72
 go_wp2_with fail
 go_loopg [5, 8] l.length (fun gn v5 v8 wr => ∃ (i : Nat), v8 = .int .i64 (i : Int) ∧ Aside0 (gn = l.length - i) ∧ Aside0 (i ≤ l.length) ∧ Aside0 (l.any p = (l.drop i).any p) ∧ Aside0 (Below w.heap.size w wr))
 case atStart => exact ⟨0, rfl, ⟨rfl⟩, ⟨Nat.zero_le _⟩, ⟨rfl⟩, ⟨Below.refl _ _⟩⟩
 case round =>
  obtain ⟨i, rfl, HN1, HI, HA, HB⟩ := hrel
  by_cases hi : i < l.length
  ·
   have hi0 : (i : Int) < (l.length : Int) := by omega
   have hz : (0 : Int) ≤ (i : Int) := by omega
   have hwi : wrap64 ((i : Int) + 1) = ((i + 1 : Nat) : Int) := by have := HNL.out; unfold wrap64; omega
   obtain ⟨ad, hA, p0, p1, p2⟩ := at_T42 (Kd.C_below HC.out HB.out) (i : Int) hz hi0; cases hA
   obtain ⟨q, hq⟩ : ∃ q, rd_T42 l (i : Int) = q := ⟨_, rfl⟩
   rw [hq, Int.toNat_natCast] at p0 p1 p2
   have hdr : l.drop i = q :: l.drop (i + 1) := by
    rw [List.drop_eq_getElem_cons hi, ← hq]; unfold rd_T42; rw [Int.toNat_natCast, List.getD_eq_getElem?_getD, List.getElem?_eq_getElem hi]; rfl
   have HDR := Lib.hid hdr; have HPQ := Lib.hid (HP.out wr HB.out q); have HIN := Lib.hid (show ∀ k, k = l.length - i → l.length - (i + 1) < k by intro k hk; omega); clear hq hdr
   obtain ⟨r, hr⟩ : ∃ r, p q = r := ⟨_, rfl⟩
   rw [hr] at HPQ; have HAQ := Lib.hid (show l.any p = (r || (l.drop (i + 1)).any p) by rw [HA.out, HDR.out, List.any_cons, hr]); clear hr; go_wp2_with fail
   with_reducible refine HPQ.out.mono ?_
   rintro e w1 ⟨rfl, hb1⟩; have HB1 := Lib.hid (below_then HB.out HB.out.size hb1); clear hb1 p0 p1 p2
   cases r with
   | true =>
    go_wp2; go_ret
    exact ⟨(i : Int), rfl, by rw [HAQ.out]; simp, HB1.out⟩
   | false =>
    go_wp2; go_roundg (l.length - (i + 1))
    case measure => go_light; exact HIN.out _ HN1.out
    case rel => exact ⟨i + 1, by (simp [hwi]; done), ⟨rfl⟩, ⟨hi⟩, ⟨by rw [HAQ.out]; rfl⟩, ⟨HB1.out⟩⟩
  ·
   have hge : ¬ (i : Int) < (l.length : Int) := by omega
   have HIE := Lib.hid (show l.any p = false by rw [HA.out, show i = l.length by have := HI.out; omega, List.drop_length]; rfl); go_wp2; go_ret; exact ⟨-1, rfl, by rw [HIE.out]; rfl, HB.out⟩
theorem contains_calls (w : World) (A : Option Addr) (c : Nat) (l : List Pt) (hC : Kd.C k42 w A l.length l) (hn : l.length ≤ 1000000) (p : Pt → Bool) (gb gf : Nat)
  (hp : ∀ W, Below w.heap.size w W → ∀ q : Pt, Calls Try.prog 61 #[.agg #[.int .i64 q.f0, .int .u64 q.f1, .int .u64 q.f2], .pointer (some ⟨gb, 0, none⟩), .pointer (some ⟨gf, 0, none⟩)] W fun e w' => e = .returned (.bool (p q)) ∧ Below W.heap.size W w') :
  Calls Try.prog 63 #[.slice A l.length c, .func (.func 61) #[] #[.pointer (some ⟨gb, 0, none⟩), .pointer (some ⟨gf, 0, none⟩)]] w fun e w' => e = .returned (.bool (l.any p)) ∧ Below w.heap.size w w' := by
 have HX := Lib.hid (index_calls w A c l hC hn p gb gf hp); clear hC hn hp; go_enter Try.func63, Try.ntmps63
 go_wp2_with fail
 with_reducible refine HX.out.mono ?_
 rintro e w1 ⟨r, rfl, hr, hb1⟩; have HB1 := Lib.hid hb1; have HR := Lib.hid hr; clear hb1 hr; go_wp2; go_ret; exact ⟨by rw [← HR.out]; rfl, HB1.out⟩
end Ps
end Go.Proofs.Ytgagcimfkmegnaa
end
section
set_option maxHeartbeats 8000000
set_option maxRecDepth 100000
namespace Go.Proofs.Ytgagcimfkmegnaa
set_option linter.unusedVariables false
set_option linter.unusedSimpArgs false
open Go.RowKit Go.Proofs.YtgagcimfkmegnaaW.PrintWords Go.Proofs.YtgagcimfkmegnaaW.PrintLast Go.Proofs.YtgagcimfkmegnaaW.PrintMore Go.Proofs.Ytgagcimfkmegnaa.QT
namespace Ps
open Hm (Hp HM HMap cur put Sh Ft)
def PStr5.T5 : Bool × List (List Nat × List Nat) := (true, [([], []), ([0], [0]), ([1], [1]), ([2], [2]), ([], []), ([4], [4]), ([], []), ([6], [6]), ([7], [7]), ([8], [8]), ([], []), ([10], [10]), ([9, 11], [9, 11]), ([], []), ([13], [13]), ([12, 14], [12, 14]), ([3, 5, 15, 15, 0, 1, 2, 3, 4, 5, 6, 7, 8, 9, 10, 11, 12, 13, 14, 15], [3, 5, 15])])
def PStr5.B5 : List Nat := [0, 1, 3, 7, 0, 16, 0, 64, 192, 448, 0, 1024, 4032, 0, 8192, 32704, 65535]
theorem PStr5.tab5 : rtab .any (opsOf Try.f44 5) = PStr5.T5 := by kernel_rfl
theorem PStr5.bits5 : waitsOk PStr5.T5.2 PStr5.B5 = true := by kernel_rfl
def PStr6.T6 : Bool × List (List Nat × List Nat) := (true, [([], []), ([], []), ([1], [1]), ([2], [2]), ([3], [3]), ([4], [4]), ([0, 0, 1, 2, 3, 4, 5], [0]), ([6, 0, 1, 2, 3, 4, 5], [6]), ([7, 5, 0, 1, 2, 3, 4, 5], [5, 7])])
def PStr6.B6 : List Nat := [0, 0, 2, 6, 14, 30, 63, 127, 255]
theorem PStr6.tab6 : rtab .any (opsOf Try.f44 6) = PStr6.T6 := by kernel_rfl
theorem PStr6.bits6 : waitsOk PStr6.T6.2 PStr6.B6 = true := by kernel_rfl
/-- The map of rows stands where a block of other cells is written. -/
theorem hm_set {w w1 : World} {gm B T g : Nat} {hm : Hp} {cs : Array Value} {t : TypeId} (h : HM w gm B T hm) (hb : w.heap[g]? = some (.cells cs t (0, 0))) (ht : t ≠ 42) (hg : w.grownBy w1 (some g)) : HM w1 gm B T hm :=
 ⟨XM.MapIs.kept h.map hg (fun e => XM.MapIs.noCells h.map (by rw [show gm = g by cases e; rfl]; exact hb) rfl), fun e he => Hm.R97_grown (h.rows e he) hg (fun k hk e2 => by
   obtain ⟨c, hc⟩ := Hm.R97_cells (h.rows e he) k hk; rw [show k = g by cases e2; rfl, hb] at hc
   exact ht (by cases hc; rfl)), h.apart, h.len, h.cnt⟩
/-- Are a stream's points those of the block that was asked for? -/
def okP (m : Me) (sz : Int) (P : List Pt) : Bool := chkP P == 0 && !P.any (oddP m.f1 sz)
def PFt (g gm : Nat) (vM : Value) (hm : Hp) (k : Nat) : Prop := k = g ∨ vM.ownBlock = some k ∨ Sh gm hm k
/-- What stream leaves. -/
def StrOut (w0 w : World) (g gm : Nat) (x : Fx) (seq er : Int) (c : Me) (vM : Value) (D : List Me) (m : Me) (hm : Hp) (T : Nat) (P : List Pt) (e : Ending) (w' : World) : Prop :=
 e = .returned (.int .i64 (if okP m x.sz P = true then 0 else 50)) ∧
 (okP m x.sz P = false → Below w.heap.size w w') ∧
 (okP m x.sz P = true → ∃ (v1 vM' : Value), w'.heap[g]? = some (.cells (fcells x seq c vM' er gm (hf g 44) 7) 77 (0, 0)) ∧ Kd.Q k25 25 w' w0.heap.size (fun _ => True) vM' (D.drop 1) ∧
  HM w' gm w0.heap.size (T + (P.length + 1)) (put hm m.f0 v1 P) ∧ Below w0.heap.size w0 w' ∧ Kept w w' (PFt g gm vM hm) ∧ ∀ k, PFt g gm vM' (put hm m.f0 v1 P) k → PFt g gm vM hm k ∨ w.heap.size ≤ k)
theorem stream_calls (w0 w : World) (g gm : Nat) (x : Fx) (seq er : Int) (c : Me) (vM : Value) (D : List Me) (hm : Hp) (T : Nat) (m0 : S46) (A1 : Option Addr) (c1 : Nat) (A2 : Option Addr) (c2 : Nat)
  (hb : w.heap[g]? = some (.cells (fcells x seq c vM er gm (hf g 44) 7) 77 (0, 0))) (hQ : Kd.Q k25 25 w w0.heap.size (fun _ => True) vM D) (hM : HM w gm w0.heap.size T hm) (hB : Below w0.heap.size w0 w) (hg : w0.heap.size ≤ g) (hgm : w0.heap.size ≤ gm) (hD : 0 < D.length) (hid : (rd_T25 D 0).f0.size ≤ maxLen)
  (hC : Kd.C k42 w0 A1 m0.f11.length m0.f11) (hc : m0.f11.length ≤ c1) (hn : T + (m0.f11.length + 1) ≤ 1000000) :
  Calls Try.prog 44 #[.pointer (some ⟨g, 0, none⟩), .agg (mcs m0 A1 c1 A2 c2)] w (StrOut w0 w g gm x seq er c vM D (rd_T25 D 0) hm T m0.f11) := by
 obtain ⟨gq, oq, cq, hvm, _⟩ := Kd.Q_form hQ hD
 obtain ⟨P, hP⟩ : ∃ P, m0.f11 = P := ⟨_, rfl⟩
 obtain ⟨m, hmm⟩ : ∃ m, rd_T25 D 0 = m := ⟨_, rfl⟩
 have hd0 : (0 : Int) < (D.length : Int) := by omega
 unfold mcs; rw [hP] at hC hc hn ⊢; rw [hmm] at hid ⊢; subst hvm; have HB := Lib.hid hb; have HQ := Lib.hid hQ; have HMM := Lib.hid hM; have HBW := Lib.hid hB; have HGG := Lib.hid hg; have HGP := Lib.hid hgm; have HID := Lib.hid hid; have HC := Lib.hid hC; have HCC := Lib.hid hc; have HN := Lib.hid hn; have HME := Lib.hid hmm; clear hb hQ hM hB hg hgm hid hC hc hn hmm hP
 obtain ⟨bs, hbs⟩ : ∃ bs, bs = #[Value.int .i64 m0.f0, .int .i64 m0.f1, .int .i64 m0.f2, .int .i64 m0.f3, .int .i64 m0.f4, .string m0.f5, .int .i64 m0.f6, .int .i64 m0.f7.f0, .int .i64 m0.f7.f1, .int .i64 m0.f8.f0, .int .u64 m0.f8.f1, .int .u64 m0.f8.f2, .int .i64 m0.f9, .bool m0.f10, .slice A1 P.length c1, .slice A2 m0.f12.length c2] := ⟨_, rfl⟩
 have HBS := Lib.hid hbs; clear hbs; go_enter Try.func44, Try.ntmps44
 go_wp2_with (first
  | ((with_reducible refine gate_dst (N := 2) rfl ?_); refine box_event rfl (N := 2) rfl (cs := #[.pointer (some ⟨g, 0, none⟩)]) (t := 36) ?hr ?_; (case hr => go_simp; done); intro gf hgf Y hboy hbY; have HY := Lib.hid (And.intro hboy hbY); clear hgf hboy hbY)
  | ((with_reducible refine gate_dst (N := 3) rfl ?_); refine box_event rfl (N := 3) rfl (cs := #[.int .i64 m0.f0, .int .i64 m0.f1, .int .i64 m0.f2, .int .i64 m0.f3, .int .i64 m0.f4, .string m0.f5, .int .i64 m0.f6, .int .i64 m0.f7.f0, .int .i64 m0.f7.f1, .int .i64 m0.f8.f0, .int .u64 m0.f8.f1, .int .u64 m0.f8.f2, .int .i64 m0.f9, .bool m0.f10, .slice A1 P.length c1, .slice A2 m0.f12.length c2]) (t := 46) ?hr ?_; (case hr => go_simp; done); intro gx hgx Y2 hbox0 hbX; have hbox : Y2.heap[gx]? = some (.cells bs 46 (0, 0)) := (by rw [HBS.out]; exact hbox0); have HY2 := Lib.hid (below_then HY.out.2 HY.out.2.size hbX); have HX2 := Lib.hid hbox; have HF2 := Lib.hid (blk_below HY.out.1 hbX); have yf : Y2.cell? ⟨gf, 0, none⟩ = some (.pointer (some ⟨g, 0, none⟩)) := (blk_cell HF2.out 0).trans rfl; have y21 : Y2.cell? ⟨g, 21, none⟩ = some (.slice (some ⟨gq, oq, none⟩) D.length cq) := (blk_cell (blk_below HB.out HY2.out) 21).trans rfl; obtain ⟨ad, hA, p0, p1, p2, p3⟩ := at_T25 (Kd.Q_reads' (Kd.Q_below HQ.out HY2.out)).2.2 0 (by omega) hd0; cases hA; rw [HME.out] at p0 p1 p2 p3; have p0 : Y2.cell? ⟨gq, oq, none⟩ = some (.string m.f0) := (by simpa [Addr.add] using p0); have p1 : Y2.cell? ⟨gq, oq + 1, none⟩ = some (.int .i64 m.f1) := (by simpa [Addr.add] using p1); have p2 : Y2.cell? ⟨gq, oq + 2, none⟩ = some (.int .i64 m.f2) := (by simpa [Addr.add] using p2); have p3 : Y2.cell? ⟨gq, oq + 3, none⟩ = some (.int .u32 m.f3) := (by simpa [Addr.add] using p3); clear hgx hbox0 hbox hbX)
  | ((with_reducible refine gate_dst (N := 5) rfl ?_); refine box_event rfl (N := 5) rfl (cs := #[.string ⟨#[]⟩, .int .i64 0, .int .i64 0, .int .u32 0]) (t := 25) ?hr ?_; (case hr => go_simp; done); intro gz hgz Z hboz hbZ; have HZ := Lib.hid (And.intro hgz (And.intro hboz hbZ)); clear hgz hboz hbZ p0 p1 p2 p3 yf y21)
  | (refine store_blk (t := 25) (p := .tmp 5) (v := .tmp 12) (g := gz) (off := 0) (cur := #[.string ⟨#[]⟩, .int .i64 0, .int .i64 0, .int .u32 0]) (cur' := #[.string m.f0, .int .i64 m.f1, .int .i64 m.f2, .int .u32 m.f3]) (e := 25) (u := .agg #[.string m.f0, .int .i64 m.f1, .int .i64 m.f2, .int .u32 m.f3]) rfl rfl rfl rfl rfl HZ.out.2.1 (by kernel_rfl) (Nat.le_of_ble_eq_true rfl) (by rfl) (by rfl) ?_; intro Z2 hz2 hg2 hs2; have HW1 := Lib.hid (below_grow HZ.out.2.2 hg2 (Nat.le_of_eq HZ.out.1.symm)); have HZ2 := Lib.hid hz2; have x14 : Z2.cell? ⟨gx, 14, none⟩ = some (.slice A1 P.length c1) := (blk_cell (blk_below HX2.out HW1.out) 14).trans (by rw [HBS.out]; rfl); clear hz2 hg2 hs2))
 have HBZ := Lib.hid (below_then HY2.out HY2.out.size HW1.out); have HBZ0 := Lib.hid (below_then HBW.out HBW.out.size HBZ.out); have hck := check_calls Z2 A1 c1 P (Kd.C_below HC.out HBZ0.out) HCC.out
 obtain ⟨ck, hcke⟩ : ∃ ck, chkP P = ck := ⟨_, rfl⟩
 rw [hcke] at hck; have HCK := Lib.hid hck; have HCE := Lib.hid hcke; clear hck hcke; with_reducible refine HCK.out.mono ?_
 rintro e w3 ⟨rfl, hb3⟩; have HB3Z := Lib.hid hb3; have HBW3 := Lib.hid (below_then HBZ.out HBZ.out.size hb3); clear hb3 x14 HCK
 by_cases hk : ck = 0
 case neg =>
  have d1 : (ck != 0) = true := bne_iff_ne.2 hk; have HOK := Lib.hid (show okP m x.sz P = false by unfold okP; rw [HCE.out, beq_eq_false_iff_ne.2 hk]; rfl); clear hk; go_wp2; go_ret; unfold StrOut; exact ⟨by rw [HOK.out]; rfl, fun _ => HBW3.out, fun h => by rw [HOK.out] at h; cases h⟩
 case pos =>
 have d1 : (ck != 0) = false := by rw [hk]; rfl
 have HBW30 := Lib.hid (below_then HBW.out HBW.out.size HBW3.out); have HGF3 := Lib.hid (blk_below (blk_below HF2.out HW1.out) HB3Z.out); have HGZ3 := Lib.hid (blk_below HZ2.out HB3Z.out); have HGX3 := Lib.hid (blk_below (blk_below HX2.out HW1.out) HB3Z.out); have HGB3 := Lib.hid (blk_below HB.out HBW3.out); have hcn := contains_calls w3 A1 c1 P (Kd.C_below HC.out HBW30.out) (by have := HN.out; omega) (oddP m.f1 x.sz) gz gf (fun W hW q => odd_calls W q gz gf g m.f1 x.sz ((blk_cell (blk_below HGZ3.out hW) 1).trans rfl) ((blk_cell (blk_below HGF3.out hW) 0).trans rfl) ((blk_cell (blk_below HGB3.out hW) 20).trans rfl))
 obtain ⟨an, han⟩ : ∃ an, P.any (oddP m.f1 x.sz) = an := ⟨_, rfl⟩
 rw [han] at hcn; have HCN := Lib.hid hcn; have HOK := Lib.hid (show okP m x.sz P = !an by unfold okP; rw [HCE.out, hk, han]; rfl); have y14 : w3.cell? ⟨gx, 14, none⟩ = some (.slice A1 P.length c1) := (blk_cell HGX3.out 14).trans (by rw [HBS.out]; rfl); clear hcn han hk; go_wp2_with fail
 with_reducible refine HCN.out.mono ?_
 rintro e w1 ⟨rfl, hb1⟩; have HB1Z := Lib.hid hb1; have HBX1 := Lib.hid (below_then HBW3.out HBW3.out.size hb1); clear hb1 y14 HCN d1
 cases an with
 | true =>
  go_wp2; go_ret; unfold StrOut
  exact ⟨by rw [HOK.out]; rfl, fun _ => HBX1.out, fun h => by rw [HOK.out] at h; cases h⟩
 | false =>
  have HGF := Lib.hid (blk_below HGF3.out HB1Z.out); have HGZ := Lib.hid (blk_below HGZ3.out HB1Z.out); have HGX := Lib.hid (blk_below HGX3.out HB1Z.out); have HGB := Lib.hid (blk_below HB.out HBX1.out); have HRP := Lib.hid (fun W (hW : Below w1.heap.size w1 W) => (show ReadsRow (k42.K w1) 3 W A1 P.length P from ReadsRow.imp_ (Kd.C_below HC.out (below_then HBW.out HBW.out.size HBX1.out)) hW (fun _ _ h => h))); have HHM := Lib.hid (fun W (hW : Below w1.heap.size w1 W) => ((HMM.out.below HBX1.out).below hW).cur_R m.f0); have HB1W := Lib.hid (fun W (hW : Below w1.heap.size w1 W) => below_then (below_then HBW.out HBW.out.size HBX1.out) (below_then HBW.out HBW.out.size HBX1.out).size hW); have HLP := Lib.hid (show ((cur hm m.f0).2.length + P.length) * 24 ≤ 140737488355328 by have h1 := HMM.out.cur_len m.f0; have h3 := HN.out; omega); have HSTEP := Lib.hid (fun W (hW : Below w1.heap.size w1 W) v1 w2 hR hg hat => ((HMM.out.below HBX1.out).below hW).step (w1 := w2) (v1 := v1) (ps := P) (n := P.length + 1) m.f0 HID.out hR hg hat (by have := HN.out; omega) (Nat.le_succ _) (Nat.succ_le_succ (Nat.zero_le _))); have HFTT := Lib.hid (fun W (hW : Below w1.heap.size w1 W) (v1 : Value) (w2 X3 : World) (hg : W.grownBy w2 (cur hm m.f0).1.ownBlock) (hat : v1.ownBlock = (cur hm m.f0).1.ownBlock ∨ ∃ b, v1.ownBlock = some b ∧ W.heap.size ≤ b) (hg3 : w2.grownBy X3 (some gm)) => (Ft.of_below hW gm hm).then_ (Ft.put (i := m.f0) (ps := P) hg hat hg3)); have HOTH := Lib.hid (fun W (hW : Below w1.heap.size w1 W) (w2 : World) (hg : W.grownBy w2 (cur hm m.f0).1.ownBlock) => (show ∀ k o, w1.heap[k]? = some o → (∀ cells, o ≠ .cells cells 42 (0, 0)) → w2.heap[k]? = some o from fun k o h1 h2 => (hg.block k (blk_lt (blk_below h1 hW)) (fun e => by obtain ⟨cc, hh⟩ := Hm.R97_cells (((HMM.out.below HBX1.out).below hW).cur_R m.f0) k e.symm; rw [blk_below h1 hW] at hh; exact h2 cc (Option.some.inj hh))).trans (blk_below h1 hW))); have HLKK := Lib.hid (fun W (hW : Below w1.heap.size w1 W) (w2 : World) (hg : W.grownBy w2 (cur hm m.f0).1.ownBlock) => HMap.look (w := w2) (XM.MapIs.kept ((HMM.out.below HBX1.out).below hW).map hg (fun e => by obtain ⟨cc, hc⟩ := Hm.R97_cells (((HMM.out.below HBX1.out).below hW).cur_R m.f0) gm e.symm; exact XM.MapIs.noCells ((HMM.out.below HBX1.out).below hW).map hc rfl)) m.f0 HID.out)
  have HQQ := Lib.hid (fun W (hW : Below w1.heap.size w1 W) (w2 X3 : World) (hg : W.grownBy w2 (cur hm m.f0).1.ownBlock) (hg3 : w2.grownBy X3 (some gm)) => Kd.Q_grown1 (Kd.Q_grown2 (Kd.Q_below (Kd.Q_below HQ.out HBX1.out) hW) rfl hg (fun k hk e => by
    obtain ⟨cc, hh⟩ := Hm.R97_cells (((HMM.out.below HBX1.out).below hW).cur_R m.f0) k hk; obtain ⟨cells, hh2⟩ := Kd.Q_typed (Kd.Q_below (Kd.Q_below HQ.out HBX1.out) hW) k e.symm; rw [hh] at hh2
    cases hh2)) rfl hg3 (fun e => by
    obtain ⟨cells, hh2⟩ := Kd.Q_typed (Kd.Q_below HQ.out HBX1.out) gm e.symm
    exact XM.MapIs.noCells (HMM.out.below HBX1.out).map hh2 rfl))
  have HNM := Lib.hid (show ∀ k cells t, w1.heap[k]? = some (.cells cells t (0, 0)) → k ≠ gm from fun k cells t h e => XM.MapIs.noCells (HMM.out.below HBX1.out).map (by rw [← e]; exact h) rfl); have zf : w1.cell? ⟨gf, 0, none⟩ = some (.pointer (some ⟨g, 0, none⟩)) := (blk_cell HGF.out 0).trans rfl; have z23 : w1.cell? ⟨g, 23, none⟩ = some (.map (some gm)) := (blk_cell HGB.out 23).trans rfl; have zz : w1.cell? ⟨gz, 0, none⟩ = some (.string m.f0) := (blk_cell HGZ.out 0).trans rfl; have z14 : w1.cell? ⟨gx, 14, none⟩ = some (.slice A1 P.length c1) := (blk_cell HGX.out 14).trans (by rw [HBS.out]; rfl); have zl := HMap.look ((HMM.out.below HBX1.out).below (below_drew (Below.refl _ _))).map m.f0 HID.out; go_wp2_with fail
  refine start_ (n := 17) (S := fun w' => w'.cell? ⟨gf, 0, none⟩ = some (.pointer (some ⟨g, 0, none⟩)) ∧ w'.cell? ⟨g, 23, none⟩ = some (.map (some gm)) ∧ w'.cell? ⟨gz, 0, none⟩ = some (.string m.f0) ∧ w'.cell? ⟨gx, 14, none⟩ = some (.slice A1 P.length c1) ∧ (Instr.lookup 74 (.map (some gm)) (.string m.f0) false).run Try.prog w' = .ok (cur hm m.f0).1 w') (ds := [16]) #[false, false, false, false, false, false, false, false, false, false, false, false, false, false, false, false, false] (by kernel_rfl) rfl rfl ⟨zf, z23, zz, z14, zl⟩ (fun hHeld => ?_); refine with_tabW PStr5.tab5 PStr5.bits5 (fun HT_ HW_ => ?_); refine pure_ (i := 4) (N := some 28) (v := ?_) (a' := ?_) #[false, false, false, false, true, false, false, false, false, false, false, false, false, false, false, false, false] rfl rfl (any_of HT_.out (by kernel_rfl)) (fun _ _ _ h => h) (Or.inl ⟨by rfl, ?_⟩) ?_ ?_; rotate_left
  ·
   intro w'; go_simp; with_reducible rfl
  rotate_left
  ·
   simp only [Act.put, List.setIfInBounds_toArray, List.set_cons_zero, List.set_cons_succ, i64_w, i32_w]; rfl
  refine pure_ (i := 10) (N := some 34) (v := ?_) (a' := ?_) #[false, false, false, false, true, false, false, false, false, false, true, false, false, false, false, false, false] rfl rfl (any_of HT_.out (by kernel_rfl)) (fun _ _ _ h => h) (Or.inl ⟨by rfl, ?_⟩) ?_ ?_; rotate_left
  ·
   intro w'; go_simp; with_reducible rfl
  rotate_left
  ·
   simp only [Act.put, List.setIfInBounds_toArray, List.set_cons_zero, List.set_cons_succ, i64_w, i32_w]; rfl
  refine pure_ (i := 13) (N := some 37) (v := ?_) (a' := ?_) #[false, false, false, false, true, false, false, false, false, false, true, false, false, true, false, false, false] rfl rfl (any_of HT_.out (by kernel_rfl)) (fun _ _ _ h => h) (Or.inl ⟨by rfl, ?_⟩) ?_ ?_; rotate_left
  ·
   intro w'; go_simp; with_reducible rfl
  rotate_left
  ·
   simp only [Act.put, List.setIfInBounds_toArray, List.set_cons_zero, List.set_cons_succ, i64_w, i32_w]; rfl
  refine take_ (i := 0) (N := some 24) (v := ?_) (a' := ?_) #[true, false, false, false, true, false, false, false, false, false, true, false, false, true, false, false, false] rfl rfl (take_ofW HT_.out HW_.out (by kernel_rfl)) (fun _ _ _ h => h) (Or.inl ⟨by rfl, ?_⟩) hHeld ?_ ?_; rotate_left
  ·
   rintro w' ⟨s0, s1, s2, s3, s4⟩; go_simp; with_reducible rfl
  rotate_left
  ·
   simp only [Act.put, List.setIfInBounds_toArray, List.set_cons_zero, List.set_cons_succ, i64_w, i32_w]; rfl
  refine pure_ (i := 1) (N := some 25) (v := ?_) (a' := ?_) #[true, true, false, false, true, false, false, false, false, false, true, false, false, true, false, false, false] rfl rfl (any_of HT_.out (by kernel_rfl)) (fun _ _ _ h => h) (Or.inl ⟨by rfl, ?_⟩) ?_ ?_; rotate_left
  ·
   intro w'; go_simp; with_reducible rfl
  rotate_left
  ·
   simp only [Act.put, List.setIfInBounds_toArray, List.set_cons_zero, List.set_cons_succ, i64_w, i32_w]; rfl
  refine pure_ (i := 2) (N := some 26) (v := ?_) (a' := ?_) #[true, true, true, false, true, false, false, false, false, false, true, false, false, true, false, false, false] rfl rfl (any_of HT_.out (by kernel_rfl)) (fun _ _ _ h => h) (Or.inl ⟨by rfl, ?_⟩) ?_ ?_; rotate_left
  ·
   intro w'; go_simp; with_reducible rfl
  rotate_left
  ·
   simp only [Act.put, List.setIfInBounds_toArray, List.set_cons_zero, List.set_cons_succ, i64_w, i32_w]; rfl
  refine take_ (i := 3) (N := some 27) (v := ?_) (a' := ?_) #[true, true, true, true, true, false, false, false, false, false, true, false, false, true, false, false, false] rfl rfl (take_ofW HT_.out HW_.out (by kernel_rfl)) (fun _ _ _ h => h) (Or.inl ⟨by rfl, ?_⟩) hHeld ?_ ?_; rotate_left
  ·
   rintro w' ⟨s0, s1, s2, s3, s4⟩; go_simp; with_reducible rfl
  rotate_left
  ·
   simp only [Act.put, List.setIfInBounds_toArray, List.set_cons_zero, List.set_cons_succ, i64_w, i32_w]; rfl
  refine take_ (i := 5) (N := some 29) (v := ?_) (a' := ?_) #[true, true, true, true, true, true, false, false, false, false, true, false, false, true, false, false, false] rfl rfl (take_ofW HT_.out HW_.out (by kernel_rfl)) (fun _ _ _ h => h) (Or.inl ⟨by rfl, ?_⟩) hHeld ?_ ?_; rotate_left
  ·
   rintro w' ⟨s0, s1, s2, s3, s4⟩; go_simp; with_reducible rfl
  rotate_left
  ·
   simp only [Act.put, List.setIfInBounds_toArray, List.set_cons_zero, List.set_cons_succ, i64_w, i32_w]; rfl
  refine take_ (i := 6) (N := some 30) (v := ?_) (a' := ?_) #[true, true, true, true, true, true, true, false, false, false, true, false, false, true, false, false, false] rfl rfl (take_ofW HT_.out HW_.out (by kernel_rfl)) (fun _ _ _ h => h) (Or.inl ⟨by rfl, ?_⟩) hHeld ?_ ?_; rotate_left
  ·
   rintro w' ⟨s0, s1, s2, s3, s4⟩; go_simp; with_reducible rfl
  rotate_left
  ·
   simp only [Act.put, List.setIfInBounds_toArray, List.set_cons_zero, List.set_cons_succ, i64_w, i32_w]; rfl
  refine pure_ (i := 7) (N := some 31) (v := ?_) (a' := ?_) #[true, true, true, true, true, true, true, true, false, false, true, false, false, true, false, false, false] rfl rfl (any_of HT_.out (by kernel_rfl)) (fun _ _ _ h => h) (Or.inl ⟨by rfl, ?_⟩) ?_ ?_; rotate_left
  ·
   intro w'; go_simp; with_reducible rfl
  rotate_left
  ·
   simp only [Act.put, List.setIfInBounds_toArray, List.set_cons_zero, List.set_cons_succ, i64_w, i32_w]; rfl
  refine pure_ (i := 8) (N := some 32) (v := ?_) (a' := ?_) #[true, true, true, true, true, true, true, true, true, false, true, false, false, true, false, false, false] rfl rfl (any_of HT_.out (by kernel_rfl)) (fun _ _ _ h => h) (Or.inl ⟨by rfl, ?_⟩) ?_ ?_; rotate_left
  ·
   intro w'; go_simp; with_reducible rfl
  rotate_left
  ·
   simp only [Act.put, List.setIfInBounds_toArray, List.set_cons_zero, List.set_cons_succ, i64_w, i32_w]; rfl
  refine take_ (i := 9) (N := some 33) (v := ?_) (a' := ?_) #[true, true, true, true, true, true, true, true, true, true, true, false, false, true, false, false, false] rfl rfl (take_ofW HT_.out HW_.out (by kernel_rfl)) (fun _ _ _ h => h) (Or.inl ⟨by rfl, ?_⟩) hHeld ?_ ?_; rotate_left
  ·
   rintro w' ⟨s0, s1, s2, s3, s4⟩; go_simp; with_reducible rfl
  rotate_left
  ·
   simp only [Act.put, List.setIfInBounds_toArray, List.set_cons_zero, List.set_cons_succ, i64_w, i32_w]; rfl
  refine take_ (i := 11) (N := some 35) (v := ?_) (a' := ?_) #[true, true, true, true, true, true, true, true, true, true, true, true, false, true, false, false, false] rfl rfl (take_ofW HT_.out HW_.out (by kernel_rfl)) (fun _ _ _ h => h) (Or.inl ⟨by rfl, ?_⟩) hHeld ?_ ?_; rotate_left
  ·
   rintro w' ⟨s0, s1, s2, s3, s4⟩; go_simp; with_reducible rfl
  rotate_left
  ·
   simp only [Act.put, List.setIfInBounds_toArray, List.set_cons_zero, List.set_cons_succ, i64_w, i32_w]; rfl
  refine take_ (i := 12) (N := some 36) (v := ?_) (a' := ?_) #[true, true, true, true, true, true, true, true, true, true, true, true, true, true, false, false, false] rfl rfl (take_ofW HT_.out HW_.out (by kernel_rfl)) (fun _ _ _ h => h) (Or.inl ⟨by rfl, ?_⟩) hHeld ?_ ?_; rotate_left
  ·
   rintro w' ⟨s0, s1, s2, s3, s4⟩; go_simp; with_reducible rfl
  rotate_left
  ·
   simp only [Act.put, List.setIfInBounds_toArray, List.set_cons_zero, List.set_cons_succ, i64_w, i32_w]; rfl
  refine take_ (i := 14) (N := some 38) (v := ?_) (a' := ?_) #[true, true, true, true, true, true, true, true, true, true, true, true, true, true, true, false, false] rfl rfl (take_ofW HT_.out HW_.out (by kernel_rfl)) (fun _ _ _ h => h) (Or.inl ⟨by rfl, ?_⟩) hHeld ?_ ?_; rotate_left
  ·
   rintro w' ⟨s0, s1, s2, s3, s4⟩; go_simp; with_reducible rfl
  rotate_left
  ·
   simp only [Act.put, List.setIfInBounds_toArray, List.set_cons_zero, List.set_cons_succ, i64_w, i32_w]; rfl
  refine one_ (i := 15) (N := some 39) #[true, true, true, true, true, true, true, true, true, true, true, true, true, true, true, true, false] rfl rfl (one_of HT_.out (by kernel_rfl)) (by decide) (fun K hK => ?_); refine Kd.R_append_rows_step k42 (Rr := k42.K w1) (w0 := w0) w0.heap.size (by rfl) (.tmp 36) (.tmp 38) 44 42 (.agg #[.int .i64 0, .int .u64 0, .int .u64 0]) 24 (by rfl) Try.underlying44 info42 (by rfl) (by decide) (by decide) (cur hm m.f0).1 (cur hm m.f0).2 P A1 P.length c1 (fun _ => True) (fun _ => False) (by rfl) (by rfl) (HHM.out _ (below_drew (Below.refl _ _))) (HRP.out _ (below_drew (Below.refl _ _))) (fun x cs h => by obtain rfl := k42_open h; exact k42_mkM _ _ _ _) (fun _ h => h.elim) (fun _ _ => trivial) (HB1W.out _ (below_drew (Below.refl _ _))) (HB1W.out _ (below_drew (Below.refl _ _))).size HLP.out ?_; intro v5 w2 hR5 hB5 hg5 hat5; obtain ⟨X3, hrun, hHM3, hg3, hs3⟩ := HSTEP.out _ (below_drew (Below.refl _ _)) v5 w2 hR5 hg5 hat5; have HFT := Lib.hid (HFTT.out _ (below_drew (Below.refl _ _)) v5 w2 X3 hg5 hat5 hg3); have HQ3 := Lib.hid (HQQ.out _ (below_drew (Below.refl _ _)) w2 X3 hg5 hg3); have HB3 := Lib.hid (hB5.grown hg3 hB5.size (fun k hk => by cases hk; exact HGP.out)); have HM3 := Lib.hid hHM3; have HOT := Lib.hid (HOTH.out _ (below_drew (Below.refl _ _)) w2 hg5); have hl5 := HLKK.out _ (below_drew (Below.refl _ _)) w2 hg5; have HOX := Lib.hid (show ∀ k o, w1.heap[k]? = some o → (∀ cells, o ≠ .cells cells 42 (0, 0)) → k ≠ gm → X3.heap[k]? = some o from fun k o h1 h2 h3 => blk_other (HOT.out k o h1 h2) hg3 h3); clear hR5 hB5 hg5 hat5 hHM3 hg3 hs3; refine hK.out _ _ ⟨((blk_cell (HOT.out _ _ HGF.out (fun _ e => by cases e)) 0).trans rfl), ((blk_cell (HOT.out _ _ HGB.out (fun _ e => by cases e)) 23).trans rfl), ((blk_cell (HOT.out _ _ HGZ.out (fun _ e => by cases e)) 0).trans rfl), ((blk_cell (HOT.out _ _ HGX.out (fun _ e => by cases e)) 14).trans (by rw [HBS.out]; rfl)), hl5⟩ (fun hHeld => ?_); clear hK K; refine norm_ (a' := ?_) ?_ ?_; rotate_left
  ·
   show Act.put _ (some 39) _ = _; simp only [Act.put, List.setIfInBounds_toArray, List.set_cons_zero, List.set_cons_succ, i64_w, i32_w]; rfl
  refine last_ (i := 16) (N := none) #[true, true, true, true, true, true, true, true, true, true, true, true, true, true, true, true, true] rfl rfl (one_of HT_.out (by kernel_rfl)) (by decide) (fun K hK => ?_); refine skip_ (w1 := ?_) (by rfl) rfl ?_ ?_; rotate_left
  ·
   go_simp; rfl
  refine hK.out _ _ ?_; clear hK K; refine done_ (done_of HT_.out (by kernel_rfl)) ?_; clear zf z23 zz z14 zl hl5; have HBK3 := Lib.hid (HOX.out _ _ HGB.out (fun _ e => by cases e) (HNM.out _ _ _ HGB.out)); have xf : X3.cell? ⟨gf, 0, none⟩ = some (.pointer (some ⟨g, 0, none⟩)) := (blk_cell (HOX.out _ _ HGF.out (fun _ e => by cases e) (HNM.out _ _ _ HGF.out)) 0).trans rfl; have x21 : X3.cell? ⟨g, 21, none⟩ = some (.slice (some ⟨gq, oq, none⟩) D.length cq) := (blk_cell HBK3.out 21).trans rfl; have x21f : X3.frozen? ⟨g, 21, none⟩ = false := blk_frozen HBK3.out 21
  obtain ⟨A', hA'⟩ : ∃ A', (if cq = (1 : Int).toNat then some ⟨gq, oq, none⟩ else (some (⟨gq, oq, none⟩ : Addr)).map (·.add ((1 : Int).toNat * 4))) = A' := ⟨_, rfl⟩
  obtain ⟨n', hn'⟩ : ∃ n', D.length - (1 : Int).toNat = n' := ⟨_, rfl⟩
  obtain ⟨c', hc'⟩ : ∃ c', cq - (1 : Int).toNat = c' := ⟨_, rfl⟩
  obtain ⟨i25, hi25, hz25⟩ : ∃ i, Try.prog.info? 25 = some i ∧ i.size = 4 := ⟨_, rfl, rfl⟩
  have hsl : ∀ W : World, (Instr.slice 22 (.slice (some ⟨gq, oq, none⟩) D.length cq) (some (.int .i64 1)) none none).run Try.prog W = .ok (.slice A' n' c') W := fun W => by
   rw [← hA', ← hn', ← hc']; exact cut_from 22 25 .i64 Try.underlying22 hi25 4 hz25 (some ⟨gq, oq, none⟩) D.length cq 1 (by omega) (by omega) W
  have HQ4 := Lib.hid (show Kd.Q k25 25 X3 w0.heap.size (fun _ => True) (.slice A' n' c') (D.drop 1) from by rw [← hA', ← hn', ← hc']; exact Kd.Q_drop HQ3.out (by omega))
  have HOWN := Lib.hid (show (Value.slice A' n' c').ownBlock = some gq from by
   rw [← hA']
   split
   ·
    rfl
   ·
    simp [Value.ownBlock, Addr.add])
  clear hA' hn' hc' hi25 hz25; go_wp2_with fail
  refine start_ (n := 9) (S := fun w' => w'.cell? ⟨gf, 0, none⟩ = some (.pointer (some ⟨g, 0, none⟩)) ∧ w'.cell? ⟨g, 21, none⟩ = some (.slice (some ⟨gq, oq, none⟩) D.length cq)) (ds := [8]) #[false, false, false, false, false, false, false, false, false] (by kernel_rfl) rfl rfl ⟨xf, x21⟩ (fun hHeld => ?_); refine with_tabW PStr6.tab6 PStr6.bits6 (fun HT_ HW_ => ?_); refine take_ (i := 0) (N := some 40) (v := ?_) (a' := ?_) #[true, false, false, false, false, false, false, false, false] rfl rfl (take_ofW HT_.out HW_.out (by kernel_rfl)) (fun _ _ _ h => h) (Or.inl ⟨by rfl, ?_⟩) hHeld ?_ ?_; rotate_left
  ·
   rintro w' ⟨s0, s1⟩; go_simp; with_reducible rfl
  rotate_left
  ·
   simp only [Act.put, List.setIfInBounds_toArray, List.set_cons_zero, List.set_cons_succ, i64_w, i32_w]; rfl
  refine take_ (i := 1) (N := some 41) (v := ?_) (a' := ?_) #[true, true, false, false, false, false, false, false, false] rfl rfl (take_ofW HT_.out HW_.out (by kernel_rfl)) (fun _ _ _ h => h) (Or.inl ⟨by rfl, ?_⟩) hHeld ?_ ?_; rotate_left
  ·
   rintro w' ⟨s0, s1⟩; go_simp; with_reducible rfl
  rotate_left
  ·
   simp only [Act.put, List.setIfInBounds_toArray, List.set_cons_zero, List.set_cons_succ, i64_w, i32_w]; rfl
  refine pure_ (i := 2) (N := some 42) (v := ?_) (a' := ?_) #[true, true, true, false, false, false, false, false, false] rfl rfl (any_of HT_.out (by kernel_rfl)) (fun _ _ _ h => h) (Or.inl ⟨by rfl, ?_⟩) ?_ ?_; rotate_left
  ·
   intro w'; go_simp; with_reducible rfl
  rotate_left
  ·
   simp only [Act.put, List.setIfInBounds_toArray, List.set_cons_zero, List.set_cons_succ, i64_w, i32_w]; rfl
  refine pure_ (i := 3) (N := some 43) (v := ?_) (a' := ?_) #[true, true, true, true, false, false, false, false, false] rfl rfl (any_of HT_.out (by kernel_rfl)) (fun _ _ _ h => h) (Or.inl ⟨by rfl, ?_⟩) ?_ ?_; rotate_left
  ·
   intro w'; go_simp; with_reducible rfl
  rotate_left
  ·
   simp only [Act.put, List.setIfInBounds_toArray, List.set_cons_zero, List.set_cons_succ, i64_w, i32_w]; rfl
  refine take_ (i := 4) (N := some 44) (v := ?_) (a' := ?_) #[true, true, true, true, true, false, false, false, false] rfl rfl (take_ofW HT_.out HW_.out (by kernel_rfl)) (fun _ _ _ h => h) (Or.inl ⟨by rfl, ?_⟩) hHeld ?_ ?_; rotate_left
  ·
   rintro w' ⟨s0, s1⟩; go_simp; with_reducible rfl
  rotate_left
  ·
   simp only [Act.put, List.setIfInBounds_toArray, List.set_cons_zero, List.set_cons_succ, i64_w, i32_w]; rfl
  refine pure_ (i := 5) (N := some 45) (v := ?_) (a' := ?_) #[true, true, true, true, true, true, false, false, false] rfl rfl (any_of HT_.out (by kernel_rfl)) (fun _ _ _ h => h) (Or.inl ⟨by rfl, ?_⟩) ?_ ?_; rotate_left
  ·
   intro w'; go_simp; with_reducible rfl
  rotate_left
  ·
   simp only [Act.put, List.setIfInBounds_toArray, List.set_cons_zero, List.set_cons_succ, i64_w, i32_w]; rfl
  refine pure_ (i := 6) (N := some 46) (v := ?_) (a' := ?_) #[true, true, true, true, true, true, true, false, false] rfl rfl (any_of HT_.out (by kernel_rfl)) (fun _ _ _ h => h) (Or.inl ⟨by rfl, ?_⟩) ?_ ?_; rotate_left
  ·
   intro w'; go_simp; with_reducible rfl
  rotate_left
  ·
   simp only [Act.put, List.setIfInBounds_toArray, List.set_cons_zero, List.set_cons_succ, i64_w, i32_w]; rfl
  refine pure_ (i := 7) (N := some 47) (v := ?_) (a' := ?_) #[true, true, true, true, true, true, true, true, false] rfl rfl (any_of HT_.out (by kernel_rfl)) (fun _ _ _ h => h) (Or.inl ⟨by rfl, ?_⟩) ?_ ?_; rotate_left
  ·
   intro w'; go_simp; with_reducible rfl
  rotate_left
  ·
   simp only [Act.put, List.setIfInBounds_toArray, List.set_cons_zero, List.set_cons_succ, i64_w, i32_w]; rfl
  refine last_ (i := 8) (N := none) #[true, true, true, true, true, true, true, true, true] rfl rfl (one_of HT_.out (by kernel_rfl)) (by decide) (fun K hK => ?_); refine skip_ (w1 := ?_) (by rfl) rfl ?_ ?_; rotate_left
  ·
   go_simp; rfl
  refine hK.out _ _ ?_; clear hK K; refine done_ (done_of HT_.out (by kernel_rfl)) ?_; go_wp2; go_ret; unfold StrOut
  obtain ⟨X4, hX4, hx4, hg4⟩ : ∃ X4, X4 = (X3.setCell ⟨g, 21, none⟩ (.slice A' n' c')).drew ∧ X4.heap[g]? = some (.cells (fcells x seq c (.slice A' n' c') er gm (hf g 44) 7) 77 (0, 0)) ∧ X3.grownBy X4 (some g) :=
   ⟨_, rfl, blk_set HBK3.out 21 _, grown_drew (grown_set HBK3.out 21 _)⟩
  rw [← hX4]; refine ⟨by rw [HOK.out]; rfl, (fun h => by rw [HOK.out] at h; cases h), fun _ => ⟨v5, .slice A' n' c', hx4, ?_, ?_, below_grow HB3.out hg4 HGG.out, ?_, ?_⟩⟩
  ·
   exact Kd.Q_grown1 HQ4.out rfl hg4 (fun e => by
    obtain ⟨cells, hh2⟩ := Kd.Q_typed HQ4.out g e.symm; rw [HBK3.out] at hh2
    cases hh2)
  ·
   exact hm_set HM3.out HBK3.out (by decide) hg4
  ·
   refine Kept.of_grown hg4 ((Kept.of_below HBX1.out _).then_ HFT.out.kept (fun k hk => .inl (.inr (.inr hk)))) (fun k hk => .inl (.inl (by cases hk; rfl)))
  ·
   rintro k (h | h | h)
   ·
    exact .inl (.inl h)
   ·
    rw [HOWN.out] at h; exact .inl (.inr (.inl h))
   ·
    rcases HFT.out.own k h with h1 | h1
    ·
     exact .inl (.inr (.inr h1))
    ·
     exact .inr (Nat.le_trans HBX1.out.size h1)
end Ps
end Go.Proofs.Ytgagcimfkmegnaa
end
