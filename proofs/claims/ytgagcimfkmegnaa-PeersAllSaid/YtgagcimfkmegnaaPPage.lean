/- The fetch: page. -/
import Derived.Test.YtgagcimfkmegnaaPSt
import Derived.Deep.Light
section
namespace Go.Proofs.Ytgagcimfkmegnaa
set_option linter.unusedVariables false
set_option linter.unusedSimpArgs false
open Go.RowKit Go.Proofs.YtgagcimfkmegnaaW.PrintWords Go.Proofs.YtgagcimfkmegnaaW.PrintLast Go.Proofs.YtgagcimfkmegnaaW.PrintMore Go.Proofs.Ytgagcimfkmegnaa.QT
namespace Ps
/-- Is a meta behind a cursor? -/
def behP (m : Me) (b : Int) (i : ByteArray) : Bool := decide (b < m.f1) || (m.f1 == b && Op.bytesLess i.toList m.f0.toList)
def aggM (m : Me) : Value := .agg #[.string m.f0, .int .i64 m.f1, .int .i64 m.f2, .int .u32 m.f3]
def ordM (a b : Me) : Int := if a.f1 < b.f1 then -1 else if a.f1 > b.f1 then 1 else cmpStr a.f0 b.f0
theorem or_two (t u : Int) : Ev (fun k => cmp_Or_int.f k [t, u]) (if t = 0 then u else t) := by
 unfold cmp_Or_int.f; have w1 : wrap64 (0 + 1) = 1 := by unfold wrap64; omega
 have w2 : wrap64 (1 + 1) = 2 := by unfold wrap64; omega
 have r0 : rd [t, u] 0 = t := rfl; have r1 : rd [t, u] 1 = u := rfl
 by_cases ht : t = 0
 ·
  rw [if_pos ht]; refine Ev.step (f := fun k => cmp_Or_int.l0 k 0 [t, u] ([t, u].length : Int) 1) (fun k => ?_) ?_
  ·
   rw [cmp_Or_int.l0, if_pos (by simp), if_pos (by omega), if_pos (by simp), r0, if_pos ht, w1]
  ·
   by_cases hu : u = 0
   ·
    refine Ev.step (f := fun k => cmp_Or_int.l0 k 0 [t, u] ([t, u].length : Int) 2) (fun k => ?_) ?_
    ·
     rw [cmp_Or_int.l0, if_pos (by simp), if_pos (by omega), if_pos (by simp), r1, if_pos hu, w2]
    ·
     refine Ev.step (f := fun _ => some u) (fun k => ?_) (Ev.now _); rw [cmp_Or_int.l0, if_neg (by simp), hu]
   ·
    refine Ev.step (f := fun _ => some u) (fun k => ?_) (Ev.now _); rw [cmp_Or_int.l0, if_pos (by simp), if_pos (by omega), if_pos (by simp), r1, if_neg hu]
 ·
  rw [if_neg ht]; refine Ev.step (f := fun _ => some t) (fun k => ?_) (Ev.now _); rw [cmp_Or_int.l0, if_pos (by simp), if_pos (by omega), if_pos (by simp), r0, if_neg ht]
theorem order_ev (a b : Me) : Ev (fun k => peers_order.f k a.f0 a.f1 a.f2 a.f3 b.f0 b.f1 b.f2 b.f3) (ordM a b) := by
 have e1 : cmp_Compare_int.f a.f1 b.f1 = some (if a.f1 < b.f1 then -1 else if a.f1 > b.f1 then 1 else 0) := by
  simp only [cmp_Compare_int.f, cmp_isNaN_int.f, bne_self_eq_false, Option.bind_some, Bool.false_eq_true, if_false]
  split
  ·
   rfl
  ·
   split <;> rfl
 have e2 : cmp_Compare_string.f a.f0 b.f0 = some (cmpStr a.f0 b.f0) := rfl; unfold peers_order.f; refine Ev.congr (fun k => by rw [e1, Option.bind_some, e2, Option.bind_some]) ?_; refine (or_two _ _).bind (f := fun _ t => some t) ?_
 have : (if (if a.f1 < b.f1 then (-1 : Int) else if a.f1 > b.f1 then 1 else 0) = 0 then cmpStr a.f0 b.f0 else (if a.f1 < b.f1 then -1 else if a.f1 > b.f1 then 1 else 0)) = ordM a b := by
  unfold ordM
  by_cases h1 : a.f1 < b.f1
  ·
   simp [h1]
  ·
   by_cases h2 : a.f1 > b.f1
   ·
    simp [h1, h2]
   ·
    simp [h1, h2]
 rw [this]; exact Ev.now _
theorem ord_le (a b : Me) : decide (ordM a b ≤ 0) = !behP a b.f1 b.f0 := by
 unfold ordM behP
 by_cases h1 : a.f1 < b.f1
 ·
  rw [if_pos h1, decide_eq_false (show ¬ b.f1 < a.f1 by omega), beq_eq_false_iff_ne.2 (show a.f1 ≠ b.f1 by omega)]; rfl
 ·
  rw [if_neg h1]
  by_cases h2 : a.f1 > b.f1
  ·
   rw [if_pos h2, decide_eq_true (show b.f1 < a.f1 by omega)]; rfl
  ·
   rw [if_neg h2, decide_eq_false (show ¬ b.f1 < a.f1 by omega), beq_iff_eq.2 (show a.f1 = b.f1 by omega)]; unfold cmpStr
   cases h3 : Op.bytesLess a.f0.toList b.f0.toList with
   | true => rw [bytesLess_asymm _ _ h3]; rfl
   | false => cases Op.bytesLess b.f0.toList a.f0.toList <;> rfl
theorem order_calls (w : World) (a b : Me) : Calls Try.prog 27 #[aggM a, aggM b] w fun e w' => ∃ r : Int, e = .returned (.int .i64 r) ∧ decide (r ≤ 0) = (!behP a b.f1 b.f0) ∧ Below w.heap.size w w' := by
 obtain ⟨k, hk⟩ := (order_ev a b).rounds
 exact (peers_order.calls k a.f0 a.f1 a.f2 a.f3 b.f0 b.f1 b.f2 b.f3 _ w hk).mono fun e w' h => ⟨_, h.1, ord_le a b, h.2⟩
/-- A message's cells. -/
def mcs (m : S46) (A1 : Option Addr) (c1 : Nat) (A2 : Option Addr) (c2 : Nat) : Array Value := #[.int .i64 m.f0, .int .i64 m.f1, .int .i64 m.f2, .int .i64 m.f3, .int .i64 m.f4, .string m.f5, .int .i64 m.f6, .int .i64 m.f7.f0, .int .i64 m.f7.f1, .int .i64 m.f8.f0, .int .u64 m.f8.f1, .int .u64 m.f8.f2, .int .i64 m.f9, .bool m.f10, .slice A1 m.f11.length c1, .slice A2 m.f12.length c2]
/-- What a page's metas do to the cursor and the list: those behind the cursor are taken, till one is not. -/
def pageF : Int → ByteArray → List Me → List Me → (Int × ByteArray × List Me) × Bool
 | b, i, L, [] => ((b, i, L), true)
 | b, i, L, m :: r => if behP m b i = true then pageF m.f1 m.f0 (L ++ [m]) r else ((b, i, L), false)
end Ps
end Go.Proofs.Ytgagcimfkmegnaa
end
section
set_option maxHeartbeats 2000000
set_option maxRecDepth 100000
namespace Go.Proofs.Ytgagcimfkmegnaa
set_option linter.unusedVariables false
set_option linter.unusedSimpArgs false
open Go.RowKit Go.Proofs.YtgagcimfkmegnaaW.PrintWords Go.Proofs.YtgagcimfkmegnaaW.PrintLast Go.Proofs.YtgagcimfkmegnaaW.PrintMore Go.Proofs.Ytgagcimfkmegnaa.QT
namespace Ps
/-- A point that lies out of its block. -/
def oddP (b sz : Int) (p : Pt) : Bool := decide (p.f0 < b) || decide (wrap64 (p.f0 - b) ≥ sz)
theorem odd_calls (w : World) (p : Pt) (gb gf g : Nat) (b sz : Int) (h1 : w.cell? ⟨gb, 1, none⟩ = some (.int .i64 b)) (h2 : w.cell? ⟨gf, 0, none⟩ = some (.pointer (some ⟨g, 0, none⟩))) (h3 : w.cell? ⟨g, 20, none⟩ = some (.int .i64 sz)) :
  Calls Try.prog 61 #[.agg #[.int .i64 p.f0, .int .u64 p.f1, .int .u64 p.f2], .pointer (some ⟨gb, 0, none⟩), .pointer (some ⟨gf, 0, none⟩)] w fun e w' => e = .returned (.bool (oddP b sz p)) ∧ Below w.heap.size w w' := by
 unfold oddP
 cases hd : decide (p.f0 < b) with
 | true =>
  rw [Bool.true_or]; go_enter Try.func61, Try.ntmps61
  go_wp2_with (first
   | ((with_reducible refine gate_dst (N := 3) rfl ?_); refine box_event rfl (N := 3) rfl (cs := #[.int .i64 p.f0, .int .u64 p.f1, .int .u64 p.f2]) (t := 42) ?hr ?_; (case hr => go_simp; done); intro gp hgp Y hboy hbY; have HY := Lib.hid hbY; have y0 : Y.cell? ⟨gp, 0, none⟩ = some (.int .i64 p.f0) := (blk_cell hboy 0).trans rfl; have y1 := pw_cell_below hbY h1; have y2 := pw_cell_below hbY h2; have y3 := pw_cell_below hbY h3; clear hgp hboy hbY h1 h2 h3))
  go_quiet (fail)
  go_wp2; go_ret
  exact ⟨rfl, below_drewN HY.out _⟩
 | false =>
  rw [Bool.false_or]; go_enter Try.func61, Try.ntmps61
  go_wp2_with (first
   | ((with_reducible refine gate_dst (N := 3) rfl ?_); refine box_event rfl (N := 3) rfl (cs := #[.int .i64 p.f0, .int .u64 p.f1, .int .u64 p.f2]) (t := 42) ?hr ?_; (case hr => go_simp; done); intro gp hgp Y hboy hbY; have HY := Lib.hid hbY; have y0 : Y.cell? ⟨gp, 0, none⟩ = some (.int .i64 p.f0) := (blk_cell hboy 0).trans rfl; have y1 := pw_cell_below hbY h1; have y2 := pw_cell_below hbY h2; have y3 := pw_cell_below hbY h3; clear hgp hboy hbY h1 h2 h3))
  go_quiet (fail)
  go_wp2; go_ret; exact ⟨rfl, below_drewN HY.out _⟩
theorem index_calls (w : World) (A : Option Addr) (c : Nat) (l : List Pt) (hC : Kd.C k42 w A l.length l) (hn : l.length ≤ 1000000) (p : Pt → Bool) (gb gf : Nat)
  (hp : ∀ W, Below w.heap.size w W → ∀ q : Pt, Calls Try.prog 61 #[.agg #[.int .i64 q.f0, .int .u64 q.f1, .int .u64 q.f2], .pointer (some ⟨gb, 0, none⟩), .pointer (some ⟨gf, 0, none⟩)] W fun e w' => e = .returned (.bool (p q)) ∧ Below W.heap.size W w') :
  Calls Try.prog 72 #[.slice A l.length c, .func (.func 61) #[] #[.pointer (some ⟨gb, 0, none⟩), .pointer (some ⟨gf, 0, none⟩)]] w fun e w' => ∃ r : Int, e = .returned (.int .i64 r) ∧ decide (r ≥ 0) = l.any p ∧ Below w.heap.size w w' := by
 have HC := Lib.hid hC; have HP := Lib.hid hp; have HNL := Lib.hid hn; clear hC hp hn; go_enter Try.func72, Try.ntmps72
 go_wp2_with fail
 go_loopg [5, 8] l.length (fun gn v5 v8 wr => ∃ (i : Nat), v8 = .int .i64 (i : Int) ∧ Aside0 (gn = l.length - i) ∧ Aside0 (i ≤ l.length) ∧ Aside0 (l.any p = (l.drop i).any p) ∧ Aside0 (Below w.heap.size w wr))
 case atStart => exact ⟨0, rfl, ⟨rfl⟩, ⟨Nat.zero_le _⟩, ⟨rfl⟩, ⟨Below.refl _ _⟩⟩
 case round =>
  obtain ⟨i, rfl, HN1, HI, HA, HB⟩ := hrel
  by_cases hi : i < l.length
  ·
   have hi0 : (i : Int) < (l.length : Int) := by omega
   have hz : (0 : Int) ≤ (i : Int) := by omega
   have hwi : wrap64 ((i : Int) + 1) = ((i + 1 : Nat) : Int) := by have := HNL.out; unfold wrap64; omega
   obtain ⟨ad, hA, p0, p1, p2⟩ := at_T42 (Kd.C_below HC.out HB.out) (i : Int) hz hi0; cases hA
   obtain ⟨q, hq⟩ : ∃ q, rd_T42 l (i : Int) = q := ⟨_, rfl⟩
   rw [hq, Int.toNat_natCast] at p0 p1 p2
   have hdr : l.drop i = q :: l.drop (i + 1) := by
    rw [List.drop_eq_getElem_cons hi, ← hq]; unfold rd_T42; rw [Int.toNat_natCast, List.getD_eq_getElem?_getD, List.getElem?_eq_getElem hi]; rfl
   have HDR := Lib.hid hdr; have HPQ := Lib.hid (HP.out wr HB.out q); have HIN := Lib.hid (show ∀ k, k = l.length - i → l.length - (i + 1) < k by intro k hk; omega); clear hq hdr
   obtain ⟨r, hr⟩ : ∃ r, p q = r := ⟨_, rfl⟩
   rw [hr] at HPQ; have HAQ := Lib.hid (show l.any p = (r || (l.drop (i + 1)).any p) by rw [HA.out, HDR.out, List.any_cons, hr]); clear hr; go_wp2_with fail
   with_reducible refine HPQ.out.mono ?_
   rintro e w1 ⟨rfl, hb1⟩; have HB1 := Lib.hid (below_then HB.out HB.out.size hb1); clear hb1 p0 p1 p2
   cases r with
   | true =>
    go_wp2; go_ret
    exact ⟨(i : Int), rfl, by rw [HAQ.out]; simp, HB1.out⟩
   | false =>
    go_wp2; go_roundg (l.length - (i + 1))
    case measure => go_light; exact HIN.out _ HN1.out
    case rel => exact ⟨i + 1, by (simp [hwi]; done), ⟨rfl⟩, ⟨hi⟩, ⟨by rw [HAQ.out]; rfl⟩, ⟨HB1.out⟩⟩
  ·
   have hge : ¬ (i : Int) < (l.length : Int) := by omega
   have HIE := Lib.hid (show l.any p = false by rw [HA.out, show i = l.length by have := HI.out; omega, List.drop_length]; rfl); go_wp2; go_ret; exact ⟨-1, rfl, by rw [HIE.out]; rfl, HB.out⟩
theorem contains_calls (w : World) (A : Option Addr) (c : Nat) (l : List Pt) (hC : Kd.C k42 w A l.length l) (hn : l.length ≤ 1000000) (p : Pt → Bool) (gb gf : Nat)
  (hp : ∀ W, Below w.heap.size w W → ∀ q : Pt, Calls Try.prog 61 #[.agg #[.int .i64 q.f0, .int .u64 q.f1, .int .u64 q.f2], .pointer (some ⟨gb, 0, none⟩), .pointer (some ⟨gf, 0, none⟩)] W fun e w' => e = .returned (.bool (p q)) ∧ Below W.heap.size W w') :
  Calls Try.prog 63 #[.slice A l.length c, .func (.func 61) #[] #[.pointer (some ⟨gb, 0, none⟩), .pointer (some ⟨gf, 0, none⟩)]] w fun e w' => e = .returned (.bool (l.any p)) ∧ Below w.heap.size w w' := by
 have HX := Lib.hid (index_calls w A c l hC hn p gb gf hp); clear hC hn hp; go_enter Try.func63, Try.ntmps63
 go_wp2_with fail
 with_reducible refine HX.out.mono ?_
 rintro e w1 ⟨r, rfl, hr, hb1⟩; have HB1 := Lib.hid hb1; have HR := Lib.hid hr; clear hb1 hr; go_wp2; go_ret; exact ⟨by rw [← HR.out]; rfl, HB1.out⟩
end Ps
end Go.Proofs.Ytgagcimfkmegnaa
end
section
namespace Go.Proofs.Ytgagcimfkmegnaa
set_option linter.unusedVariables false
set_option linter.unusedSimpArgs false
open Go.RowKit Go.Proofs.YtgagcimfkmegnaaW.PrintWords Go.Proofs.YtgagcimfkmegnaaW.PrintLast Go.Proofs.YtgagcimfkmegnaaW.PrintMore Go.Proofs.Ytgagcimfkmegnaa.QT
namespace Ps
/-- Are times in bounds, and rising behind the last one? -/
def chkL : Int → List Pt → Int
 | _, [] => 0
 | t, p :: r => if p.f0 < 0 ∨ p.f0 > 1099511627776 then 1 else if p.f0 ≤ t then 51 else chkL p.f0 r
def chkP (l : List Pt) : Int := if l.length > 512 then 52 else chkL (-1) l
theorem rdP_mid (P S : List Pt) (p : Pt) (i : Int) (hi : i = P.length) : rd_T42 (P ++ p :: S) i = p := by subst hi; unfold rd_T42; simp
theorem wn (n : Nat) (h : n ≤ 1000000) : wrap64 ((n : Int) + 1) = ((n + 1 : Nat) : Int) := by unfold wrap64; omega
theorem wp (n : Nat) (h : n ≤ 1000000) : wrap64 (((n + 1 : Nat) : Int) - 1) = (n : Int) := by unfold wrap64; omega
theorem chk_ev (l : List Pt) (hl : l.length ≤ 512) : ∀ (R P : List Pt) (t : Int), l = P ++ R → Ev (fun k => tsz_Check.l0 k t l (l.length : Int) (P.length : Int)) (chkL t R)
 | [], P, t, h => by
  refine Ev.step (f := fun _ => some 0) (fun k => ?_) (Ev.now _); have : l.length = P.length := by rw [h]; simp
  rw [tsz_Check.l0, if_neg (by omega)]
 | p :: R, P, t, h => by
  have hn : l.length = P.length + R.length + 1 := by rw [h]; simp; omega
  have e : rd_T42 l (P.length : Int) = p := by rw [h]; exact rdP_mid P R p _ rfl
  have ih := chk_ev l hl R (P ++ [p]) p.f0 (by rw [h]; simp); rw [List.length_append, List.length_singleton] at ih; unfold chkL
  by_cases h1 : p.f0 < 0 ∨ p.f0 > 1099511627776
  ·
   rw [if_pos h1]; refine Ev.step (f := fun k => tsz_Check.j1 k t l (l.length : Int) (P.length : Int) true p.f0 p.f1 p.f2) (fun k => ?_) (Ev.step (f := fun _ => some 1) (fun k => by rw [tsz_Check.j1, if_pos rfl]) (Ev.now _)); rw [tsz_Check.l0, if_pos (by omega), if_pos (by omega), if_pos (by omega), e]
   by_cases h2 : p.f0 < 0
   ·
    rw [if_pos h2]
   ·
    rw [if_neg h2, decide_eq_true (by omega : p.f0 > 1099511627776)]
  ·
   rw [if_neg h1]; have h2 : ¬ p.f0 < 0 := fun h => h1 (.inl h); have h3 : ¬ p.f0 > 1099511627776 := fun h => h1 (.inr h)
   have s1 : ∀ k, tsz_Check.l0 (k + 1) t l (l.length : Int) (P.length : Int) = tsz_Check.j1 k t l (l.length : Int) (P.length : Int) false p.f0 p.f1 p.f2 := fun k => by
    rw [tsz_Check.l0, if_pos (by omega), if_pos (by omega), if_pos (by omega), e, if_neg h2, decide_eq_false h3]
   by_cases h4 : p.f0 ≤ t
   ·
    rw [if_pos h4]; exact Ev.step s1 (Ev.step (f := fun _ => some 51) (fun k => by rw [tsz_Check.j1, if_neg (by simp), if_pos h4]) (Ev.now _))
   ·
    rw [if_neg h4]; refine Ev.step s1 (Ev.step (fun k => ?_) ih); rw [tsz_Check.j1, if_neg (by simp), if_neg h4, wn _ (by omega)]
theorem check_calls (w : World) (A : Option Addr) (c : Nat) (l : List Pt) (hC : Kd.C k42 w A l.length l) (hc : l.length ≤ c) :
  Calls Try.prog 62 #[.slice A l.length c] w fun e w' => e = .returned (.int .i64 (chkP l)) ∧ Below w.heap.size w w' := by
 have h : Ev (fun k => tsz_Check.f k l) (chkP l) := by
  unfold chkP
  by_cases hl : l.length > 512
  ·
   rw [if_pos hl]; exact Ev.congr (fun k => by unfold tsz_Check.f; rw [if_pos (by omega)]) (Ev.now 52)
  ·
   rw [if_neg hl]; exact Ev.congr (fun k => by unfold tsz_Check.f; rw [if_neg (by omega)]; rfl) (chk_ev l (by omega) l [] (-1) rfl)
 obtain ⟨k, hk⟩ := h.rounds; exact tsz_Check.calls k A c l _ w hC hc hk
end Ps
end Go.Proofs.Ytgagcimfkmegnaa
end
section
namespace Go.Proofs.Ytgagcimfkmegnaa
set_option linter.unusedVariables false
set_option linter.unusedSimpArgs false
open Go.RowKit Go.Proofs.YtgagcimfkmegnaaW.PrintWords Go.Proofs.YtgagcimfkmegnaaW.PrintLast Go.Proofs.YtgagcimfkmegnaaW.PrintMore Go.Proofs.Ytgagcimfkmegnaa.QT
namespace Ps
open Hm (Hp HM HMap cur put Sh Ft)
def PStr5.T5 : Bool × List (List Nat × List Nat) := (true, [([], []), ([0], [0]), ([1], [1]), ([2], [2]), ([], []), ([4], [4]), ([], []), ([6], [6]), ([7], [7]), ([8], [8]), ([], []), ([10], [10]), ([9, 11], [9, 11]), ([], []), ([13], [13]), ([12, 14], [12, 14]), ([3, 5, 15, 15, 0, 1, 2, 3, 4, 5, 6, 7, 8, 9, 10, 11, 12, 13, 14, 15], [3, 5, 15])])
def PStr5.B5 : List Nat := [0, 1, 3, 7, 0, 16, 0, 64, 192, 448, 0, 1024, 4032, 0, 8192, 32704, 65535]
theorem PStr5.tab5 : rtab .any (opsOf Try.f44 5) = PStr5.T5 := by kernel_rfl
theorem PStr5.bits5 : waitsOk PStr5.T5.2 PStr5.B5 = true := by kernel_rfl
def PStr6.T6 : Bool × List (List Nat × List Nat) := (true, [([], []), ([], []), ([1], [1]), ([2], [2]), ([3], [3]), ([4], [4]), ([0, 0, 1, 2, 3, 4, 5], [0]), ([6, 0, 1, 2, 3, 4, 5], [6]), ([7, 5, 0, 1, 2, 3, 4, 5], [5, 7])])
def PStr6.B6 : List Nat := [0, 0, 2, 6, 14, 30, 63, 127, 255]
theorem PStr6.tab6 : rtab .any (opsOf Try.f44 6) = PStr6.T6 := by kernel_rfl
theorem PStr6.bits6 : waitsOk PStr6.T6.2 PStr6.B6 = true := by kernel_rfl
/-- The map of rows stands where a block of other cells is written. -/
theorem hm_set {w w1 : World} {gm B T g : Nat} {hm : Hp} {cs : Array Value} {t : TypeId} (h : HM w gm B T hm) (hb : w.heap[g]? = some (.cells cs t (0, 0))) (ht : t ≠ 42) (hg : w.grownBy w1 (some g)) : HM w1 gm B T hm :=
 ⟨XM.MapIs.kept h.map hg (fun e => XM.MapIs.noCells h.map (by rw [show gm = g by cases e; rfl]; exact hb) rfl), fun e he => Hm.R97_grown (h.rows e he) hg (fun k hk e2 => by
   obtain ⟨c, hc⟩ := Hm.R97_cells (h.rows e he) k hk; rw [show k = g by cases e2; rfl, hb] at hc
   exact ht (by cases hc; rfl)), h.apart, h.len, h.cnt⟩
/-- Are a stream's points those of the block that was asked for? -/
def okP (m : Me) (sz : Int) (P : List Pt) : Bool := chkP P == 0 && !P.any (oddP m.f1 sz)
def PFt (g gm : Nat) (vM : Value) (hm : Hp) (k : Nat) : Prop := k = g ∨ vM.ownBlock = some k ∨ Sh gm hm k
/-- What stream leaves. -/
def StrOut (w0 w : World) (g gm : Nat) (x : Fx) (seq er : Int) (c : Me) (vM : Value) (D : List Me) (m : Me) (hm : Hp) (T : Nat) (P : List Pt) (e : Ending) (w' : World) : Prop :=
 e = .returned (.int .i64 (if okP m x.sz P = true then 0 else 50)) ∧
 (okP m x.sz P = false → Below w.heap.size w w') ∧
 (okP m x.sz P = true → ∃ (v1 vM' : Value), w'.heap[g]? = some (.cells (fcells x seq c vM' er gm (hf g 44) 7) 77 (0, 0)) ∧ Kd.Q k25 25 w' w0.heap.size (fun _ => True) vM' (D.drop 1) ∧
  HM w' gm w0.heap.size (T + (P.length + 1)) (put hm m.f0 v1 P) ∧ Below w0.heap.size w0 w' ∧ Kept w w' (PFt g gm vM hm) ∧ ∀ k, PFt g gm vM' (put hm m.f0 v1 P) k → PFt g gm vM hm k ∨ w.heap.size ≤ k)
end Ps
end Go.Proofs.Ytgagcimfkmegnaa
end
section
namespace Go.Proofs.Ytgagcimfkmegnaa
set_option linter.unusedVariables false
set_option linter.unusedSimpArgs false
open Go.RowKit Go.Proofs.YtgagcimfkmegnaaW.PrintWords Go.Proofs.YtgagcimfkmegnaaW.PrintLast Go.Proofs.YtgagcimfkmegnaaW.PrintMore Go.Proofs.Ytgagcimfkmegnaa.QT
namespace Ps
theorem info25 : (Try.prog.info? 25).map (fun i => (i.zero, i.size, i.bytes)) = some (some (.agg #[.string ⟨#[]⟩, .int .i64 0, .int .i64 0, .int .u32 0]), 4, 40) := by kernel_rfl
theorem R_singleM (W : World) (m : Me) (B gl : Nat) (hB : B ≤ W.heap.size) (hg : gl = W.heap.size) : Kd.R k25 25 (W.alloc (.cells #[.string m.f0, .int .i64 m.f1, .int .i64 m.f2, .int .u32 m.f3] 25)) B (fun _ => True) (.slice (some ⟨gl, 0, none⟩) 1 1) [m] := by
 subst hg; exact ⟨fun _ _ => trivial, _, World.ownsRow_lit (base := B) (e := 25) (size := 4) W #[.string m.f0, .int .i64 m.f1, .int .i64 m.f2, .int .u32 m.f3] 1 hB (by decide) rfl, (Reps.none _ _).snoc (k25_mkM _ _ _ m) rfl⟩
/-- The memory of a fetch while a page is read. -/
structure PM (w0 w wr : World) (g gx gm : Nat) (x : Fx) (seq er : Int) (bv : Array Value) (vM0 : Value) (c : Me) (L : List Me) (vM : Value) (h : Value) (kd : Int) : Prop where
 blk : wr.heap[g]? = some (.cells (fcells x seq c vM er gm h kd) 77 (0, 0))
 bx : wr.heap[gx]? = some (.cells bv 46 (0, 0))
 row : Kd.R k25 25 wr w0.heap.size (fun _ => True) vM L
 bel : Below w0.heap.size w0 wr
 kept : Kept w wr (fun k => k = g ∨ vM0.ownBlock = some k)
 own : ∀ k, vM.ownBlock = some k → vM0.ownBlock = some k ∨ w.heap.size ≤ k
 bg : w0.heap.size ≤ g
section
variable {w0 w wr : World} {g gx gm : Nat} {x : Fx} {seq er : Int} {bv : Array Value} {vM0 vM : Value} {c : Me} {L : List Me} {h : Value} {kd : Int}
theorem PM.below (hp : PM w0 w wr g gx gm x seq er bv vM0 c L vM h kd) {w1 : World} (hb : Below wr.heap.size wr w1) : PM w0 w w1 g gx gm x seq er bv vM0 c L vM h kd :=
 ⟨blk_below hp.blk hb, blk_below hp.bx hb, Kd.R_below hp.row hb, below_then hp.bel hp.bel.size hb, hp.kept.below hb, hp.own, hp.bg⟩
theorem PM.ne (hp : PM w0 w wr g gx gm x seq er bv vM0 c L vM h kd) : gx ≠ g := fun e => by
 have h1 := hp.bx; rw [e, hp.blk] at h1; cases h1
/-- The fetch's block is written. -/
theorem PM.set (hp : PM w0 w wr g gx gm x seq er bv vM0 c L vM h kd) {w1 : World} (hg : wr.grownBy w1 (some g)) {seq' er' : Int} {c' : Me} {h' : Value} {kd' : Int} (hb : w1.heap[g]? = some (.cells (fcells x seq' c' vM er' gm h' kd') 77 (0, 0))) : PM w0 w w1 g gx gm x seq' er' bv vM0 c' L vM h' kd' :=
 ⟨hb, blk_other hp.bx hg hp.ne, Kd.R_grown1 hp.row rfl hg (Kd.R_ne hp.row hp.blk (by decide)), below_grow hp.bel hg hp.bg, Kept.of_grown hg hp.kept (fun k hk => .inl (.inl (by cases hk; rfl))), hp.own, hp.bg⟩
/-- The list of metas has grown. -/
theorem PM.app (hp : PM w0 w wr g gx gm x seq er bv vM0 c L vM h kd) {X2 : World} {v5 : Value} {L' : List Me} (hg : wr.grownBy X2 vM.ownBlock) (hat : v5.ownBlock = vM.ownBlock ∨ ∃ b, v5.ownBlock = some b ∧ wr.heap.size ≤ b) (hR : Kd.R k25 25 X2 w0.heap.size (fun _ => True) v5 L') (hB : Below w0.heap.size w0 X2) : PM w0 w (X2.setCell ⟨g, 21, none⟩ v5) g gx gm x seq er bv vM0 c L' v5 h kd := by
 have hb := (hg.block g (blk_lt hp.blk) (Kd.R_ne hp.row hp.blk (by decide))).trans hp.blk; have hx := (hg.block gx (blk_lt hp.bx) (Kd.R_ne hp.row hp.bx (by decide))).trans hp.bx; refine ⟨blk_set hb 21 v5, (Below.heap_setCell X2 ⟨g, 21, none⟩ v5 gx hp.ne).trans hx, Kd.R_mono (Kd.R_far (Kd.R_tight rfl hR) (fun k hk e => Kd.R_ne hR hb (by decide) (by rw [show g = k from e.symm]; exact hk)) v5) (fun _ _ => trivial), hB.setCell hp.bg _, ?_, ?_, hp.bg⟩
 ·
  refine Kept.setCell (Kept.of_grown hg hp.kept (fun k hk => ?_)) (.inl (.inl rfl)) _; rcases hp.own k hk with h1 | h1
  ·
   exact .inl (.inr h1)
  ·
   exact .inr h1
 ·
  intro k hk; rcases hat with e | ⟨b, e, hb2⟩
  ·
   exact hp.own k (e.symm.trans hk)
  ·
   rw [e] at hk; cases hk; exact .inr (Nat.le_trans hp.kept.1 hb2)
end
/-- What a page brings: the cursor, the metas, whether it was right. -/
def pageA (b : Int) (i : ByteArray) (L : List Me) (more : Bool) (ms : List Me) : (Int × ByteArray × List Me) × Bool := if (more && (ms.length : Int) == 0) = true then ((b, i, L), false) else pageF b i L ms
/-- What page leaves. -/
def PageOut (w0 w : World) (g gm : Nat) (x : Fx) (seq er : Int) (vM0 : Value) (c0 : Me) (L0 : List Me) (more : Bool) (ms : List Me) (e : Ending) (w' : World) : Prop :=
 ∃ (gx : Nat) (bv : Array Value) (c : Me) (L : List Me) (vM : Value) (ok : Bool), e = .returned (.int .i64 (if ok = true then 0 else 50)) ∧ ((c.f1, c.f0, L), ok) = pageA c0.f1 c0.f0 L0 more ms ∧
  PM w0 w w' g gx gm x seq er bv vM0 c L vM (if (ok && !more) = true then hf g 44 else hf g 29) (if (ok && !more) = true then 7 else 5)
def PPage6.T6 : Bool × List (List Nat × List Nat) := (true, [([], []), ([], []), ([1], [1]), ([2], [2]), ([3], [3]), ([0, 4], [0, 4]), ([5], [5])])
def PPage6.B6 : List Nat := [0, 0, 2, 6, 14, 31, 63]
theorem PPage6.tab6 : rtab .any (opsOf Try.f29 6) = PPage6.T6 := by kernel_rfl
theorem PPage6.bits6 : waitsOk PPage6.T6.2 PPage6.B6 = true := by kernel_rfl
def PPage9.T9 : Bool × List (List Nat × List Nat) := (true, [([], []), ([], []), ([1], [1]), ([2], [2]), ([3], [3]), ([], []), ([5], [5]), ([4, 6], [4, 6]), ([0, 0, 1, 2, 3, 4, 5, 6, 7], [0]), ([8, 0, 1, 2, 3, 4, 5, 6, 7], [8]), ([9, 7, 7, 0, 1, 2, 3, 4, 5, 6, 7], [7, 9])])
def PPage9.B9 : List Nat := [0, 0, 2, 6, 14, 0, 32, 126, 255, 511, 1023]
theorem PPage9.tab9 : rtab .any (opsOf Try.f29 9) = PPage9.T9 := by kernel_rfl
theorem PPage9.bits9 : waitsOk PPage9.T9.2 PPage9.B9 = true := by kernel_rfl
theorem idx (i n : Nat) (h : i < n) (hn : n ≤ 1000000) : wrap64 ((i : Int) + 1) = ((i + 1 : Nat) : Int) := by unfold wrap64; omega
end Ps
end Go.Proofs.Ytgagcimfkmegnaa
end
