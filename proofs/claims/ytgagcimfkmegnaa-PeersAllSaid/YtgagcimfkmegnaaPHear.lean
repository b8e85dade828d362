/- The fetch: Hear. -/
import Derived.Test.YtgagcimfkmegnaaPPage
import Derived.Laws.EntriesVeiled
set_option maxHeartbeats 4000000
set_option maxRecDepth 100000
namespace Go.Proofs.Ytgagcimfkmegnaa
set_option linter.unusedVariables false
set_option linter.unusedSimpArgs false
open Go.RowKit Go.Proofs.YtgagcimfkmegnaaW.PrintWords Go.Proofs.YtgagcimfkmegnaaW.PrintLast Go.Proofs.YtgagcimfkmegnaaW.PrintMore Go.Proofs.Ytgagcimfkmegnaa.QT
namespace Ps
open Hm (Hp HM HMap cur put Sh Ft)
/-- The call of a method value. -/
theorem goesF_ {P : Program} {ops : Array Oper} {Q : Exit → Act → World → Prop} {oi : Oper} {N : Option Tmp} {a : Act} {w : World} {K : Act → World → Prop} {f : FuncId} {fn : Func} {t : Tmp} {asx : Array Operand} {ts : Array TypeId} (p : Value) (hf : P.funcs[f]? = some fn) (hname : (fn.name == "runtime.NumGoroutine") = false) (hb : fn.body.isSome = true) (args : Array Value)
  (hw : Region.wanted oi (yielded ops a.tmps) = true) (hN : oi.dst = N) (hop : oi.op = .call { callee := .value (.tmp t), args := asx, argTypes := ts }) (ht : a.eval (.tmp t) = .func (.func f) #[p] #[]) (hargs : #[p] ++ asx.map a.eval = args)
  (h : Calls P f args w fun e w' => ∃ v, e = .returned v ∧ K (a.put N v) w') : if Region.wanted oi (yielded ops a.tmps) = true then Oper.wp P oi a w K Q else K (a.put N undef) w := by
 refine call_ f args hw hN ?_ h; have he := enters_ hf hname hb args w; unfold execOp; simp only [hop, resolve, ht]; simp only [← hargs] at he ⊢; simp [Deferred.ofValue, invoke, he]
def hit (a : Fa) (m : S46) : Bool := a.live && (m.f1 == a.seq && m.f0 == wrap64 (a.kd + 1))
def good (sz : Int) (a : Fa) (m : S46) : Bool := hit a m && (m.f9 == 0 && (a.pg && okP (rd_T25 a.L a.n) sz m.f11))
/-- What a fetch comes to by a message. -/
def hearA (sz : Int) (a : Fa) (m : S46) : Fa :=
 if hit a m = true then
  if m.f9 = 0 then
   if a.pg = true then
    if okP (rd_T25 a.L a.n) sz m.f11 = true then ⟨wrap64 (a.seq + 1), a.blk, a.id, a.L, a.n + 1, true, 0⟩ else ⟨wrap64 (a.seq + 1), a.blk, a.id, a.L, a.n, true, 50⟩
   else ⟨wrap64 (a.seq + 1), (pageA a.blk a.id a.L m.f10 m.f12).1.1, (pageA a.blk a.id a.L m.f10 m.f12).1.2.1, (pageA a.blk a.id a.L m.f10 m.f12).1.2.2, a.n, (pageA a.blk a.id a.L m.f10 m.f12).2 && !m.f10, if (pageA a.blk a.id a.L m.f10 m.f12).2 = true then 0 else 50⟩
  else ⟨wrap64 (a.seq + 1), a.blk, a.id, a.L, a.n, a.pg, m.f9⟩
 else a
/-- What Hear leaves. -/
structure HearOut (w0 w : World) (g gm : Nat) (x : Fx) (vM : Value) (hm : Hp) (T : Nat) (a : Fa) (m : S46) (w' : World) (c' : Me) (vM' : Value) (hm' : Hp) : Prop where
 is : FIs w' w0.heap.size g gm vM' x c' (hearA x.sz a m)
 map : HM w' gm w0.heap.size (T + (m.f11.length + 1)) hm'
 told : good x.sz a m = true → ∃ v1, hm' = put hm (rd_T25 a.L a.n).f0 v1 m.f11
 not : good x.sz a m = false → hm' = hm
 bel : Below w0.heap.size w0 w'
 kept : Kept w w' (PFt g gm vM hm)
 own : ∀ k, PFt g gm vM' hm' k → PFt g gm vM hm k ∨ w.heap.size ≤ k
theorem stay (w0 w : World) (g gm : Nat) (x : Fx) (c : Me) (vM : Value) (hm : Hp) (T : Nat) (a : Fa) (m : S46) (A1 : Option Addr) (c1 : Nat) (A2 : Option Addr) (c2 : Nat)
  (hI : FIs w w0.heap.size g gm vM x c a) (hM : HM w gm w0.heap.size T hm) (hB : Below w0.heap.size w0 w) {w' : World} (hb : Below w.heap.size w w') (hh : hit a m = false) : HearOut w0 w g gm x vM hm T a m w' c vM hm :=
 ⟨by unfold hearA; rw [hh, if_neg (by simp)]; exact hI.below hb, (hM.below hb).more (Nat.le_add_right _ _), (fun h => by unfold good at h; rw [hh] at h; cases h), fun _ => rfl, below_then hB hB.size hb, Kept.of_below hb _, fun k hk => .inl hk⟩
theorem hear_dead (w0 w : World) (g gm : Nat) (x : Fx) (c : Me) (vM : Value) (hm : Hp) (T : Nat) (a : Fa) (m : S46) (A1 : Option Addr) (c1 : Nat) (A2 : Option Addr) (c2 : Nat)
  (hI : FIs w w0.heap.size g gm vM x c a) (hM : HM w gm w0.heap.size T hm) (hB : Below w0.heap.size w0 w) (hl : a.live = false) :
  Calls Try.prog 13 #[.pointer (some ⟨g, 0, none⟩), .agg (mcs m A1 c1 A2 c2)] w fun e w' => e = .returned (.bool (hit a m)) ∧ ∃ c' vM' hm', HearOut w0 w g gm x vM hm T a m w' c' vM' hm' := by
 have HO := Lib.hid (fun W (hW : Below w.heap.size w W) => stay w0 w g gm x c vM hm T a m A1 c1 A2 c2 hI hM hB hW (by unfold hit; rw [hl]; rfl)); have HH := Lib.hid (show hit a m = false by unfold hit; rw [hl]; rfl); have hbk := hI.blk; unfold hv at hbk; rw [hl, if_neg (by simp)] at hbk; have HBK := Lib.hid hbk; unfold mcs; rw [HH.out]; clear hI hM hB hl hbk; have q2 := nil_eq; go_enter Try.func13, Try.ntmps13
 go_wp2_with (first
  | ((with_reducible refine gate_dst (N := 3) rfl ?_); refine box_event rfl (N := 3) rfl (cs := #[.int .i64 m.f0, .int .i64 m.f1, .int .i64 m.f2, .int .i64 m.f3, .int .i64 m.f4, .string m.f5, .int .i64 m.f6, .int .i64 m.f7.f0, .int .i64 m.f7.f1, .int .i64 m.f8.f0, .int .u64 m.f8.f1, .int .u64 m.f8.f2, .int .i64 m.f9, .bool m.f10, .slice A1 m.f11.length c1, .slice A2 m.f12.length c2]) (t := 46) ?hr ?_; (case hr => first | (go_simp; done) | (go_simp; rfl)); intro gx hgx Y hboy hbY; have HY := Lib.hid (And.intro hboy hbY); have y0 : Y.cell? ⟨gx, 0, none⟩ = some (.int .i64 m.f0) := (blk_cell hboy 0).trans rfl; have y1 : Y.cell? ⟨gx, 1, none⟩ = some (.int .i64 m.f1) := (blk_cell hboy 1).trans rfl; have z24 : Y.cell? ⟨g, 24, none⟩ = some .nilFunc := (blk_cell (blk_below HBK.out hbY) 24).trans rfl; have z1 : Y.cell? ⟨g, 1, none⟩ = some (.int .i64 a.seq) := (blk_cell (blk_below HBK.out hbY) 1).trans rfl; have z25 : Y.cell? ⟨g, 25, none⟩ = some (.int .i64 a.kd) := (blk_cell (blk_below HBK.out hbY) 25).trans rfl; clear hgx hboy hbY))
 go_quiet (fail)
 go_wp2; go_ret; exact ⟨rfl, c, vM, hm, HO.out _ (below_drewN HY.out.2 _)⟩
theorem hear_otherPage (w0 w : World) (g gm : Nat) (x : Fx) (c : Me) (vM : Value) (hm : Hp) (T : Nat) (a : Fa) (m : S46) (A1 : Option Addr) (c1 : Nat) (A2 : Option Addr) (c2 : Nat)
  (hI : FIs w w0.heap.size g gm vM x c a) (hM : HM w gm w0.heap.size T hm) (hB : Below w0.heap.size w0 w) (hl : a.live = true) (hp : a.pg = false) (hh : hit a m = false) :
  Calls Try.prog 13 #[.pointer (some ⟨g, 0, none⟩), .agg (mcs m A1 c1 A2 c2)] w fun e w' => e = .returned (.bool (hit a m)) ∧ ∃ c' vM' hm', HearOut w0 w g gm x vM hm T a m w' c' vM' hm' := by
 have HO := Lib.hid (fun W (hW : Below w.heap.size w W) => stay w0 w g gm x c vM hm T a m A1 c1 A2 c2 hI hM hB hW hh); have HH := Lib.hid hh; have hbk := hI.blk; unfold hv Fa.kd at hbk; rw [hl, hp] at hbk; have HBK := Lib.hid hbk; unfold mcs; rw [HH.out]; unfold hit Fa.kd at hh; rw [hl, hp, Bool.true_and] at hh; clear hI hM hB hl hbk hp; have q1 := fn_eq
 cases hs : (m.f1 == a.seq) with
 | false =>
  have d1 : (m.f1 != a.seq) = true := by rw [bne, hs]; rfl
  clear hs hh; go_enter Try.func13, Try.ntmps13
  go_wp2_with (first
   | ((with_reducible refine gate_dst (N := 3) rfl ?_); refine box_event rfl (N := 3) rfl (cs := #[.int .i64 m.f0, .int .i64 m.f1, .int .i64 m.f2, .int .i64 m.f3, .int .i64 m.f4, .string m.f5, .int .i64 m.f6, .int .i64 m.f7.f0, .int .i64 m.f7.f1, .int .i64 m.f8.f0, .int .u64 m.f8.f1, .int .u64 m.f8.f2, .int .i64 m.f9, .bool m.f10, .slice A1 m.f11.length c1, .slice A2 m.f12.length c2]) (t := 46) ?hr ?_; (case hr => first | (go_simp; done) | (go_simp; rfl)); intro gx hgx Y hboy hbY; have HY := Lib.hid (And.intro hboy hbY); have y0 : Y.cell? ⟨gx, 0, none⟩ = some (.int .i64 m.f0) := (blk_cell hboy 0).trans rfl; have y1 : Y.cell? ⟨gx, 1, none⟩ = some (.int .i64 m.f1) := (blk_cell hboy 1).trans rfl; have z24 : Y.cell? ⟨g, 24, none⟩ = some (.func (.func 29) #[.pointer (some ⟨g, 0, none⟩)] #[]) := (blk_cell (blk_below HBK.out hbY) 24).trans rfl; have z1 : Y.cell? ⟨g, 1, none⟩ = some (.int .i64 a.seq) := (blk_cell (blk_below HBK.out hbY) 1).trans rfl; have z25 : Y.cell? ⟨g, 25, none⟩ = some (.int .i64 5) := (blk_cell (blk_below HBK.out hbY) 25).trans rfl; clear hgx hboy hbY))
  go_quiet (fail)
  go_wp2; go_ret
  exact ⟨rfl, c, vM, hm, HO.out _ (below_drewN HY.out.2 _)⟩
 | true =>
  have d1 : (m.f1 != a.seq) = false := by rw [bne, hs]; rfl
  rw [hs, Bool.true_and] at hh; have hh : (m.f0 == 6) = false := by rw [show wrap64 ((if (false = true) then (7 : Int) else 5) + 1) = 6 from by rw [if_neg (by simp)]; unfold wrap64; omega] at hh; exact hh
  have d2 : (m.f0 != 6) = true := by rw [bne, hh]; rfl
  clear hs hh; go_enter Try.func13, Try.ntmps13
  go_wp2_with (first
   | ((with_reducible refine gate_dst (N := 3) rfl ?_); refine box_event rfl (N := 3) rfl (cs := #[.int .i64 m.f0, .int .i64 m.f1, .int .i64 m.f2, .int .i64 m.f3, .int .i64 m.f4, .string m.f5, .int .i64 m.f6, .int .i64 m.f7.f0, .int .i64 m.f7.f1, .int .i64 m.f8.f0, .int .u64 m.f8.f1, .int .u64 m.f8.f2, .int .i64 m.f9, .bool m.f10, .slice A1 m.f11.length c1, .slice A2 m.f12.length c2]) (t := 46) ?hr ?_; (case hr => first | (go_simp; done) | (go_simp; rfl)); intro gx hgx Y hboy hbY; have HY := Lib.hid (And.intro hboy hbY); have y0 : Y.cell? ⟨gx, 0, none⟩ = some (.int .i64 m.f0) := (blk_cell hboy 0).trans rfl; have y1 : Y.cell? ⟨gx, 1, none⟩ = some (.int .i64 m.f1) := (blk_cell hboy 1).trans rfl; have z24 : Y.cell? ⟨g, 24, none⟩ = some (.func (.func 29) #[.pointer (some ⟨g, 0, none⟩)] #[]) := (blk_cell (blk_below HBK.out hbY) 24).trans rfl; have z1 : Y.cell? ⟨g, 1, none⟩ = some (.int .i64 a.seq) := (blk_cell (blk_below HBK.out hbY) 1).trans rfl; have z25 : Y.cell? ⟨g, 25, none⟩ = some (.int .i64 5) := (blk_cell (blk_below HBK.out hbY) 25).trans rfl; clear hgx hboy hbY))
  go_quiet (fail)
  go_wp2; go_ret; exact ⟨rfl, c, vM, hm, HO.out _ (below_drewN HY.out.2 _)⟩
theorem hear_otherStr (w0 w : World) (g gm : Nat) (x : Fx) (c : Me) (vM : Value) (hm : Hp) (T : Nat) (a : Fa) (m : S46) (A1 : Option Addr) (c1 : Nat) (A2 : Option Addr) (c2 : Nat)
  (hI : FIs w w0.heap.size g gm vM x c a) (hM : HM w gm w0.heap.size T hm) (hB : Below w0.heap.size w0 w) (hl : a.live = true) (hp : a.pg = true) (hh : hit a m = false) :
  Calls Try.prog 13 #[.pointer (some ⟨g, 0, none⟩), .agg (mcs m A1 c1 A2 c2)] w fun e w' => e = .returned (.bool (hit a m)) ∧ ∃ c' vM' hm', HearOut w0 w g gm x vM hm T a m w' c' vM' hm' := by
 have HO := Lib.hid (fun W (hW : Below w.heap.size w W) => stay w0 w g gm x c vM hm T a m A1 c1 A2 c2 hI hM hB hW hh); have HH := Lib.hid hh; have hbk := hI.blk; unfold hv Fa.kd at hbk; rw [hl, hp] at hbk; have HBK := Lib.hid hbk; unfold mcs; rw [HH.out]; unfold hit Fa.kd at hh; rw [hl, hp, Bool.true_and] at hh; clear hI hM hB hl hbk hp; have q1 := fn_eq
 cases hs : (m.f1 == a.seq) with
 | false =>
  have d1 : (m.f1 != a.seq) = true := by rw [bne, hs]; rfl
  clear hs hh; go_enter Try.func13, Try.ntmps13
  go_wp2_with (first
   | ((with_reducible refine gate_dst (N := 3) rfl ?_); refine box_event rfl (N := 3) rfl (cs := #[.int .i64 m.f0, .int .i64 m.f1, .int .i64 m.f2, .int .i64 m.f3, .int .i64 m.f4, .string m.f5, .int .i64 m.f6, .int .i64 m.f7.f0, .int .i64 m.f7.f1, .int .i64 m.f8.f0, .int .u64 m.f8.f1, .int .u64 m.f8.f2, .int .i64 m.f9, .bool m.f10, .slice A1 m.f11.length c1, .slice A2 m.f12.length c2]) (t := 46) ?hr ?_; (case hr => first | (go_simp; done) | (go_simp; rfl)); intro gx hgx Y hboy hbY; have HY := Lib.hid (And.intro hboy hbY); have y0 : Y.cell? ⟨gx, 0, none⟩ = some (.int .i64 m.f0) := (blk_cell hboy 0).trans rfl; have y1 : Y.cell? ⟨gx, 1, none⟩ = some (.int .i64 m.f1) := (blk_cell hboy 1).trans rfl; have z24 : Y.cell? ⟨g, 24, none⟩ = some (.func (.func 44) #[.pointer (some ⟨g, 0, none⟩)] #[]) := (blk_cell (blk_below HBK.out hbY) 24).trans rfl; have z1 : Y.cell? ⟨g, 1, none⟩ = some (.int .i64 a.seq) := (blk_cell (blk_below HBK.out hbY) 1).trans rfl; have z25 : Y.cell? ⟨g, 25, none⟩ = some (.int .i64 7) := (blk_cell (blk_below HBK.out hbY) 25).trans rfl; clear hgx hboy hbY))
  go_quiet (fail)
  go_wp2; go_ret
  exact ⟨rfl, c, vM, hm, HO.out _ (below_drewN HY.out.2 _)⟩
 | true =>
  have d1 : (m.f1 != a.seq) = false := by rw [bne, hs]; rfl
  rw [hs, Bool.true_and] at hh; have hh : (m.f0 == 8) = false := by rw [show wrap64 ((if (true = true) then (7 : Int) else 5) + 1) = 8 from by rw [if_pos rfl]; unfold wrap64; omega] at hh; exact hh
  have d2 : (m.f0 != 8) = true := by rw [bne, hh]; rfl
  clear hs hh; go_enter Try.func13, Try.ntmps13
  go_wp2_with (first
   | ((with_reducible refine gate_dst (N := 3) rfl ?_); refine box_event rfl (N := 3) rfl (cs := #[.int .i64 m.f0, .int .i64 m.f1, .int .i64 m.f2, .int .i64 m.f3, .int .i64 m.f4, .string m.f5, .int .i64 m.f6, .int .i64 m.f7.f0, .int .i64 m.f7.f1, .int .i64 m.f8.f0, .int .u64 m.f8.f1, .int .u64 m.f8.f2, .int .i64 m.f9, .bool m.f10, .slice A1 m.f11.length c1, .slice A2 m.f12.length c2]) (t := 46) ?hr ?_; (case hr => first | (go_simp; done) | (go_simp; rfl)); intro gx hgx Y hboy hbY; have HY := Lib.hid (And.intro hboy hbY); have y0 : Y.cell? ⟨gx, 0, none⟩ = some (.int .i64 m.f0) := (blk_cell hboy 0).trans rfl; have y1 : Y.cell? ⟨gx, 1, none⟩ = some (.int .i64 m.f1) := (blk_cell hboy 1).trans rfl; have z24 : Y.cell? ⟨g, 24, none⟩ = some (.func (.func 44) #[.pointer (some ⟨g, 0, none⟩)] #[]) := (blk_cell (blk_below HBK.out hbY) 24).trans rfl; have z1 : Y.cell? ⟨g, 1, none⟩ = some (.int .i64 a.seq) := (blk_cell (blk_below HBK.out hbY) 1).trans rfl; have z25 : Y.cell? ⟨g, 25, none⟩ = some (.int .i64 7) := (blk_cell (blk_below HBK.out hbY) 25).trans rfl; clear hgx hboy hbY))
  go_quiet (fail)
  go_wp2; go_ret; exact ⟨rfl, c, vM, hm, HO.out _ (below_drewN HY.out.2 _)⟩
/-- Only the fetch's own block was written; what it was told, and its metas, stand. -/
theorem fin_same {w0 w Y W3 : World} {g gm : Nat} {x : Fx} {c : Me} {vM : Value} {hm : Hp} {T : Nat} {a : Fa} {m : S46} (hI : FIs w w0.heap.size g gm vM x c a) (hM : HM w gm w0.heap.size T hm) (hB : Below w0.heap.size w0 w) (hY : Below w.heap.size w Y) (h1 : Y.grownBy W3 (some g)) {er : Int}
  (hE : hearA x.sz a m = ⟨wrap64 (a.seq + 1), a.blk, a.id, a.L, a.n, a.pg, er⟩) (hb : W3.heap[g]? = some (.cells (fcells x (wrap64 (a.seq + 1)) c vM er gm (hv g ⟨wrap64 (a.seq + 1), a.blk, a.id, a.L, a.n, a.pg, er⟩) a.kd) 77 (0, 0))) (hg : good x.sz a m = false) : HearOut w0 w g gm x vM hm T a m W3 c vM hm := by
 have b0 := blk_below hI.blk hY; refine ⟨?_, (hm_set (hM.below hY) b0 (by decide) h1).more (Nat.le_add_right _ _), (fun h => by rw [hg] at h; cases h), fun _ => rfl, below_grow (below_then hB hB.size hY) h1 hI.bg, Kept.of_grown h1 (Kept.of_below hY _) (fun k hk => .inl (.inl (by cases hk; rfl))), fun k hk => .inl hk⟩; rw [hE]; exact ⟨hb, Kd.Q_grown1 (Kd.Q_below hI.met hY) rfl h1 (Kd.Q_ne (Kd.Q_below hI.met hY) b0 (by decide)), hI.cb, hI.ci, hI.bg, hI.le, hI.pn, fun hp => Kd.R_grown1 (Kd.R_below (hI.mr hp) hY) rfl h1 (Kd.R_ne (Kd.R_below (hI.mr hp) hY) b0 (by decide))⟩
theorem hear_errPage (w0 w : World) (g gm : Nat) (x : Fx) (c : Me) (vM : Value) (hm : Hp) (T : Nat) (a : Fa) (m : S46) (A1 : Option Addr) (c1 : Nat) (A2 : Option Addr) (c2 : Nat)
  (hI : FIs w w0.heap.size g gm vM x c a) (hM : HM w gm w0.heap.size T hm) (hB : Below w0.heap.size w0 w) (hl : a.live = true) (hp : a.pg = false) (hh : hit a m = true) (h9 : m.f9 ≠ 0) :
  Calls Try.prog 13 #[.pointer (some ⟨g, 0, none⟩), .agg (mcs m A1 c1 A2 c2)] w fun e w' => e = .returned (.bool (hit a m)) ∧ ∃ c' vM' hm', HearOut w0 w g gm x vM hm T a m w' c' vM' hm' := by
 have HMM := Lib.hid hM; have HBW := Lib.hid hB; have HI := Lib.hid hI; have hbk := hI.blk; unfold hv Fa.kd at hbk; rw [hl, hp] at hbk; have HBK := Lib.hid hbk; have HH := Lib.hid hh; have HPG := Lib.hid hp; unfold mcs; rw [hh]; unfold hit Fa.kd at hh; rw [hl, hp, Bool.true_and, Bool.and_eq_true] at hh; have hs : (m.f1 != a.seq) = false := by rw [bne, hh.1]; rfl
 have hk : (m.f0 != 6) = false := by
  have h2 := hh.2; rw [show wrap64 ((if false = true then (7 : Int) else 5) + 1) = 6 from by rw [if_neg (by simp)]; unfold wrap64; omega] at h2; rw [bne, h2]; rfl
 clear hI hM hB hbk hp hh; have q1 := fn_eq; have d9 : (m.f9 == 0) = false := beq_eq_false_iff_ne.2 h9; have d9' : (m.f9 != 0) = true := bne_iff_ne.2 h9; have HE := Lib.hid (show hearA x.sz a m = ⟨wrap64 (a.seq + 1), a.blk, a.id, a.L, a.n, a.pg, m.f9⟩ by unfold hearA; rw [HH.out, if_pos rfl, if_neg h9]); have HGD := Lib.hid (show good x.sz a m = false by unfold good; rw [d9]; simp); clear h9 hl; go_enter Try.func13, Try.ntmps13
 go_wp2_with (first
  | ((with_reducible refine gate_dst (N := 3) rfl ?_); refine box_event rfl (N := 3) rfl (cs := #[.int .i64 m.f0, .int .i64 m.f1, .int .i64 m.f2, .int .i64 m.f3, .int .i64 m.f4, .string m.f5, .int .i64 m.f6, .int .i64 m.f7.f0, .int .i64 m.f7.f1, .int .i64 m.f8.f0, .int .u64 m.f8.f1, .int .u64 m.f8.f2, .int .i64 m.f9, .bool m.f10, .slice A1 m.f11.length c1, .slice A2 m.f12.length c2]) (t := 46) ?hr ?_; (case hr => first | (go_simp; done) | (go_simp; rfl)); intro gx hgx Y hboy hbY; have HY := Lib.hid (And.intro hboy hbY); have y0 : Y.cell? ⟨gx, 0, none⟩ = some (.int .i64 m.f0) := (blk_cell hboy 0).trans rfl; have y1 : Y.cell? ⟨gx, 1, none⟩ = some (.int .i64 m.f1) := (blk_cell hboy 1).trans rfl; have z24 : Y.cell? ⟨g, 24, none⟩ = some (.func (.func 29) #[.pointer (some ⟨g, 0, none⟩)] #[]) := (blk_cell (blk_below HBK.out hbY) 24).trans rfl; have z1 : Y.cell? ⟨g, 1, none⟩ = some (.int .i64 a.seq) := (blk_cell (blk_below HBK.out hbY) 1).trans rfl; have z25 : Y.cell? ⟨g, 25, none⟩ = some (.int .i64 5) := (blk_cell (blk_below HBK.out hbY) 25).trans rfl; clear hgx hboy hbY))
 go_quiet (fail)
 have HBY := Lib.hid (blk_below HBK.out HY.out.2); have hne : gx ≠ g := fun e => by have h1 := HY.out.1; rw [e, HBY.out] at h1; injection (Option.some.inj h1) with _ h2; exact absurd h2 (by decide)
 have HNE := Lib.hid hne; have y12 : Y.cell? ⟨gx, 12, none⟩ = some (.int .i64 m.f9) := (blk_cell HY.out.1 12).trans rfl; clear hne
 go_wp2_with (first
  | (refine store_blk (t := 3) (p := .tmp 38) (v := .tmp 35) (g := g) (off := 1) (cur := fcells x a.seq c vM a.er gm (hf g 29) 5) (cur' := fcells x (wrap64 (a.seq + 1)) c vM a.er gm (hf g 29) 5) (e := 77) (u := .int .i64 (wrap64 (a.seq + 1))) rfl rfl rfl rfl rfl HBY.out (by kernel_rfl) (Nat.le_of_ble_eq_true rfl) (by rfl) (by rfl) ?_; intro W1 hz1 hg1' hs1; have hg1 : Y.grownBy W1 (some g) := ⟨hg1'.os, hg1'.tape, hg1'.output, hg1'.size, hg1'.block⟩; have HW1 := Lib.hid (And.intro hz1 hg1); have HX1 := Lib.hid (blk_other HY.out.1 hg1 HNE.out); have w12 : W1.cell? ⟨gx, 12, none⟩ = some (.int .i64 m.f9) := (blk_cell HX1.out 12).trans rfl; clear hz1 hg1' hg1 hs1 y12 y0 y1 z24 z1 z25)
  | (refine store_blk (t := 43) (p := .tmp 43) (v := .tmp 41) (g := g) (off := 22) (cur := fcells x (wrap64 (a.seq + 1)) c vM a.er gm (hf g 29) 5) (cur' := fcells x (wrap64 (a.seq + 1)) c vM m.f9 gm (hf g 29) 5) (e := 77) (u := .int .i64 m.f9) rfl rfl rfl rfl rfl HW1.out.1 (by kernel_rfl) (Nat.le_of_ble_eq_true rfl) (by rfl) (by rfl) ?_; intro W2 hz2 hg2 hs2; have HW2 := Lib.hid (And.intro hz2 hg2); have HX2 := Lib.hid (blk_other HX1.out hg2 HNE.out); have w12 : W2.cell? ⟨gx, 12, none⟩ = some (.int .i64 m.f9) := (blk_cell HX2.out 12).trans rfl; have w22 : W2.cell? ⟨g, 22, none⟩ = some (.int .i64 m.f9) := (blk_cell hz2 22).trans rfl; have w24 : W2.cell? ⟨g, 24, none⟩ = some (.func (.func 29) #[.pointer (some ⟨g, 0, none⟩)] #[]) := (blk_cell hz2 24).trans rfl; have w24f : W2.frozen? ⟨g, 24, none⟩ = false := blk_frozen hz2 24; clear hz2 hg2 hs2))
 go_ret; have HW3 := Lib.hid (And.intro (blk_set HW2.out.1 24 .nilFunc) (grown_set HW2.out.1 24 .nilFunc)); refine ⟨rfl, c, vM, hm, fin_same HI.out HMM.out HBW.out HY.out.2 (grown_trans (grown_trans HW1.out.2 HW2.out.2) HW3.out.2) HE.out ?_ HGD.out⟩; have h9 : (m.f9 == 0) = false := d9; unfold hv Fa.live Fa.kd; rw [HPG.out, if_neg (by simp [h9])]; exact HW3.out.1
theorem hear_errStr (w0 w : World) (g gm : Nat) (x : Fx) (c : Me) (vM : Value) (hm : Hp) (T : Nat) (a : Fa) (m : S46) (A1 : Option Addr) (c1 : Nat) (A2 : Option Addr) (c2 : Nat)
  (hI : FIs w w0.heap.size g gm vM x c a) (hM : HM w gm w0.heap.size T hm) (hB : Below w0.heap.size w0 w) (hl : a.live = true) (hp : a.pg = true) (hh : hit a m = true) (h9 : m.f9 ≠ 0) :
  Calls Try.prog 13 #[.pointer (some ⟨g, 0, none⟩), .agg (mcs m A1 c1 A2 c2)] w fun e w' => e = .returned (.bool (hit a m)) ∧ ∃ c' vM' hm', HearOut w0 w g gm x vM hm T a m w' c' vM' hm' := by
 have HMM := Lib.hid hM; have HBW := Lib.hid hB; have HI := Lib.hid hI; have hbk := hI.blk; unfold hv Fa.kd at hbk; rw [hl, hp] at hbk; have HBK := Lib.hid hbk; have HH := Lib.hid hh; have HPG := Lib.hid hp; unfold mcs; rw [hh]; unfold hit Fa.kd at hh; rw [hl, hp, Bool.true_and, Bool.and_eq_true] at hh; have hs : (m.f1 != a.seq) = false := by rw [bne, hh.1]; rfl
 have hk : (m.f0 != 8) = false := by
  have h2 := hh.2; rw [show wrap64 ((if true = true then (7 : Int) else 5) + 1) = 8 from by rw [if_pos rfl]; unfold wrap64; omega] at h2; rw [bne, h2]; rfl
 clear hI hM hB hbk hp hh; have q1 := fn_eq; have d9 : (m.f9 == 0) = false := beq_eq_false_iff_ne.2 h9; have d9' : (m.f9 != 0) = true := bne_iff_ne.2 h9; have HE := Lib.hid (show hearA x.sz a m = ⟨wrap64 (a.seq + 1), a.blk, a.id, a.L, a.n, a.pg, m.f9⟩ by unfold hearA; rw [HH.out, if_pos rfl, if_neg h9]); have HGD := Lib.hid (show good x.sz a m = false by unfold good; rw [d9]; simp); clear h9 hl; go_enter Try.func13, Try.ntmps13
 go_wp2_with (first
  | ((with_reducible refine gate_dst (N := 3) rfl ?_); refine box_event rfl (N := 3) rfl (cs := #[.int .i64 m.f0, .int .i64 m.f1, .int .i64 m.f2, .int .i64 m.f3, .int .i64 m.f4, .string m.f5, .int .i64 m.f6, .int .i64 m.f7.f0, .int .i64 m.f7.f1, .int .i64 m.f8.f0, .int .u64 m.f8.f1, .int .u64 m.f8.f2, .int .i64 m.f9, .bool m.f10, .slice A1 m.f11.length c1, .slice A2 m.f12.length c2]) (t := 46) ?hr ?_; (case hr => first | (go_simp; done) | (go_simp; rfl)); intro gx hgx Y hboy hbY; have HY := Lib.hid (And.intro hboy hbY); have y0 : Y.cell? ⟨gx, 0, none⟩ = some (.int .i64 m.f0) := (blk_cell hboy 0).trans rfl; have y1 : Y.cell? ⟨gx, 1, none⟩ = some (.int .i64 m.f1) := (blk_cell hboy 1).trans rfl; have z24 : Y.cell? ⟨g, 24, none⟩ = some (.func (.func 44) #[.pointer (some ⟨g, 0, none⟩)] #[]) := (blk_cell (blk_below HBK.out hbY) 24).trans rfl; have z1 : Y.cell? ⟨g, 1, none⟩ = some (.int .i64 a.seq) := (blk_cell (blk_below HBK.out hbY) 1).trans rfl; have z25 : Y.cell? ⟨g, 25, none⟩ = some (.int .i64 7) := (blk_cell (blk_below HBK.out hbY) 25).trans rfl; clear hgx hboy hbY))
 go_quiet (fail)
 have HBY := Lib.hid (blk_below HBK.out HY.out.2); have hne : gx ≠ g := fun e => by have h1 := HY.out.1; rw [e, HBY.out] at h1; injection (Option.some.inj h1) with _ h2; exact absurd h2 (by decide)
 have HNE := Lib.hid hne; have y12 : Y.cell? ⟨gx, 12, none⟩ = some (.int .i64 m.f9) := (blk_cell HY.out.1 12).trans rfl; clear hne
 go_wp2_with (first
  | (refine store_blk (t := 3) (p := .tmp 38) (v := .tmp 35) (g := g) (off := 1) (cur := fcells x a.seq c vM a.er gm (hf g 44) 7) (cur' := fcells x (wrap64 (a.seq + 1)) c vM a.er gm (hf g 44) 7) (e := 77) (u := .int .i64 (wrap64 (a.seq + 1))) rfl rfl rfl rfl rfl HBY.out (by kernel_rfl) (Nat.le_of_ble_eq_true rfl) (by rfl) (by rfl) ?_; intro W1 hz1 hg1' hs1; have hg1 : Y.grownBy W1 (some g) := ⟨hg1'.os, hg1'.tape, hg1'.output, hg1'.size, hg1'.block⟩; have HW1 := Lib.hid (And.intro hz1 hg1); have HX1 := Lib.hid (blk_other HY.out.1 hg1 HNE.out); have w12 : W1.cell? ⟨gx, 12, none⟩ = some (.int .i64 m.f9) := (blk_cell HX1.out 12).trans rfl; clear hz1 hg1' hg1 hs1 y12 y0 y1 z24 z1 z25)
  | (refine store_blk (t := 43) (p := .tmp 43) (v := .tmp 41) (g := g) (off := 22) (cur := fcells x (wrap64 (a.seq + 1)) c vM a.er gm (hf g 44) 7) (cur' := fcells x (wrap64 (a.seq + 1)) c vM m.f9 gm (hf g 44) 7) (e := 77) (u := .int .i64 m.f9) rfl rfl rfl rfl rfl HW1.out.1 (by kernel_rfl) (Nat.le_of_ble_eq_true rfl) (by rfl) (by rfl) ?_; intro W2 hz2 hg2 hs2; have HW2 := Lib.hid (And.intro hz2 hg2); have HX2 := Lib.hid (blk_other HX1.out hg2 HNE.out); have w12 : W2.cell? ⟨gx, 12, none⟩ = some (.int .i64 m.f9) := (blk_cell HX2.out 12).trans rfl; have w22 : W2.cell? ⟨g, 22, none⟩ = some (.int .i64 m.f9) := (blk_cell hz2 22).trans rfl; have w24 : W2.cell? ⟨g, 24, none⟩ = some (.func (.func 44) #[.pointer (some ⟨g, 0, none⟩)] #[]) := (blk_cell hz2 24).trans rfl; have w24f : W2.frozen? ⟨g, 24, none⟩ = false := blk_frozen hz2 24; clear hz2 hg2 hs2))
 go_ret; have HW3 := Lib.hid (And.intro (blk_set HW2.out.1 24 .nilFunc) (grown_set HW2.out.1 24 .nilFunc)); refine ⟨rfl, c, vM, hm, fin_same HI.out HMM.out HBW.out HY.out.2 (grown_trans (grown_trans HW1.out.2 HW2.out.2) HW3.out.2) HE.out ?_ HGD.out⟩; have h9 : (m.f9 == 0) = false := d9; unfold hv Fa.live Fa.kd; rw [HPG.out, if_neg (by simp [h9])]; exact HW3.out.1
/-- The map of rows stands where blocks of other cells were written. -/
theorem hm_kept {w w1 : World} {gm B T : Nat} {hm : Hp} {S : Nat → Prop} (h : HM w gm B T hm) (hk : Kept w w1 S) (hS : ∀ k, S k → ∃ cs t, t ≠ 42 ∧ w.heap[k]? = some (.cells cs t (0, 0))) : HM w1 gm B T hm :=
 ⟨XM.MapIs.move h.map (hk.2 gm h.map.lt (fun hs => by obtain ⟨cs, t, _, hc⟩ := hS gm hs; exact XM.MapIs.noCells h.map hc rfl)), fun e he => Hm.R97 (Kd.R_kept (Hm.R97 (h.rows e he) (ok' := fun k => e.2.1.ownBlock = some k) (fun k hk => hk)) hk (fun k ho hs => by
   obtain ⟨cs, t, ht, hc⟩ := hS k hs; obtain ⟨c, hc2⟩ := Hm.R97_cells (h.rows e he) k ho; rw [hc] at hc2
   exact ht (by injection (Option.some.inj hc2)))) (fun _ _ => trivial), h.apart, h.len, h.cnt⟩
theorem fin_page {w0 w Y W2 w5 X : World} {g gm gx : Nat} {x : Fx} {c c' : Me} {vM vM' : Value} {hm : Hp} {T : Nat} {a : Fa} {m : S46} {bv : Array Value} {L' : List Me} {ok : Bool} {er0 kd0 : Int} {h0 : Value} (hI : FIs w w0.heap.size g gm vM x c a) (hM : HM w gm w0.heap.size T hm) (hB : Below w0.heap.size w0 w) (hY : Below w.heap.size w Y) (h1 : Y.grownBy W2 (some g)) {bs2 : Array Value} (hb2 : W2.heap[g]? = some (.cells bs2 77 (0, 0)))
  (hp : a.pg = false) (hh : hit a m = true) (h9 : m.f9 = 0) (hPM : PM w0 W2.drew w5 g gx gm x (wrap64 (a.seq + 1)) er0 bv vM c' L' vM' h0 kd0) (hpa : ((c'.f1, c'.f0, L'), ok) = pageA a.blk a.id a.L m.f10 m.f12) (h5 : w5.grownBy X (some g))
  (hb : X.heap[g]? = some (.cells (fcells x (wrap64 (a.seq + 1)) c' vM' (if ok = true then 0 else 50) gm (hv g ⟨wrap64 (a.seq + 1), c'.f1, c'.f0, L', a.n, ok && !m.f10, if ok = true then 0 else 50⟩) (Fa.kd ⟨wrap64 (a.seq + 1), c'.f1, c'.f0, L', a.n, ok && !m.f10, if ok = true then 0 else 50⟩)) 77 (0, 0))) : HearOut w0 w g gm x vM hm T a m X c' vM' hm := by
 have b0 := blk_below hI.blk hY
 have hE : hearA x.sz a m = ⟨wrap64 (a.seq + 1), c'.f1, c'.f0, L', a.n, ok && !m.f10, if ok = true then 0 else 50⟩ := by
  unfold hearA; rw [if_pos hh, if_pos h9, hp, if_neg (by simp), ← hpa]
 have hgd : good x.sz a m = false := by unfold good; rw [hp]; simp
 have hn := hI.pn hp; have hR0 := Kd.R_below (hI.mr hp) hY; have k2 : Kept w W2 (PFt g gm vM hm) := Kept.of_grown h1 (Kept.of_below hY _) (fun k hk => .inl (.inl (by cases hk; rfl))); have hk5 : Kept W2 w5 (fun k => k = g ∨ vM.ownBlock = some k) := hPM.kept; have hM2 : HM W2 gm w0.heap.size T hm := hm_set (hM.below hY) b0 (by decide) h1; have hR2 : Kd.R k25 25 W2 w0.heap.size (fun _ => True) vM a.L := Kd.R_grown1 hR0 rfl h1 (Kd.R_ne hR0 b0 (by decide))
 have hM5 : HM w5 gm w0.heap.size T hm := hm_kept hM2 hk5 (fun k hk => by
  rcases hk with rfl | hk
  ·
   exact ⟨_, 77, by decide, hb2⟩
  ·
   obtain ⟨_, _, _, q, hq, cells, hc⟩ := (Kd.R_bound hR2).1 k hk; rw [List.mem_singleton.1 hq] at hc
   exact ⟨cells, 25, by decide, hc⟩)
 refine ⟨?_, (hm_set hM5 hPM.blk (by decide) h5).more (Nat.le_add_right _ _), (fun h => by rw [hgd] at h; cases h), fun _ => rfl, below_grow hPM.bel h5 hI.bg, Kept.of_grown h5 (k2.then_ hk5 (fun k hk => hk.elim (fun h => .inl (.inl h)) (fun h => .inl (.inr (.inl h))))) (fun k hk => .inl (.inl (by cases hk; rfl))), ?_⟩
 ·
  rw [hE]; have hR := Kd.R_grown1 hPM.row rfl h5 (Kd.R_ne hPM.row hPM.blk (by decide)); refine ⟨hb, ?_, rfl, rfl, hI.bg, by rw [hn]; exact Nat.zero_le _, fun _ => hn, fun _ => hR⟩; show Kd.Q k25 25 X w0.heap.size (fun _ => True) vM' (L'.drop a.n); rw [hn]; exact Kd.Q_of_R hR
 ·
  rintro k (h | h | h)
  ·
   exact .inl (.inl h)
  ·
   rcases hPM.own k h with h2 | h2
   ·
    exact .inl (.inr (.inl h2))
   ·
    exact .inr (Nat.le_trans k2.1 h2)
  ·
   exact .inl (.inr (.inr h))
def PHear6P.T6 : Bool × List (List Nat × List Nat) := (true, [([], []), ([], []), ([1], [1]), ([2], [2]), ([3], [3]), ([], []), ([4, 5], [4, 5]), ([0, 0, 1, 2, 3, 4, 5, 6], [0]), ([7, 0, 1, 2, 3, 4, 5, 6], [7]), ([8, 6, 6, 0, 1, 2, 3, 4, 5, 6], [6, 8])])
def PHear6P.B6 : List Nat := [0, 0, 2, 6, 14, 0, 62, 127, 255, 511]
theorem PHear6P.tab6 : rtab .any (opsOf Try.f13 6) = PHear6P.T6 := by kernel_rfl
theorem PHear6P.bits6 : waitsOk PHear6P.T6.2 PHear6P.B6 = true := by kernel_rfl
theorem fin_str {w0 w Y W2 w5 X : World} {g gm : Nat} {x : Fx} {c : Me} {vM vM' v1 : Value} {hm : Hp} {T : Nat} {a : Fa} {m : S46} {cs5 : Array Value} (hI : FIs w w0.heap.size g gm vM x c a) (hY : Below w.heap.size w Y) (h1 : Y.grownBy W2 (some g))
  (hp : a.pg = true) (hh : hit a m = true) (h9 : m.f9 = 0) (hn : a.n < a.L.length) (hok : okP (rd_T25 a.L a.n) x.sz m.f11 = true)
  (hq : Kd.Q k25 25 w5 w0.heap.size (fun _ => True) vM' ((a.L.drop a.n).drop 1)) (hm5 : HM w5 gm w0.heap.size (T + (m.f11.length + 1)) (put hm (rd_T25 a.L a.n).f0 v1 m.f11)) (hb5 : Below w0.heap.size w0 w5) (hk5 : Kept W2 w5 (PFt g gm vM hm)) (ho5 : ∀ k, PFt g gm vM' (put hm (rd_T25 a.L a.n).f0 v1 m.f11) k → PFt g gm vM hm k ∨ W2.heap.size ≤ k)
  (b5 : w5.heap[g]? = some (.cells cs5 77 (0, 0))) (h5 : w5.grownBy X (some g)) (hb : X.heap[g]? = some (.cells (fcells x (wrap64 (a.seq + 1)) c vM' 0 gm (hv g ⟨wrap64 (a.seq + 1), a.blk, a.id, a.L, a.n + 1, true, 0⟩) 7) 77 (0, 0))) : HearOut w0 w g gm x vM hm T a m X c vM' (put hm (rd_T25 a.L a.n).f0 v1 m.f11) := by
 have hE : hearA x.sz a m = ⟨wrap64 (a.seq + 1), a.blk, a.id, a.L, a.n + 1, true, 0⟩ := by
  unfold hearA; rw [if_pos hh, if_pos h9, if_pos hp, if_pos hok]
 have hgd : good x.sz a m = true := by unfold good; rw [hh, hp, hok, beq_iff_eq.2 h9]; rfl
 have k2 : Kept w W2 (PFt g gm vM hm) := Kept.of_grown h1 (Kept.of_below hY _) (fun k hk => .inl (.inl (by cases hk; rfl))); refine ⟨?_, hm_set hm5 b5 (by decide) h5, fun _ => ⟨v1, rfl⟩, (fun h => by rw [hgd] at h; cases h), below_grow hb5 h5 hI.bg, Kept.of_grown h5 (k2.then_ hk5 (fun k hk => .inl hk)) (fun k hk => .inl (.inl (by cases hk; rfl))), fun k hk => (ho5 k hk).imp id (fun h => Nat.le_trans k2.1 h)⟩; rw [hE]; refine ⟨hb, ?_, hI.cb, hI.ci, hI.bg, hn, (fun h => by cases h), (fun h => by cases h)⟩; have hq2 := Kd.Q_grown1 hq rfl h5 (Kd.Q_ne hq b5 (by decide)); rw [List.drop_drop] at hq2; exact hq2
theorem rd_drop (l : List Me) (n : Nat) : rd_T25 (l.drop n) 0 = rd_T25 l n := by
 unfold rd_T25; rw [List.getD_eq_getElem?_getD, List.getD_eq_getElem?_getD, List.getElem?_drop]; simp
def PHear6N.T6 : Bool × List (List Nat × List Nat) := (true, [([], []), ([], []), ([1], [1]), ([2], [2]), ([3], [3]), ([], []), ([4, 5], [4, 5]), ([0, 0, 1, 2, 3, 4, 5, 6], [0]), ([7, 0, 1, 2, 3, 4, 5, 6], [7]), ([8, 6, 6, 0, 1, 2, 3, 4, 5, 6], [6, 8])])
def PHear6N.B6 : List Nat := [0, 0, 2, 6, 14, 0, 62, 127, 255, 511]
theorem PHear6N.tab6 : rtab .any (opsOf Try.f13 6) = PHear6N.T6 := by kernel_rfl
theorem PHear6N.bits6 : waitsOk PHear6N.T6.2 PHear6N.B6 = true := by kernel_rfl
def PHear6Y.T6 : Bool × List (List Nat × List Nat) := (true, [([], []), ([], []), ([1], [1]), ([2], [2]), ([3], [3]), ([], []), ([4, 5], [4, 5]), ([0, 0, 1, 2, 3, 4, 5, 6], [0]), ([7, 0, 1, 2, 3, 4, 5, 6], [7]), ([8, 6, 6, 0, 1, 2, 3, 4, 5, 6], [6, 8])])
def PHear6Y.B6 : List Nat := [0, 0, 2, 6, 14, 0, 62, 127, 255, 511]
theorem PHear6Y.tab6 : rtab .any (opsOf Try.f13 6) = PHear6Y.T6 := by kernel_rfl
theorem PHear6Y.bits6 : waitsOk PHear6Y.T6.2 PHear6Y.B6 = true := by kernel_rfl
end Ps
end Go.Proofs.Ytgagcimfkmegnaa
