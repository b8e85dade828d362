/- The document's fetch: Hear. -/
import Derived.Test.YtgagcimfkmegnaaPHear
import Derived.Test.YtgagcimfkmegnaaPPaged
import Derived.Test.YtgagcimfkmegnaaPRStr
set_option maxHeartbeats 8000000
set_option maxRecDepth 100000
namespace Go.Proofs.Ytgagcimfkmegnaa
set_option linter.unusedVariables false
set_option linter.unusedSimpArgs false
open Go.RowKit Go.Proofs.YtgagcimfkmegnaaW.PrintWords Go.Proofs.YtgagcimfkmegnaaW.PrintLast Go.Proofs.YtgagcimfkmegnaaW.PrintMore Go.Proofs.Ytgagcimfkmegnaa.QT
namespace Ps
/-- What the series come to by a message. -/
def serA (x : Fx) (a : Fa) (m : S46) (S : List S65) : List S65 := if good x.sz a m = true then addP x.rg (rd_T25 a.L a.n).f0 S m.f11 else S
/-- What the document's Hear leaves. -/
structure RHearOut (w0 w : World) (g : Nat) (x : Fx) (vL : Value) (Q : Nat → Prop) (T : Nat) (a : Fa) (m : S46) (S : List S65) (w' : World) (vL' vS' : Value) (Q' : Nat → Prop) : Prop where
 is : RIs w' w0.heap.size g vL' vS' x (hearA x.sz a m)
 V : Kd.V k65 65 w' 0 Q' vS' (serA x a m S)
 qn : ∀ k, Q' k → (Q k ∨ w.heap.size ≤ k) ∧ k < w'.heap.size
 qa : ∀ k, Q' k → k ≠ g ∧ vL'.ownBlock ≠ some k
 len : Lens (serA x a m S) (T + m.f11.length)
 bel : Below w0.heap.size w0 w'
 kept : Kept w w' (fun k => k = g ∨ vL.ownBlock = some k)
 own : ∀ k, vL'.ownBlock = some k → vL.ownBlock = some k ∨ w.heap.size ≤ k
/-- Only the fetch's own block was written; its series, and its metas, stand. -/
theorem rfin_same (w0 w : World) (g : Nat) (x : Fx) (vL vS : Value) (a : Fa) (S : List S65) (Q : Nat → Prop) (T : Nat) (m : S46) (A1 : Option Addr) (c1 : Nat) (A2 : Option Addr) (c2 : Nat)
  (hI : RIs w w0.heap.size g vL vS x a) (hV : Kd.V k65 65 w 0 Q vS S) (hQ : ∀ k, Q k → k ≠ g ∧ vL.ownBlock ≠ some k) (hS : Lens S T) (hB : Below w0.heap.size w0 w) {Y W3 : World} (hY : Below w.heap.size w Y) (h1 : Y.grownBy W3 (some g)) (hhd : good x.sz a m = false) {a' : Fa} (hE : hearA x.sz a m = a') (hL : a'.L = a.L) (hn : a'.n = a.n) (hp : a'.pg = a.pg)
  (hb : W3.heap[g]? = some (.cells (rcells x a'.seq a'.blk a'.id vL a'.n a'.pg a'.er vS) 60 (0, 0))) : RHearOut w0 w g x vL Q T a m S W3 vL vS (fun k => Q k ∧ k < w.heap.size) := by
 have b0 := blk_below hI.blk hY; have hs : serA x a m S = S := by unfold serA; rw [hhd, if_neg (by simp)]
 have hsz : w.heap.size ≤ W3.heap.size := Nat.le_trans hY.size h1.size; refine ⟨?_, ?_, fun k hk => ⟨.inl hk.1, Nat.lt_of_lt_of_le hk.2 hsz⟩, fun k hk => hQ k hk.1, by rw [hs]; exact hS.more (Nat.le_add_right _ _), below_grow (below_then hB hB.size hY) h1 hI.bg, Kept.of_grown h1 (Kept.of_below hY _) (fun k hk => .inl (.inl (by cases hk; rfl))), fun k hk => .inl hk⟩
 ·
  rw [hE]; exact ⟨hb, by rw [hL]; exact Kd.R_grown1 (Kd.R_below hI.met hY) rfl h1 (Kd.R_ne (Kd.R_below hI.met hY) b0 (by decide)), hI.bg, by rw [hL, hn]; exact hI.le, by rw [hp, hn]; exact hI.pn⟩
 ·
  rw [hs]; exact Kd.V_grown (Kd.V_below (Kd.V_bound hV) hY) h1 (fun k hk e => (hQ k hk.1).1 (by cases e; rfl))
theorem rstay (w0 w : World) (g : Nat) (x : Fx) (vL vS : Value) (a : Fa) (S : List S65) (Q : Nat → Prop) (T : Nat) (m : S46) (A1 : Option Addr) (c1 : Nat) (A2 : Option Addr) (c2 : Nat)
  (hI : RIs w w0.heap.size g vL vS x a) (hV : Kd.V k65 65 w 0 Q vS S) (hQ : ∀ k, Q k → k ≠ g ∧ vL.ownBlock ≠ some k) (hS : Lens S T) (hB : Below w0.heap.size w0 w) {W3 : World} (hY : Below w.heap.size w W3) (hh : hit a m = false) : RHearOut w0 w g x vL Q T a m S W3 vL vS (fun k => Q k ∧ k < w.heap.size) :=
 rfin_same w0 w g x vL vS a S Q T m A1 c1 A2 c2 hI hV hQ hS hB hY (grown_of_below (Below.refl _ _) (some g)) (by unfold good; rw [hh]; rfl) (a' := a) (by unfold hearA; rw [hh, if_neg (by simp)]) rfl rfl rfl (blk_below hI.blk hY)
theorem rhear_dead (w0 w : World) (g : Nat) (x : Fx) (vL vS : Value) (a : Fa) (S : List S65) (Q : Nat → Prop) (T : Nat) (m : S46) (A1 : Option Addr) (c1 : Nat) (A2 : Option Addr) (c2 : Nat)
  (hI : RIs w w0.heap.size g vL vS x a) (hV : Kd.V k65 65 w 0 Q vS S) (hQ : ∀ k, Q k → k ≠ g ∧ vL.ownBlock ≠ some k) (hS : Lens S T) (hB : Below w0.heap.size w0 w) (hl : a.live = false) :
  Calls Try.prog 14 #[.pointer (some ⟨g, 0, none⟩), .agg (mcs m A1 c1 A2 c2)] w fun e w' => e = .returned (.bool (hit a m)) ∧ ∃ vL' vS' Q', RHearOut w0 w g x vL Q T a m S w' vL' vS' Q' := by
 have HO := Lib.hid (fun W (hW : Below w.heap.size w W) => rstay w0 w g x vL vS a S Q T m A1 c1 A2 c2 hI hV hQ hS hB hW (by unfold hit; rw [hl]; rfl)); have HNX := Lib.hid (fun W (hW : Below w.heap.size w W) => (show Calls Try.prog 11 #[.pointer (some ⟨g, 0, none⟩)] W (fun e w' => e = .returned (.tuple #[.agg mc0, .bool false]) ∧ Below W.heap.size W w') from by have := rnext_calls W w0.heap.size g vL vS x a (hI.below hW); unfold qmsg at this; rw [hl, if_neg (by simp)] at this; exact this)); have HH := Lib.hid (show hit a m = false by unfold hit; rw [hl]; rfl); unfold mcs; rw [HH.out]; clear hI hV hQ hS hB hl; go_enter Try.func14, Try.ntmps14
 go_wp2_with (first
  | ((with_reducible refine gate_dst (N := 3) rfl ?_); refine box_event rfl (N := 3) rfl (cs := #[.int .i64 m.f0, .int .i64 m.f1, .int .i64 m.f2, .int .i64 m.f3, .int .i64 m.f4, .string m.f5, .int .i64 m.f6, .int .i64 m.f7.f0, .int .i64 m.f7.f1, .int .i64 m.f8.f0, .int .u64 m.f8.f1, .int .u64 m.f8.f2, .int .i64 m.f9, .bool m.f10, .slice A1 m.f11.length c1, .slice A2 m.f12.length c2]) (t := 49) ?hr ?_; (case hr => go_simp; done); intro gx hgx Y hboy hbY; have HY := Lib.hid (And.intro hboy hbY); clear hgx hboy hbY))
 with_reducible refine (HNX.out _ HY.out.2).mono ?_
 rintro e w1 ⟨rfl, hb1⟩; have HB1 := Lib.hid (below_then HY.out.2 HY.out.2.size hb1); have HX1 := Lib.hid (blk_below HY.out.1 hb1); clear hb1
 go_wp2_with (first
  | ((with_reducible refine gate_dst (N := 5) rfl ?_); refine box_event rfl (N := 5) rfl (cs := mc0) (t := 49) ?hr ?_; (case hr => go_simp; rfl); intro gq hgq Z hboz hbZ; have HZ := Lib.hid (And.intro hgq (And.intro hboz hbZ)); clear hgq hboz hbZ)
  | (refine store_blk (t := 49) (p := .tmp 5) (v := .tmp 10) (g := gq) (off := 0) (cur := mc0) (cur' := mc0) (e := 49) (u := .agg (mc0)) rfl rfl rfl rfl rfl HZ.out.2.1 (by kernel_rfl) (Nat.le_of_ble_eq_true rfl) (by rfl) (by rfl) ?_; intro Z2 hz2 hg2 hs2; have HB2 := Lib.hid (below_then HB1.out HB1.out.size (below_grow HZ.out.2.2 hg2 (Nat.le_of_eq HZ.out.1.symm))); have HX2 := Lib.hid (blk_below HX1.out (below_grow HZ.out.2.2 hg2 (Nat.le_of_eq HZ.out.1.symm))); clear hz2 hg2 hs2))
 go_ret; exact ⟨rfl, vL, vS, _, HO.out _ HB2.out⟩
theorem rhear_otherPage (w0 w : World) (g : Nat) (x : Fx) (vL vS : Value) (a : Fa) (S : List S65) (Q : Nat → Prop) (T : Nat) (m : S46) (A1 : Option Addr) (c1 : Nat) (A2 : Option Addr) (c2 : Nat)
  (hI : RIs w w0.heap.size g vL vS x a) (hV : Kd.V k65 65 w 0 Q vS S) (hQ : ∀ k, Q k → k ≠ g ∧ vL.ownBlock ≠ some k) (hS : Lens S T) (hB : Below w0.heap.size w0 w) (hl : a.live = true) (hp : a.pg = false) (hh : hit a m = false) :
  Calls Try.prog 14 #[.pointer (some ⟨g, 0, none⟩), .agg (mcs m A1 c1 A2 c2)] w fun e w' => e = .returned (.bool (hit a m)) ∧ ∃ vL' vS' Q', RHearOut w0 w g x vL Q T a m S w' vL' vS' Q' := by
 have HO := Lib.hid (fun W (hW : Below w.heap.size w W) => rstay w0 w g x vL vS a S Q T m A1 c1 A2 c2 hI hV hQ hS hB hW hh); have HNX := Lib.hid (fun W (hW : Below w.heap.size w W) => (show Calls Try.prog 11 #[.pointer (some ⟨g, 0, none⟩)] W (fun e w' => e = .returned (.tuple #[.agg (mc 5 a.seq x.ep x.sp x.sh a.id a.blk x.rg.f0 x.rg.f1), .bool true]) ∧ Below W.heap.size W w') from by have := rnext_calls W w0.heap.size g vL vS x a (hI.below hW); unfold qmsg at this; rw [hl, if_pos rfl, hp, if_neg (by simp)] at this; exact this)); have HFB := Lib.hid hI.blk; have HH := Lib.hid hh; unfold mcs; rw [HH.out]; unfold hit Fa.kd at hh; rw [hl, hp, Bool.true_and] at hh; clear hI hV hQ hS hB hl hp
 cases hs : (m.f1 == a.seq) with
 | false =>
  have d1 : (m.f1 != a.seq) = true := by rw [bne, hs]; rfl
  clear hs hh; go_enter Try.func14, Try.ntmps14
  go_wp2_with (first
   | ((with_reducible refine gate_dst (N := 3) rfl ?_); refine box_event rfl (N := 3) rfl (cs := #[.int .i64 m.f0, .int .i64 m.f1, .int .i64 m.f2, .int .i64 m.f3, .int .i64 m.f4, .string m.f5, .int .i64 m.f6, .int .i64 m.f7.f0, .int .i64 m.f7.f1, .int .i64 m.f8.f0, .int .u64 m.f8.f1, .int .u64 m.f8.f2, .int .i64 m.f9, .bool m.f10, .slice A1 m.f11.length c1, .slice A2 m.f12.length c2]) (t := 49) ?hr ?_; (case hr => go_simp; done); intro gx hgx Y hboy hbY; have HY := Lib.hid (And.intro hboy hbY); clear hgx hboy hbY))
  with_reducible refine (HNX.out _ HY.out.2).mono ?_
  rintro e w1 ⟨rfl, hb1⟩; have HB1 := Lib.hid (below_then HY.out.2 HY.out.2.size hb1); have HX1 := Lib.hid (blk_below HY.out.1 hb1); clear hb1
  go_wp2_with (first
   | ((with_reducible refine gate_dst (N := 5) rfl ?_); refine box_event rfl (N := 5) rfl (cs := mc0) (t := 49) ?hr ?_; (case hr => go_simp; rfl); intro gq hgq Z hboz hbZ; have HZ := Lib.hid (And.intro hgq (And.intro hboz hbZ)); clear hgq hboz hbZ)
   | (refine store_blk (t := 49) (p := .tmp 5) (v := .tmp 10) (g := gq) (off := 0) (cur := mc0) (cur' := mc 5 a.seq x.ep x.sp x.sh a.id a.blk x.rg.f0 x.rg.f1) (e := 49) (u := .agg (mc 5 a.seq x.ep x.sp x.sh a.id a.blk x.rg.f0 x.rg.f1)) rfl rfl rfl rfl rfl HZ.out.2.1 (by kernel_rfl) (Nat.le_of_ble_eq_true rfl) (by rfl) (by rfl) ?_; intro Z2 hz2 hg2 hs2; have HB2 := Lib.hid (below_then HB1.out HB1.out.size (below_grow HZ.out.2.2 hg2 (Nat.le_of_eq HZ.out.1.symm))); have HX2 := Lib.hid (blk_below HX1.out (below_grow HZ.out.2.2 hg2 (Nat.le_of_eq HZ.out.1.symm))); have u0 : Z2.cell? ⟨gx, 0, none⟩ = some (.int .i64 m.f0) := (blk_cell HX2.out 0).trans rfl; have u1 : Z2.cell? ⟨gx, 1, none⟩ = some (.int .i64 m.f1) := (blk_cell HX2.out 1).trans rfl; have v0 : Z2.cell? ⟨gq, 0, none⟩ = some (.int .i64 5) := (blk_cell hz2 0).trans rfl; have v1 : Z2.cell? ⟨gq, 1, none⟩ = some (.int .i64 a.seq) := (blk_cell hz2 1).trans rfl; have HFW := Lib.hid (blk_below HFB.out HB2.out); clear hz2 hg2 hs2))
  go_ret
  exact ⟨rfl, vL, vS, _, HO.out _ HB2.out⟩
 | true =>
  have d1 : (m.f1 != a.seq) = false := by rw [bne, hs]; rfl
  rw [hs, Bool.true_and] at hh; have hh : (m.f0 == 6) = false := by rw [show wrap64 ((if false = true then (7 : Int) else 5) + 1) = 6 from by rw [if_neg (by simp)]; unfold wrap64; omega] at hh; exact hh
  have d2 : (m.f0 != 6) = true := by rw [bne, hh]; rfl
  clear hs hh; go_enter Try.func14, Try.ntmps14
  go_wp2_with (first
   | ((with_reducible refine gate_dst (N := 3) rfl ?_); refine box_event rfl (N := 3) rfl (cs := #[.int .i64 m.f0, .int .i64 m.f1, .int .i64 m.f2, .int .i64 m.f3, .int .i64 m.f4, .string m.f5, .int .i64 m.f6, .int .i64 m.f7.f0, .int .i64 m.f7.f1, .int .i64 m.f8.f0, .int .u64 m.f8.f1, .int .u64 m.f8.f2, .int .i64 m.f9, .bool m.f10, .slice A1 m.f11.length c1, .slice A2 m.f12.length c2]) (t := 49) ?hr ?_; (case hr => go_simp; done); intro gx hgx Y hboy hbY; have HY := Lib.hid (And.intro hboy hbY); clear hgx hboy hbY))
  with_reducible refine (HNX.out _ HY.out.2).mono ?_
  rintro e w1 ⟨rfl, hb1⟩; have HB1 := Lib.hid (below_then HY.out.2 HY.out.2.size hb1); have HX1 := Lib.hid (blk_below HY.out.1 hb1); clear hb1
  go_wp2_with (first
   | ((with_reducible refine gate_dst (N := 5) rfl ?_); refine box_event rfl (N := 5) rfl (cs := mc0) (t := 49) ?hr ?_; (case hr => go_simp; rfl); intro gq hgq Z hboz hbZ; have HZ := Lib.hid (And.intro hgq (And.intro hboz hbZ)); clear hgq hboz hbZ)
   | (refine store_blk (t := 49) (p := .tmp 5) (v := .tmp 10) (g := gq) (off := 0) (cur := mc0) (cur' := mc 5 a.seq x.ep x.sp x.sh a.id a.blk x.rg.f0 x.rg.f1) (e := 49) (u := .agg (mc 5 a.seq x.ep x.sp x.sh a.id a.blk x.rg.f0 x.rg.f1)) rfl rfl rfl rfl rfl HZ.out.2.1 (by kernel_rfl) (Nat.le_of_ble_eq_true rfl) (by rfl) (by rfl) ?_; intro Z2 hz2 hg2 hs2; have HB2 := Lib.hid (below_then HB1.out HB1.out.size (below_grow HZ.out.2.2 hg2 (Nat.le_of_eq HZ.out.1.symm))); have HX2 := Lib.hid (blk_below HX1.out (below_grow HZ.out.2.2 hg2 (Nat.le_of_eq HZ.out.1.symm))); have u0 : Z2.cell? ⟨gx, 0, none⟩ = some (.int .i64 m.f0) := (blk_cell HX2.out 0).trans rfl; have u1 : Z2.cell? ⟨gx, 1, none⟩ = some (.int .i64 m.f1) := (blk_cell HX2.out 1).trans rfl; have v0 : Z2.cell? ⟨gq, 0, none⟩ = some (.int .i64 5) := (blk_cell hz2 0).trans rfl; have v1 : Z2.cell? ⟨gq, 1, none⟩ = some (.int .i64 a.seq) := (blk_cell hz2 1).trans rfl; have HFW := Lib.hid (blk_below HFB.out HB2.out); clear hz2 hg2 hs2))
  go_ret; exact ⟨rfl, vL, vS, _, HO.out _ HB2.out⟩
theorem rhear_otherStr (w0 w : World) (g : Nat) (x : Fx) (vL vS : Value) (a : Fa) (S : List S65) (Q : Nat → Prop) (T : Nat) (m : S46) (A1 : Option Addr) (c1 : Nat) (A2 : Option Addr) (c2 : Nat)
  (hI : RIs w w0.heap.size g vL vS x a) (hV : Kd.V k65 65 w 0 Q vS S) (hQ : ∀ k, Q k → k ≠ g ∧ vL.ownBlock ≠ some k) (hS : Lens S T) (hB : Below w0.heap.size w0 w) (hl : a.live = true) (hp : a.pg = true) (hh : hit a m = false) :
  Calls Try.prog 14 #[.pointer (some ⟨g, 0, none⟩), .agg (mcs m A1 c1 A2 c2)] w fun e w' => e = .returned (.bool (hit a m)) ∧ ∃ vL' vS' Q', RHearOut w0 w g x vL Q T a m S w' vL' vS' Q' := by
 have HO := Lib.hid (fun W (hW : Below w.heap.size w W) => rstay w0 w g x vL vS a S Q T m A1 c1 A2 c2 hI hV hQ hS hB hW hh); have HNX := Lib.hid (fun W (hW : Below w.heap.size w W) => (show Calls Try.prog 11 #[.pointer (some ⟨g, 0, none⟩)] W (fun e w' => e = .returned (.tuple #[.agg (mc 7 a.seq x.ep x.sp x.sh (rd_T25 a.L a.n).f0 (rd_T25 a.L a.n).f1 0 0), .bool true]) ∧ Below W.heap.size W w') from by have := rnext_calls W w0.heap.size g vL vS x a (hI.below hW); unfold qmsg at this; rw [hl, if_pos rfl, hp, if_pos rfl] at this; exact this)); have HFB := Lib.hid hI.blk; have HH := Lib.hid hh; unfold mcs; rw [HH.out]; unfold hit Fa.kd at hh; rw [hl, hp, Bool.true_and] at hh; clear hI hV hQ hS hB hl hp
 cases hs : (m.f1 == a.seq) with
 | false =>
  have d1 : (m.f1 != a.seq) = true := by rw [bne, hs]; rfl
  clear hs hh; go_enter Try.func14, Try.ntmps14
  go_wp2_with (first
   | ((with_reducible refine gate_dst (N := 3) rfl ?_); refine box_event rfl (N := 3) rfl (cs := #[.int .i64 m.f0, .int .i64 m.f1, .int .i64 m.f2, .int .i64 m.f3, .int .i64 m.f4, .string m.f5, .int .i64 m.f6, .int .i64 m.f7.f0, .int .i64 m.f7.f1, .int .i64 m.f8.f0, .int .u64 m.f8.f1, .int .u64 m.f8.f2, .int .i64 m.f9, .bool m.f10, .slice A1 m.f11.length c1, .slice A2 m.f12.length c2]) (t := 49) ?hr ?_; (case hr => go_simp; done); intro gx hgx Y hboy hbY; have HY := Lib.hid (And.intro hboy hbY); clear hgx hboy hbY))
  with_reducible refine (HNX.out _ HY.out.2).mono ?_
  rintro e w1 ⟨rfl, hb1⟩; have HB1 := Lib.hid (below_then HY.out.2 HY.out.2.size hb1); have HX1 := Lib.hid (blk_below HY.out.1 hb1); clear hb1
  go_wp2_with (first
   | ((with_reducible refine gate_dst (N := 5) rfl ?_); refine box_event rfl (N := 5) rfl (cs := mc0) (t := 49) ?hr ?_; (case hr => go_simp; rfl); intro gq hgq Z hboz hbZ; have HZ := Lib.hid (And.intro hgq (And.intro hboz hbZ)); clear hgq hboz hbZ)
   | (refine store_blk (t := 49) (p := .tmp 5) (v := .tmp 10) (g := gq) (off := 0) (cur := mc0) (cur' := mc 7 a.seq x.ep x.sp x.sh (rd_T25 a.L a.n).f0 (rd_T25 a.L a.n).f1 0 0) (e := 49) (u := .agg (mc 7 a.seq x.ep x.sp x.sh (rd_T25 a.L a.n).f0 (rd_T25 a.L a.n).f1 0 0)) rfl rfl rfl rfl rfl HZ.out.2.1 (by kernel_rfl) (Nat.le_of_ble_eq_true rfl) (by rfl) (by rfl) ?_; intro Z2 hz2 hg2 hs2; have HB2 := Lib.hid (below_then HB1.out HB1.out.size (below_grow HZ.out.2.2 hg2 (Nat.le_of_eq HZ.out.1.symm))); have HX2 := Lib.hid (blk_below HX1.out (below_grow HZ.out.2.2 hg2 (Nat.le_of_eq HZ.out.1.symm))); have u0 : Z2.cell? ⟨gx, 0, none⟩ = some (.int .i64 m.f0) := (blk_cell HX2.out 0).trans rfl; have u1 : Z2.cell? ⟨gx, 1, none⟩ = some (.int .i64 m.f1) := (blk_cell HX2.out 1).trans rfl; have v0 : Z2.cell? ⟨gq, 0, none⟩ = some (.int .i64 7) := (blk_cell hz2 0).trans rfl; have v1 : Z2.cell? ⟨gq, 1, none⟩ = some (.int .i64 a.seq) := (blk_cell hz2 1).trans rfl; have HFW := Lib.hid (blk_below HFB.out HB2.out); clear hz2 hg2 hs2))
  go_ret
  exact ⟨rfl, vL, vS, _, HO.out _ HB2.out⟩
 | true =>
  have d1 : (m.f1 != a.seq) = false := by rw [bne, hs]; rfl
  rw [hs, Bool.true_and] at hh; have hh : (m.f0 == 8) = false := by rw [show wrap64 ((if true = true then (7 : Int) else 5) + 1) = 8 from by rw [if_pos rfl]; unfold wrap64; omega] at hh; exact hh
  have d2 : (m.f0 != 8) = true := by rw [bne, hh]; rfl
  clear hs hh; go_enter Try.func14, Try.ntmps14
  go_wp2_with (first
   | ((with_reducible refine gate_dst (N := 3) rfl ?_); refine box_event rfl (N := 3) rfl (cs := #[.int .i64 m.f0, .int .i64 m.f1, .int .i64 m.f2, .int .i64 m.f3, .int .i64 m.f4, .string m.f5, .int .i64 m.f6, .int .i64 m.f7.f0, .int .i64 m.f7.f1, .int .i64 m.f8.f0, .int .u64 m.f8.f1, .int .u64 m.f8.f2, .int .i64 m.f9, .bool m.f10, .slice A1 m.f11.length c1, .slice A2 m.f12.length c2]) (t := 49) ?hr ?_; (case hr => go_simp; done); intro gx hgx Y hboy hbY; have HY := Lib.hid (And.intro hboy hbY); clear hgx hboy hbY))
  with_reducible refine (HNX.out _ HY.out.2).mono ?_
  rintro e w1 ⟨rfl, hb1⟩; have HB1 := Lib.hid (below_then HY.out.2 HY.out.2.size hb1); have HX1 := Lib.hid (blk_below HY.out.1 hb1); clear hb1
  go_wp2_with (first
   | ((with_reducible refine gate_dst (N := 5) rfl ?_); refine box_event rfl (N := 5) rfl (cs := mc0) (t := 49) ?hr ?_; (case hr => go_simp; rfl); intro gq hgq Z hboz hbZ; have HZ := Lib.hid (And.intro hgq (And.intro hboz hbZ)); clear hgq hboz hbZ)
   | (refine store_blk (t := 49) (p := .tmp 5) (v := .tmp 10) (g := gq) (off := 0) (cur := mc0) (cur' := mc 7 a.seq x.ep x.sp x.sh (rd_T25 a.L a.n).f0 (rd_T25 a.L a.n).f1 0 0) (e := 49) (u := .agg (mc 7 a.seq x.ep x.sp x.sh (rd_T25 a.L a.n).f0 (rd_T25 a.L a.n).f1 0 0)) rfl rfl rfl rfl rfl HZ.out.2.1 (by kernel_rfl) (Nat.le_of_ble_eq_true rfl) (by rfl) (by rfl) ?_; intro Z2 hz2 hg2 hs2; have HB2 := Lib.hid (below_then HB1.out HB1.out.size (below_grow HZ.out.2.2 hg2 (Nat.le_of_eq HZ.out.1.symm))); have HX2 := Lib.hid (blk_below HX1.out (below_grow HZ.out.2.2 hg2 (Nat.le_of_eq HZ.out.1.symm))); have u0 : Z2.cell? ⟨gx, 0, none⟩ = some (.int .i64 m.f0) := (blk_cell HX2.out 0).trans rfl; have u1 : Z2.cell? ⟨gx, 1, none⟩ = some (.int .i64 m.f1) := (blk_cell HX2.out 1).trans rfl; have v0 : Z2.cell? ⟨gq, 0, none⟩ = some (.int .i64 7) := (blk_cell hz2 0).trans rfl; have v1 : Z2.cell? ⟨gq, 1, none⟩ = some (.int .i64 a.seq) := (blk_cell hz2 1).trans rfl; have HFW := Lib.hid (blk_below HFB.out HB2.out); clear hz2 hg2 hs2))
  go_ret; exact ⟨rfl, vL, vS, _, HO.out _ HB2.out⟩
theorem rhear_errPage (w0 w : World) (g : Nat) (x : Fx) (vL vS : Value) (a : Fa) (S : List S65) (Q : Nat → Prop) (T : Nat) (m : S46) (A1 : Option Addr) (c1 : Nat) (A2 : Option Addr) (c2 : Nat)
  (hI : RIs w w0.heap.size g vL vS x a) (hV : Kd.V k65 65 w 0 Q vS S) (hQ : ∀ k, Q k → k ≠ g ∧ vL.ownBlock ≠ some k) (hS : Lens S T) (hB : Below w0.heap.size w0 w) (hl : a.live = true) (hp : a.pg = false) (hh : hit a m = true) (h9 : m.f9 ≠ 0) :
  Calls Try.prog 14 #[.pointer (some ⟨g, 0, none⟩), .agg (mcs m A1 c1 A2 c2)] w fun e w' => e = .returned (.bool (hit a m)) ∧ ∃ vL' vS' Q', RHearOut w0 w g x vL Q T a m S w' vL' vS' Q' := by
 have HNX := Lib.hid (fun W (hW : Below w.heap.size w W) => (show Calls Try.prog 11 #[.pointer (some ⟨g, 0, none⟩)] W (fun e w' => e = .returned (.tuple #[.agg (mc 5 a.seq x.ep x.sp x.sh a.id a.blk x.rg.f0 x.rg.f1), .bool true]) ∧ Below W.heap.size W w') from by have := rnext_calls W w0.heap.size g vL vS x a (hI.below hW); unfold qmsg at this; rw [hl, if_pos rfl, hp, if_neg (by simp)] at this; exact this)); have HFB := Lib.hid hI.blk; have HI := Lib.hid hI; have HVV := Lib.hid hV; have HQ := Lib.hid hQ; have HS := Lib.hid hS; have HBW := Lib.hid hB; have HH := Lib.hid hh; unfold mcs; rw [hh]; unfold hit Fa.kd at hh; rw [hl, hp, Bool.true_and, Bool.and_eq_true] at hh; have d1 : (m.f1 != a.seq) = false := by rw [bne, hh.1]; rfl
 have d2 : (m.f0 != 6) = false := by
  have h2 := hh.2; rw [show wrap64 ((if false = true then (7 : Int) else 5) + 1) = 6 from by rw [if_neg (by simp)]; unfold wrap64; omega] at h2; rw [bne, h2]; rfl
 clear hI hV hQ hS hB hp hh hl; have d9 : (m.f9 == 0) = false := beq_eq_false_iff_ne.2 h9; have d9' : (m.f9 != 0) = true := bne_iff_ne.2 h9; have HE := Lib.hid (show hearA x.sz a m = ⟨wrap64 (a.seq + 1), a.blk, a.id, a.L, a.n, a.pg, m.f9⟩ by unfold hearA; rw [HH.out, if_pos rfl, if_neg h9]); have HGD := Lib.hid (show good x.sz a m = false by unfold good; rw [d9]; simp); clear h9; go_enter Try.func14, Try.ntmps14
 go_wp2_with (first
  | ((with_reducible refine gate_dst (N := 3) rfl ?_); refine box_event rfl (N := 3) rfl (cs := #[.int .i64 m.f0, .int .i64 m.f1, .int .i64 m.f2, .int .i64 m.f3, .int .i64 m.f4, .string m.f5, .int .i64 m.f6, .int .i64 m.f7.f0, .int .i64 m.f7.f1, .int .i64 m.f8.f0, .int .u64 m.f8.f1, .int .u64 m.f8.f2, .int .i64 m.f9, .bool m.f10, .slice A1 m.f11.length c1, .slice A2 m.f12.length c2]) (t := 49) ?hr ?_; (case hr => go_simp; done); intro gx hgx Y hboy hbY; have HY := Lib.hid (And.intro hboy hbY); clear hgx hboy hbY))
 with_reducible refine (HNX.out _ HY.out.2).mono ?_
 rintro e w1 ⟨rfl, hb1⟩; have HB1 := Lib.hid (below_then HY.out.2 HY.out.2.size hb1); have HX1 := Lib.hid (blk_below HY.out.1 hb1); clear hb1
 go_wp2_with (first
  | ((with_reducible refine gate_dst (N := 5) rfl ?_); refine box_event rfl (N := 5) rfl (cs := mc0) (t := 49) ?hr ?_; (case hr => go_simp; rfl); intro gq hgq Z hboz hbZ; have HZ := Lib.hid (And.intro hgq (And.intro hboz hbZ)); clear hgq hboz hbZ)
  | (refine store_blk (t := 49) (p := .tmp 5) (v := .tmp 10) (g := gq) (off := 0) (cur := mc0) (cur' := mc 5 a.seq x.ep x.sp x.sh a.id a.blk x.rg.f0 x.rg.f1) (e := 49) (u := .agg (mc 5 a.seq x.ep x.sp x.sh a.id a.blk x.rg.f0 x.rg.f1)) rfl rfl rfl rfl rfl HZ.out.2.1 (by kernel_rfl) (Nat.le_of_ble_eq_true rfl) (by rfl) (by rfl) ?_; intro Z2 hz2 hg2 hs2; have HB2 := Lib.hid (below_then HB1.out HB1.out.size (below_grow HZ.out.2.2 hg2 (Nat.le_of_eq HZ.out.1.symm))); have HX2 := Lib.hid (blk_below HX1.out (below_grow HZ.out.2.2 hg2 (Nat.le_of_eq HZ.out.1.symm))); have HQ2 := Lib.hid hz2; have u0 : Z2.cell? ⟨gx, 0, none⟩ = some (.int .i64 m.f0) := (blk_cell HX2.out 0).trans rfl; have u1 : Z2.cell? ⟨gx, 1, none⟩ = some (.int .i64 m.f1) := (blk_cell HX2.out 1).trans rfl; have u12 : Z2.cell? ⟨gx, 12, none⟩ = some (.int .i64 m.f9) := (blk_cell HX2.out 12).trans rfl; have v0 : Z2.cell? ⟨gq, 0, none⟩ = some (.int .i64 5) := (blk_cell hz2 0).trans rfl; have v1 : Z2.cell? ⟨gq, 1, none⟩ = some (.int .i64 a.seq) := (blk_cell hz2 1).trans rfl; have HFW := Lib.hid (blk_below HFB.out HB2.out); have f6 : Z2.cell? ⟨g, 6, none⟩ = some (.int .i64 a.seq) := (blk_cell HFW.out 6).trans rfl; clear hz2 hg2 hs2)
  | (refine store_blk (t := 3) (p := .tmp 35) (v := .tmp 33) (g := g) (off := 6) (cur := rcells x a.seq a.blk a.id vL a.n a.pg a.er vS) (cur' := rcells x (wrap64 (a.seq + 1)) a.blk a.id vL a.n a.pg a.er vS) (e := 60) (u := .int .i64 (wrap64 (a.seq + 1))) rfl rfl rfl rfl rfl HFW.out (by kernel_rfl) (Nat.le_of_ble_eq_true rfl) (by rfl) (by rfl) ?_; intro W1 hz1 hg1 hs1; have HW1 := Lib.hid (And.intro hz1 hg1); have hnx : gx ≠ g := (fun e => by have h1 := HX2.out; rw [e, HFW.out] at h1; injection (Option.some.inj h1) with _ h2; exact absurd h2 (by decide)); have HXW := Lib.hid (blk_other HX2.out hg1 hnx); have u12 : W1.cell? ⟨gx, 12, none⟩ = some (.int .i64 m.f9) := (blk_cell HXW.out 12).trans rfl; have hnq : gq ≠ g := (fun e => by have h1 := HQ2.out; rw [e, HFW.out] at h1; injection (Option.some.inj h1) with _ h2; exact absurd h2 (by decide)); have v0 : W1.cell? ⟨gq, 0, none⟩ = some (.int .i64 5) := (blk_cell (blk_other HQ2.out hg1 hnq) 0).trans rfl; clear hnq; clear hnx hz1 hg1 hs1 u0 u1 v1 f6)
  | (refine store_blk (t := 43) (p := .tmp 43) (v := .tmp 41) (g := g) (off := 12) (cur := rcells x (wrap64 (a.seq + 1)) a.blk a.id vL a.n a.pg a.er vS) (cur' := rcells x (wrap64 (a.seq + 1)) a.blk a.id vL a.n a.pg m.f9 vS) (e := 60) (u := .int .i64 m.f9) rfl rfl rfl rfl rfl HW1.out.1 (by kernel_rfl) (Nat.le_of_ble_eq_true rfl) (by rfl) (by rfl) ?_; intro W2 hz2 hg2 hs2; have HW2 := Lib.hid (And.intro hz2 hg2); clear hz2 hg2 hs2))
 go_ret; exact ⟨rfl, vL, vS, _, rfin_same w0 w g x vL vS a S Q T m A1 c1 A2 c2 HI.out HVV.out HQ.out HS.out HBW.out HB2.out (grown_trans HW1.out.2 HW2.out.2) HGD.out HE.out rfl rfl rfl HW2.out.1⟩
theorem rhear_errStr (w0 w : World) (g : Nat) (x : Fx) (vL vS : Value) (a : Fa) (S : List S65) (Q : Nat → Prop) (T : Nat) (m : S46) (A1 : Option Addr) (c1 : Nat) (A2 : Option Addr) (c2 : Nat)
  (hI : RIs w w0.heap.size g vL vS x a) (hV : Kd.V k65 65 w 0 Q vS S) (hQ : ∀ k, Q k → k ≠ g ∧ vL.ownBlock ≠ some k) (hS : Lens S T) (hB : Below w0.heap.size w0 w) (hl : a.live = true) (hp : a.pg = true) (hh : hit a m = true) (h9 : m.f9 ≠ 0) :
  Calls Try.prog 14 #[.pointer (some ⟨g, 0, none⟩), .agg (mcs m A1 c1 A2 c2)] w fun e w' => e = .returned (.bool (hit a m)) ∧ ∃ vL' vS' Q', RHearOut w0 w g x vL Q T a m S w' vL' vS' Q' := by
 have HNX := Lib.hid (fun W (hW : Below w.heap.size w W) => (show Calls Try.prog 11 #[.pointer (some ⟨g, 0, none⟩)] W (fun e w' => e = .returned (.tuple #[.agg (mc 7 a.seq x.ep x.sp x.sh (rd_T25 a.L a.n).f0 (rd_T25 a.L a.n).f1 0 0), .bool true]) ∧ Below W.heap.size W w') from by have := rnext_calls W w0.heap.size g vL vS x a (hI.below hW); unfold qmsg at this; rw [hl, if_pos rfl, hp, if_pos rfl] at this; exact this)); have HFB := Lib.hid hI.blk; have HI := Lib.hid hI; have HVV := Lib.hid hV; have HQ := Lib.hid hQ; have HS := Lib.hid hS; have HBW := Lib.hid hB; have HH := Lib.hid hh; unfold mcs; rw [hh]; unfold hit Fa.kd at hh; rw [hl, hp, Bool.true_and, Bool.and_eq_true] at hh; have d1 : (m.f1 != a.seq) = false := by rw [bne, hh.1]; rfl
 have d2 : (m.f0 != 8) = false := by
  have h2 := hh.2; rw [show wrap64 ((if true = true then (7 : Int) else 5) + 1) = 8 from by rw [if_pos rfl]; unfold wrap64; omega] at h2; rw [bne, h2]; rfl
 clear hI hV hQ hS hB hp hh hl; have d9 : (m.f9 == 0) = false := beq_eq_false_iff_ne.2 h9; have d9' : (m.f9 != 0) = true := bne_iff_ne.2 h9; have HE := Lib.hid (show hearA x.sz a m = ⟨wrap64 (a.seq + 1), a.blk, a.id, a.L, a.n, a.pg, m.f9⟩ by unfold hearA; rw [HH.out, if_pos rfl, if_neg h9]); have HGD := Lib.hid (show good x.sz a m = false by unfold good; rw [d9]; simp); clear h9; go_enter Try.func14, Try.ntmps14
 go_wp2_with (first
  | ((with_reducible refine gate_dst (N := 3) rfl ?_); refine box_event rfl (N := 3) rfl (cs := #[.int .i64 m.f0, .int .i64 m.f1, .int .i64 m.f2, .int .i64 m.f3, .int .i64 m.f4, .string m.f5, .int .i64 m.f6, .int .i64 m.f7.f0, .int .i64 m.f7.f1, .int .i64 m.f8.f0, .int .u64 m.f8.f1, .int .u64 m.f8.f2, .int .i64 m.f9, .bool m.f10, .slice A1 m.f11.length c1, .slice A2 m.f12.length c2]) (t := 49) ?hr ?_; (case hr => go_simp; done); intro gx hgx Y hboy hbY; have HY := Lib.hid (And.intro hboy hbY); clear hgx hboy hbY))
 with_reducible refine (HNX.out _ HY.out.2).mono ?_
 rintro e w1 ⟨rfl, hb1⟩; have HB1 := Lib.hid (below_then HY.out.2 HY.out.2.size hb1); have HX1 := Lib.hid (blk_below HY.out.1 hb1); clear hb1
 go_wp2_with (first
  | ((with_reducible refine gate_dst (N := 5) rfl ?_); refine box_event rfl (N := 5) rfl (cs := mc0) (t := 49) ?hr ?_; (case hr => go_simp; rfl); intro gq hgq Z hboz hbZ; have HZ := Lib.hid (And.intro hgq (And.intro hboz hbZ)); clear hgq hboz hbZ)
  | (refine store_blk (t := 49) (p := .tmp 5) (v := .tmp 10) (g := gq) (off := 0) (cur := mc0) (cur' := mc 7 a.seq x.ep x.sp x.sh (rd_T25 a.L a.n).f0 (rd_T25 a.L a.n).f1 0 0) (e := 49) (u := .agg (mc 7 a.seq x.ep x.sp x.sh (rd_T25 a.L a.n).f0 (rd_T25 a.L a.n).f1 0 0)) rfl rfl rfl rfl rfl HZ.out.2.1 (by kernel_rfl) (Nat.le_of_ble_eq_true rfl) (by rfl) (by rfl) ?_; intro Z2 hz2 hg2 hs2; have HB2 := Lib.hid (below_then HB1.out HB1.out.size (below_grow HZ.out.2.2 hg2 (Nat.le_of_eq HZ.out.1.symm))); have HX2 := Lib.hid (blk_below HX1.out (below_grow HZ.out.2.2 hg2 (Nat.le_of_eq HZ.out.1.symm))); have HQ2 := Lib.hid hz2; have u0 : Z2.cell? ⟨gx, 0, none⟩ = some (.int .i64 m.f0) := (blk_cell HX2.out 0).trans rfl; have u1 : Z2.cell? ⟨gx, 1, none⟩ = some (.int .i64 m.f1) := (blk_cell HX2.out 1).trans rfl; have u12 : Z2.cell? ⟨gx, 12, none⟩ = some (.int .i64 m.f9) := (blk_cell HX2.out 12).trans rfl; have v0 : Z2.cell? ⟨gq, 0, none⟩ = some (.int .i64 7) := (blk_cell hz2 0).trans rfl; have v1 : Z2.cell? ⟨gq, 1, none⟩ = some (.int .i64 a.seq) := (blk_cell hz2 1).trans rfl; have HFW := Lib.hid (blk_below HFB.out HB2.out); have f6 : Z2.cell? ⟨g, 6, none⟩ = some (.int .i64 a.seq) := (blk_cell HFW.out 6).trans rfl; clear hz2 hg2 hs2)
  | (refine store_blk (t := 3) (p := .tmp 35) (v := .tmp 33) (g := g) (off := 6) (cur := rcells x a.seq a.blk a.id vL a.n a.pg a.er vS) (cur' := rcells x (wrap64 (a.seq + 1)) a.blk a.id vL a.n a.pg a.er vS) (e := 60) (u := .int .i64 (wrap64 (a.seq + 1))) rfl rfl rfl rfl rfl HFW.out (by kernel_rfl) (Nat.le_of_ble_eq_true rfl) (by rfl) (by rfl) ?_; intro W1 hz1 hg1 hs1; have HW1 := Lib.hid (And.intro hz1 hg1); have hnx : gx ≠ g := (fun e => by have h1 := HX2.out; rw [e, HFW.out] at h1; injection (Option.some.inj h1) with _ h2; exact absurd h2 (by decide)); have HXW := Lib.hid (blk_other HX2.out hg1 hnx); have u12 : W1.cell? ⟨gx, 12, none⟩ = some (.int .i64 m.f9) := (blk_cell HXW.out 12).trans rfl; have hnq : gq ≠ g := (fun e => by have h1 := HQ2.out; rw [e, HFW.out] at h1; injection (Option.some.inj h1) with _ h2; exact absurd h2 (by decide)); have v0 : W1.cell? ⟨gq, 0, none⟩ = some (.int .i64 7) := (blk_cell (blk_other HQ2.out hg1 hnq) 0).trans rfl; clear hnq; clear hnx hz1 hg1 hs1 u0 u1 v1 f6)
  | (refine store_blk (t := 43) (p := .tmp 43) (v := .tmp 41) (g := g) (off := 12) (cur := rcells x (wrap64 (a.seq + 1)) a.blk a.id vL a.n a.pg a.er vS) (cur' := rcells x (wrap64 (a.seq + 1)) a.blk a.id vL a.n a.pg m.f9 vS) (e := 60) (u := .int .i64 m.f9) rfl rfl rfl rfl rfl HW1.out.1 (by kernel_rfl) (Nat.le_of_ble_eq_true rfl) (by rfl) (by rfl) ?_; intro W2 hz2 hg2 hs2; have HW2 := Lib.hid (And.intro hz2 hg2); clear hz2 hg2 hs2))
 go_ret; exact ⟨rfl, vL, vS, _, rfin_same w0 w g x vL vS a S Q T m A1 c1 A2 c2 HI.out HVV.out HQ.out HS.out HBW.out HB2.out (grown_trans HW1.out.2 HW2.out.2) HGD.out HE.out rfl rfl rfl HW2.out.1⟩
theorem rhear_page (w0 w : World) (g : Nat) (x : Fx) (vL vS : Value) (a : Fa) (S : List S65) (Q : Nat → Prop) (T : Nat) (m : S46) (A1 : Option Addr) (c1 : Nat) (A2 : Option Addr) (c2 : Nat)
  (hI : RIs w w0.heap.size g vL vS x a) (hV : Kd.V k65 65 w 0 Q vS S) (hQ : ∀ k, Q k → k ≠ g ∧ vL.ownBlock ≠ some k) (hS : Lens S T) (hB : Below w0.heap.size w0 w) (hl : a.live = true) (hp : a.pg = false) (hh : hit a m = true) (h9 : m.f9 = 0) (her : a.er = 0) (hC : Kd.C k25 w0 A2 m.f12.length m.f12) (hn : a.L.length + m.f12.length ≤ 1000000) :
  Calls Try.prog 14 #[.pointer (some ⟨g, 0, none⟩), .agg (mcs m A1 c1 A2 c2)] w fun e w' => e = .returned (.bool (hit a m)) ∧ ∃ vL' vS' Q', RHearOut w0 w g x vL Q T a m S w' vL' vS' Q' := by
 have HC := Lib.hid hC; have HN := Lib.hid hn; have HER := Lib.hid her; clear hC hn her; have HNX := Lib.hid (fun W (hW : Below w.heap.size w W) => (show Calls Try.prog 11 #[.pointer (some ⟨g, 0, none⟩)] W (fun e w' => e = .returned (.tuple #[.agg (mc 5 a.seq x.ep x.sp x.sh a.id a.blk x.rg.f0 x.rg.f1), .bool true]) ∧ Below W.heap.size W w') from by have := rnext_calls W w0.heap.size g vL vS x a (hI.below hW); unfold qmsg at this; rw [hl, if_pos rfl, hp, if_neg (by simp)] at this; exact this)); have HFB := Lib.hid hI.blk; have HI := Lib.hid hI; have HVV := Lib.hid hV; have HQ := Lib.hid hQ; have HS := Lib.hid hS; have HBW := Lib.hid hB; have HH := Lib.hid hh; have HPG := Lib.hid hp; unfold mcs; rw [hh]; unfold hit Fa.kd at hh; rw [hl, hp, Bool.true_and, Bool.and_eq_true] at hh; have d1 : (m.f1 != a.seq) = false := by rw [bne, hh.1]; rfl
 have d2 : (m.f0 != 6) = false := by
  have h2 := hh.2; rw [show wrap64 ((if false = true then (7 : Int) else 5) + 1) = 6 from by rw [if_neg (by simp)]; unfold wrap64; omega] at h2; rw [bne, h2]; rfl
 clear hI hV hQ hS hB hp hh hl; have d9 : (m.f9 == 0) = true := beq_iff_eq.2 h9; have d9' : (m.f9 != 0) = false := by rw [bne, d9]; rfl
 have H9 := Lib.hid h9; clear h9; go_enter Try.func14, Try.ntmps14
 go_wp2_with (first
  | ((with_reducible refine gate_dst (N := 3) rfl ?_); refine box_event rfl (N := 3) rfl (cs := #[.int .i64 m.f0, .int .i64 m.f1, .int .i64 m.f2, .int .i64 m.f3, .int .i64 m.f4, .string m.f5, .int .i64 m.f6, .int .i64 m.f7.f0, .int .i64 m.f7.f1, .int .i64 m.f8.f0, .int .u64 m.f8.f1, .int .u64 m.f8.f2, .int .i64 m.f9, .bool m.f10, .slice A1 m.f11.length c1, .slice A2 m.f12.length c2]) (t := 49) ?hr ?_; (case hr => go_simp; done); intro gx hgx Y hboy hbY; have HY := Lib.hid (And.intro hboy hbY); clear hgx hboy hbY))
 with_reducible refine (HNX.out _ HY.out.2).mono ?_
 rintro e w1 ⟨rfl, hb1⟩; have HB1 := Lib.hid (below_then HY.out.2 HY.out.2.size hb1); have HX1 := Lib.hid (blk_below HY.out.1 hb1); clear hb1
 go_wp2_with (first
  | ((with_reducible refine gate_dst (N := 5) rfl ?_); refine box_event rfl (N := 5) rfl (cs := mc0) (t := 49) ?hr ?_; (case hr => go_simp; rfl); intro gq hgq Z hboz hbZ; have HZ := Lib.hid (And.intro hgq (And.intro hboz hbZ)); clear hgq hboz hbZ)
  | (refine store_blk (t := 49) (p := .tmp 5) (v := .tmp 10) (g := gq) (off := 0) (cur := mc0) (cur' := mc 5 a.seq x.ep x.sp x.sh a.id a.blk x.rg.f0 x.rg.f1) (e := 49) (u := .agg (mc 5 a.seq x.ep x.sp x.sh a.id a.blk x.rg.f0 x.rg.f1)) rfl rfl rfl rfl rfl HZ.out.2.1 (by kernel_rfl) (Nat.le_of_ble_eq_true rfl) (by rfl) (by rfl) ?_; intro Z2 hz2 hg2 hs2; have HB2 := Lib.hid (below_then HB1.out HB1.out.size (below_grow HZ.out.2.2 hg2 (Nat.le_of_eq HZ.out.1.symm))); have HX2 := Lib.hid (blk_below HX1.out (below_grow HZ.out.2.2 hg2 (Nat.le_of_eq HZ.out.1.symm))); have HQ2 := Lib.hid hz2; have u0 : Z2.cell? ⟨gx, 0, none⟩ = some (.int .i64 m.f0) := (blk_cell HX2.out 0).trans rfl; have u1 : Z2.cell? ⟨gx, 1, none⟩ = some (.int .i64 m.f1) := (blk_cell HX2.out 1).trans rfl; have u12 : Z2.cell? ⟨gx, 12, none⟩ = some (.int .i64 m.f9) := (blk_cell HX2.out 12).trans rfl; have v0 : Z2.cell? ⟨gq, 0, none⟩ = some (.int .i64 5) := (blk_cell hz2 0).trans rfl; have v1 : Z2.cell? ⟨gq, 1, none⟩ = some (.int .i64 a.seq) := (blk_cell hz2 1).trans rfl; have HFW := Lib.hid (blk_below HFB.out HB2.out); have f6 : Z2.cell? ⟨g, 6, none⟩ = some (.int .i64 a.seq) := (blk_cell HFW.out 6).trans rfl; clear hz2 hg2 hs2)
  | (refine store_blk (t := 3) (p := .tmp 35) (v := .tmp 33) (g := g) (off := 6) (cur := rcells x a.seq a.blk a.id vL a.n a.pg a.er vS) (cur' := rcells x (wrap64 (a.seq + 1)) a.blk a.id vL a.n a.pg a.er vS) (e := 60) (u := .int .i64 (wrap64 (a.seq + 1))) rfl rfl rfl rfl rfl HFW.out (by kernel_rfl) (Nat.le_of_ble_eq_true rfl) (by rfl) (by rfl) ?_; intro W1 hz1 hg1 hs1; have HW1 := Lib.hid (And.intro hz1 hg1); have hnx : gx ≠ g := (fun e => by have h1 := HX2.out; rw [e, HFW.out] at h1; injection (Option.some.inj h1) with _ h2; exact absurd h2 (by decide)); have HXW := Lib.hid (blk_other HX2.out hg1 hnx); have u12 : W1.cell? ⟨gx, 12, none⟩ = some (.int .i64 m.f9) := (blk_cell HXW.out 12).trans rfl; have hnq : gq ≠ g := (fun e => by have h1 := HQ2.out; rw [e, HFW.out] at h1; injection (Option.some.inj h1) with _ h2; exact absurd h2 (by decide)); have v0 : W1.cell? ⟨gq, 0, none⟩ = some (.int .i64 5) := (blk_cell (blk_other HQ2.out hg1 hnq) 0).trans rfl; clear hnq; have k0 : W1.cell? ⟨gx, 0, none⟩ = some (.int .i64 m.f0) := (blk_cell HXW.out 0).trans rfl; have k1 : W1.cell? ⟨gx, 1, none⟩ = some (.int .i64 m.f1) := (blk_cell HXW.out 1).trans rfl; have k2 : W1.cell? ⟨gx, 2, none⟩ = some (.int .i64 m.f2) := (blk_cell HXW.out 2).trans rfl; have k3 : W1.cell? ⟨gx, 3, none⟩ = some (.int .i64 m.f3) := (blk_cell HXW.out 3).trans rfl; have k4 : W1.cell? ⟨gx, 4, none⟩ = some (.int .i64 m.f4) := (blk_cell HXW.out 4).trans rfl; have k5 : W1.cell? ⟨gx, 5, none⟩ = some (.string m.f5) := (blk_cell HXW.out 5).trans rfl; have k6 : W1.cell? ⟨gx, 6, none⟩ = some (.int .i64 m.f6) := (blk_cell HXW.out 6).trans rfl; have k7 : W1.cell? ⟨gx, 7, none⟩ = some (.int .i64 m.f7.f0) := (blk_cell HXW.out 7).trans rfl; have k8 : W1.cell? ⟨gx, 8, none⟩ = some (.int .i64 m.f7.f1) := (blk_cell HXW.out 8).trans rfl; have k9 : W1.cell? ⟨gx, 9, none⟩ = some (.int .i64 m.f8.f0) := (blk_cell HXW.out 9).trans rfl; have k10 : W1.cell? ⟨gx, 10, none⟩ = some (.int .u64 m.f8.f1) := (blk_cell HXW.out 10).trans rfl; have k11 : W1.cell? ⟨gx, 11, none⟩ = some (.int .u64 m.f8.f2) := (blk_cell HXW.out 11).trans rfl; have k13 : W1.cell? ⟨gx, 13, none⟩ = some (.bool m.f10) := (blk_cell HXW.out 13).trans rfl; have k14 : W1.cell? ⟨gx, 14, none⟩ = some (.slice A1 m.f11.length c1) := (blk_cell HXW.out 14).trans rfl; have k15 : W1.cell? ⟨gx, 15, none⟩ = some (.slice A2 m.f12.length c2) := (blk_cell HXW.out 15).trans rfl; clear hnx hz1 hg1 hs1 u0 u1 v1 f6))
 have HPA := Lib.hid (show Calls Try.prog 30 #[.pointer (some ⟨g, 0, none⟩), .agg #[.int .i64 m.f0, .int .i64 m.f1, .int .i64 m.f2, .int .i64 m.f3, .int .i64 m.f4, .string m.f5, .int .i64 m.f6, .int .i64 m.f7.f0, .int .i64 m.f7.f1, .int .i64 m.f8.f0, .int .u64 m.f8.f1, .int .u64 m.f8.f2, .int .i64 m.f9, .bool m.f10, .slice A1 m.f11.length c1, .slice A2 m.f12.length c2]] W1 (PagedOut w0 W1 g x (wrap64 (a.seq + 1)) a.n vS vL a.blk a.id a.L a.er m.f10 m.f12) from by
  have hb0 := blk_below HI.out.blk HB2.out
  exact paged_calls w0 W1 g x (wrap64 (a.seq + 1)) a.n vS vL a.blk a.id a.L a.er m A1 c1 A2 c2 (by have := HW1.out.1; rw [HPG.out] at this; exact this) (Kd.R_grown1 (Kd.R_below HI.out.met HB2.out) rfl HW1.out.2 (Kd.R_ne (Kd.R_below HI.out.met HB2.out) hb0 (by decide))) (below_grow (below_then HBW.out HBW.out.size HB2.out) HW1.out.2 HI.out.bg) HI.out.bg HC.out HN.out)
 with_reducible refine HPA.out.mono ?_
 rintro e w5 ⟨gx2, bs2, b', i', L', vL', ok, rfl, hpa, hRM⟩; have HPB := Lib.hid hpa; have HRM := Lib.hid hRM; clear hpa hRM HPA; go_wp2; go_ret; refine ⟨rfl, vL', vS, fun k => Q k ∧ k < w.heap.size, ?_⟩
 have hE : hearA x.sz a m = ⟨wrap64 (a.seq + 1), b', i', L', a.n, ok && !m.f10, if ok = true then 0 else 50⟩ := by
  unfold hearA; rw [if_pos HH.out, if_pos H9.out, HPG.out, if_neg (by simp), ← HPB.out]
 have hgd : good x.sz a m = false := by unfold good; rw [HPG.out]; simp
 have hs : serA x a m S = S := by unfold serA; rw [hgd, if_neg (by simp)]
 have hn0 := HI.out.pn HPG.out; have b0 := blk_below HI.out.blk HB2.out; have k1 : Kept w W1 (fun k => k = g ∨ vL.ownBlock = some k) := Kept.of_grown HW1.out.2 (Kept.of_below HB2.out _) (fun k hk => .inl (.inl (by cases hk; rfl))); have hV1 : Kd.V k65 65 W1 0 (fun k => Q k ∧ k < w.heap.size) vS S := Kd.V_grown (Kd.V_below (Kd.V_bound HVV.out) HB2.out) HW1.out.2 (fun k hk e => (HQ.out k hk.1).1 (by cases e; rfl))
 refine ⟨?_, ?_, fun k hk => ⟨.inl hk.1, Nat.lt_of_lt_of_le hk.2 (Nat.le_trans k1.1 HRM.out.kept.1)⟩, fun k hk => ⟨(HQ.out k hk.1).1, fun e => by
  rcases HRM.out.own k e with h2 | h2
  ·
   exact (HQ.out k hk.1).2 h2
  ·
   have := k1.1; omega⟩, by rw [hs]; exact HS.out.more (Nat.le_add_right _ _), HRM.out.bel, k1.then_ HRM.out.kept (fun k hk => .inl hk), fun k hk => (HRM.out.own k hk).imp id (fun h => Nat.le_trans k1.1 h)⟩
 ·
  rw [hE]; refine ⟨?_, HRM.out.row, HI.out.bg, by show a.n ≤ L'.length; rw [hn0]; exact Nat.zero_le _, fun _ => hn0⟩; have := HRM.out.blk; rw [HER.out] at this; exact this
 ·
  rw [hs]; exact Kd.V_kept hV1 HRM.out.kept (fun k hk hs2 => hs2.elim (fun e => (HQ.out k hk.1).1 e) (fun e => (HQ.out k hk.1).2 e))
theorem rhear_str (w0 w : World) (g : Nat) (x : Fx) (vL vS : Value) (a : Fa) (S : List S65) (Q : Nat → Prop) (T : Nat) (m : S46) (A1 : Option Addr) (c1 : Nat) (A2 : Option Addr) (c2 : Nat)
  (hI : RIs w w0.heap.size g vL vS x a) (hV : Kd.V k65 65 w 0 Q vS S) (hQ : ∀ k, Q k → k ≠ g ∧ vL.ownBlock ≠ some k) (hS : Lens S T) (hB : Below w0.heap.size w0 w) (hl : a.live = true) (hp : a.pg = true) (hh : hit a m = true) (h9 : m.f9 = 0) (her : a.er = 0) (hnl : a.n < a.L.length) (hln : a.L.length ≤ 1000000) (hC : Kd.C k42 w0 A1 m.f11.length m.f11) (hc : m.f11.length ≤ c1) (hT : T + m.f11.length ≤ 1000000) :
  Calls Try.prog 14 #[.pointer (some ⟨g, 0, none⟩), .agg (mcs m A1 c1 A2 c2)] w fun e w' => e = .returned (.bool (hit a m)) ∧ ∃ vL' vS' Q', RHearOut w0 w g x vL Q T a m S w' vL' vS' Q' := by
 have HC := Lib.hid hC; have HCC := Lib.hid hc; have HT := Lib.hid hT; have HNL := Lib.hid hnl; have HLN := Lib.hid hln; have HER := Lib.hid her; clear hC hc hT hnl hln her; have HNX := Lib.hid (fun W (hW : Below w.heap.size w W) => (show Calls Try.prog 11 #[.pointer (some ⟨g, 0, none⟩)] W (fun e w' => e = .returned (.tuple #[.agg (mc 7 a.seq x.ep x.sp x.sh (rd_T25 a.L a.n).f0 (rd_T25 a.L a.n).f1 0 0), .bool true]) ∧ Below W.heap.size W w') from by have := rnext_calls W w0.heap.size g vL vS x a (hI.below hW); unfold qmsg at this; rw [hl, if_pos rfl, hp, if_pos rfl] at this; exact this)); have HFB := Lib.hid hI.blk; have HI := Lib.hid hI; have HVV := Lib.hid hV; have HQ := Lib.hid hQ; have HS := Lib.hid hS; have HBW := Lib.hid hB; have HH := Lib.hid hh; have HPG := Lib.hid hp; unfold mcs; rw [hh]; unfold hit Fa.kd at hh; rw [hl, hp, Bool.true_and, Bool.and_eq_true] at hh; have d1 : (m.f1 != a.seq) = false := by rw [bne, hh.1]; rfl
 have d2 : (m.f0 != 8) = false := by
  have h2 := hh.2; rw [show wrap64 ((if true = true then (7 : Int) else 5) + 1) = 8 from by rw [if_pos rfl]; unfold wrap64; omega] at h2; rw [bne, h2]; rfl
 clear hI hV hQ hS hB hp hh hl; have d9 : (m.f9 == 0) = true := beq_iff_eq.2 h9; have d9' : (m.f9 != 0) = false := by rw [bne, d9]; rfl
 have H9 := Lib.hid h9; clear h9; go_enter Try.func14, Try.ntmps14
 go_wp2_with (first
  | ((with_reducible refine gate_dst (N := 3) rfl ?_); refine box_event rfl (N := 3) rfl (cs := #[.int .i64 m.f0, .int .i64 m.f1, .int .i64 m.f2, .int .i64 m.f3, .int .i64 m.f4, .string m.f5, .int .i64 m.f6, .int .i64 m.f7.f0, .int .i64 m.f7.f1, .int .i64 m.f8.f0, .int .u64 m.f8.f1, .int .u64 m.f8.f2, .int .i64 m.f9, .bool m.f10, .slice A1 m.f11.length c1, .slice A2 m.f12.length c2]) (t := 49) ?hr ?_; (case hr => go_simp; done); intro gx hgx Y hboy hbY; have HY := Lib.hid (And.intro hboy hbY); clear hgx hboy hbY))
 with_reducible refine (HNX.out _ HY.out.2).mono ?_
 rintro e w1 ⟨rfl, hb1⟩; have HB1 := Lib.hid (below_then HY.out.2 HY.out.2.size hb1); have HX1 := Lib.hid (blk_below HY.out.1 hb1); clear hb1
 go_wp2_with (first
  | ((with_reducible refine gate_dst (N := 5) rfl ?_); refine box_event rfl (N := 5) rfl (cs := mc0) (t := 49) ?hr ?_; (case hr => go_simp; rfl); intro gq hgq Z hboz hbZ; have HZ := Lib.hid (And.intro hgq (And.intro hboz hbZ)); clear hgq hboz hbZ)
  | (refine store_blk (t := 49) (p := .tmp 5) (v := .tmp 10) (g := gq) (off := 0) (cur := mc0) (cur' := mc 7 a.seq x.ep x.sp x.sh (rd_T25 a.L a.n).f0 (rd_T25 a.L a.n).f1 0 0) (e := 49) (u := .agg (mc 7 a.seq x.ep x.sp x.sh (rd_T25 a.L a.n).f0 (rd_T25 a.L a.n).f1 0 0)) rfl rfl rfl rfl rfl HZ.out.2.1 (by kernel_rfl) (Nat.le_of_ble_eq_true rfl) (by rfl) (by rfl) ?_; intro Z2 hz2 hg2 hs2; have HB2 := Lib.hid (below_then HB1.out HB1.out.size (below_grow HZ.out.2.2 hg2 (Nat.le_of_eq HZ.out.1.symm))); have HX2 := Lib.hid (blk_below HX1.out (below_grow HZ.out.2.2 hg2 (Nat.le_of_eq HZ.out.1.symm))); have HQ2 := Lib.hid hz2; have u0 : Z2.cell? ⟨gx, 0, none⟩ = some (.int .i64 m.f0) := (blk_cell HX2.out 0).trans rfl; have u1 : Z2.cell? ⟨gx, 1, none⟩ = some (.int .i64 m.f1) := (blk_cell HX2.out 1).trans rfl; have u12 : Z2.cell? ⟨gx, 12, none⟩ = some (.int .i64 m.f9) := (blk_cell HX2.out 12).trans rfl; have v0 : Z2.cell? ⟨gq, 0, none⟩ = some (.int .i64 7) := (blk_cell hz2 0).trans rfl; have v1 : Z2.cell? ⟨gq, 1, none⟩ = some (.int .i64 a.seq) := (blk_cell hz2 1).trans rfl; have HFW := Lib.hid (blk_below HFB.out HB2.out); have f6 : Z2.cell? ⟨g, 6, none⟩ = some (.int .i64 a.seq) := (blk_cell HFW.out 6).trans rfl; clear hz2 hg2 hs2)
  | (refine store_blk (t := 3) (p := .tmp 35) (v := .tmp 33) (g := g) (off := 6) (cur := rcells x a.seq a.blk a.id vL a.n a.pg a.er vS) (cur' := rcells x (wrap64 (a.seq + 1)) a.blk a.id vL a.n a.pg a.er vS) (e := 60) (u := .int .i64 (wrap64 (a.seq + 1))) rfl rfl rfl rfl rfl HFW.out (by kernel_rfl) (Nat.le_of_ble_eq_true rfl) (by rfl) (by rfl) ?_; intro W1 hz1 hg1 hs1; have HW1 := Lib.hid (And.intro hz1 hg1); have hnx : gx ≠ g := (fun e => by have h1 := HX2.out; rw [e, HFW.out] at h1; injection (Option.some.inj h1) with _ h2; exact absurd h2 (by decide)); have HXW := Lib.hid (blk_other HX2.out hg1 hnx); have u12 : W1.cell? ⟨gx, 12, none⟩ = some (.int .i64 m.f9) := (blk_cell HXW.out 12).trans rfl; have hnq : gq ≠ g := (fun e => by have h1 := HQ2.out; rw [e, HFW.out] at h1; injection (Option.some.inj h1) with _ h2; exact absurd h2 (by decide)); have v0 : W1.cell? ⟨gq, 0, none⟩ = some (.int .i64 7) := (blk_cell (blk_other HQ2.out hg1 hnq) 0).trans rfl; clear hnq; have k0 : W1.cell? ⟨gx, 0, none⟩ = some (.int .i64 m.f0) := (blk_cell HXW.out 0).trans rfl; have k1 : W1.cell? ⟨gx, 1, none⟩ = some (.int .i64 m.f1) := (blk_cell HXW.out 1).trans rfl; have k2 : W1.cell? ⟨gx, 2, none⟩ = some (.int .i64 m.f2) := (blk_cell HXW.out 2).trans rfl; have k3 : W1.cell? ⟨gx, 3, none⟩ = some (.int .i64 m.f3) := (blk_cell HXW.out 3).trans rfl; have k4 : W1.cell? ⟨gx, 4, none⟩ = some (.int .i64 m.f4) := (blk_cell HXW.out 4).trans rfl; have k5 : W1.cell? ⟨gx, 5, none⟩ = some (.string m.f5) := (blk_cell HXW.out 5).trans rfl; have k6 : W1.cell? ⟨gx, 6, none⟩ = some (.int .i64 m.f6) := (blk_cell HXW.out 6).trans rfl; have k7 : W1.cell? ⟨gx, 7, none⟩ = some (.int .i64 m.f7.f0) := (blk_cell HXW.out 7).trans rfl; have k8 : W1.cell? ⟨gx, 8, none⟩ = some (.int .i64 m.f7.f1) := (blk_cell HXW.out 8).trans rfl; have k9 : W1.cell? ⟨gx, 9, none⟩ = some (.int .i64 m.f8.f0) := (blk_cell HXW.out 9).trans rfl; have k10 : W1.cell? ⟨gx, 10, none⟩ = some (.int .u64 m.f8.f1) := (blk_cell HXW.out 10).trans rfl; have k11 : W1.cell? ⟨gx, 11, none⟩ = some (.int .u64 m.f8.f2) := (blk_cell HXW.out 11).trans rfl; have k13 : W1.cell? ⟨gx, 13, none⟩ = some (.bool m.f10) := (blk_cell HXW.out 13).trans rfl; have k14 : W1.cell? ⟨gx, 14, none⟩ = some (.slice A1 m.f11.length c1) := (blk_cell HXW.out 14).trans rfl; have k15 : W1.cell? ⟨gx, 15, none⟩ = some (.slice A2 m.f12.length c2) := (blk_cell HXW.out 15).trans rfl; clear hnx hz1 hg1 hs1 u0 u1 v1 f6))
 have hV1 : Kd.V k65 65 W1 0 (fun k => Q k ∧ k < w.heap.size) vS S := Kd.V_grown (Kd.V_below (Kd.V_bound HVV.out) HB2.out) HW1.out.2 (fun k hk e => (HQ.out k hk.1).1 (by cases e; rfl))
 have HSA := Lib.hid (show Calls Try.prog 31 #[.pointer (some ⟨g, 0, none⟩), .agg #[.int .i64 m.f0, .int .i64 m.f1, .int .i64 m.f2, .int .i64 m.f3, .int .i64 m.f4, .string m.f5, .int .i64 m.f6, .int .i64 m.f7.f0, .int .i64 m.f7.f1, .int .i64 m.f8.f0, .int .u64 m.f8.f1, .int .u64 m.f8.f2, .int .i64 m.f9, .bool m.f10, .slice A1 m.f11.length c1, .slice A2 m.f12.length c2]] W1 (RStOut w0 W1 g x (wrap64 (a.seq + 1)) a.blk a.n a.id vL a.pg a.er (rd_T25 a.L a.n) vS S (fun k => Q k ∧ k < w.heap.size) T m.f11) from by
  have hb0 := blk_below HI.out.blk HB2.out
  exact rstream_calls w0 W1 g x (wrap64 (a.seq + 1)) a.blk a.n a.id vL a.L a.pg a.er vS S (fun k => Q k ∧ k < w.heap.size) T m A1 c1 A2 c2 HW1.out.1 (Kd.R_grown1 (Kd.R_below HI.out.met HB2.out) rfl HW1.out.2 (Kd.R_ne (Kd.R_below HI.out.met HB2.out) hb0 (by decide))) hV1 (fun k hk => (HQ.out k hk.1).1) HS.out (below_grow (below_then HBW.out HBW.out.size HB2.out) HW1.out.2 HI.out.bg) HI.out.bg HNL.out HLN.out HC.out HCC.out HT.out)
 clear hV1; with_reducible refine HSA.out.mono ?_
 rintro e w5 ⟨gx2, gz2, bs2, v1, rfl, hno, hyes⟩; have HNO := Lib.hid hno; have HYES := Lib.hid hyes; clear hno hyes HSA; go_wp2; go_ret; have b0 := blk_below HI.out.blk HB2.out; have hR1 := Kd.R_grown1 (Kd.R_below HI.out.met HB2.out) rfl HW1.out.2 (Kd.R_ne (Kd.R_below HI.out.met HB2.out) b0 (by decide)); have k1 : Kept w W1 (fun k => k = g) := Kept.of_grown HW1.out.2 (Kept.of_below HB2.out _) (fun k hk => .inl (by cases hk; rfl)); have hgl := blk_lt HI.out.blk; have hown : ∀ k, vL.ownBlock = some k → k < w.heap.size := Kd.R_lt HI.out.met
 cases hok : okP (rd_T25 a.L a.n) x.sz m.f11 with
 | false =>
  have hRS := HNO.out hok
  have hE : hearA x.sz a m = ⟨wrap64 (a.seq + 1), a.blk, a.id, a.L, a.n, a.pg, 50⟩ := by
   unfold hearA; rw [if_pos HH.out, if_pos H9.out, if_pos HPG.out, if_neg (by rw [hok]; simp), HPG.out]
  have hgd : good x.sz a m = false := by unfold good; rw [hok]; simp
  have hs : serA x a m S = S := by unfold serA; rw [hgd, if_neg (by simp)]
  refine ⟨rfl, vL, v1, fun k => ((Q k ∧ k < w.heap.size) ∨ W1.heap.size ≤ k) ∧ k < w5.heap.size, ⟨?_, by rw [hs]; exact Kd.V_bound hRS.V, fun k hk => ⟨hk.1.imp (fun h => h.1) (fun h => Nat.le_trans k1.1 h), hk.2⟩, fun k hk => ?_, by rw [hs]; exact HS.out.more (Nat.le_add_right _ _), hRS.bel, (k1.then_ hRS.kept (fun k hk => .inl hk)).mono (fun k hk => .inl hk), fun k hk => .inl hk⟩⟩
  ·
   rw [hE]; exact ⟨hRS.blk, Kd.R_kept (Kd.R_tight rfl hR1) hRS.kept (fun k hk e => Kd.R_ne hR1 HW1.out.1 (by decide) (by rw [show g = k from e.symm]; exact hk)) |> fun h => Kd.R_mono h (fun _ _ => trivial), HI.out.bg, HI.out.le, HI.out.pn⟩
  ·
   rcases hk.1 with h | h
   ·
    exact HQ.out k h.1
   ·
    exact ⟨fun e => by have := k1.1; omega, fun e => by have := hown k e; have := k1.1; omega⟩
 | true =>
  have hRS := HYES.out hok
  have hE : hearA x.sz a m = ⟨wrap64 (a.seq + 1), a.blk, a.id, a.L, a.n + 1, true, 0⟩ := by
   unfold hearA; rw [if_pos HH.out, if_pos H9.out, if_pos HPG.out, if_pos hok]
  have hgd : good x.sz a m = true := by unfold good; rw [HH.out, HPG.out, hok, beq_iff_eq.2 H9.out]; rfl
  have hs : serA x a m S = addP x.rg (rd_T25 a.L a.n).f0 S m.f11 := by unfold serA; rw [hgd, if_pos rfl]
  refine ⟨rfl, vL, v1, fun k => ((Q k ∧ k < w.heap.size) ∨ W1.heap.size ≤ k) ∧ k < w5.heap.size, ⟨?_, by rw [hs]; exact Kd.V_bound hRS.V, fun k hk => ⟨hk.1.imp (fun h => h.1) (fun h => Nat.le_trans k1.1 h), hk.2⟩, fun k hk => ?_, by rw [hs]; exact hRS.len, hRS.bel, (k1.then_ hRS.kept (fun k hk => .inl hk)).mono (fun k hk => .inl hk), fun k hk => .inl hk⟩⟩
  ·
   rw [hE]; refine ⟨?_, Kd.R_kept (Kd.R_tight rfl hR1) hRS.kept (fun k hk e => Kd.R_ne hR1 HW1.out.1 (by decide) (by rw [show g = k from e.symm]; exact hk)) |> fun h => Kd.R_mono h (fun _ _ => trivial), HI.out.bg, HNL.out, fun h => by cases h⟩; have := hRS.blk; rw [HPG.out, HER.out] at this; exact this
  ·
   rcases hk.1 with h | h
   ·
    exact HQ.out k h.1
   ·
    exact ⟨fun e => by have := k1.1; omega, fun e => by have := hown k e; have := k1.1; omega⟩
/-- The document's fetch hears a message. -/
theorem rhear_calls (w0 w : World) (g : Nat) (x : Fx) (vL vS : Value) (a : Fa) (S : List S65) (Q : Nat → Prop) (T : Nat) (m : S46) (A1 : Option Addr) (c1 : Nat) (A2 : Option Addr) (c2 : Nat)
  (hI : RIs w w0.heap.size g vL vS x a) (hV : Kd.V k65 65 w 0 Q vS S) (hQ : ∀ k, Q k → k ≠ g ∧ vL.ownBlock ≠ some k) (hS : Lens S T) (hB : Below w0.heap.size w0 w) (hC : Kd.C k42 w0 A1 m.f11.length m.f11) (hc : m.f11.length ≤ c1) (hC2 : Kd.C k25 w0 A2 m.f12.length m.f12) (hn2 : a.L.length + m.f12.length ≤ 1000000) (hT : T + m.f11.length ≤ 1000000) :
  Calls Try.prog 14 #[.pointer (some ⟨g, 0, none⟩), .agg (mcs m A1 c1 A2 c2)] w fun e w' => e = .returned (.bool (hit a m)) ∧ ∃ vL' vS' Q', RHearOut w0 w g x vL Q T a m S w' vL' vS' Q' := by
 cases hl : a.live with
 | false => exact rhear_dead w0 w g x vL vS a S Q T m A1 c1 A2 c2 hI hV hQ hS hB hl
 | true =>
  have her : a.er = 0 := by unfold Fa.live at hl; rw [Bool.and_eq_true] at hl; exact beq_iff_eq.1 hl.1
  cases hp : a.pg with
  | false =>
   cases hh : hit a m with
   | false => rw [← hh]; exact rhear_otherPage w0 w g x vL vS a S Q T m A1 c1 A2 c2 hI hV hQ hS hB hl hp hh
   | true =>
    rw [← hh]
    by_cases h9 : m.f9 = 0
    ·
     exact rhear_page w0 w g x vL vS a S Q T m A1 c1 A2 c2 hI hV hQ hS hB hl hp hh h9 her hC2 hn2
    ·
     exact rhear_errPage w0 w g x vL vS a S Q T m A1 c1 A2 c2 hI hV hQ hS hB hl hp hh h9
  | true =>
   cases hh : hit a m with
   | false => rw [← hh]; exact rhear_otherStr w0 w g x vL vS a S Q T m A1 c1 A2 c2 hI hV hQ hS hB hl hp hh
   | true =>
    rw [← hh]
    by_cases h9 : m.f9 = 0
    ·
     have hnl : a.n < a.L.length := by
      have h1 := hI.le; unfold Fa.live Fa.fin at hl; rw [hp] at hl; rcases Nat.lt_or_ge a.n a.L.length with h2 | h2
      ·
       exact h2
      ·
       rw [show a.n = a.L.length from by omega] at hl; simp at hl
     exact rhear_str w0 w g x vL vS a S Q T m A1 c1 A2 c2 hI hV hQ hS hB hl hp hh h9 her hnl (by omega) hC hc hT
    ·
     exact rhear_errStr w0 w g x vL vS a S Q T m A1 c1 A2 c2 hI hV hQ hS hB hl hp hh h9
end Ps
end Go.Proofs.Ytgagcimfkmegnaa
