/- BootstrapTwice: the walk. -/
import Derived.Test.YtiinmagnpkfbbaaGreatTwB
set_option maxHeartbeats 8000000
set_option maxRecDepth 100000
namespace Go.Proofs.YtiinmagnpkfbbaaGreat
set_option linter.unusedVariables false
set_option linter.unusedSimpArgs false
open Go.RowKit Go.Proofs.YtiinmagnpkfbbaaGreatW.PrintWords Go.Proofs.YtiinmagnpkfbbaaGreatW.PrintLast Go.Proofs.YtiinmagnpkfbbaaGreatW.PrintMore Go.Proofs.YtiinmagnpkfbbaaGreat.QT
namespace Tw
open Bt (Bo Is Wf Rb Rs RG Lens Ow R othersL)
open Hm (Hp HM Fp Sh Gt cont add1 gotB pmOf Cn cut)
theorem Fp_ge {w : World} {B g gm gp : Nat} {vO vL : Value} {b : Bo} (h : Is w B g gm gp vO vL b) : ∀ k, Fp g gm gp vO vL [] k → B ≤ k := by
 rintro k (rfl | rfl | h1 | h1 | rfl | ⟨e, he, h1⟩)
 ·
  exact h.bg
 ·
  exact h.bm
 ·
  exact Kd.R_base h.oth k h1
 ·
  exact Kd.R_base h.left k h1
 ·
  exact h.bp
 ·
  cases he
theorem ti_start {w w4 w5 : World} {ga gma gpa gb gmb gpb gr : Nat} {vOa vLa vOb vLb vOr : Value} {o : Ow} {A : List Int} {need : R} {lf : List R} (hA : Is w4 w.heap.size ga gma gpa vOa vLa ⟨o, A, [], need, lf, []⟩) (hB : Is w4 w.heap.size gb gmb gpb vOb vLb ⟨o, A, [], need, lf, []⟩)
  (hR : Rs w5 w.heap.size gr vOr (.slice none 0 0) (.slice none 0 0) (.slice none 0 0) ⟨o, A, [], need, []⟩) (hb : Below w4.heap.size w4 w5) (hab : ∀ k, Fp ga gma gpa vOa vLa [] k → ¬ Fp gb gmb gpb vOb vLb [] k)
  (hr : ∀ k, PR.F ⟨gr, vOr, .slice none 0 0, .slice none 0 0, .slice none 0 0, ⟨o, A, [], need, []⟩, []⟩ k → w4.heap.size ≤ k) (fa : ∀ k, Fp ga gma gpa vOa vLa [] k → k < w4.heap.size) (fb : ∀ k, Fp gb gmb gpb vOb vLb [] k → k < w4.heap.size) (hbel : Below w.heap.size w w5) :
  TI w w5 0 0 ga gb gr o A need lf ⟨ga, gma, gpa, vOa, vLa, ⟨o, A, [], need, lf, []⟩, []⟩ ⟨gb, gmb, gpb, vOb, vLb, ⟨o, A, [], need, lf, []⟩, []⟩ ⟨gr, vOr, .slice none 0 0, .slice none 0 0, .slice none 0 0, ⟨o, A, [], need, []⟩, []⟩ := by
 refine ⟨⟨hA.below hb, rfl, (Hm.HM.nil hA.pts).below hb, hB.below hb, rfl, (Hm.HM.nil hB.pts).below hb, hR, Kd.V_nil _ _ _ _ _, ⟨Nat.le_refl _, by simp⟩, hab, ?_, ?_, fun _ h => h.elim, fun _ h => h.elim, fun _ h => h.elim, fun _ h => h.elim⟩, rfl, rfl, rfl, ⟨rfl, rfl, rfl, rfl⟩, ⟨rfl, rfl, rfl, rfl⟩, ⟨rfl, rfl, rfl, rfl⟩, rfl, Ce.refl _, hbel, Nat.le_refl _, Nat.le_refl _⟩
 ·
  intro k h1 h2; have := fa k h1; have := hr k h2; omega
 ·
  intro k h1 h2; have := fb k h1; have := hr k h2; omega
theorem wantsR_len (b : Rb) : (Bt.wantsR b).length ≤ b.oth.length + 1 := by
 unfold Bt.wantsR
 split
 ·
  simp
 ·
  have := List.length_filter_le (Bt.pw b) (b.own.f2 :: b.oth); rw [List.length_cons] at this; exact this
theorem rwants_at {W : World} {B : Nat} {r : PR} {o : Ow} {A : List Int} {need : R} (h : Rs W B r.g r.vO r.vG r.vF r.vS r.bo) (hb : r.bo.own = o ∧ r.bo.oth = A ∧ r.bo.need = need ∧ r.bo.fil = []) (hA : A.length ≤ 8) (hg : r.bo.giv.length ≤ 2048) :
  Calls Tryz.prog 9 #[.pointer (some ⟨r.g, 0, none⟩)] W fun e w' => ∃ (v : Value) (Ws : List Int), e = .returned v ∧ (Ws.length ≤ 9 ∧ ∀ x ∈ Ws, x = o.f2 ∨ x ∈ A) ∧ Kd.R (Kd.int .i64) 3 w' W.heap.size (fun _ => True) v Ws ∧ Below W.heap.size W w' := by
 refine (Bt.rwants_calls W B r.g r.vO r.vG r.vF r.vS r.bo h (by rw [hb.2.1]; omega) (by omega) hb.2.2.2).mono ?_; rintro e w' ⟨v, rfl, hR, hbl⟩; exact ⟨v, _, rfl, ⟨by have := wantsR_len r.bo; rw [hb.2.1] at this; omega, fun x hx => by have := wants_mem hx; rwa [hb.1, hb.2.1] at this⟩, hR, hbl⟩
theorem wf_of {a : PA} {o : Ow} {A : List Int} {need : R} {lf : List R} (hb : a.bo.own = o ∧ a.bo.oth = A ∧ a.bo.need = need ∧ a.bo.left = lf) (hw : (Lit.int .i64 o.f2).wf = true ∧ (∀ x ∈ A, (Lit.int .i64 x).wf = true) ∧ A.length ≤ 8) (hl : lf.length ≤ 1000000) : Wf a.bo :=
 ⟨by rw [hb.1]; exact hw.1, by rw [hb.2.1]; exact hw.2.1, by rw [hb.2.1]; omega, by rw [hb.2.2.2]; exact hl⟩
theorem got_at {w0 W : World} {T : Nat} {a b : PA} {r : PR} {X : Nat → Prop} {o : Ow} {A : List Int} {need : R} {lf : List R} (h : J w0.heap.size T W a b r X) (hb : a.bo.own = o ∧ a.bo.oth = A ∧ a.bo.need = need ∧ a.bo.left = lf) (hw : (Lit.int .i64 o.f2).wf = true ∧ (∀ x ∈ A, (Lit.int .i64 x).wf = true) ∧ A.length ≤ 8) (hl : lf.length ≤ 1000000)
  (hB : Below w0.heap.size w0 W) (p : Int) (hp : (Lit.int .i64 p).wf = true) (hn : a.bo.gv.length < maxLen) (A1 : Option Addr) (c : Nat) (l : List S55) (hL : Kd.C k55 w0 A1 l.length l) (hids : ∀ x ∈ l, x.f0.size ≤ maxLen) (hT : T + Hv.serW l ≤ 1000000) (ga : Nat) (hga : a.g = ga) (q : Bool) (hq : gotB a.bo p = q) :
  Calls Tryz.prog 10 #[.pointer (some ⟨ga, 0, none⟩), .int .i64 p, .slice A1 l.length c] W fun e w' => e = .returned (.bool q) ∧ ∃ hm', Gt w0 W w' a.g a.gm a.gp a.vO a.vL a.bo a.hm hm' T p l := by
 subst hga hq; exact Hm.got_calls w0 W a.g a.gm a.gp a.vO a.vL a.bo a.hm T h.ia (wf_of hb hw hl) h.pa h.ma hB p hp hn A1 c l hL hids hT
theorem tmod_in (x : Int) (n : Nat) (hn : 0 < n) (hb : n ≤ 4611686018427387904) : 0 ≤ (wrap64 (x.tmod n + n)).tmod n ∧ (wrap64 (x.tmod n + n)).tmod n < n := by
 have h1 : -(n : Int) < x.tmod n ∧ x.tmod n < n := by
  refine ⟨?_, Int.tmod_lt_of_pos x (by omega)⟩; have e : (-x).tmod n = -(x.tmod n) := Int.neg_tmod x n; have := Int.tmod_lt_of_pos (-x) (show (0 : Int) < n by omega); omega
 have h2 : wrap64 (x.tmod n + n) = x.tmod n + n := by unfold wrap64; omega
 rw [h2]; exact ⟨Int.tmod_nonneg _ (by omega), Int.tmod_lt_of_pos _ (by omega)⟩
theorem ser_at {w W : World} {i T ga gb gr : Nat} {o : Ow} {A : List Int} {need : R} {lf : List R} {a b : PA} {r : PR} (h : TI w W i T ga gb gr o A need lf a b r) (hT : T ≤ 8192) :
  (Calls Tryz.prog 13 #[.pointer (some ⟨ga, 0, none⟩)] W fun e w' => ∃ (v : Value) (ns : List ByteArray), e = .returned v ∧ ns.Perm (a.hm.map (·.1)) ∧ ns.Pairwise Hm.leN ∧ Kd.R k55 55 w' W.heap.size (fun _ => True) v (Hm.serOf a.hm ns) ∧ Below W.heap.size W w') ∧
  (Calls Tryz.prog 13 #[.pointer (some ⟨gb, 0, none⟩)] W fun e w' => ∃ (v : Value) (ns : List ByteArray), e = .returned v ∧ ns.Perm (b.hm.map (·.1)) ∧ ns.Pairwise Hm.leN ∧ Kd.R k55 55 w' W.heap.size (fun _ => True) v (Hm.serOf b.hm ns) ∧ Below W.heap.size W w') := by
 have h1 := Hm.series_calls W w.heap.size a.g a.gm a.gp T a.vO a.vL a.bo a.hm h.j.ia h.j.ma (by omega); have h2 := Hm.series_calls W w.heap.size b.g b.gm b.gp T b.vO b.vL b.bo b.hm h.j.ib h.j.mb (by omega); rw [h.ga] at h1; rw [h.gb] at h2; exact ⟨h1, h2⟩
theorem wants_at {w W : World} {i T ga gb gr : Nat} {o : Ow} {A : List Int} {need : R} {lf : List R} {a b : PA} {r : PR} (h : TI w W i T ga gb gr o A need lf a b r) (hw : (Lit.int .i64 o.f2).wf = true ∧ (∀ x ∈ A, (Lit.int .i64 x).wf = true) ∧ A.length ≤ 8) (hl : lf.length ≤ 1000000) :
  (Calls Tryz.prog 15 #[.pointer (some ⟨ga, 0, none⟩)] W fun e w' => ∃ v : Value, e = .returned v ∧ Kd.R (Kd.int .i64) 3 w' W.heap.size (fun _ => True) v (Bt.wantsOf a.bo) ∧ Below W.heap.size W w') ∧
  (Calls Tryz.prog 15 #[.pointer (some ⟨gb, 0, none⟩)] W fun e w' => ∃ v : Value, e = .returned v ∧ Kd.R (Kd.int .i64) 3 w' W.heap.size (fun _ => True) v (Bt.wantsOf a.bo) ∧ Below W.heap.size W w') := by
 have h1 := Bt.wants_calls W w.heap.size a.g a.gm a.gp a.vO a.vL a.bo h.j.ia (wf_of h.ba hw hl); have h2 := Bt.wants_calls W w.heap.size b.g b.gm b.gp b.vO b.vL b.bo h.j.ib (wf_of h.bb hw hl); rw [h.ga] at h1; rw [h.gb, ← h.like.wants] at h2; exact ⟨h1, h2⟩
theorem done_at {w W : World} {i T ga gb gr : Nat} {o : Ow} {A : List Int} {need : R} {lf : List R} {a b : PA} {r : PR} (h : TI w W i T ga gb gr o A need lf a b r) (hw : (Lit.int .i64 o.f2).wf = true ∧ (∀ x ∈ A, (Lit.int .i64 x).wf = true) ∧ A.length ≤ 8) (hl : lf.length ≤ 1000000) :
  (Calls Tryz.prog 16 #[.pointer (some ⟨ga, 0, none⟩)] W fun e w' => e = .returned (.bool (decide (Bt.leftOf a.bo = []))) ∧ Below W.heap.size W w') ∧
  (Calls Tryz.prog 16 #[.pointer (some ⟨gb, 0, none⟩)] W fun e w' => e = .returned (.bool (decide (Bt.leftOf a.bo = []))) ∧ Below W.heap.size W w') := by
 have h1 := Bt.done_calls W w.heap.size a.g a.gm a.gp a.vO a.vL a.bo h.j.ia (wf_of h.ba hw hl); have h2 := Bt.done_calls W w.heap.size b.g b.gm b.gp b.vO b.vL b.bo h.j.ib (wf_of h.bb hw hl); rw [h.ga] at h1; rw [h.gb, ← h.like.left] at h2; exact ⟨h1, h2⟩
theorem norm_short (r : R) : (Rg.normR [r]).length ≤ 400000 := by
 rw [show Rg.normR [r] = if r.f1 ≤ r.f0 then [] else [r] from rfl]; split <;> simp
theorem wf_start {w : World} {V : Int} {An : Option Addr} {cn : Nat} {nodes : List Int} {As : Option Addr} {cs : Nat} {shards : List (List Ow)} {sh : Int} (hP : Pl.PlAt w An cn nodes As cs shards) (n : Int) (hc : Pl.checkP V nodes shards = 0) (ho : Pl.ownsP shards sh n = true) :
  (Lit.int .i64 (Pl.findP shards sh n).1.f2).wf = true ∧ (∀ x ∈ othersL (rd_L4 shards sh) n, (Lit.int .i64 x).wf = true) ∧ (othersL (rd_L4 shards sh) n).length ≤ 8 := by
 unfold Pl.ownsP at ho; rw [Bool.and_eq_true] at ho; obtain ⟨_, _, hlm, hol, _⟩ := Pl.find_mem (shards := shards) (sh := sh) (n := n) ho.1; exact wf_tw hP hlm hol (Pl.check_right hc hlm).len n [] (by simp)
theorem twice_err (w : World) (V : Int) (An : Option Addr) (cn : Nat) (nodes : List Int) (As : Option Addr) (cs : Nat) (shards : List (List Ow)) (hP : Pl.PlAt w An cn nodes As cs shards) (sh n : Int) (need : R) (A : Option Addr) (c : Nat) (ls : List S40) (hl : Kd.C k40 w A ls.length ls) (hlc : ls.length ≤ c) (hw : ∀ s ∈ ls, (Lit.int .i64 s.f1).wf = true ∧ s.f4.length ≤ maxLen ∧ ∀ x ∈ s.f4, x.f0.size ≤ maxLen) (h : ¬ (Pl.checkP V nodes shards = 0 ∧ Pl.ownsP shards sh n = true)) :
  Calls Tryz.prog 3 #[.agg #[.int .i64 V, .slice An nodes.length cn, .slice As shards.length cs], .int .i64 sh, .int .i64 n, .agg #[.int .i64 need.f0, .int .i64 need.f1], .slice A ls.length c] w fun e w' => e = .returned (.bool true) ∧ Below w.heap.size w w' := by
 obtain ⟨er, her, hnw⟩ := Bt.news_err V An cn nodes As cs shards sh n need h; have HN := Lib.hid hnw; have d1 : (er != 0) = true := bne_iff_ne.2 her; clear h hnw her; have HP := Lib.hid hP; have HL := Lib.hid hl; have HLC := Lib.hid hlc; have HW := Lib.hid hw; clear hP hl hlc hw; go_enter Tryz.func3, Tryz.ntmps3
 go_wp2_with (first
  | ((with_reducible refine gate_dst (N := 5) rfl ?_); refine box_event rfl (N := 5) rfl (cs := #[.int .i64 V, .slice An nodes.length cn, .slice As shards.length cs]) (t := 25) ?hr ?_; (case hr => go_simp; done); intro g5 hg5 X hbox hbX; have HX := Lib.hid (And.intro hg5 (And.intro hbox hbX)); clear hg5 hbox hbX)
  | ((with_reducible refine gate_dst (N := 8) rfl ?_); refine box_event rfl (N := 8) rfl (cs := #[.int .i64 need.f0, .int .i64 need.f1]) (t := 27) ?hr ?_; (case hr => go_simp; done); intro g8 hg8 Y hboy hbY; have HY := Lib.hid (And.intro hg8 (And.intro hboy hbY)); have HG5 := Lib.hid (blk_below HX.out.2.1 hbY); have HG8 := Lib.hid hboy; have y0 : Y.cell? ⟨g5, 0, none⟩ = some (.int .i64 V) := (blk_cell HG5.out 0).trans rfl; have y1 : Y.cell? ⟨g5, 1, none⟩ = some (.slice An nodes.length cn) := (blk_cell HG5.out 1).trans rfl; have y2 : Y.cell? ⟨g5, 2, none⟩ = some (.slice As shards.length cs) := (blk_cell HG5.out 2).trans rfl; clear hg8 hboy hbY))
 have HBY := Lib.hid (below_then HX.out.2.2 HX.out.2.2.size HY.out.2.2); clear HX HY; obtain ⟨r, hr⟩ := Bt.large_any Y V An cn nodes As cs shards (HP.out.below HBY.out); have HLG := Lib.hid hr; clear hr; with_reducible refine HLG.out.mono ?_
 rintro e w1 ⟨rfl, hb1⟩; have HB1 := Lib.hid (below_then HBY.out HBY.out.size hb1); have HG51 := Lib.hid (blk_below HG5.out hb1); have HG81 := Lib.hid (blk_below HG8.out hb1); clear hb1 HLG HG5 HG8 y0 y1 y2 HBY
 cases r with
 | true =>
  go_wp2; go_ret
  exact ⟨rfl, HB1.out⟩
 | false =>
 obtain ⟨r2, hr2, hr3⟩ := Hv.heavy_any w1 A c ls (Kd.C_below HL.out HB1.out) HLC.out HL.out.2.1 (fun s hs => by have := (HW.out s hs).2.1; unfold maxLen at this; omega); have HHV := Lib.hid (show Calls Tryz.prog 6 #[.slice A ls.length c] w1 (fun e w' => e = .returned (.bool r2) ∧ Below w1.heap.size w1 w') from hr3); have HHW := Lib.hid hr2; clear hr2 hr3; go_wp2_with fail
 with_reducible refine HHV.out.mono ?_
 rintro e w2 ⟨rfl, hb2⟩; have HB2 := Lib.hid (below_then HB1.out HB1.out.size hb2); have HG52 := Lib.hid (blk_below HG51.out hb2); have HG82 := Lib.hid (blk_below HG81.out hb2); clear hb2 HHV HG51 HG81
 cases r2 with
 | true =>
  go_wp2; go_ret
  exact ⟨rfl, HB2.out⟩
 | false =>
 clear HHW; have y0 : w2.cell? ⟨g5, 0, none⟩ = some (.int .i64 V) := (blk_cell HG52.out 0).trans rfl; have y1 : w2.cell? ⟨g5, 1, none⟩ = some (.slice An nodes.length cn) := (blk_cell HG52.out 1).trans rfl; have y2 : w2.cell? ⟨g5, 2, none⟩ = some (.slice As shards.length cs) := (blk_cell HG52.out 2).trans rfl; have n0 : w2.cell? ⟨g8, 0, none⟩ = some (.int .i64 need.f0) := (blk_cell HG82.out 0).trans rfl; have n1 : w2.cell? ⟨g8, 1, none⟩ = some (.int .i64 need.f1) := (blk_cell HG82.out 1).trans rfl; go_wp2_with fail
 with_reducible refine (HN.out w2 (HP.out.below HB2.out)).1.mono ?_
 rintro e w3 ⟨rfl, hb3⟩; have HB3 := Lib.hid (below_then HB2.out HB2.out.size hb3); have HG53 := Lib.hid (blk_below HG52.out hb3); have HG83 := Lib.hid (blk_below HG82.out hb3); clear hb3 y0 y1 y2 n0 n1; have y0 : w3.cell? ⟨g5, 0, none⟩ = some (.int .i64 V) := (blk_cell HG53.out 0).trans rfl; have y1 : w3.cell? ⟨g5, 1, none⟩ = some (.slice An nodes.length cn) := (blk_cell HG53.out 1).trans rfl; have y2 : w3.cell? ⟨g5, 2, none⟩ = some (.slice As shards.length cs) := (blk_cell HG53.out 2).trans rfl; have n0 : w3.cell? ⟨g8, 0, none⟩ = some (.int .i64 need.f0) := (blk_cell HG83.out 0).trans rfl; have n1 : w3.cell? ⟨g8, 1, none⟩ = some (.int .i64 need.f1) := (blk_cell HG83.out 1).trans rfl; go_wp2_with fail
 with_reducible refine (HN.out w3 (HP.out.below HB3.out)).1.mono ?_
 rintro e w4 ⟨rfl, hb4⟩; have HB4 := Lib.hid (below_then HB3.out HB3.out.size hb4); have HG54 := Lib.hid (blk_below HG53.out hb4); have HG84 := Lib.hid (blk_below HG83.out hb4); clear hb4 y0 y1 y2 n0 n1; have y0 : w4.cell? ⟨g5, 0, none⟩ = some (.int .i64 V) := (blk_cell HG54.out 0).trans rfl; have y1 : w4.cell? ⟨g5, 1, none⟩ = some (.slice An nodes.length cn) := (blk_cell HG54.out 1).trans rfl; have y2 : w4.cell? ⟨g5, 2, none⟩ = some (.slice As shards.length cs) := (blk_cell HG54.out 2).trans rfl; have n0 : w4.cell? ⟨g8, 0, none⟩ = some (.int .i64 need.f0) := (blk_cell HG84.out 0).trans rfl; have n1 : w4.cell? ⟨g8, 1, none⟩ = some (.int .i64 need.f1) := (blk_cell HG84.out 1).trans rfl; go_wp2_with fail
 with_reducible refine (HN.out w4 (HP.out.below HB4.out)).2.mono ?_
 rintro e w5 ⟨rfl, hb5⟩; have HB5 := Lib.hid (below_then HB4.out HB4.out.size hb5); clear hb5 y0 y1 y2 n0 n1; go_wp2; go_ret; exact ⟨by rfl, HB5.out⟩
theorem twice_ok (w : World) (V : Int) (An : Option Addr) (cn : Nat) (nodes : List Int) (As : Option Addr) (cs : Nat) (shards : List (List Ow)) (hP : Pl.PlAt w An cn nodes As cs shards) (sh n : Int) (need : R) (A : Option Addr) (c : Nat) (ls : List S40) (hl : Kd.C k40 w A ls.length ls) (hlc : ls.length ≤ c) (hw : ∀ s ∈ ls, (Lit.int .i64 s.f1).wf = true ∧ s.f4.length ≤ maxLen ∧ ∀ x ∈ s.f4, x.f0.size ≤ maxLen) (hck : Pl.checkP V nodes shards = 0) (how : Pl.ownsP shards sh n = true) :
  Calls Tryz.prog 3 #[.agg #[.int .i64 V, .slice An nodes.length cn, .slice As shards.length cs], .int .i64 sh, .int .i64 n, .agg #[.int .i64 need.f0, .int .i64 need.f1], .slice A ls.length c] w fun e w' => e = .returned (.bool true) ∧ Below w.heap.size w w' := by
 have HWF := Lib.hid (wf_start hP n hck how); have HLF := Lib.hid (show (Rg.normR [need]).length ≤ 1000000 from by have := norm_short need; omega); have HCK := Lib.hid hck; have HOW := Lib.hid how; clear hck how; have HP := Lib.hid hP; have HL := Lib.hid hl; have HLC := Lib.hid hlc; have HW := Lib.hid hw; clear hP hl hlc hw; go_enter Tryz.func3, Tryz.ntmps3
 go_wp2_with (first
  | ((with_reducible refine gate_dst (N := 5) rfl ?_); refine box_event rfl (N := 5) rfl (cs := #[.int .i64 V, .slice An nodes.length cn, .slice As shards.length cs]) (t := 25) ?hr ?_; (case hr => go_simp; done); intro g5 hg5 X hbox hbX; have HX := Lib.hid (And.intro hg5 (And.intro hbox hbX)); clear hg5 hbox hbX)
  | ((with_reducible refine gate_dst (N := 8) rfl ?_); refine box_event rfl (N := 8) rfl (cs := #[.int .i64 need.f0, .int .i64 need.f1]) (t := 27) ?hr ?_; (case hr => go_simp; done); intro g8 hg8 Y hboy hbY; have HY := Lib.hid (And.intro hg8 (And.intro hboy hbY)); have HG5 := Lib.hid (blk_below HX.out.2.1 hbY); have HG8 := Lib.hid hboy; have y0 : Y.cell? ⟨g5, 0, none⟩ = some (.int .i64 V) := (blk_cell HG5.out 0).trans rfl; have y1 : Y.cell? ⟨g5, 1, none⟩ = some (.slice An nodes.length cn) := (blk_cell HG5.out 1).trans rfl; have y2 : Y.cell? ⟨g5, 2, none⟩ = some (.slice As shards.length cs) := (blk_cell HG5.out 2).trans rfl; clear hg8 hboy hbY))
 have HBY := Lib.hid (below_then HX.out.2.2 HX.out.2.2.size HY.out.2.2); clear HX HY; obtain ⟨r, hr⟩ := Bt.large_any Y V An cn nodes As cs shards (HP.out.below HBY.out); have HLG := Lib.hid hr; clear hr; with_reducible refine HLG.out.mono ?_
 rintro e w1 ⟨rfl, hb1⟩; have HB1 := Lib.hid (below_then HBY.out HBY.out.size hb1); have HG51 := Lib.hid (blk_below HG5.out hb1); have HG81 := Lib.hid (blk_below HG8.out hb1); clear hb1 HLG HG5 HG8 y0 y1 y2 HBY
 cases r with
 | true =>
  go_wp2; go_ret
  exact ⟨rfl, HB1.out⟩
 | false =>
 obtain ⟨r2, hr2, hr3⟩ := Hv.heavy_any w1 A c ls (Kd.C_below HL.out HB1.out) HLC.out HL.out.2.1 (fun s hs => by have := (HW.out s hs).2.1; unfold maxLen at this; omega); have HHV := Lib.hid (show Calls Tryz.prog 6 #[.slice A ls.length c] w1 (fun e w' => e = .returned (.bool r2) ∧ Below w1.heap.size w1 w') from hr3); have HHW := Lib.hid hr2; clear hr2 hr3; go_wp2_with fail
 with_reducible refine HHV.out.mono ?_
 rintro e w2 ⟨rfl, hb2⟩; have HB2 := Lib.hid (below_then HB1.out HB1.out.size hb2); have HG52 := Lib.hid (blk_below HG51.out hb2); have HG82 := Lib.hid (blk_below HG81.out hb2); clear hb2 HHV HG51 HG81
 cases r2 with
 | true =>
  go_wp2; go_ret
  exact ⟨rfl, HB2.out⟩
 | false =>
 have HSW := Lib.hid (show ls.length + Hv.stepsW ls ≤ 2048 from HHW.out rfl); clear HHW; have y0 : w2.cell? ⟨g5, 0, none⟩ = some (.int .i64 V) := (blk_cell HG52.out 0).trans rfl; have y1 : w2.cell? ⟨g5, 1, none⟩ = some (.slice An nodes.length cn) := (blk_cell HG52.out 1).trans rfl; have y2 : w2.cell? ⟨g5, 2, none⟩ = some (.slice As shards.length cs) := (blk_cell HG52.out 2).trans rfl; have n0 : w2.cell? ⟨g8, 0, none⟩ = some (.int .i64 need.f0) := (blk_cell HG82.out 0).trans rfl; have n1 : w2.cell? ⟨g8, 1, none⟩ = some (.int .i64 need.f1) := (blk_cell HG82.out 1).trans rfl; go_wp2_with fail
 with_reducible refine (Bt.new_ok w2 V An cn nodes As cs shards (HP.out.below HB2.out) sh n need HCK.out HOW.out).mono ?_
 rintro e w3 ⟨ga, gma, gpa, vOa, vLa, rfl, hI3, hb3⟩; have HIA := Lib.hid (Is_lower hI3 HB2.out.size); have HB3 := Lib.hid (below_then HB2.out HB2.out.size hb3); have HG53 := Lib.hid (blk_below HG52.out hb3); have HG83 := Lib.hid (blk_below HG82.out hb3); clear hI3 hb3 y0 y1 y2 n0 n1 HG52 HG82; have y0 : w3.cell? ⟨g5, 0, none⟩ = some (.int .i64 V) := (blk_cell HG53.out 0).trans rfl; have y1 : w3.cell? ⟨g5, 1, none⟩ = some (.slice An nodes.length cn) := (blk_cell HG53.out 1).trans rfl; have y2 : w3.cell? ⟨g5, 2, none⟩ = some (.slice As shards.length cs) := (blk_cell HG53.out 2).trans rfl; have n0 : w3.cell? ⟨g8, 0, none⟩ = some (.int .i64 need.f0) := (blk_cell HG83.out 0).trans rfl; have n1 : w3.cell? ⟨g8, 1, none⟩ = some (.int .i64 need.f1) := (blk_cell HG83.out 1).trans rfl; go_wp2_with fail
 with_reducible refine (Bt.new_ok w3 V An cn nodes As cs shards (HP.out.below HB3.out) sh n need HCK.out HOW.out).mono ?_
 rintro e w4 ⟨gb, gmb, gpb, vOb, vLb, rfl, hI4, hb4⟩; have HIB := Lib.hid (Is_lower hI4 HB3.out.size); have HIA4 := Lib.hid (HIA.out.below hb4); have HB4 := Lib.hid (below_then HB3.out HB3.out.size hb4); have HG54 := Lib.hid (blk_below HG53.out hb4); have HG84 := Lib.hid (blk_below HG83.out hb4)
 have HAB := Lib.hid (show ∀ k, Hm.Fp ga gma gpa vOa vLa [] k → ¬ Hm.Fp gb gmb gpb vOb vLb [] k from fun k h1 h2 => by
  have h3 := Hm.Fp_lt HIA.out (Hm.HM.nil HIA.out.pts) k h1; have h4 := Fp_ge hI4 k h2
  omega)
 clear hI4 hb4 y0 y1 y2 n0 n1 HG53 HG83 HIA; have y0 : w4.cell? ⟨g5, 0, none⟩ = some (.int .i64 V) := (blk_cell HG54.out 0).trans rfl; have y1 : w4.cell? ⟨g5, 1, none⟩ = some (.slice An nodes.length cn) := (blk_cell HG54.out 1).trans rfl; have y2 : w4.cell? ⟨g5, 2, none⟩ = some (.slice As shards.length cs) := (blk_cell HG54.out 2).trans rfl; have n0 : w4.cell? ⟨g8, 0, none⟩ = some (.int .i64 need.f0) := (blk_cell HG84.out 0).trans rfl; have n1 : w4.cell? ⟨g8, 1, none⟩ = some (.int .i64 need.f1) := (blk_cell HG84.out 1).trans rfl; go_wp2_with fail
 with_reducible refine (Bt.rnew_ok w4 V An cn nodes As cs shards (HP.out.below HB4.out) sh n need HCK.out HOW.out).mono ?_
 rintro e w5 ⟨gr, vOr, rfl, hI5, hb5⟩; have HB5 := Lib.hid (below_then HB4.out HB4.out.size hb5)
 have HTI := Lib.hid (show TI w w5 0 0 ga gb gr (Pl.findP shards sh n).1 (othersL (rd_L4 shards sh) n) need (Rg.normR [need]) ⟨ga, gma, gpa, vOa, vLa, _, []⟩ ⟨gb, gmb, gpb, vOb, vLb, _, []⟩ ⟨gr, vOr, .slice none 0 0, .slice none 0 0, .slice none 0 0, _, []⟩ from
  ti_start HIA4.out HIB.out (Rs_lower hI5 HB4.out.size) hb5 HAB.out (fun k h1 => by
   rcases h1 with h1 | h1 | h1 | h1
   ·
    rw [h1]; exact hI5.bg
   ·
    exact Kd.R_base hI5.oth k h1
   ·
    cases h1
   ·
    cases h1) (Hm.Fp_lt HIA4.out (Hm.HM.nil HIA4.out.pts)) (Hm.Fp_lt HIB.out (Hm.HM.nil HIB.out.pts)) HB5.out)
 obtain ⟨o, ho⟩ : ∃ o, (Pl.findP shards sh n).1 = o := ⟨_, rfl⟩
 obtain ⟨Ot, hOt⟩ : ∃ Ot, othersL (rd_L4 shards sh) n = Ot := ⟨_, rfl⟩
 obtain ⟨lf, hlf⟩ : ∃ lf, Rg.normR [need] = lf := ⟨_, rfl⟩
 rw [ho, hOt] at HWF; rw [hlf] at HLF; have HTI2 := Lib.hid (show ∃ a b r, TI w w5 0 0 ga gb gr o Ot need lf a b r from by rw [← ho, ← hOt, ← hlf]; exact ⟨_, _, _, HTI.out⟩); clear HTI hI5 hb5 y0 y1 y2 n0 n1 HG54 HG84 HIA4 HIB HAB HCK HOW ho hOt hlf; have HLM := Lib.hid HL.out.2.1; go_wp2_with fail
 go_loopg [17, 18, 19, 20, 21, 22] ls.length (fun gn v17 v18 v19 v20 v21 v22 wr => ∃ (i : Nat) (a b : PA) (r : PR), v17 = .int .i64 (i : Int) ∧ Aside0 (gn = ls.length - i) ∧ Aside0 (i ≤ ls.length) ∧ Aside0 (TI w wr i (4 * sumW (ls.take i)) ga gb gr o Ot need lf a b r))
 case atStart =>
  obtain ⟨a, b, r, h⟩ := HTI2.out; exact ⟨0, a, b, r, rfl, ⟨rfl⟩, ⟨Nat.zero_le _⟩, ⟨h⟩⟩
 case round =>
  clear HTI2; obtain ⟨i, a, b, r, rfl, HN, HI, HT⟩ := hrel
  by_cases hi : i < ls.length
  ·
   have hi0 : (i : Int) < (ls.length : Int) := by omega
   have hzi : (0 : Int) ≤ (i : Int) := by omega
   have hwi := Bt.wrapJ i ls.length hi HLM.out; obtain ⟨ad, A5, c5, e1, r0, r1, r2, r3, r4, r5, hle, hC5⟩ := at_T40 HL.out (i : Int) (by omega) hi0; cases e1; rw [Int.toNat_natCast] at r0 r1 r2 r3 r4 r5
   obtain ⟨s, hs⟩ : ∃ s, rd_T40 ls (i : Int) = s := ⟨_, rfl⟩
   rw [hs] at r0 r1 r2 r3 r4 r5 hle hC5; have hsl : ls[i] = s := by rw [← hs, Hv.rdStep hi]
   have hsm : s ∈ ls := by rw [← hsl]; exact List.getElem_mem hi
   have HSW2 := Lib.hid (sumW_take hi); rw [hsl] at HSW2; have HSL := Lib.hid (show sumW (ls.take (i + 1)) ≤ 2048 from by have h1 := sumW_take_le ls (i + 1); have h2 := sumW_le ls; have h3 := HSW.out; omega); have HSP := Lib.hid (HW.out s hsm); have HIL := Lib.hid (show i ≤ 2048 from by have := HSW.out; omega); have HIN := Lib.hid (show ∀ k, k = ls.length - i → ls.length - (i + 1) < k by intro k hk; omega); have HC5 := Lib.hid hC5; have q0 : wr.cell? (ad.add (i * 6)) = some (.int .i64 s.f0) := pw_cell_below HT.out.bel r0; have q1 : wr.cell? ⟨(ad.add (i * 6)).block, (ad.add (i * 6)).off + 1, none⟩ = some (.int .i64 s.f1) := pw_cell_below HT.out.bel r1; have q2 : wr.cell? ⟨(ad.add (i * 6)).block, (ad.add (i * 6)).off + 2, none⟩ = some (.int .i64 s.f2) := pw_cell_below HT.out.bel r2; have q3 : wr.cell? ⟨(ad.add (i * 6)).block, (ad.add (i * 6)).off + 3, none⟩ = some (.int .i64 s.f3.f0) := pw_cell_below HT.out.bel r3; have q4 : wr.cell? ⟨(ad.add (i * 6)).block, (ad.add (i * 6)).off + 4, none⟩ = some (.int .i64 s.f3.f1) := pw_cell_below HT.out.bel r4; have q5 : wr.cell? ⟨(ad.add (i * 6)).block, (ad.add (i * 6)).off + 5, none⟩ = some (.slice A5 s.f4.length c5) := pw_cell_below HT.out.bel r5; have HAL := Lib.hid (below_alloc (Below.refl wr.heap.size wr) (.cells #[.int .i64 s.f0, .int .i64 s.f1, .int .i64 s.f2, .int .i64 s.f3.f0, .int .i64 s.f3.f1, .slice A5 s.f4.length c5] 40)); have HOB := Lib.hid (blk_new wr (.cells #[.int .i64 s.f0, .int .i64 s.f1, .int .i64 s.f2, .int .i64 s.f3.f0, .int .i64 s.f3.f1, .slice A5 s.f4.length c5] 40)); have HRW := Lib.hid (fun W (hW : Below wr.heap.size wr W) => rwants_at (HT.out.j.below hW).ir HT.out.br HWF.out.2.2 (Nat.le_trans HT.out.rl HIL.out)); have HGR := Lib.hid HT.out.gr; rw [HGR.out] at HRW; clear hs hsl hsm r0 r1 r2 r3 r4 r5 hle hC5; go_wp2_with fail
   obtain ⟨go, hgo⟩ : ∃ go, go = wr.heap.size := ⟨_, rfl⟩
   obtain ⟨X, hX⟩ : ∃ X : World, X = wr.alloc (.cells #[.int .i64 s.f0, .int .i64 s.f1, .int .i64 s.f2, .int .i64 s.f3.f0, .int .i64 s.f3.f1, .slice A5 s.f4.length c5] 40) := ⟨_, rfl⟩
   rw [← hX] at HAL HOB; rw [← hgo] at HOB; rw [← hX, ← hgo]; have HJX := Lib.hid (HT.out.j.box HAL.out (Nat.le_of_eq hgo.symm) (blk_lt HOB.out)); have HBX := Lib.hid (below_then HT.out.bel HT.out.bel.size HAL.out); have HGO := Lib.hid (show w.heap.size ≤ go from by rw [hgo]; exact HT.out.bel.size); clear hX hgo q0 q1 q2 q3 q4 q5; with_reducible refine (HRW.out X HAL.out).mono ?_
   rintro e w6 ⟨v6, Ws, rfl, hWs, hR6, hb6⟩; obtain ⟨A6, c6, rfl⟩ := Kd.R_slice hR6; have HJ6 := Lib.hid (HJX.out.below hb6); have HO6 := Lib.hid (blk_below HOB.out hb6); have HB6 := Lib.hid (below_then HBX.out HBX.out.size hb6); have HR6 := Lib.hid hR6; have HWS := Lib.hid hWs; clear hR6 hb6 hWs HRW HAL HOB HJX HBX
   by_cases hwl : 0 < Ws.length
   ·
    have d0 : decide ((Ws.length : Int) > 0) = true := decide_eq_true (by omega); have o2 : w6.cell? ⟨go, 2, none⟩ = some (.int .i64 s.f2) := (blk_cell HO6.out 2).trans rfl; have o1 : w6.cell? ⟨go, 1, none⟩ = some (.int .i64 s.f1) := (blk_cell HO6.out 1).trans rfl; have of : w6.frozen? ⟨go, 1, none⟩ = false := blk_frozen HO6.out 1
    obtain ⟨ix, hix⟩ : ∃ ix, (wrap64 (s.f2.tmod ↑Ws.length + ↑Ws.length)).tmod ↑Ws.length = ix := ⟨_, rfl⟩
    have hxb := tmod_in s.f2 Ws.length hwl (by have := HWS.out.1; omega); rw [hix] at hxb; obtain ⟨hx0, hx1⟩ := hxb; obtain ⟨ad6, e6, hcx⟩ := Kd.at_int (Kd.R_reads' HR6.out).2.2 ix hx0 hx1; cases e6
    obtain ⟨p, hp⟩ : ∃ p, rd Ws ix = p := ⟨_, rfl⟩
    have HPW := Lib.hid (show (Lit.int .i64 p).wf = true from by
     have hm : p ∈ Ws := by
      rw [← hp]; unfold rd; rw [List.getD_eq_getElem?_getD, List.getElem?_eq_getElem (by omega)]; exact List.getElem_mem _
     rcases HWS.out.2 p hm with e | e
     ·
      rw [e]; exact HWF.out.1
     ·
      exact HWF.out.2.1 p e)
    rw [hp] at hcx; clear hp; have o5 : w6.cell? ⟨go, 5, none⟩ = some (.slice A5 s.f4.length c5) := (blk_cell HO6.out 5).trans rfl; go_wp2_with fail
    have HO7 := Lib.hid (show (w6.setCell ⟨go, 1, none⟩ (.int .i64 p)).heap[go]? = some (.cells #[.int .i64 s.f0, .int .i64 p, .int .i64 s.f2, .int .i64 s.f3.f0, .int .i64 s.f3.f1, .slice A5 s.f4.length c5] 40 (0, 0)) from (blk_set HO6.out 1 (.int .i64 p)).trans rfl); have HJ7 := Lib.hid (HJ6.out.keep ((Kept.refl w6 (fun k => k = go)).setCell (p := ⟨go, 1, none⟩) (.inl rfl) (.int .i64 p)) (fun _ h => h)); have HB7 := Lib.hid (HB6.out.setCell (p := ⟨go, 1, none⟩) HGO.out (.int .i64 p))
    obtain ⟨w7, hw7⟩ : ∃ w7 : World, w7 = w6.setCell ⟨go, 1, none⟩ (.int .i64 p) := ⟨_, rfl⟩
    rw [← hw7] at HO7 HJ7 HB7; rw [← hw7]; clear hw7 HO6 HJ6 HB6 HR6 HWS o1 o2 o5 of hcx hix hx0 hx1
    obtain ⟨q, hq⟩ : ∃ q, gotB a.bo p = q := ⟨_, rfl⟩
    have HCA := Lib.hid (got_at HJ7.out HT.out.ba HWF.out HLF.out HB7.out p HPW.out (by have := HT.out.gl; have := HIL.out; unfold maxLen; omega) A5 c5 s.f4 HC5.out HSP.out.2.2 (by have := HSL.out; have := HSW2.out; omega) ga HT.out.ga q hq); have HQ := Lib.hid hq; clear hq; with_reducible refine HCA.out.mono ?_
    rintro e w8 ⟨rfl, hma, hG8⟩; obtain ⟨a1, hj8, hst8⟩ := HJ7.out.got hG8; have HJ8 := Lib.hid hj8; have HSA := Lib.hid hst8; have HO8 := Lib.hid (HJ7.out.xA hG8 rfl HO7.out); have HB8 := Lib.hid hG8.bel; clear hj8 hst8 hG8 HCA HJ7 HO7 HB7; have o1 : w8.cell? ⟨go, 1, none⟩ = some (.int .i64 p) := (blk_cell HO8.out 1).trans rfl; have o5 : w8.cell? ⟨go, 5, none⟩ = some (.slice A5 s.f4.length c5) := (blk_cell HO8.out 5).trans rfl; have HCB := Lib.hid (got_at HJ8.out.swap HT.out.bb HWF.out HLF.out HB8.out p HPW.out (by have := HT.out.gl; rw [HT.out.gv] at this; have := HIL.out; unfold maxLen; omega) A5 c5 s.f4 HC5.out HSP.out.2.2 (by have := HSL.out; have := HSW2.out; omega) gb HT.out.gb q ((gotB_eq (HT.out.bb.1.trans HT.out.ba.1.symm) (HT.out.bb.2.1.trans HT.out.ba.2.1.symm) p).trans HQ.out)); go_wp2_with fail
    with_reducible refine HCB.out.mono ?_
    rintro e w9 ⟨rfl, hmb, hG9⟩; obtain ⟨b1, hj9, hst9⟩ := HJ8.out.swap.got hG9; have HJ9 := Lib.hid hj9; have HSB := Lib.hid hst9; have HO9 := Lib.hid (HJ8.out.swap.xA hG9 rfl HO8.out); have HB9 := Lib.hid hG9.bel; clear hj9 hst9 hG9 HCB HJ8 HO8 HB8 o1 o5; have o1 : w9.cell? ⟨go, 1, none⟩ = some (.int .i64 p) := (blk_cell HO9.out 1).trans rfl; have o5 : w9.cell? ⟨go, 5, none⟩ = some (.slice A5 s.f4.length c5) := (blk_cell HO9.out 5).trans rfl; have HCC := Lib.hid (got_at HJ9.out (HSB.out.bb HT.out.bb) HWF.out HLF.out HB9.out p HPW.out (by have h1 := HSB.out.gvl; have := HT.out.gl; rw [HT.out.gv] at this; have := HIL.out; unfold maxLen; omega) A5 c5 s.f4 HC5.out HSP.out.2.2 (by have := HSL.out; have := HSW2.out; omega) gb (HSB.out.g.trans HT.out.gb) q (((gotB_eq HSB.out.own HSB.out.oth p).trans (gotB_eq (HT.out.bb.1.trans HT.out.ba.1.symm) (HT.out.bb.2.1.trans HT.out.ba.2.1.symm) p)).trans HQ.out)); go_wp2_with fail
    with_reducible refine HCC.out.mono ?_
    rintro e w10 ⟨rfl, hmc, hG10⟩; obtain ⟨b2, hj10, hst10⟩ := HJ9.out.got hG10; have HJ10 := Lib.hid hj10.swap; have HSC := Lib.hid hst10; have HO10 := Lib.hid (HJ9.out.xA hG10 rfl HO9.out); have HB10 := Lib.hid hG10.bel; clear hj10 hst10 hG10 HCC HJ9 HO9 HB9 o1 o5; have o1 : w10.cell? ⟨go, 1, none⟩ = some (.int .i64 p) := (blk_cell HO10.out 1).trans rfl; have o5 : w10.cell? ⟨go, 5, none⟩ = some (.slice A5 s.f4.length c5) := (blk_cell HO10.out 5).trans rfl; have HCR := Lib.hid (rgot_at HJ10.out HT.out.br HWF.out.2.2 (Nat.le_trans HT.out.rl HIL.out) HB10.out p A5 c5 s.f4 HC5.out (by have := HSL.out; have := HSW2.out; omega) gr HGR.out q ((show Bt.rgotB r.bo p = gotB a.bo p from by unfold Bt.rgotB gotB; rw [HT.out.br.1, HT.out.br.2.1, HT.out.ba.1, HT.out.ba.2.1]).trans HQ.out)); go_wp2_with fail
    with_reducible refine HCR.out.mono ?_
    rintro e w11 ⟨rfl, r1, hj11, hr11, hb11⟩; have HJ11 := Lib.hid hj11; have HR11 := Lib.hid hr11; have HB11 := Lib.hid hb11; have HNX := Lib.hid (fun W (hW : Below w11.heap.size w11 W) => ti_next HT.out (HJ11.out.below hW) HSA.out HSB.out HSC.out HR11.out (below_then HB11.out HB11.out.size hW) (T2 := 4 * sumW (ls.take (i + 1))) (by have := HSW2.out; omega)); have HTL := Lib.hid (show 4 * sumW (ls.take (i + 1)) ≤ 8192 from by have := HSL.out; omega); clear hj11 hr11 hb11 HCR HJ10 HO10 HB10 HJ11 o1 o5; have HSER := Lib.hid (fun W (hW : Below w11.heap.size w11 W) => ser_at (HNX.out W hW) HTL.out); go_wp2_with fail
    with_reducible refine (HSER.out w11 (Below.refl _ _)).1.mono ?_
    rintro e w12 ⟨v12, na, rfl, hpa, hpwa, hR12, hb12⟩; obtain ⟨A12, c12, rfl⟩ := Kd.R_slice hR12; have HB12 := Lib.hid hb12; have HR12 := Lib.hid hR12; have HPA := Lib.hid (And.intro hpa hpwa); clear hpa hpwa hR12 hb12; go_wp2_with fail
    with_reducible refine (HSER.out w12 HB12.out).2.mono ?_
    rintro e w13 ⟨v13, nb, rfl, hpb, hpwb, hR13, hb13⟩; have hse := series_same (HNX.out w11 (Below.refl _ _)).j (HNX.out w11 (Below.refl _ _)).ce HPA.out.1 HPA.out.2 hpb hpwb; rw [← hse] at hR13; have hsl2 := serOf_len (HNX.out w11 (Below.refl _ _)).j.ma HPA.out.1
    obtain ⟨L, hL⟩ : ∃ L, Hm.serOf a1.hm na = L := ⟨_, rfl⟩
    rw [hL] at hR13 hsl2 HR12; obtain ⟨A13, c13, rfl⟩ := Kd.R_slice hR13; have HB13 := Lib.hid (below_then HB12.out HB12.out.size hb13); have HSS := Lib.hid (sameS_calls w13 A12 c12 A13 c13 L (Kd.C_below (Kd.R_reads' HR12.out).2.2 hb13) (Kd.R_reads' HR12.out).2.1 (Kd.R_reads' hR13).2.2 (Kd.R_reads' hR13).2.1 (by have := hsl2.1; have := HTL.out; omega) (fun s hs => by have := hsl2.2 s hs; have := HTL.out; omega)); clear hpb hpwb hR13 hb13 hse hsl2 HR12 HPA HSER; try rw [hL]
    clear hL; go_wp2_with fail
    with_reducible refine HSS.out.mono ?_
    rintro e w14 ⟨rfl, hb14⟩; have HB14 := Lib.hid (below_then HB13.out HB13.out.size hb14); clear hb14 HSS HB12 HB13; have HWA := Lib.hid (fun W (hW : Below w11.heap.size w11 W) => wants_at (HNX.out W hW) HWF.out HLF.out); go_wp2_with fail
    with_reducible refine (HWA.out w14 HB14.out).1.mono ?_
    rintro e w15 ⟨v15, rfl, hR15, hb15⟩; obtain ⟨A15, c15, rfl⟩ := Kd.R_slice hR15; have HB15 := Lib.hid (below_then HB14.out HB14.out.size hb15); have HR15 := Lib.hid hR15; clear hR15 hb15; go_wp2_with fail
    with_reducible refine (HWA.out w15 HB15.out).2.mono ?_
    rintro e w16 ⟨v16, rfl, hR16, hb16⟩; have HWL := Lib.hid (show (Bt.wantsOf a1.bo).length ≤ 1000000 from wantsOf_len _ (by rw [(HNX.out w11 (Below.refl _ _)).ba.2.1]; have := HWF.out.2.2; omega))
    obtain ⟨Wl, hWl⟩ : ∃ Wl, Bt.wantsOf a1.bo = Wl := ⟨_, rfl⟩
    rw [hWl] at hR16 HWL HR15; obtain ⟨A16, c16, rfl⟩ := Kd.R_slice hR16; have HB16 := Lib.hid (below_then HB15.out HB15.out.size hb16); have HSI := Lib.hid (sameI_calls w16 A15 c15 A16 c16 Wl (Kd.C_below (Kd.R_reads' HR15.out).2.2 hb16) (Kd.R_reads' HR15.out).2.1 (Kd.R_reads' hR16).2.2 (Kd.R_reads' hR16).2.1 HWL.out); clear hR16 hb16 HR15 HWL HWA; try rw [hWl]
    clear hWl; go_wp2_with fail
    with_reducible refine HSI.out.mono ?_
    rintro e w17 ⟨rfl, hb17⟩; have HB17 := Lib.hid (below_then HB16.out HB16.out.size hb17); clear hb17 HSI HB14 HB15 HB16; have HDA := Lib.hid (fun W (hW : Below w11.heap.size w11 W) => done_at (HNX.out W hW) HWF.out HLF.out)
    obtain ⟨dn, hdn⟩ : ∃ dn, decide (Bt.leftOf a1.bo = []) = dn := ⟨_, rfl⟩
    rw [hdn] at HDA; clear hdn; go_wp2_with fail
    with_reducible refine (HDA.out w17 HB17.out).1.mono ?_
    rintro e w18 ⟨rfl, hb18⟩; have HB18 := Lib.hid (below_then HB17.out HB17.out.size hb18); clear hb18; go_wp2_with fail
    with_reducible refine (HDA.out w18 HB18.out).2.mono ?_
    rintro e w19 ⟨rfl, hb19⟩; have HB19 := Lib.hid (below_then HB18.out HB18.out.size hb19); clear hb19 HDA HB17 HB18; have HN19 := Lib.hid (HNX.out w19 HB19.out); go_wp2_with fail
    go_roundg (ls.length - (i + 1))
    case measure => go_light; exact HIN.out _ HN.out
    case rel => exact ⟨i + 1, a1, b2, r1, by (rw [hwi]; rfl), ⟨rfl⟩, ⟨hi⟩, ⟨HN19.out⟩⟩
   ·
    have d0 : decide ((Ws.length : Int) > 0) = false := decide_eq_false (by omega); have HPW := Lib.hid HSP.out.1; have HO7 := HO6; have HJ7 := HJ6; have HB7 := HB6
    obtain ⟨p, hp⟩ : ∃ p, s.f1 = p := ⟨_, rfl⟩
    obtain ⟨w7, hw7⟩ : ∃ w7, w6 = w7 := ⟨_, rfl⟩
    rw [hw7] at HO7 HJ7 HB7; rw [hp] at HPW HO7; rw [hw7]; clear hp HO6 HJ6 HB6 hw7 HR6 HWS
    obtain ⟨q, hq⟩ : ∃ q, gotB a.bo p = q := ⟨_, rfl⟩
    have HCA := Lib.hid (got_at HJ7.out HT.out.ba HWF.out HLF.out HB7.out p HPW.out (by have := HT.out.gl; have := HIL.out; unfold maxLen; omega) A5 c5 s.f4 HC5.out HSP.out.2.2 (by have := HSL.out; have := HSW2.out; omega) ga HT.out.ga q hq); have HQ := Lib.hid hq; clear hq; have o1 : w7.cell? ⟨go, 1, none⟩ = some (.int .i64 p) := (blk_cell HO7.out 1).trans rfl; have o5 : w7.cell? ⟨go, 5, none⟩ = some (.slice A5 s.f4.length c5) := (blk_cell HO7.out 5).trans rfl; go_wp2_with fail
    with_reducible refine HCA.out.mono ?_
    rintro e w8 ⟨rfl, hma, hG8⟩; obtain ⟨a1, hj8, hst8⟩ := HJ7.out.got hG8; have HJ8 := Lib.hid hj8; have HSA := Lib.hid hst8; have HO8 := Lib.hid (HJ7.out.xA hG8 rfl HO7.out); have HB8 := Lib.hid hG8.bel; clear hj8 hst8 hG8 HCA HJ7 HO7 HB7; have o1 : w8.cell? ⟨go, 1, none⟩ = some (.int .i64 p) := (blk_cell HO8.out 1).trans rfl; have o5 : w8.cell? ⟨go, 5, none⟩ = some (.slice A5 s.f4.length c5) := (blk_cell HO8.out 5).trans rfl; have HCB := Lib.hid (got_at HJ8.out.swap HT.out.bb HWF.out HLF.out HB8.out p HPW.out (by have := HT.out.gl; rw [HT.out.gv] at this; have := HIL.out; unfold maxLen; omega) A5 c5 s.f4 HC5.out HSP.out.2.2 (by have := HSL.out; have := HSW2.out; omega) gb HT.out.gb q ((gotB_eq (HT.out.bb.1.trans HT.out.ba.1.symm) (HT.out.bb.2.1.trans HT.out.ba.2.1.symm) p).trans HQ.out)); go_wp2_with fail
    with_reducible refine HCB.out.mono ?_
    rintro e w9 ⟨rfl, hmb, hG9⟩; obtain ⟨b1, hj9, hst9⟩ := HJ8.out.swap.got hG9; have HJ9 := Lib.hid hj9; have HSB := Lib.hid hst9; have HO9 := Lib.hid (HJ8.out.swap.xA hG9 rfl HO8.out); have HB9 := Lib.hid hG9.bel; clear hj9 hst9 hG9 HCB HJ8 HO8 HB8 o1 o5; have o1 : w9.cell? ⟨go, 1, none⟩ = some (.int .i64 p) := (blk_cell HO9.out 1).trans rfl; have o5 : w9.cell? ⟨go, 5, none⟩ = some (.slice A5 s.f4.length c5) := (blk_cell HO9.out 5).trans rfl; have HCC := Lib.hid (got_at HJ9.out (HSB.out.bb HT.out.bb) HWF.out HLF.out HB9.out p HPW.out (by have h1 := HSB.out.gvl; have := HT.out.gl; rw [HT.out.gv] at this; have := HIL.out; unfold maxLen; omega) A5 c5 s.f4 HC5.out HSP.out.2.2 (by have := HSL.out; have := HSW2.out; omega) gb (HSB.out.g.trans HT.out.gb) q (((gotB_eq HSB.out.own HSB.out.oth p).trans (gotB_eq (HT.out.bb.1.trans HT.out.ba.1.symm) (HT.out.bb.2.1.trans HT.out.ba.2.1.symm) p)).trans HQ.out)); go_wp2_with fail
    with_reducible refine HCC.out.mono ?_
    rintro e w10 ⟨rfl, hmc, hG10⟩; obtain ⟨b2, hj10, hst10⟩ := HJ9.out.got hG10; have HJ10 := Lib.hid hj10.swap; have HSC := Lib.hid hst10; have HO10 := Lib.hid (HJ9.out.xA hG10 rfl HO9.out); have HB10 := Lib.hid hG10.bel; clear hj10 hst10 hG10 HCC HJ9 HO9 HB9 o1 o5; have o1 : w10.cell? ⟨go, 1, none⟩ = some (.int .i64 p) := (blk_cell HO10.out 1).trans rfl; have o5 : w10.cell? ⟨go, 5, none⟩ = some (.slice A5 s.f4.length c5) := (blk_cell HO10.out 5).trans rfl; have HCR := Lib.hid (rgot_at HJ10.out HT.out.br HWF.out.2.2 (Nat.le_trans HT.out.rl HIL.out) HB10.out p A5 c5 s.f4 HC5.out (by have := HSL.out; have := HSW2.out; omega) gr HGR.out q ((show Bt.rgotB r.bo p = gotB a.bo p from by unfold Bt.rgotB gotB; rw [HT.out.br.1, HT.out.br.2.1, HT.out.ba.1, HT.out.ba.2.1]).trans HQ.out)); go_wp2_with fail
    with_reducible refine HCR.out.mono ?_
    rintro e w11 ⟨rfl, r1, hj11, hr11, hb11⟩; have HJ11 := Lib.hid hj11; have HR11 := Lib.hid hr11; have HB11 := Lib.hid hb11; have HNX := Lib.hid (fun W (hW : Below w11.heap.size w11 W) => ti_next HT.out (HJ11.out.below hW) HSA.out HSB.out HSC.out HR11.out (below_then HB11.out HB11.out.size hW) (T2 := 4 * sumW (ls.take (i + 1))) (by have := HSW2.out; omega)); have HTL := Lib.hid (show 4 * sumW (ls.take (i + 1)) ≤ 8192 from by have := HSL.out; omega); clear hj11 hr11 hb11 HCR HJ10 HO10 HB10 HJ11 o1 o5; have HSER := Lib.hid (fun W (hW : Below w11.heap.size w11 W) => ser_at (HNX.out W hW) HTL.out); go_wp2_with fail
    with_reducible refine (HSER.out w11 (Below.refl _ _)).1.mono ?_
    rintro e w12 ⟨v12, na, rfl, hpa, hpwa, hR12, hb12⟩; obtain ⟨A12, c12, rfl⟩ := Kd.R_slice hR12; have HB12 := Lib.hid hb12; have HR12 := Lib.hid hR12; have HPA := Lib.hid (And.intro hpa hpwa); clear hpa hpwa hR12 hb12; go_wp2_with fail
    with_reducible refine (HSER.out w12 HB12.out).2.mono ?_
    rintro e w13 ⟨v13, nb, rfl, hpb, hpwb, hR13, hb13⟩; have hse := series_same (HNX.out w11 (Below.refl _ _)).j (HNX.out w11 (Below.refl _ _)).ce HPA.out.1 HPA.out.2 hpb hpwb; rw [← hse] at hR13; have hsl2 := serOf_len (HNX.out w11 (Below.refl _ _)).j.ma HPA.out.1
    obtain ⟨L, hL⟩ : ∃ L, Hm.serOf a1.hm na = L := ⟨_, rfl⟩
    rw [hL] at hR13 hsl2 HR12; obtain ⟨A13, c13, rfl⟩ := Kd.R_slice hR13; have HB13 := Lib.hid (below_then HB12.out HB12.out.size hb13); have HSS := Lib.hid (sameS_calls w13 A12 c12 A13 c13 L (Kd.C_below (Kd.R_reads' HR12.out).2.2 hb13) (Kd.R_reads' HR12.out).2.1 (Kd.R_reads' hR13).2.2 (Kd.R_reads' hR13).2.1 (by have := hsl2.1; have := HTL.out; omega) (fun s hs => by have := hsl2.2 s hs; have := HTL.out; omega)); clear hpb hpwb hR13 hb13 hse hsl2 HR12 HPA HSER; try rw [hL]
    clear hL; go_wp2_with fail
    with_reducible refine HSS.out.mono ?_
    rintro e w14 ⟨rfl, hb14⟩; have HB14 := Lib.hid (below_then HB13.out HB13.out.size hb14); clear hb14 HSS HB12 HB13; have HWA := Lib.hid (fun W (hW : Below w11.heap.size w11 W) => wants_at (HNX.out W hW) HWF.out HLF.out); go_wp2_with fail
    with_reducible refine (HWA.out w14 HB14.out).1.mono ?_
    rintro e w15 ⟨v15, rfl, hR15, hb15⟩; obtain ⟨A15, c15, rfl⟩ := Kd.R_slice hR15; have HB15 := Lib.hid (below_then HB14.out HB14.out.size hb15); have HR15 := Lib.hid hR15; clear hR15 hb15; go_wp2_with fail
    with_reducible refine (HWA.out w15 HB15.out).2.mono ?_
    rintro e w16 ⟨v16, rfl, hR16, hb16⟩; have HWL := Lib.hid (show (Bt.wantsOf a1.bo).length ≤ 1000000 from wantsOf_len _ (by rw [(HNX.out w11 (Below.refl _ _)).ba.2.1]; have := HWF.out.2.2; omega))
    obtain ⟨Wl, hWl⟩ : ∃ Wl, Bt.wantsOf a1.bo = Wl := ⟨_, rfl⟩
    rw [hWl] at hR16 HWL HR15; obtain ⟨A16, c16, rfl⟩ := Kd.R_slice hR16; have HB16 := Lib.hid (below_then HB15.out HB15.out.size hb16); have HSI := Lib.hid (sameI_calls w16 A15 c15 A16 c16 Wl (Kd.C_below (Kd.R_reads' HR15.out).2.2 hb16) (Kd.R_reads' HR15.out).2.1 (Kd.R_reads' hR16).2.2 (Kd.R_reads' hR16).2.1 HWL.out); clear hR16 hb16 HR15 HWL HWA; try rw [hWl]
    clear hWl; go_wp2_with fail
    with_reducible refine HSI.out.mono ?_
    rintro e w17 ⟨rfl, hb17⟩; have HB17 := Lib.hid (below_then HB16.out HB16.out.size hb17); clear hb17 HSI HB14 HB15 HB16; have HDA := Lib.hid (fun W (hW : Below w11.heap.size w11 W) => done_at (HNX.out W hW) HWF.out HLF.out)
    obtain ⟨dn, hdn⟩ : ∃ dn, decide (Bt.leftOf a1.bo = []) = dn := ⟨_, rfl⟩
    rw [hdn] at HDA; clear hdn; go_wp2_with fail
    with_reducible refine (HDA.out w17 HB17.out).1.mono ?_
    rintro e w18 ⟨rfl, hb18⟩; have HB18 := Lib.hid (below_then HB17.out HB17.out.size hb18); clear hb18; go_wp2_with fail
    with_reducible refine (HDA.out w18 HB18.out).2.mono ?_
    rintro e w19 ⟨rfl, hb19⟩; have HB19 := Lib.hid (below_then HB18.out HB18.out.size hb19); clear hb19 HDA HB17 HB18; have HN19 := Lib.hid (HNX.out w19 HB19.out); go_wp2_with fail
    go_roundg (ls.length - (i + 1))
    case measure => go_light; exact HIN.out _ HN.out
    case rel => exact ⟨i + 1, a1, b2, r1, by (rw [hwi]; rfl), ⟨rfl⟩, ⟨hi⟩, ⟨HN19.out⟩⟩
  ·
   have hge : ¬ (i : Int) < (ls.length : Int) := by omega
   have HBZ := Lib.hid HT.out.bel; go_wp2; go_ret; exact ⟨rfl, HBZ.out⟩
end Tw
end Go.Proofs.YtiinmagnpkfbbaaGreat
