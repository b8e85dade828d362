/- The boots: what stays of one where another block is written; Got, whoever gives whatever. -/
import Derived.Test.YtiinmagnpkfbbaaGreatHold
set_option maxHeartbeats 4000000
set_option maxRecDepth 100000
namespace Go.Proofs.YtiinmagnpkfbbaaGreat
set_option linter.unusedVariables false
set_option linter.unusedSimpArgs false
open Go.RowKit Go.Proofs.YtiinmagnpkfbbaaGreatW.PrintWords Go.Proofs.YtiinmagnpkfbbaaGreatW.PrintLast Go.Proofs.YtiinmagnpkfbbaaGreatW.PrintMore Go.Proofs.YtiinmagnpkfbbaaGreat.QT
namespace Hm
open Bt (Bo Is Wf)
theorem R_kept1 {α : Type} {d : Kd α} {e base : Nat} {ok : Nat → Prop} {W W2 : World} {S : Nat → Prop} {v : Value} {xs : List α} (h : d.R e W base ok v xs) (hE : d.E = []) (hk : Kept W W2 S) (hne : ∀ k, v.ownBlock = some k → ¬ S k) : d.R e W2 base ok v xs :=
 Kd.R_mono (Kd.R_kept (Kd.R_tight hE h) hk (fun k hk2 => hne k hk2.symm)) (fun k hk => h.1 k hk.symm)
/-- The blocks of a boot. -/
def Fp (g gm gp : Nat) (vO vL : Value) (hm : Hp) (k : Nat) : Prop := k = g ∨ k = gm ∨ vO.ownBlock = some k ∨ vL.ownBlock = some k ∨ Sh gp hm k
theorem HM.kept {w w' : World} {gp base T : Nat} {hm : Hp} {S : Nat → Prop} (h : HM w gp base T hm) (hk : Kept w w' S) (hne : ∀ k, Sh gp hm k → ¬ S k) : HM w' gp base T hm :=
 ⟨XM.MapIs.move h.map (hk.2 gp (XM.MapIs.lt h.map) (hne gp (.inl rfl))), fun e he => R_kept1 (h.rows e he) rfl hk (fun k hk2 => hne k (.inr ⟨e, he, hk2⟩)), h.apart, h.len, h.cnt⟩
theorem Is_kept {w w' : World} {B g gm gp : Nat} {vO vL : Value} {b : Bo} {hm : Hp} {S : Nat → Prop} (h : Is w B g gm gp vO vL b) (hk : Kept w w' S) (hne : ∀ k, Fp g gm gp vO vL hm k → ¬ S k) : Is w' B g gm gp vO vL b :=
 ⟨(hk.2 g (blk_lt h.blk) (hne g (.inl rfl))).trans h.blk, R_kept1 h.oth rfl hk (fun k hk2 => hne k (.inr (.inr (.inl hk2)))), R_kept1 h.left rfl hk (fun k hk2 => hne k (.inr (.inr (.inr (.inl hk2))))),
  XM.MapIs.move h.gv (hk.2 gm (XM.MapIs.lt h.gv) (hne gm (.inr (.inl rfl)))), XM.MapIs.move h.pts (hk.2 gp (XM.MapIs.lt h.pts) (hne gp (.inr (.inr (.inr (.inr (.inl rfl))))))), h.bg, h.bm, h.bp, h.ne⟩
theorem Fp_lt {w : World} {B g gm gp T : Nat} {vO vL : Value} {b : Bo} {hm : Hp} (h : Is w B g gm gp vO vL b) (hM : HM w gp B T hm) : ∀ k, Fp g gm gp vO vL hm k → k < w.heap.size := by
 rintro k (rfl | rfl | h1 | h1 | rfl | ⟨e, he, h1⟩)
 ·
  exact blk_lt h.blk
 ·
  exact XM.MapIs.lt h.gv
 ·
  exact Kd.R_lt h.oth k h1
 ·
  exact Kd.R_lt h.left k h1
 ·
  exact XM.MapIs.lt h.pts
 ·
  exact Kd.R_lt (hM.rows e he) k h1
/-- Does it take what a peer gives? -/
def gotB (b : Bo) (p : Int) : Bool := b.own.f1 == 1 && (p == b.own.f2 || decide (p ∈ b.oth))
/-- What Got leaves. -/
structure Gt (w0 w w' : World) (g gm gp : Nat) (vO vL : Value) (b : Bo) (hm hm' : Hp) (T : Nat) (p : Int) (l : List Hv.Ser) : Prop where
 hold : HM w' gp w0.heap.size (T + Hv.serW l) hm'
 what : cont hm' = if gotB b p = true then l.foldl (add1 b.need) (cont hm) else cont hm
 is : Is w' w0.heap.size g gm gp vO vL { b with gv := if gotB b p = true then XM.aput b.gv p () else b.gv, pts := pmOf hm' }
 bel : Below w0.heap.size w0 w'
 kept : Kept w w' (fun k => k = gm ∨ Sh gp hm k)
 own : ∀ k, Sh gp hm' k → Sh gp hm k ∨ w.heap.size ≤ k
theorem Gt.no {w0 w w' : World} {g gm gp : Nat} {vO vL : Value} {b : Bo} {hm : Hp} {T : Nat} {p : Int} {l : List Hv.Ser} (hI : Is w w0.heap.size g gm gp vO vL b) (hP : b.pts = pmOf hm) (hM : HM w gp w0.heap.size T hm) (hb : Below w0.heap.size w0 w) (hB : Below w.heap.size w w') (hg : gotB b p = false) : Gt w0 w w' g gm gp vO vL b hm hm T p l := by
 refine ⟨(hM.below hB).more (Nat.le_add_right _ _), by rw [hg]; rfl, ?_, below_then hb hb.size hB, Kept.of_below hB _, fun k hk => .inl hk⟩; rw [hg, ← hP]; exact hI.below hB
theorem Gt.yes {w0 w w1 w2 w' : World} {g gm gp : Nat} {vO vL : Value} {b : Bo} {hm hm' : Hp} {T : Nat} {p : Int} {l : List Hv.Ser} (hg : gotB b p = true) (hb1 : Below w.heap.size w w1)
  (hM : HM w2 gp w0.heap.size (T + Hv.serW l) hm') (hc : cont hm' = l.foldl (add1 b.need) (cont hm)) (hI : Is w2 w0.heap.size g gm gp vO vL { b with pts := pmOf hm' }) (hb : Below w0.heap.size w0 w2) (hF : Ft w1 w2 gp hm hm') (hm6 : Bt.IM w' gm (XM.aput b.gv p ())) (hg6 : w2.grownBy w' (some gm)) : Gt w0 w w' g gm gp vO vL b hm hm' T p l := by
 have hF' := (Ft.of_below hb1 gp hm).then_ hF
 have hk6 : Kept w2 w' (fun k => k = gm) := ⟨hg6.size, fun k hk hne => hg6.block k hk (fun e => hne (by cases e; rfl))⟩
 refine ⟨hM.kept hk6 ?_, by rw [if_pos hg]; exact hc, ?_, hb.grown hg6 hb.size (fun k hk => by cases hk; exact hI.bm), ?_, hF'.own⟩
 ·
  rintro k (rfl | ⟨e, he, h1⟩) rfl
  ·
   exact hI.ne rfl
  ·
   obtain ⟨c, hc2⟩ := R97_cells (hM.rows e he) _ h1; exact XM.MapIs.noCells hI.gv hc2 rfl
 ·
  rw [if_pos hg]; exact hI.given hg6 hm6
 ·
  exact Kept.of_grown hg6 (And.intro hF'.kept.1 (fun i hi hn => hF'.kept.2 i hi (fun hk => hn (.inr hk)))) (fun k hk => by cases hk; exact .inl (.inl rfl))
theorem got_calls (w0 w : World) (g gm gp : Nat) (vO vL : Value) (b : Bo) (hm : Hp) (T : Nat) (hI : Is w w0.heap.size g gm gp vO vL b) (hw : Wf b) (hP : b.pts = pmOf hm) (hM : HM w gp w0.heap.size T hm) (hb : Below w0.heap.size w0 w) (p : Int) (hp : (Lit.int .i64 p).wf = true) (hn : b.gv.length < maxLen)
  (A : Option Addr) (c : Nat) (l : List Hv.Ser) (hl : Kd.C k55 w0 A l.length l) (hids : ∀ x ∈ l, x.f0.size ≤ maxLen) (hT : T + Hv.serW l ≤ 1000000) :
  Calls Tryz.prog 10 #[.pointer (some ⟨g, 0, none⟩), .int .i64 p, .slice A l.length c] w fun e w' => e = .returned (.bool (gotB b p)) ∧ ∃ hm', Gt w0 w w' g gm gp vO vL b hm hm' T p l := by
 cases hs : (b.own.f1 == 1) with
 | false =>
  have hg : gotB b p = false := by unfold gotB; rw [hs]; rfl
  refine (Bt.got_not w g b.own.f1 p _ ((blk_cell hI.blk 1).trans rfl) (by simpa using hs)).mono ?_; rintro e w' ⟨rfl, hB⟩; rw [hg]
  exact ⟨rfl, hm, Gt.no hI hP hM hb hB hg⟩
 | true =>
 have HI := Lib.hid hI; have HMM := Lib.hid hM; have HBW := Lib.hid hb; have HPP := Lib.hid hP; have HPW := Lib.hid (Bt.isKI p hp); have HN := Lib.hid hn; obtain ⟨AO, cO, rfl⟩ := Kd.R_slice hI.oth; have HIN := Lib.hid (Bt.init_calls w g b.own.f1 ((blk_cell hI.blk 1).trans rfl)); rw [hs] at HIN; have c2 : w.cell? ⟨g, 2, none⟩ = some (.int .i64 b.own.f2) := (blk_cell hI.blk 2).trans rfl; have c3 : w.cell? ⟨g, 3, none⟩ = some (.slice AO b.oth.length cO) := (blk_cell hI.blk 3).trans rfl; have HCO := Lib.hid (Pl.contains_calls w AO cO b.oth (Kd.R_reads' hI.oth).2.2 (Bt.R_cap hI.oth) (Nat.le_trans hw.l1 (by decide)) p); have HHO := Lib.hid (fun W (hW : Below w.heap.size w W) => hold_calls w0 W g gm gp _ vL b hm T (hI.below hW) (hM.below hW) (below_then hb hb.size hW) A c l hl hids hT)
 obtain ⟨q, hq⟩ : ∃ q, decide (p ∈ b.oth) = q := ⟨_, rfl⟩
 have HGB := Lib.hid (show gotB b p = (p == b.own.f2 || q) by unfold gotB; rw [hs, hq, Bool.true_and]); rw [hq] at HCO; clear hI hw hP hM hb hp hn hl hids hT hs hq
 cases d1 : (p != b.own.f2) with
 | false =>
  have HG := Lib.hid (show gotB b p = true by rw [HGB.out, (show (p == b.own.f2) = true from by simpa using d1)]; rfl)
  go_enter Tryz.func10, Tryz.ntmps10
  go_wp2_with fail
  with_reducible refine HIN.out.mono ?_
  rintro e w1 ⟨rfl, rfl⟩; go_wp2_with fail
  with_reducible refine (HHO.out _ (Below.refl _ _)).mono ?_
  rintro e w5 ⟨rfl, h5, hM5, hc5, hI5, hB5, hK5, hF5⟩; have HM5 := Lib.hid hM5; have HC5 := Lib.hid hc5; have HI5 := Lib.hid hI5; have HB5 := Lib.hid hB5; have HF5 := Lib.hid hF5; clear hM5 hc5 hI5 hB5 hK5 hF5 HHO; have e4 : w5.cell? ⟨g, 4, none⟩ = some (.map (some gm)) := (blk_cell HI5.out.blk 4).trans rfl
  go_wp2_with (at_mapUpdate; refine XM.wp_store _ rfl _ _ _ 61 rfl 3 71 Bt.encI Tryz.underlying61 gm b.gv rfl HI5.out.gv HN.out p rfl HPW.out () rfl ?_; intro w6 hm6 hg6 hs6; have HM6 := Lib.hid hm6; have HG6 := Lib.hid hg6; clear hm6 hg6 hs6)
  go_ret; rw [HG.out]
  exact ⟨rfl, h5, Gt.yes HG.out (Below.refl _ _) HM5.out HC5.out HI5.out HB5.out HF5.out HM6.out HG6.out⟩
 | true =>
  have hpe : (p == b.own.f2) = false := by simpa using d1
  cases q with
  | false =>
   have HG := Lib.hid (show gotB b p = false by rw [HGB.out, hpe]; rfl); clear hpe HHO; go_enter Tryz.func10, Tryz.ntmps10
   go_wp2_with fail
   with_reducible refine HIN.out.mono ?_
   rintro e w1 ⟨rfl, rfl⟩; go_wp2_with fail
   with_reducible refine HCO.out.mono ?_
   rintro e w1 ⟨rfl, hb1⟩; have HB1 := Lib.hid hb1; clear hb1 c2 c3; go_wp2; go_ret; rw [HG.out]
   exact ⟨rfl, hm, Gt.no HI.out HPP.out HMM.out HBW.out HB1.out HG.out⟩
  | true =>
   have HG := Lib.hid (show gotB b p = true by rw [HGB.out, hpe]; rfl); clear hpe; go_enter Tryz.func10, Tryz.ntmps10
   go_wp2_with fail
   with_reducible refine HIN.out.mono ?_
   rintro e w1 ⟨rfl, rfl⟩; go_wp2_with fail
   with_reducible refine HCO.out.mono ?_
   rintro e w1 ⟨rfl, hb1⟩; have HB1 := Lib.hid hb1; clear hb1 c2 c3; go_wp2_with fail
   with_reducible refine (HHO.out _ HB1.out).mono ?_
   rintro e w5 ⟨rfl, h5, hM5, hc5, hI5, hB5, hK5, hF5⟩; have HM5 := Lib.hid hM5; have HC5 := Lib.hid hc5; have HI5 := Lib.hid hI5; have HB5 := Lib.hid hB5; have HF5 := Lib.hid hF5; clear hM5 hc5 hI5 hB5 hK5 hF5 HHO; have e4 : w5.cell? ⟨g, 4, none⟩ = some (.map (some gm)) := (blk_cell HI5.out.blk 4).trans rfl
   go_wp2_with (at_mapUpdate; refine XM.wp_store _ rfl _ _ _ 61 rfl 3 71 Bt.encI Tryz.underlying61 gm b.gv rfl HI5.out.gv HN.out p rfl HPW.out () rfl ?_; intro w6 hm6 hg6 hs6; have HM6 := Lib.hid hm6; have HG6 := Lib.hid hg6; clear hm6 hg6 hs6)
   go_ret; rw [HG.out]; exact ⟨rfl, h5, Gt.yes HG.out HB1.out HM5.out HC5.out HI5.out HB5.out HF5.out HM6.out HG6.out⟩
end Hm
end Go.Proofs.YtiinmagnpkfbbaaGreat
