/- The document's Got. -/
import Derived.Test.YtiinmagnpkfbbaaGreatRAdd
set_option maxHeartbeats 4000000
set_option maxRecDepth 100000
namespace Go.Proofs.YtiinmagnpkfbbaaGreat
set_option linter.unusedVariables false
set_option linter.unusedSimpArgs false
open Go.RowKit Go.Proofs.YtiinmagnpkfbbaaGreatW.PrintWords Go.Proofs.YtiinmagnpkfbbaaGreatW.PrintLast Go.Proofs.YtiinmagnpkfbbaaGreatW.PrintMore Go.Proofs.YtiinmagnpkfbbaaGreat.QT
namespace Bt
theorem Rs.gives {w w1 : World} {B g : Nat} {vO vG vF vS v1 : Value} {b : Rb} {giv : List Int} (h : Rs w B g vO vG vF vS b) (hg : w.grownBy w1 vG.ownBlock) (hat : v1.ownBlock = vG.ownBlock ∨ ∃ k, v1.ownBlock = some k ∧ w.heap.size ≤ k) (hR : Kd.R kI 3 w1 B (fun _ => True) v1 giv) :
  Rs (w1.setCell ⟨g, 4, none⟩ v1) B g vO v1 vF vS { b with giv := giv } := by
 have hb1 : w1.heap[g]? = some (.cells (rcells b.own b.need vO vG vF vS) 68 (0, 0)) := (hg.block g (blk_lt h.blk) (Kd.R_ne h.giv h.blk (by decide))).trans h.blk; have hl := R29_row (by decide) rfl h.fil h.giv hg; have hov : Kd.R kI 3 w1 B (fun _ => True) vO b.oth := Kd.R_mono (Kd.R_grown (Kd.R_tight rfl h.oth) hg (fun k hk e_ => h.ap k hk.symm e_.symm)) (fun _ _ => trivial)
 have far : ∀ {α : Type} {d : Kd α} {e : Nat} {v : Value} {xs : List α}, d.E = [] → e ≠ 68 → d.R e w1 B (fun _ => True) v xs → d.R e (w1.setCell ⟨g, 4, none⟩ v1) B (fun _ => True) v xs := fun hE he hR =>
  Kd.R_mono (Kd.R_far (Kd.R_tight hE hR) (fun k hk e => Kd.R_ne hR hb1 he (by rw [show g = k from e.symm]; exact hk)) v1) (fun _ _ => trivial)
 refine ⟨blk_set hb1 4 v1, far rfl (by decide) hov, far rfl (by decide) hR, far rfl (by decide) hl, ?_, h.bg⟩; intro k hk hk'; rcases hat with e | ⟨j, e, hj⟩
 ·
  exact h.ap k hk (e.symm.trans hk')
 ·
  have := Kd.R_lt h.oth k hk; rw [e] at hk'; cases hk'; omega
def rgotB (b : Rb) (p : Int) : Bool := b.own.f1 == 1 && (p == b.own.f2 || decide (p ∈ b.oth))
/-- What the document's Got leaves. -/
structure RG (w0 w w' : World) (g : Nat) (vO vG vG' vF v1 : Value) (b : Rb) (S1 : List S55) (Q : Nat → Prop) (T1 : Nat) : Prop where
 is : Rs w' w0.heap.size g vO vG' vF v1 b
 V : Kd.V k55 55 w' 0 (fun k => (Q k ∨ w.heap.size ≤ k) ∧ vG'.ownBlock ≠ some k) v1 S1
 len : Lens S1 T1
 bel : Below w0.heap.size w0 w'
 kept : Kept w w' (fun k => k = g ∨ vG.ownBlock = some k)
 ownG : ∀ k, vG'.ownBlock = some k → vG.ownBlock = some k ∨ w.heap.size ≤ k
theorem RG.same {w0 w w' : World} {g : Nat} {vO vG vF vS : Value} {b : Rb} {S : List S55} {Q : Nat → Prop} {T T1 : Nat} (h : RA w0 w w g vO vG vF vS b S Q T) (hG : ∀ k, Q k → vG.ownBlock ≠ some k) (hb : Below w.heap.size w w') (hT : T ≤ T1) : RG w0 w w' g vO vG vG vF vS b S Q T1 := by
 have h2 := (h.below hb).more hT; exact ⟨h2.is, Kd.V_mono h2.V (fun k hk => ⟨hk, fun e => hk.elim (fun h3 => hG k h3 e) (fun h3 => by have := Kd.R_lt h.is.giv k e; omega)⟩), h2.len, h2.bel, And.intro h2.kept.1 (fun i hi hn => h2.kept.2 i hi (fun hk => hn (.inl hk))), fun k hk => .inl hk⟩
/-- The peer is noted. -/
theorem RG.note {w0 w w1 w5 : World} {g : Nat} {vO vG vF v1 v5 : Value} {b : Rb} {S1 : List S55} {Q : Nat → Prop} {T1 : Nat} (h : RA w0 w w1 g vO vG vF v1 b S1 Q T1) (hG : ∀ k, Q k → vG.ownBlock ≠ some k) (hGl : ∀ k, vG.ownBlock = some k → k < w.heap.size) (hQ : ∀ k, Q k → k ≠ g) (hgl : g < w.heap.size) {giv : List Int}
  (hg : w1.grownBy w5 vG.ownBlock) (hat : v5.ownBlock = vG.ownBlock ∨ ∃ k, v5.ownBlock = some k ∧ w1.heap.size ≤ k) (hR : Kd.R kI 3 w5 w0.heap.size (fun _ => True) v5 giv) (hb : Below w0.heap.size w0 w5) :
  RG w0 w (w5.setCell ⟨g, 4, none⟩ v5) g vO vG v5 vF v1 { b with giv := giv } S1 Q T1 := by
 have hsz := h.kept.1; refine ⟨h.is.gives hg hat hR, Kd.V_far (ok := fun k => (Q k ∨ w.heap.size ≤ k) ∧ v5.ownBlock ≠ some k) (Kd.V_mono (Kd.V_grown (Kd.V_bound h.V) hg ?_) ?_) ?_ v5, h.len, hb.setCell h.is.bg _, ?_, ?_⟩
 ·
  rintro k ⟨h1 | h1, _⟩ e
  ·
   exact hG k h1 e.symm
  ·
   have := hGl k e.symm; omega
 ·
  rintro k ⟨h1, h2⟩; refine ⟨h1, fun e => ?_⟩; rcases hat with e2 | ⟨j, e2, hj⟩
  ·
   have e3 := e2.symm.trans e; rcases h1 with h1 | h1
   ·
    exact hG k h1 e3
   ·
    have := hGl k e3; omega
  ·
   rw [e2] at e; cases e; omega
 ·
  rintro k ⟨h1 | h1, _⟩
  ·
   exact hQ k h1
  ·
   intro e; rw [e] at h1; have : w.heap.size ≤ g := h1; omega
 ·
  exact (Kept.of_grown hg (show Kept w w1 (fun k => k = g ∨ vG.ownBlock = some k) from And.intro h.kept.1 (fun i hi hn => h.kept.2 i hi (fun hk => hn (.inl hk)))) (fun k hk => .inl (.inr hk))).setCell (.inl (.inl rfl)) _
 ·
  intro k hk; rcases hat with e | ⟨j, e, hj⟩
  ·
   exact .inl (e.symm.trans hk)
  ·
   rw [e] at hk; cases hk; exact .inr (Nat.le_trans hsz hj)
theorem rgot_calls (w0 w : World) (g : Nat) (vO vG vF vS : Value) (b : Rb) (S : List S55) (Q : Nat → Prop) (T : Nat) (hI : Rs w w0.heap.size g vO vG vF vS b) (hV : Kd.V k55 55 w 0 Q vS S) (hQ : ∀ k, Q k → k ≠ g) (hQG : ∀ k, Q k → vG.ownBlock ≠ some k) (hb : Below w0.heap.size w0 w)
  (ho : b.oth.length ≤ 1000000) (hg : b.giv.length ≤ 1000000) (p : Int) (A : Option Addr) (c : Nat) (l : List S55) (hl : Kd.C k55 w0 A l.length l) (hS : Lens S T) (hT : T + Hv.serW l ≤ 1000000) :
  Calls Tryz.prog 11 #[.pointer (some ⟨g, 0, none⟩), .int .i64 p, .slice A l.length c] w fun e w' => e = .returned (.bool (rgotB b p)) ∧ ∃ vG' vS', RG w0 w w' g vO vG vG' vF vS' { b with giv := if rgotB b p = true then b.giv ++ [p] else b.giv } (if rgotB b p = true then l.foldl (addR b.need) S else S) Q (T + Hv.serW l) := by
 have H0 := Lib.hid (show RA w0 w w g vO vG vF vS b S Q T from ⟨hI, Kd.V_mono hV (fun k hk => .inl hk), hS, hb, Kept.refl _ _⟩); have HADD := Lib.hid (fun W (hW : Below w.heap.size w W) => radd_calls w0 W g vO vG vF vS b S Q T (hI.below hW) (Kd.V_below hV hW) hQ (below_then hb hb.size hW) A c l hl hS hT); have HNO := Lib.hid (fun (q : Bool) (hq : rgotB b p = q) (h2 : q = false) W (hW : Below w.heap.size w W) => (show ∃ vG' vS', RG w0 w W g vO vG vG' vF vS' { b with giv := if q = true then b.giv ++ [p] else b.giv } (if q = true then l.foldl (addR b.need) S else S) Q (T + Hv.serW l) from ⟨vG, vS, by rw [h2]; exact RG.same ⟨hI, Kd.V_mono hV (fun k hk => .inl hk), hS, hb, Kept.refl _ _⟩ hQG hW (Nat.le_add_right _ _)⟩)); have HQ := Lib.hid hQ; have HQG := Lib.hid hQG; have HGL := Lib.hid (show g < w.heap.size from blk_lt hI.blk); have HGG := Lib.hid (show ∀ k, vG.ownBlock = some k → k < w.heap.size from fun k hk => Kd.R_lt hI.giv k hk); have HLN := Lib.hid hg; obtain ⟨AO, cO, rfl⟩ := Kd.R_slice hI.oth; have HHAS := Lib.hid (has_calls w AO cO b.oth (Kd.R_reads' hI.oth).2.2 (R_cap hI.oth) ho p); have c1 : w.cell? ⟨g, 1, none⟩ = some (.int .i64 b.own.f1) := (blk_cell hI.blk 1).trans rfl; have c2 : w.cell? ⟨g, 2, none⟩ = some (.int .i64 b.own.f2) := (blk_cell hI.blk 2).trans rfl; have c3 : w.cell? ⟨g, 3, none⟩ = some (.slice AO b.oth.length cO) := (blk_cell hI.blk 3).trans rfl
 obtain ⟨r, hr⟩ : ∃ r, rgotB b p = r := ⟨_, rfl⟩
 rw [hr]; have HNR := Lib.hid (HNO.out r hr); have HRE := Lib.hid hr; clear hI hV hQ hQG hb ho hg hl hS hT HNO hr
 cases hs : (b.own.f1 != 1) with
 | true =>
  have hr0 : r = false := by
   rw [← HRE.out]; unfold rgotB; have : (b.own.f1 == 1) = false := by simpa using hs
   rw [this]; rfl
  subst hr0; have HB := Lib.hid (Below.refl w.heap.size w); go_enter Tryz.func11, Tryz.ntmps11
  go_wp2; go_ret
  (have HX := HNR.out (by trivial) _ HB.out; exact ⟨rfl, HX⟩)
 | false =>
 have hs1 : (b.own.f1 == 1) = true := by simpa using hs
 obtain ⟨q, hq⟩ : ∃ q, decide (p ∈ b.oth) = q := ⟨_, rfl⟩
 rw [hq] at HHAS; have hrq : r = (p == b.own.f2 || q) := by rw [← HRE.out]; unfold rgotB; rw [hs1, hq, Bool.true_and]
 clear hs1 hq
 cases hd : (p != b.own.f2) with
 | false =>
  have hr1 : r = true := by rw [hrq, (show (p == b.own.f2) = true from by simpa using hd)]; rfl
  subst hr1; clear hrq; go_enter Tryz.func11, Tryz.ntmps11
  go_wp2_with fail
  with_reducible refine (HADD.out w (Below.refl _ _)).mono ?_
  rintro e w5 ⟨rfl, vS5, hR5⟩
  obtain ⟨S5, hS5⟩ : ∃ S5, l.foldl (addR b.need) S = S5 := ⟨_, rfl⟩
  rw [hS5] at hR5; have HSE := Lib.hid hS5; have HR5 := Lib.hid hR5; obtain ⟨AG, cG, rfl⟩ := Kd.R_slice hR5.is.giv; have c4 : w5.cell? ⟨g, 4, none⟩ = some (.slice AG b.giv.length cG) := (blk_cell hR5.is.blk 4).trans rfl; have HLO := Lib.hid (show (b.giv.length + 1) * 8 ≤ 140737488355328 by have := HLN.out; omega); clear hS5 hR5 HADD HHAS HNR HRE
  go_wp2_with (at_builtin; go_loud (refine (Kd.R_append kI (w0 := w0) w0.heap.size rfl (.tmp 38) (.tmp 40) 22 3 (.int .i64 0) 8 rfl Tryz.underlying22 info3 rfl (by decide) (by omega) (.slice AG b.giv.length cG) b.giv p [.int .i64 p] (fun _ => True) (fun _ => False) rfl ?aX ?aP (fun _ hk => hk.elim) ?aF ?aO ?aB ?aS ?aL ?_)); go_loud (case aX => rfl); go_loud (case aP => rfl); (case aF => exact (fun _ _ => trivial)); go_loud (case aO => exact HR5.out.is.giv); go_loud (case aB => exact HR5.out.bel); go_loud (case aS => exact HR5.out.bel.size); go_loud (case aL => exact HLO.out); intro v8 w8 hR8 hB8 hg8 hat8; have HR8 := Lib.hid hR8; have HB8 := Lib.hid hB8; have HG8 := Lib.hid hg8; have HA8 := Lib.hid hat8; have e3 : w8.cell? ⟨g, 4, none⟩ = some (.slice AG b.giv.length cG) := (blk_cell ((hg8.block g (blk_lt HR5.out.is.blk) (Kd.R_ne HR5.out.is.giv HR5.out.is.blk (by decide))).trans HR5.out.is.blk) 4).trans rfl; have e4 : w8.frozen? ⟨g, 4, none⟩ = false := blk_frozen ((hg8.block g (blk_lt HR5.out.is.blk) (Kd.R_ne HR5.out.is.giv HR5.out.is.blk (by decide))).trans HR5.out.is.blk) 4; obtain ⟨A8, n8, c8, rfl⟩ : ∃ A n c, v8 = .slice A n c := by { obtain ⟨A, c, e⟩ := Kd.R_slice hR8; exact ⟨A, _, c, e⟩ }; clear hR8 hB8 hg8 hat8)
  go_ret; have HX := RG.note HR5.out HQG.out HGG.out HQ.out HGL.out HG8.out HA8.out HR8.out HB8.out
  first
   | exact ⟨rfl, _, _, by simpa [HSE.out] using HX⟩
 | true =>
  have hpe : (p == b.own.f2) = false := by simpa using hd
  rw [hpe, Bool.false_or] at hrq; subst hrq
  cases r with
  | false =>
   go_enter Tryz.func11, Tryz.ntmps11
   go_wp2_with fail
   with_reducible refine HHAS.out.mono ?_
   rintro e w1 ⟨rfl, hb1⟩; have HB := Lib.hid hb1; clear hb1; go_wp2; go_ret
   (have HX := HNR.out (by trivial) _ HB.out; exact ⟨rfl, HX⟩)
  | true =>
   go_enter Tryz.func11, Tryz.ntmps11
   go_wp2_with fail
   with_reducible refine HHAS.out.mono ?_
   rintro e w1 ⟨rfl, hb1⟩; have HB1 := Lib.hid hb1; clear hb1 c1 c2 c3; go_wp2_with fail
   with_reducible refine (HADD.out w1 HB1.out).mono ?_
   rintro e w5 ⟨rfl, vS5, hR5'⟩
   have hR5 : RA w0 w w5 g (.slice AO b.oth.length cO) vG vF vS5 b (l.foldl (addR b.need) S) Q (T + Hv.serW l) :=
    ⟨hR5'.is, Kd.V_mono hR5'.V (fun k hk => hk.elim .inl (fun h => .inr (Nat.le_trans HB1.out.size h))), hR5'.len, hR5'.bel, (Kept.of_below HB1.out (fun k => k = g)).then_ hR5'.kept (fun k hk => .inl hk)⟩
   clear hR5'
   obtain ⟨S5, hS5⟩ : ∃ S5, l.foldl (addR b.need) S = S5 := ⟨_, rfl⟩
   rw [hS5] at hR5; have HSE := Lib.hid hS5; have HR5 := Lib.hid hR5; obtain ⟨AG, cG, rfl⟩ := Kd.R_slice hR5.is.giv; have c4 : w5.cell? ⟨g, 4, none⟩ = some (.slice AG b.giv.length cG) := (blk_cell hR5.is.blk 4).trans rfl; have HLO := Lib.hid (show (b.giv.length + 1) * 8 ≤ 140737488355328 by have := HLN.out; omega); clear hS5 hR5 HADD HHAS HNR HRE
   go_wp2_with (at_builtin; go_loud (refine (Kd.R_append kI (w0 := w0) w0.heap.size rfl (.tmp 38) (.tmp 40) 22 3 (.int .i64 0) 8 rfl Tryz.underlying22 info3 rfl (by decide) (by omega) (.slice AG b.giv.length cG) b.giv p [.int .i64 p] (fun _ => True) (fun _ => False) rfl ?aX ?aP (fun _ hk => hk.elim) ?aF ?aO ?aB ?aS ?aL ?_)); go_loud (case aX => rfl); go_loud (case aP => rfl); (case aF => exact (fun _ _ => trivial)); go_loud (case aO => exact HR5.out.is.giv); go_loud (case aB => exact HR5.out.bel); go_loud (case aS => exact HR5.out.bel.size); go_loud (case aL => exact HLO.out); intro v8 w8 hR8 hB8 hg8 hat8; have HR8 := Lib.hid hR8; have HB8 := Lib.hid hB8; have HG8 := Lib.hid hg8; have HA8 := Lib.hid hat8; have e3 : w8.cell? ⟨g, 4, none⟩ = some (.slice AG b.giv.length cG) := (blk_cell ((hg8.block g (blk_lt HR5.out.is.blk) (Kd.R_ne HR5.out.is.giv HR5.out.is.blk (by decide))).trans HR5.out.is.blk) 4).trans rfl; have e4 : w8.frozen? ⟨g, 4, none⟩ = false := blk_frozen ((hg8.block g (blk_lt HR5.out.is.blk) (Kd.R_ne HR5.out.is.giv HR5.out.is.blk (by decide))).trans HR5.out.is.blk) 4; obtain ⟨A8, n8, c8, rfl⟩ : ∃ A n c, v8 = .slice A n c := by { obtain ⟨A, c, e⟩ := Kd.R_slice hR8; exact ⟨A, _, c, e⟩ }; clear hR8 hB8 hg8 hat8)
   go_ret; have HX := RG.note HR5.out HQG.out HGG.out HQ.out HGL.out HG8.out HA8.out HR8.out HB8.out
   first
    | exact ⟨rfl, _, _, by simpa [HSE.out] using HX⟩
end Bt
end Go.Proofs.YtiinmagnpkfbbaaGreat
