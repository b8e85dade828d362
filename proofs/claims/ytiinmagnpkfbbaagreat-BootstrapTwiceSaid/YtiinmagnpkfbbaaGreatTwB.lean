/- BootstrapTwice: what is the same of itself; numbers; the state's relation. -/
import Derived.Test.YtiinmagnpkfbbaaGreatBootG
import Derived.Test.YtiinmagnpkfbbaaGreatRGot
section
set_option maxHeartbeats 4000000
set_option maxRecDepth 100000
namespace Go.Proofs.YtiinmagnpkfbbaaGreat
set_option linter.unusedVariables false
set_option linter.unusedSimpArgs false
open Go.RowKit Go.Proofs.YtiinmagnpkfbbaaGreatW.PrintWords Go.Proofs.YtiinmagnpkfbbaaGreatW.PrintLast Go.Proofs.YtiinmagnpkfbbaaGreatW.PrintMore Go.Proofs.YtiinmagnpkfbbaaGreat.QT
namespace Hm
open Bt (Bo Is Wf)
/-- What Series tells of the names ns. -/
def serOf (hm : Hp) (ns : List ByteArray) : List S55 := ns.map (fun n => ⟨n, Vw.view (cur hm n).2⟩)
theorem serOf_take {hm : Hp} {ns : List ByteArray} {i : Nat} (h : i < ns.length) : serOf hm (ns.take (i + 1)) = serOf hm (ns.take i) ++ [⟨ns[i], Vw.view (cur hm ns[i]).2⟩] := by
 unfold serOf; rw [List.take_succ_eq_append_getElem h, List.map_append]; rfl
theorem rdN {ns : List ByteArray} {i : Nat} (h : i < ns.length) : rdOf ByteArray.empty ns (i : Int) = ns[i] := by
 unfold rdOf; rw [Int.toNat_natCast, List.getD_eq_getElem?_getD, List.getElem?_eq_getElem h]; rfl
theorem info55 : (Tryz.prog.info? 55).map (fun i => (i.zero, i.size, i.bytes)) = some (some (.agg #[.string ⟨#[]⟩, .slice none 0 0]), 2, 40) := by kernel_rfl
theorem size_of_mem {w : World} {gp : Nat} {hm : Hp} (h : HMap w gp hm) {n : ByteArray} (hn : n ∈ hm.map (·.1)) : n.size ≤ maxLen := by
 obtain ⟨e, he, rfl⟩ := List.mem_map.1 hn; obtain ⟨kl, hk⟩ := XM.MapIs.isK h e he; have hk : keyOf Tryz.prog 9 (.string e.1) = some kl := hk; obtain ⟨x, h1, _, h3⟩ := Maps.keyOf_str Tryz.underlying9 hk; have h4 : Value.string e.1 = .string ⟨x.toArray⟩ := h1; have h5 : e.1 = ⟨x.toArray⟩ := by injection h4
 rw [h5]; exact h3
theorem keysW (w : World) (gp : Nat) : Calls Tryz.prog 37 #[.map (some gp)] w fun e w' => e = .returned (.func (.func 65) #[] #[.pointer (some ⟨w.heap.size, 0, none⟩)]) ∧ w' = w.alloc (.cells #[.map (some gp)] 63) := callsIn_wide.1 (Tryz.maps_Keys (some gp) w)
theorem own_ne {α : Type} {d : Kd α} {e B : Nat} {w : World} {v u : Value} {xs : List α} (h : d.R e w B (fun k => some k ≠ u.ownBlock) v xs) {k0 : Nat} (hu : u.ownBlock = some k0) : v.ownBlock ≠ u.ownBlock := fun e2 => h.1 k0 (e2.trans hu) hu.symm
theorem series_calls (w : World) (B g gm gp T : Nat) (vO vL : Value) (b : Bo) (hm : Hp) (hI : Is w B g gm gp vO vL b) (hM : HM w gp B T hm) (hT : T ≤ 1000000) :
  Calls Tryz.prog 13 #[.pointer (some ⟨g, 0, none⟩)] w fun e w' => ∃ (v : Value) (ns : List ByteArray), e = .returned v ∧ ns.Perm (hm.map (·.1)) ∧ ns.Pairwise leN ∧ Kd.R k55 55 w' w.heap.size (fun _ => True) v (serOf hm ns) ∧ Below w.heap.size w w' := by
 have HI := Lib.hid hI; have HMM := Lib.hid hM; have HT := Lib.hid hT; have HKY := Lib.hid (fun W (hW : Below w.heap.size w W) => keys_calls W gp hm (hM.below hW).map (Nat.le_trans hM.cnt hT)); have c8 : w.cell? ⟨g, 8, none⟩ = some (.map (some gp)) := (blk_cell hI.blk 8).trans rfl; clear hI hM hT; go_enter Tryz.func13, Tryz.ntmps13
 go_wp2_with fail
 with_reducible refine (keysW w gp).mono ?_
 rintro e w1 ⟨rfl, rfl⟩; go_wp2_with fail
 with_reducible refine (HKY.out w (Below.refl _ _)).mono ?_
 rintro e w2 ⟨v2, ns, rfl, hperm, hpw, hR2, hb2⟩; obtain ⟨A2, c2, rfl⟩ := Kd.R_slice hR2; have HPM := Lib.hid hperm; have HPW := Lib.hid hpw; have HR2 := Lib.hid hR2; have HB2 := Lib.hid hb2; have HNM := Lib.hid (show ns.length ≤ 1000000 by have := hperm.length_eq; rw [List.length_map] at this; have h1 := HMM.out.cnt; have h2 := HT.out; omega); clear hperm hpw hR2 hb2 HKY c8; go_wp2_with fail
 go_loopg [3, 5, 13] ns.length (fun gn v3 v5 v13 wr => ∃ (i : Nat), v13 = .int .i64 (i : Int) ∧ Aside0 (gn = ns.length - i) ∧ Aside0 (i ≤ ns.length) ∧ Aside0 (Kd.R k55 55 wr w.heap.size (fun k => some k ≠ (Value.slice A2 ns.length c2).ownBlock) v3 (serOf hm (ns.take i))) ∧ Aside0 (Kd.R Kd.string 9 wr w.heap.size (fun _ => True) (.slice A2 ns.length c2) ns) ∧ Aside0 (Below w.heap.size w wr))
 case atStart => exact ⟨0, rfl, ⟨rfl⟩, ⟨Nat.zero_le _⟩, ⟨by rw [List.take_zero]; exact Kd.R_nil _ _ _ _ _⟩, ⟨HR2.out⟩, ⟨HB2.out⟩⟩
 case round =>
  clear HR2 HB2; obtain ⟨i, rfl, HN, HI2, HR, HNR, HB⟩ := hrel
  by_cases hi : i < ns.length
  ·
   have hi0 : (i : Int) < (ns.length : Int) := by omega
   have hwi : wrap64 ((i : Int) + 1) = (i : Int) + 1 := wrap_lt i ns.length hi (by have := HNM.out; omega); obtain ⟨ad, e1, r0⟩ := Kd.at_string (Kd.R_reads' HNR.out).2.2 (i : Int) (by omega) hi0; cases e1; rw [Int.toNat_natCast, rdN hi] at r0
   obtain ⟨n, hn⟩ : ∃ n, ns[i] = n := ⟨_, rfl⟩
   have hst := serOf_take (hm := hm) hi; rw [hn] at r0 hst; have hnm : n ∈ hm.map (·.1) := HPM.out.mem_iff.1 (by rw [← hn]; exact List.getElem_mem hi); have hns := size_of_mem HMM.out.map hnm; have hMW := HMM.out.below HB.out; have hlk := HMap.look hMW.map n hns; have hcR := hMW.cur_R n; have hcl := hMW.cur_len n; obtain ⟨A0, c0, hv0⟩ := Kd.R_slice hcR; rw [hv0] at hlk hcR
   obtain ⟨xs, hxs⟩ : ∃ xs, (cur hm n).2 = xs := ⟨_, rfl⟩
   rw [hxs] at hlk hcR hcl hst; have HA := Lib.hid (below_alloc (Below.refl wr.heap.size wr) (.cells #[.slice A0 xs.length c0] 53)); have HMG := Lib.hid (Mg.merge_one (Kd.R_below hcR HA.out) (blk_new wr (.cells #[.slice A0 xs.length c0] 53)) (by have := HT.out; omega)); have HST := Lib.hid hst; have HIN := Lib.hid (show ∀ k, k = ns.length - i → ns.length - (i + 1) < k by intro k hk; omega); have q8 : wr.cell? ⟨g, 8, none⟩ = some (.map (some gp)) := (blk_cell (HI.out.below HB.out).blk 8).trans rfl
   have HLO := Lib.hid (show ((serOf hm (ns.take i)).length + 1) * 40 ≤ 140737488355328 by
    unfold serOf; rw [List.length_map, List.length_take]; have := HNM.out
    omega)
   obtain ⟨P, hP⟩ : ∃ P, serOf hm (ns.take i) = P := ⟨_, rfl⟩
   have hRR := HR.out; rw [hP] at HST HLO hRR; obtain ⟨A6, c6, rfl⟩ := Kd.R_slice hRR; have HRR := Lib.hid hRR; clear hn hnm hns hMW hcR hcl hv0 hxs hst hP hRR HR; go_wp2_with fail
   with_reducible refine HMG.out.mono ?_
   rintro e w5 ⟨v5, rfl, hR5, hb5⟩; have HB5 := Lib.hid (show Below wr.heap.size wr w5 from below_then HA.out HA.out.size hb5); have HR5 := Lib.hid hR5; have HBW := Lib.hid (below_then HB.out HB.out.size HB5.out); have HNR5 := Lib.hid (Kd.R_below HNR.out HB5.out); have HRR5 := Lib.hid (Kd.R_below HRR.out HB5.out)
   have HOK := Lib.hid (show ∀ k, v5.ownBlock = some k → (some k ≠ (Value.slice (some ad) ns.length c2).ownBlock) ∧ some k ≠ (Value.slice A6 P.length c6).ownBlock from fun k hk => by
    have h1 := Kd.R_base hR5 k hk; have h2 := HA.out.size
    exact ⟨fun e => by have := Kd.R_lt HNR.out k e.symm; omega, fun e => by have := Kd.R_lt HRR.out k e.symm; omega⟩)
   have HFR := Lib.hid (show ∀ k, w5.heap.size ≤ k → some k ≠ (Value.slice (some ad) ns.length c2).ownBlock from fun k hk e => by have := Kd.R_lt HNR5.out k e.symm; omega); have HP5 := Lib.hid (k55_mkM w5 w.heap.size (fun k => v5.ownBlock = some k) ⟨n, Vw.view xs⟩ (R97 (Kd.R_lower hR5 (Nat.le_trans HB.out.size HA.out.size)) (ok' := fun k => v5.ownBlock = some k) (fun k hk => hk))); clear hR5 hb5 HMG hlk q8; obtain ⟨A5, c5, rfl⟩ := Kd.R_slice HR5.out
   go_wp2_with (at_builtin; go_loud (refine (Kd.R_append k55 (w0 := w) w.heap.size rfl (.tmp 17) (.tmp 28) 38 55 (.agg #[.string ⟨#[]⟩, .slice none 0 0]) 40 rfl Tryz.underlying38 info55 rfl (by decide) (by omega) (.slice A6 P.length c6) P ⟨n, Vw.view xs⟩ [.string n, .slice A5 (Vw.view xs).length c5] (fun k => some k ≠ (Value.slice (some ad) ns.length c2).ownBlock) (fun k => (Value.slice A5 (Vw.view xs).length c5).ownBlock = some k) rfl ?aX ?aP ?aK ?aF ?aO ?aB ?aS ?aL ?_)); go_loud (case aX => rfl); go_loud (case aP => exact HP5.out); go_loud (case aK => exact HOK.out); go_loud (case aF => exact HFR.out); go_loud (case aO => exact HRR5.out); go_loud (case aB => exact HBW.out); go_loud (case aS => exact HBW.out.size); go_loud (case aL => exact HLO.out); intro v6 w6 hR6 hB6 hg6 hat6; have HR6 := Lib.hid hR6; have HB6 := Lib.hid hB6; go_loud (have HNR6 := Lib.hid (Kd.R_grown1 HNR5.out rfl hg6 (own_ne HRR5.out rfl))); clear hR6 hB6 hg6 hat6)
   go_roundg (ns.length - (i + 1))
   case measure => go_light; exact HIN.out _ HN.out
   case rel => exact ⟨i + 1, by (rw [hwi]; rfl), ⟨rfl⟩, ⟨hi⟩, ⟨by rw [HST.out]; exact HR6.out⟩, ⟨HNR6.out⟩, ⟨HB6.out⟩⟩
  ·
   have hge : ¬ (i : Int) < (ns.length : Int) := by omega
   have hie : i = ns.length := by have := HI2.out; omega
   have hR9 := HR.out; rw [hie, List.take_length] at hR9; have HR9 := Lib.hid (Kd.R_mono hR9 (fun _ _ => trivial)); clear hie hR9 HR; go_wp2; go_ret; exact ⟨_, rfl, ns, HPM.out, HPW.out, HR9.out, HB.out⟩
end Hm
end Go.Proofs.YtiinmagnpkfbbaaGreat
end
section
namespace Go.Proofs.YtiinmagnpkfbbaaGreat
set_option linter.unusedVariables false
set_option linter.unusedSimpArgs false
open Go.RowKit Go.Proofs.YtiinmagnpkfbbaaGreatW.PrintWords Go.Proofs.YtiinmagnpkfbbaaGreatW.PrintLast Go.Proofs.YtiinmagnpkfbbaaGreatW.PrintMore Go.Proofs.YtiinmagnpkfbbaaGreat.QT
namespace Tw
open Bt (Bo Is Wf Rb Rs RG Lens)
open Hm (Hp HM Fp Sh Gt cont add1 gotB pmOf Cn cut)
theorem Is_lower {w : World} {B B' g gm gp : Nat} {vO vL : Value} {b : Bo} (h : Is w B g gm gp vO vL b) (hB : B' ≤ B) : Is w B' g gm gp vO vL b :=
  ⟨h.blk, Kd.R_lower h.oth hB, Kd.R_lower h.left hB, h.gv, h.pts, Nat.le_trans hB h.bg, Nat.le_trans hB h.bm, Nat.le_trans hB h.bp, h.ne⟩
theorem Rs_lower {w : World} {B B' g : Nat} {vO vG vF vS : Value} {b : Rb} (h : Rs w B g vO vG vF vS b) (hB : B' ≤ B) : Rs w B' g vO vG vF vS b :=
  ⟨h.blk, Kd.R_lower h.oth hB, Kd.R_lower h.giv hB, Kd.R_lower h.fil hB, h.ap, Nat.le_trans hB h.bg⟩
structure PA where
  g : Nat
  gm : Nat
  gp : Nat
  vO : Value
  vL : Value
  bo : Bo
  hm : Hp
def PA.F (a : PA) : Nat → Prop := Fp a.g a.gm a.gp a.vO a.vL a.hm
structure PR where
  g : Nat
  vO : Value
  vG : Value
  vF : Value
  vS : Value
  bo : Rb
  S : List S55
def PR.F (r : PR) (k : Nat) : Prop := k = r.g ∨ r.vO.ownBlock = some k ∨ r.vG.ownBlock = some k ∨ r.vF.ownBlock = some k
structure J (B T : Nat) (w : World) (a b : PA) (r : PR) (X : Nat → Prop) : Prop where
  ia : Is w B a.g a.gm a.gp a.vO a.vL a.bo
  pa : a.bo.pts = pmOf a.hm
  ma : HM w a.gp B T a.hm
  ib : Is w B b.g b.gm b.gp b.vO b.vL b.bo
  pb : b.bo.pts = pmOf b.hm
  mb : HM w b.gp B T b.hm
  ir : Rs w B r.g r.vO r.vG r.vF r.vS r.bo
  vr : Kd.V k55 55 w 0 (fun k => ¬ a.F k ∧ ¬ b.F k ∧ ¬ r.F k ∧ ¬ X k) r.vS r.S
  lr : Lens r.S T
  ab : ∀ k, a.F k → ¬ b.F k
  ar : ∀ k, a.F k → ¬ r.F k
  br : ∀ k, b.F k → ¬ r.F k
  xl : ∀ k, X k → k < w.heap.size
  ax : ∀ k, X k → ¬ a.F k
  bx : ∀ k, X k → ¬ b.F k
  rx : ∀ k, X k → ¬ r.F k
theorem Rs_kept {w w' : World} {B g : Nat} {vO vG vF vS : Value} {b : Rb} {S : Nat → Prop} (h : Rs w B g vO vG vF vS b) (hk : Kept w w' S) (hne : ∀ k, (k = g ∨ vO.ownBlock = some k ∨ vG.ownBlock = some k ∨ vF.ownBlock = some k) → ¬ S k) : Rs w' B g vO vG vF vS b :=
  ⟨(hk.2 g (blk_lt h.blk) (hne g (.inl rfl))).trans h.blk, Hm.R_kept1 h.oth rfl hk (fun k h1 => hne k (.inr (.inl h1))), Hm.R_kept1 h.giv rfl hk (fun k h1 => hne k (.inr (.inr (.inl h1)))), Hm.R_kept1 h.fil rfl hk (fun k h1 => hne k (.inr (.inr (.inr h1)))), h.ap, h.bg⟩
theorem J.fa {B T : Nat} {w : World} {a b : PA} {r : PR} {X : Nat → Prop} (h : J B T w a b r X) : ∀ k, a.F k → k < w.heap.size := Hm.Fp_lt h.ia h.ma
theorem J.fb {B T : Nat} {w : World} {a b : PA} {r : PR} {X : Nat → Prop} (h : J B T w a b r X) : ∀ k, b.F k → k < w.heap.size := Hm.Fp_lt h.ib h.mb
theorem J.fr {B T : Nat} {w : World} {a b : PA} {r : PR} {X : Nat → Prop} (h : J B T w a b r X) : ∀ k, r.F k → k < w.heap.size := by
  rintro k (rfl | h1 | h1 | h1)
  · exact blk_lt h.ir.blk
  · exact Kd.R_lt h.ir.oth k h1
  · exact Kd.R_lt h.ir.giv k h1
  · exact Kd.R_lt h.ir.fil k h1
theorem J.swap {B T : Nat} {w : World} {a b : PA} {r : PR} {X : Nat → Prop} (h : J B T w a b r X) : J B T w b a r X :=
  ⟨h.ib, h.pb, h.mb, h.ia, h.pa, h.ma, h.ir, Kd.V_mono h.vr (fun k hk => ⟨hk.2.1, hk.1, hk.2.2⟩), h.lr, fun k h1 h2 => h.ab k h2 h1, h.br, h.ar, h.xl, h.bx, h.ax, h.rx⟩
/-- Only X's blocks were written, or new ones. -/
theorem J.keep {B T : Nat} {w w' : World} {a b : PA} {r : PR} {X S : Nat → Prop} (h : J B T w a b r X) (hk : Kept w w' S) (hS : ∀ k, S k → X k) : J B T w' a b r X :=
  ⟨Hm.Is_kept h.ia hk (fun k h1 h2 => h.ax k (hS k h2) h1), h.pa, h.ma.kept hk (fun k h1 h2 => h.ax k (hS k h2) (.inr (.inr (.inr (.inr h1))))),
    Hm.Is_kept h.ib hk (fun k h1 h2 => h.bx k (hS k h2) h1), h.pb, h.mb.kept hk (fun k h1 h2 => h.bx k (hS k h2) (.inr (.inr (.inr (.inr h1))))),
    Rs_kept h.ir hk (fun k h1 h2 => h.rx k (hS k h2) h1), Kd.V_kept h.vr hk (fun k h1 h2 => h1.2.2.2 (hS k h2)), h.lr, h.ab, h.ar, h.br, fun k h1 => Nat.lt_of_lt_of_le (h.xl k h1) hk.1, h.ax, h.bx, h.rx⟩
theorem J.below {B T : Nat} {w w' : World} {a b : PA} {r : PR} {X : Nat → Prop} (h : J B T w a b r X) (hb : Below w.heap.size w w') : J B T w' a b r X := h.keep (Kept.of_below hb (fun _ => False)) (fun _ h => h.elim)
theorem J.more {B T T' : Nat} {w : World} {a b : PA} {r : PR} {X : Nat → Prop} (h : J B T w a b r X) (hT : T ≤ T') : J B T' w a b r X :=
  ⟨h.ia, h.pa, h.ma.more hT, h.ib, h.pb, h.mb.more hT, h.ir, h.vr, h.lr.more hT, h.ab, h.ar, h.br, h.xl, h.ax, h.bx, h.rx⟩
/-- One more block beside them. -/
theorem J.box {B T : Nat} {w w' : World} {a b : PA} {r : PR} {X : Nat → Prop} (h : J B T w a b r X) (hb : Below w.heap.size w w') {go : Nat} (h1 : w.heap.size ≤ go) (h2 : go < w'.heap.size) : J B T w' a b r (fun k => k = go) := by
  have h' := h.below hb; refine ⟨h'.ia, h'.pa, h'.ma, h'.ib, h'.pb, h'.mb, h'.ir, Kd.V_mono (Kd.V_below (Kd.V_bound h.vr) hb) (fun k hk => ⟨hk.1.1, hk.1.2.1, hk.1.2.2.1, fun e => by have := hk.2; omega⟩), h'.lr, h'.ab, h'.ar, h'.br, ?_, ?_, ?_, ?_⟩
  · rintro k rfl; exact h2
  · rintro k rfl hf; have := h.fa _ hf; omega
  · rintro k rfl hf; have := h.fb _ hf; omega
  · rintro k rfl hf; have := h.fr _ hf; omega
theorem J.none {B T : Nat} {w : World} {a b : PA} {r : PR} {X : Nat → Prop} (h : J B T w a b r X) : J B T w a b r (fun _ => False) :=
  ⟨h.ia, h.pa, h.ma, h.ib, h.pb, h.mb, h.ir, Kd.V_mono h.vr (fun k hk => ⟨hk.1, hk.2.1, hk.2.2.1, fun h => h⟩), h.lr, h.ab, h.ar, h.br, fun _ h => h.elim, fun _ h => h.elim, fun _ h => h.elim, fun _ h => h.elim⟩
/-- The first boot has been given something. -/
theorem J.stepA {w0 w w' : World} {T : Nat} {a b : PA} {r : PR} {X : Nat → Prop} {p : Int} {l : List Hv.Ser} {hm' : Hp} (h : J w0.heap.size T w a b r X) (hG : Gt w0 w w' a.g a.gm a.gp a.vO a.vL a.bo a.hm hm' T p l) :
    J w0.heap.size (T + Hv.serW l) w' { a with bo := { a.bo with gv := if gotB a.bo p = true then XM.aput a.bo.gv p () else a.bo.gv, pts := pmOf hm' }, hm := hm' } b r X := by
  have hS : ∀ k, (k = a.gm ∨ Sh a.gp a.hm k) → a.F k := fun k hk => hk.elim (fun e => .inr (.inl e)) (fun e => .inr (.inr (.inr (.inr e))))
  have hF : ∀ k, Fp a.g a.gm a.gp a.vO a.vL hm' k → a.F k ∨ w.heap.size ≤ k := by
    rintro k (h1 | h1 | h1 | h1 | h1)
    · exact .inl (.inl h1)
    · exact .inl (.inr (.inl h1))
    · exact .inl (.inr (.inr (.inl h1)))
    · exact .inl (.inr (.inr (.inr (.inl h1))))
    · exact (hG.own k h1).elim (fun h2 => .inl (.inr (.inr (.inr (.inr h2))))) .inr
  refine ⟨hG.is, rfl, hG.hold, Hm.Is_kept h.ib hG.kept (fun k h1 h2 => h.ab k (hS k h2) h1), h.pb, (h.mb.kept hG.kept (fun k h1 h2 => h.ab k (hS k h2) (.inr (.inr (.inr (.inr h1)))))).more (Nat.le_add_right _ _),
    Rs_kept h.ir hG.kept (fun k h1 h2 => h.ar k (hS k h2) h1), Kd.V_mono (Kd.V_kept (Kd.V_bound h.vr) hG.kept (fun k h1 h2 => h1.1.1 (hS k h2))) ?_, h.lr.more (Nat.le_add_right _ _), ?_, ?_, h.br, fun k h1 => Nat.lt_of_lt_of_le (h.xl k h1) hG.kept.1, ?_, h.bx, h.rx⟩
  · rintro k ⟨hk, hlt⟩
    refine ⟨fun h1 => ?_, hk.2⟩; rcases hF k h1 with h2 | h2
    · exact hk.1 h2
    · omega
  · intro k h1 h2
    rcases hF k h1 with h3 | h3
    · exact h.ab k h3 h2
    · have := h.fb k h2; omega
  · intro k h1 h2
    rcases hF k h1 with h3 | h3
    · exact h.ar k h3 h2
    · have := h.fr k h2; omega
  · intro k h1 h2
    rcases hF k h2 with h3 | h3
    · exact h.ax k h1 h3
    · have := h.xl k h1; omega
/-- The document's boot has been given something. -/
theorem J.stepR {w0 w w' : World} {T T' : Nat} {a b : PA} {r : PR} {X : Nat → Prop} {vG' v1 : Value} {bo' : Rb} {S1 : List S55} (h : J w0.heap.size T w a b r X) (hT : T ≤ T') (hG : RG w0 w w' r.g r.vO r.vG vG' r.vF v1 bo' S1 (fun k => ¬ a.F k ∧ ¬ b.F k ∧ ¬ r.F k ∧ ¬ X k) T') :
    J w0.heap.size T' w' a b { r with vG := vG', vS := v1, bo := bo', S := S1 } X := by
  have hS : ∀ k, (k = r.g ∨ r.vG.ownBlock = some k) → r.F k := fun k hk => hk.elim .inl (fun e => .inr (.inr (.inl e)))
  have hF : ∀ k, PR.F { r with vG := vG', vS := v1, bo := bo', S := S1 } k → r.F k ∨ w.heap.size ≤ k := by
    rintro k (h1 | h1 | h1 | h1)
    · exact .inl (.inl h1)
    · exact .inl (.inr (.inl h1))
    · exact (hG.ownG k h1).elim (fun h2 => .inl (.inr (.inr (.inl h2)))) .inr
    · exact .inl (.inr (.inr (.inr h1)))
  refine ⟨Hm.Is_kept h.ia hG.kept (fun k h1 h2 => h.ar k h1 (hS k h2)), h.pa, (h.ma.kept hG.kept (fun k h1 h2 => h.ar k (.inr (.inr (.inr (.inr h1)))) (hS k h2))).more hT,
    Hm.Is_kept h.ib hG.kept (fun k h1 h2 => h.br k h1 (hS k h2)), h.pb, (h.mb.kept hG.kept (fun k h1 h2 => h.br k (.inr (.inr (.inr (.inr h1)))) (hS k h2))).more hT, hG.is, Kd.V_mono hG.V ?_, hG.len, h.ab, ?_, ?_, fun k h1 => Nat.lt_of_lt_of_le (h.xl k h1) hG.kept.1, h.ax, h.bx, ?_⟩
  · rintro k ⟨hk, hne⟩
    have hnr : ¬ PR.F { r with vG := vG', vS := v1, bo := bo', S := S1 } k := by
      rintro (h1 | h1 | h1 | h1)
      · rcases hk with hk | hk
        · exact hk.2.2.1 (.inl h1)
        · have := h.fr k (.inl h1); omega
      · rcases hk with hk | hk
        · exact hk.2.2.1 (.inr (.inl h1))
        · have := h.fr k (.inr (.inl h1)); omega
      · exact hne h1
      · rcases hk with hk | hk
        · exact hk.2.2.1 (.inr (.inr (.inr h1)))
        · have := h.fr k (.inr (.inr (.inr h1))); omega
    rcases hk with hk | hk
    · exact ⟨hk.1, hk.2.1, hnr, hk.2.2.2⟩
    · exact ⟨fun h1 => by have := h.fa k h1; omega, fun h1 => by have := h.fb k h1; omega, hnr, fun h1 => by have := h.xl k h1; omega⟩
  · intro k h1 h2
    rcases hF k h2 with h3 | h3
    · exact h.ar k h1 h3
    · have := h.fa k h1; omega
  · intro k h1 h2
    rcases hF k h2 with h3 | h3
    · exact h.br k h1 h3
    · have := h.fb k h1; omega
  · intro k h1 h2
    rcases hF k h2 with h3 | h3
    · exact h.rx k h1 h3
    · have := h.xl k h1; omega
theorem aget_aput {β : Type} (a p : ByteArray) (v : β) : ∀ m : List (ByteArray × β), XM.aget (XM.aput m a v) p = if a = p then some v else XM.aget m p
  | [] => by simp only [XM.aput, XM.aget]
  | y :: r => by
    have ih := aget_aput a p v r
    by_cases h : y.1 = a
    · simp only [XM.aput, if_pos h, XM.aget]
      by_cases h2 : a = p
      · rw [if_pos h2, if_pos h2]
      · rw [if_neg h2, if_neg h2, if_neg (fun e => h2 (h.symm.trans e))]
    · simp only [XM.aput, if_neg h, XM.aget]
      by_cases h2 : y.1 = p
      · rw [if_pos h2, if_pos h2, if_neg (fun e => h (h2.trans e.symm))]
      · rw [if_neg h2, if_neg h2]
        exact ih
def G (c : Cn) (n : ByteArray) : List S99 := (XM.aget c n).getD []
/-- Does the list give the point p at the name n? -/
def gives (need : Rg.R) (l : List S55) (n : ByteArray) (p : S99) : Prop := ∃ s ∈ l, s.f0 = n ∧ p ∈ cut s.f1 need.f0 need.f1
theorem G_add1 (need : Rg.R) (c : Cn) (s : S55) (n : ByteArray) (p : S99) : p ∈ G (add1 need c s) n ↔ p ∈ G c n ∨ (s.f0 = n ∧ p ∈ cut s.f1 need.f0 need.f1) := by
  unfold add1
  by_cases h : 0 < (cut s.f1 need.f0 need.f1).length
  · rw [if_pos h]
    unfold G; rw [aget_aput]
    by_cases e : s.f0 = n
    · rw [if_pos e, e, Option.getD_some, List.mem_append]
      constructor
      · rintro (h1 | h1)
        · exact .inl h1
        · exact .inr ⟨rfl, h1⟩
      · rintro (h1 | ⟨_, h1⟩)
        · exact .inl h1
        · exact .inr h1
    · rw [if_neg e]
      exact ⟨fun h1 => .inl h1, fun h1 => h1.elim id (fun h2 => absurd h2.1 e)⟩
  · rw [if_neg h]
    refine ⟨fun h1 => .inl h1, fun h1 => h1.elim id (fun h2 => ?_)⟩; rw [List.eq_nil_of_length_eq_zero (show (cut s.f1 need.f0 need.f1).length = 0 by omega)] at h2; cases h2.2
theorem K_add1 (need : Rg.R) (c : Cn) (s : S55) (n : ByteArray) : (XM.aget (add1 need c s) n).isSome = true ↔ (XM.aget c n).isSome = true ∨ (s.f0 = n ∧ 0 < (cut s.f1 need.f0 need.f1).length) := by
  unfold add1
  by_cases h : 0 < (cut s.f1 need.f0 need.f1).length
  · rw [if_pos h, aget_aput]
    by_cases e : s.f0 = n
    · rw [if_pos e]; exact ⟨fun _ => .inr ⟨e, h⟩, fun _ => rfl⟩
    · rw [if_neg e]; exact ⟨fun h1 => .inl h1, fun h1 => h1.elim id (fun h2 => absurd h2.1 e)⟩
  · rw [if_neg h]; exact ⟨fun h1 => .inl h1, fun h1 => h1.elim id (fun h2 => absurd h2.2 h)⟩
theorem G_fold (need : Rg.R) (n : ByteArray) (p : S99) : ∀ (l : List S55) (c : Cn), p ∈ G (l.foldl (add1 need) c) n ↔ p ∈ G c n ∨ gives need l n p
  | [], c => by simp [gives]
  | s :: l, c => by
    rw [List.foldl_cons, G_fold need n p l, G_add1]; unfold gives
    constructor
    · rintro ((h | h) | ⟨t, h1, h2⟩)
      · exact .inl h
      · exact .inr ⟨s, by simp, h⟩
      · exact .inr ⟨t, List.mem_cons_of_mem _ h1, h2⟩
    · rintro (h | ⟨t, h1, h2⟩)
      · exact .inl (.inl h)
      · rcases List.mem_cons.1 h1 with e | e
        · rw [e] at h2; exact .inl (.inr h2)
        · exact .inr ⟨t, e, h2⟩
def names (need : Rg.R) (l : List S55) (n : ByteArray) : Prop := ∃ s ∈ l, s.f0 = n ∧ 0 < (cut s.f1 need.f0 need.f1).length
theorem K_fold (need : Rg.R) (n : ByteArray) : ∀ (l : List S55) (c : Cn), (XM.aget (l.foldl (add1 need) c) n).isSome = true ↔ (XM.aget c n).isSome = true ∨ names need l n
  | [], c => by simp [names]
  | s :: l, c => by
    rw [List.foldl_cons, K_fold need n l, K_add1]; unfold names
    constructor
    · rintro ((h | h) | ⟨t, h1, h2⟩)
      · exact .inl h
      · exact .inr ⟨s, by simp, h⟩
      · exact .inr ⟨t, List.mem_cons_of_mem _ h1, h2⟩
    · rintro (h | ⟨t, h1, h2⟩)
      · exact .inl (.inl h)
      · rcases List.mem_cons.1 h1 with e | e
        · rw [e] at h2; exact .inl (.inr h2)
        · exact .inr ⟨t, e, h2⟩
/-- They hold the same points, each maybe more than once. -/
structure Ce (ca cb : Cn) : Prop where
  pt : ∀ n p, p ∈ G ca n ↔ p ∈ G cb n
  nm : ∀ n, (XM.aget ca n).isSome = true ↔ (XM.aget cb n).isSome = true
theorem Ce.refl (c : Cn) : Ce c c := ⟨fun _ _ => Iff.rfl, fun _ => Iff.rfl⟩
theorem Ce.twice {ca cb : Cn} (h : Ce ca cb) (need : Rg.R) (l : List S55) : Ce (l.foldl (add1 need) ca) (l.foldl (add1 need) (l.foldl (add1 need) cb)) :=
  ⟨fun n p => by rw [G_fold, G_fold, G_fold, h.pt]; exact ⟨fun h1 => h1.elim (fun h2 => .inl (.inl h2)) .inr, fun h1 => h1.elim id .inr⟩,
   fun n => by rw [K_fold, K_fold, K_fold, h.nm]; exact ⟨fun h1 => h1.elim (fun h2 => .inl (.inl h2)) .inr, fun h1 => h1.elim id .inr⟩⟩
theorem mem_keys {w : World} {gp : Nat} {hm : Hp} (h : Hm.HMap w gp hm) (n : ByteArray) : n ∈ hm.map (·.1) ↔ (XM.aget (cont hm) n).isSome = true := by
  have hnd := XM.MapIs.nodup h
  constructor
  · intro hn
    obtain ⟨e, he, rfl⟩ := List.mem_map.1 hn; have h1 : (e.1, e.2.2) ∈ cont hm := List.mem_map.2 ⟨e, he, rfl⟩
    have h2 : (XM.keys (cont hm)).Nodup := by
      unfold XM.keys cont at *; rw [List.map_map]; exact hnd
    rw [XM.aget_mem h2 h1]; rfl
  · intro hs
    obtain ⟨v, hv⟩ := Option.isSome_iff_exists.1 hs; have := XM.aget_some hv; obtain ⟨e, he, h1⟩ := List.mem_map.1 this; exact List.mem_map.2 ⟨e, he, congrArg Prod.fst h1⟩
theorem sorted_eq : ∀ {A B : List ByteArray}, A.Pairwise Hm.leN → B.Pairwise Hm.leN → A.Nodup → B.Nodup → (∀ p, p ∈ A ↔ p ∈ B) → A = B
  | [], [], _, _, _, _, _ => rfl
  | [], b :: B, _, _, _, _, h => absurd ((h b).2 List.mem_cons_self) (by simp)
  | a :: A, [], _, _, _, _, h => absurd ((h a).1 List.mem_cons_self) (by simp)
  | a :: A, b :: B, hA, hB, nA, nB, h => by
    obtain ⟨a1, a2⟩ := List.pairwise_cons.1 hA; obtain ⟨b1, b2⟩ := List.pairwise_cons.1 hB; obtain ⟨a3, a4⟩ := List.nodup_cons.1 nA; obtain ⟨b3, b4⟩ := List.nodup_cons.1 nB
    have hab : a = b := by
      rcases List.mem_cons.1 ((h a).1 List.mem_cons_self) with e | e
      · exact e
      · rcases List.mem_cons.1 ((h b).2 List.mem_cons_self) with e2 | e2
        · exact e2.symm
        · have h1 := a1 b e2
          have h2 := b1 a e; unfold Hm.leN at h1 h2; exact ByteArray.ext (Array.toList_inj.1 (List.le_antisymm h1 h2))
    subst hab
    congr 1
    refine sorted_eq a2 b2 a4 b4 (fun p => ⟨fun hp => ?_, fun hp => ?_⟩)
    · rcases List.mem_cons.1 ((h p).1 (List.mem_cons_of_mem _ hp)) with e | e
      · rw [e] at hp; exact absurd hp a3
      · exact e
    · rcases List.mem_cons.1 ((h p).2 (List.mem_cons_of_mem _ hp)) with e | e
      · rw [e] at hp; exact absurd hp b3
      · exact e
/-- What Series tells of both is the same. -/
theorem series_same {w : World} {B T : Nat} {a b : PA} {r : PR} {X : Nat → Prop} (h : J B T w a b r X) (hc : Ce (cont a.hm) (cont b.hm)) {na nb : List ByteArray} (pa : na.Perm (a.hm.map (·.1))) (sa : na.Pairwise Hm.leN) (pb : nb.Perm (b.hm.map (·.1))) (sb : nb.Pairwise Hm.leN) : Hm.serOf a.hm na = Hm.serOf b.hm nb := by
  have hn : na = nb := sorted_eq sa sb (pa.nodup_iff.2 (XM.MapIs.nodup h.ma.map)) (pb.nodup_iff.2 (XM.MapIs.nodup h.mb.map)) (fun n => by rw [pa.mem_iff, pb.mem_iff, mem_keys h.ma.map, mem_keys h.mb.map]; exact hc.nm n); subst hn; unfold Hm.serOf; refine List.map_congr_left (fun n _ => ?_); have e : ∀ hm : Hp, (Hm.cur hm n).2 = G (cont hm) n := fun hm => Hm.cont_cur n hm; rw [e, e, Vw.view_dom (Vw.Dom.of_mem (hc.pt n))]
end Tw
end Go.Proofs.YtiinmagnpkfbbaaGreat
end
section
namespace Go.Proofs.YtiinmagnpkfbbaaGreat
set_option linter.unusedVariables false
set_option linter.unusedSimpArgs false
open Go.RowKit Go.Proofs.YtiinmagnpkfbbaaGreatW.PrintWords Go.Proofs.YtiinmagnpkfbbaaGreatW.PrintLast Go.Proofs.YtiinmagnpkfbbaaGreatW.PrintMore Go.Proofs.YtiinmagnpkfbbaaGreat.QT
namespace Bt
theorem large_l0 (V : Int) (nodes : List Int) (shards : List (List Ow)) (hl : shards.length ≤ 9223372036854775807) : ∀ (d : Nat) (x i : Int), 0 ≤ i → i ≤ shards.length → (shards.length : Int) - i = d → ∃ r, Ev (fun k => thermographlaw18_large.l0 k x i V nodes shards) r
 | 0, x, i, h0, h1, h2 => ⟨_, Ev.step (f := fun _ => some (decide (x > 1024))) (fun k => by rw [thermographlaw18_large.l0, if_neg (by omega)]) (Ev.now _)⟩
 | d + 1, x, i, h0, h1, h2 => by
  by_cases h : x ≤ 1024
  ·
   obtain ⟨r, hr⟩ := large_l0 V nodes shards hl d (wrap64 (x + (mn ((rd_L4 shards i).length : Int) 1048576))) (i + 1) (by omega) (by omega) (by omega); refine ⟨r, Ev.step (fun k => ?_) hr⟩; rw [thermographlaw18_large.l0, if_pos (by omega), if_pos h, if_pos h0]; have : wrap64 (i + 1) = i + 1 := by unfold wrap64; omega
   rw [this]
  ·
   exact ⟨_, Ev.step (f := fun _ => some (decide (x > 1024))) (fun k => by rw [thermographlaw18_large.l0, if_pos (by omega), if_neg h]) (Ev.now _)⟩
theorem large_any (w : World) (V : Int) (An : Option Addr) (cn : Nat) (nodes : List Int) (As : Option Addr) (cs : Nat) (shards : List (List Ow)) (hP : Pl.PlAt w An cn nodes As cs shards) :
  ∃ r : Bool, Calls Tryz.prog 5 #[.agg #[.int .i64 V, .slice An nodes.length cn, .slice As shards.length cs]] w fun e w' => e = .returned (.bool r) ∧ Below w.heap.size w w' := by
 obtain ⟨r, hr⟩ := large_l0 V nodes shards hP.ls shards.length (wrap64 ((nodes.length : Int) + (shards.length : Int))) 0 (Int.le_refl _) (by omega) (by omega); have hf : Ev (fun k => thermographlaw18_large.f k V nodes shards) r := Ev.congr (fun k => by unfold thermographlaw18_large.f; rfl) hr; obtain ⟨k, hk⟩ := hf.rounds; exact ⟨r, thermographlaw18_large.calls k V An cn nodes As cs shards r w hP.hn hP.hcn hP.hs hP.hcs hk⟩
/-- Where there is no boot, both say why, and the same. -/
theorem news_err (V : Int) (An : Option Addr) (cn : Nat) (nodes : List Int) (As : Option Addr) (cs : Nat) (shards : List (List Ow)) (sh n : Int) (need : R) (h : ¬ (Pl.checkP V nodes shards = 0 ∧ Pl.ownsP shards sh n = true)) :
  ∃ er : Int, er ≠ 0 ∧ ∀ w, Pl.PlAt w An cn nodes As cs shards → (Calls Tryz.prog 7 #[.agg #[.int .i64 V, .slice An nodes.length cn, .slice As shards.length cs], .int .i64 sh, .int .i64 n, .agg #[.int .i64 need.f0, .int .i64 need.f1]] w fun e w' => e = .returned (.tuple #[.pointer none, .int .i64 er]) ∧ Below w.heap.size w w') ∧
   (Calls Tryz.prog 8 #[.agg #[.int .i64 V, .slice An nodes.length cn, .slice As shards.length cs], .int .i64 sh, .int .i64 n, .agg #[.int .i64 need.f0, .int .i64 need.f1]] w fun e w' => e = .returned (.tuple #[.pointer none, .int .i64 er]) ∧ Below w.heap.size w w') := by
 by_cases hc : Pl.checkP V nodes shards = 0
 ·
  have ho : Pl.ownsP shards sh n = false := by
   rw [← Bool.not_eq_true]; exact fun ho => h ⟨hc, ho⟩
  exact ⟨140, by decide, fun w hP => ⟨new_nodes w V An cn nodes As cs shards hP sh n need hc ho, rnew_nodes w V An cn nodes As cs shards hP sh n need hc ho⟩⟩
 ·
  exact ⟨50, by decide, fun w hP => ⟨new_form w V An cn nodes As cs shards hP sh n need hc, rnew_form w V An cn nodes As cs shards hP sh n need hc⟩⟩
end Bt
end Go.Proofs.YtiinmagnpkfbbaaGreat
end
section
namespace Go.Proofs.YtiinmagnpkfbbaaGreat
set_option linter.unusedVariables false
set_option linter.unusedSimpArgs false
open Go.RowKit Go.Proofs.YtiinmagnpkfbbaaGreatW.PrintWords Go.Proofs.YtiinmagnpkfbbaaGreatW.PrintLast Go.Proofs.YtiinmagnpkfbbaaGreatW.PrintMore Go.Proofs.YtiinmagnpkfbbaaGreat.QT
namespace Tw
open Bt (Bo Is Wf Rb Rs RG Lens Ow R othersL)
open Hm (Hp HM Fp Sh Gt cont add1 gotB pmOf Cn cut)
theorem wJ (i : Nat) (h : i ≤ 1000000) : wrap64 ((i : Int) + 1) = ((i + 1 : Nat) : Int) := by unfold wrap64; omega
theorem same_ev0 (l : List S99) (hl : l.length ≤ 1000000) : ∀ (d i : Nat), i + d = l.length → Ev (fun k => thermographlaw18_same.l0 k l l (i : Int)) true
 | 0, i, h => Ev.step (f := fun _ => some true) (fun k => by rw [thermographlaw18_same.l0, if_neg (by omega)]) (Ev.now _)
 | d + 1, i, h => by
  have ih := same_ev0 l hl d (i + 1) (by omega); exact Ev.step (fun k => by rw [thermographlaw18_same.l0, if_pos (by omega), if_pos (by omega), if_pos (by omega), if_neg (by simp), wJ i (by omega)]) ih
theorem same_ev (l : List S99) (hl : l.length ≤ 1000000) : Ev (fun k => thermographlaw18_same.f k l l) true := by
 have h := same_ev0 l hl l.length 0 (by omega); exact Ev.congr (fun k => by unfold thermographlaw18_same.f; rw [if_pos rfl]; rfl) h
theorem sameS_ev0 (l : List S55) (hl : l.length ≤ 1000000) (hx : ∀ s ∈ l, s.f1.length ≤ 1000000) : ∀ (d i : Nat), i + d = l.length → Ev (fun k => thermographlaw18_sameSeries.l0 k l l (i : Int)) true
 | 0, i, h => Ev.step (f := fun _ => some true) (fun k => by rw [thermographlaw18_sameSeries.l0, if_neg (by omega)]) (Ev.now _)
 | d + 1, i, h => by
  have hi : i < l.length := by omega
  have ih := sameS_ev0 l hl hx d (i + 1) (by omega); have e : rd_T55 l (i : Int) = l[i] := Bt.rdSer hi; have h1 := same_ev l[i].f1 (hx _ (List.getElem_mem hi)); refine Ev.step (fun k => ?_) (h1.bind (f := fun k t => if t = true then thermographlaw18_sameSeries.l0 k l l ((i + 1 : Nat) : Int) else some false) (Ev.congr (fun k => if_pos rfl) ih)); rw [thermographlaw18_sameSeries.l0, if_pos (by omega), if_pos (by omega), if_pos (by omega), if_pos rfl, e, wJ i (by omega)]
theorem sameS_calls (w : World) (A : Option Addr) (c : Nat) (A' : Option Addr) (c' : Nat) (l : List S55) (hC : Kd.C k55 w A l.length l) (hc : l.length ≤ c) (hC' : Kd.C k55 w A' l.length l) (hc' : l.length ≤ c') (hl : l.length ≤ 1000000) (hx : ∀ s ∈ l, s.f1.length ≤ 1000000) :
  Calls Tryz.prog 12 #[.slice A l.length c, .slice A' l.length c'] w fun e w' => e = .returned (.bool true) ∧ Below w.heap.size w w' := by
 have h := sameS_ev0 l hl hx l.length 0 (by omega); have h2 : Ev (fun k => thermographlaw18_sameSeries.f k l l) true := Ev.congr (fun k => by unfold thermographlaw18_sameSeries.f; rw [if_pos rfl]; rfl) h; obtain ⟨k, hk⟩ := h2.rounds
 exact (thermographlaw18_sameSeries.calls k A c l A' c' l _ w hC hc hC' hc' hk).mono fun e w' ⟨he, hd⟩ => ⟨he, by obtain ⟨n, rfl⟩ := hd; exact ⟨rfl, rfl, rfl, Nat.le_refl _, fun _ _ => rfl⟩⟩
theorem sameI_ev0 (l : List Int) (hl : l.length ≤ 1000000) : ∀ (d i : Nat), i + d = l.length → Ev (fun k => thermographlaw18_sameInts.l0 k l l (i : Int)) true
 | 0, i, h => Ev.step (f := fun _ => some true) (fun k => by rw [thermographlaw18_sameInts.l0, if_neg (by omega)]) (Ev.now _)
 | d + 1, i, h => by
  have ih := sameI_ev0 l hl d (i + 1) (by omega); exact Ev.step (fun k => by rw [thermographlaw18_sameInts.l0, if_pos (by omega), if_pos (by omega), if_pos (by omega), if_pos rfl, wJ i (by omega)]) ih
theorem sameI_calls (w : World) (A : Option Addr) (c : Nat) (A' : Option Addr) (c' : Nat) (l : List Int) (hC : Kd.C (Kd.int .i64) w A l.length l) (hc : l.length ≤ c) (hC' : Kd.C (Kd.int .i64) w A' l.length l) (hc' : l.length ≤ c') (hl : l.length ≤ 1000000) :
  Calls Tryz.prog 14 #[.slice A l.length c, .slice A' l.length c'] w fun e w' => e = .returned (.bool true) ∧ Below w.heap.size w w' := by
 have h := sameI_ev0 l hl l.length 0 (by omega); have h2 : Ev (fun k => thermographlaw18_sameInts.f k l l) true := Ev.congr (fun k => by unfold thermographlaw18_sameInts.f; rw [if_pos rfl]; rfl) h; obtain ⟨k, hk⟩ := h2.rounds
 exact (thermographlaw18_sameInts.calls k A c l A' c' l _ w hC hc hC' hc' hk).mono fun e w' ⟨he, hd⟩ => ⟨he, by obtain ⟨n, rfl⟩ := hd; exact ⟨rfl, rfl, rfl, Nat.le_refl _, fun _ _ => rfl⟩⟩
theorem aput_idem {α β : Type} [DecidableEq α] (a : α) (v : β) : ∀ m : List (α × β), XM.aput (XM.aput m a v) a v = XM.aput m a v
 | [] => by simp [XM.aput]
 | y :: r => by
  by_cases h : y.1 = a
  ·
   simp [XM.aput, h]
  ·
   simp only [XM.aput, if_neg h, aput_idem a v r]
/-- The same but for what is held. -/
def Like (a b : Bo) : Prop := a.own = b.own ∧ a.oth = b.oth ∧ a.gv = b.gv ∧ a.need = b.need ∧ a.left = b.left
theorem Like.left {a b : Bo} (h : Like a b) : Bt.leftOf a = Bt.leftOf b := by
 obtain ⟨o, A, gv, n, l, p⟩ := a; obtain ⟨o', A', gv', n', l', p'⟩ := b; obtain ⟨h1, h2, h3, h4, h5⟩ := h
 dsimp only at h1 h2 h3 h4 h5
 subst h1 h2 h3 h4 h5; rfl
theorem Like.wants {a b : Bo} (h : Like a b) : Bt.wantsOf a = Bt.wantsOf b := by
 have hl := h.left; obtain ⟨o, A, gv, n, l, p⟩ := a; obtain ⟨o', A', gv', n', l', p'⟩ := b; obtain ⟨h1, h2, h3, h4, h5⟩ := h
 dsimp only at h1 h2 h3 h4 h5
 subst h1 h2 h3 h4 h5; rfl
theorem wantsOf_len (b : Bo) (h : b.oth.length ≤ 999999) : (Bt.wantsOf b).length ≤ 1000000 := by
 unfold Bt.wantsOf
 split
 ·
  simp
 ·
  have := List.length_filter_le (fun n => !Bt.gave b.gv n) (b.own.f2 :: b.oth); rw [List.length_cons] at this; omega
/-- What the steps weigh. -/
def sumW (l : List S40) : Nat := (l.map (fun s => Hv.serW s.f4)).sum
theorem sumW_le (l : List S40) : sumW l ≤ Hv.stepsW l := by
 unfold sumW Hv.stepsW
 induction l with
 | nil => exact Nat.le_refl _
 | cons x l ih =>
  simp only [List.map_cons, List.sum_cons]; omega
theorem sumW_take {l : List S40} {i : Nat} (h : i < l.length) : sumW (l.take (i + 1)) = sumW (l.take i) + Hv.serW l[i].f4 := by
 unfold sumW; rw [List.take_succ_eq_append_getElem h, List.map_append, List.sum_append]; simp
theorem sumW_take_le (l : List S40) (i : Nat) : sumW (l.take i) ≤ sumW l := by
 conv => rhs; rw [← List.take_append_drop i l]
 unfold sumW; rw [List.map_append, List.sum_append]; omega
/-- The state ahead of step i. -/
structure TI (w wr : World) (i T ga gb gr : Nat) (o : Ow) (A : List Int) (need : R) (lf : List R) (a b : PA) (r : PR) : Prop where
 j : J w.heap.size T wr a b r (fun _ => False)
 ga : a.g = ga
 gb : b.g = gb
 gr : r.g = gr
 ba : a.bo.own = o ∧ a.bo.oth = A ∧ a.bo.need = need ∧ a.bo.left = lf
 bb : b.bo.own = o ∧ b.bo.oth = A ∧ b.bo.need = need ∧ b.bo.left = lf
 br : r.bo.own = o ∧ r.bo.oth = A ∧ r.bo.need = need ∧ r.bo.fil = []
 gv : a.bo.gv = b.bo.gv
 ce : Ce (cont a.hm) (cont b.hm)
 bel : Below w.heap.size w wr
 gl : a.bo.gv.length ≤ i
 rl : r.bo.giv.length ≤ i
theorem wf_tw {w : World} {An : Option Addr} {cn : Nat} {nodes : List Int} {As : Option Addr} {cs : Nat} {shards : List (List Ow)} (hP : Pl.PlAt w An cn nodes As cs shards) {l : List Ow} (hlm : l ∈ shards) {o : Ow} (ho : o ∈ l) (hlen : l.length ≤ 8) (n : Int) (lf : List R) (hlf : lf.length ≤ 1000000) :
  (Lit.int .i64 o.f2).wf = true ∧ (∀ x ∈ othersL l n, (Lit.int .i64 x).wf = true) ∧ (othersL l n).length ≤ 8 := by
 refine ⟨(hP.wf l hlm o ho).1, fun x hx => ?_, ?_⟩
 ·
  obtain ⟨y, hy, rfl⟩ := List.mem_map.1 hx; exact (hP.wf l hlm y (List.mem_filter.1 hy).1).2
 ·
  have : (othersL l n).length ≤ l.length := by unfold othersL; rw [List.length_map]; exact List.length_filter_le _ _
  omega
theorem wants_mem {b : Rb} {x : Int} (h : x ∈ Bt.wantsR b) : x = b.own.f2 ∨ x ∈ b.oth := by
 unfold Bt.wantsR at h
 split at h
 ·
  cases h
 ·
  exact List.mem_cons.1 (List.mem_filter.1 h).1
/-- A boot behind a Got. -/
structure St (a a1 : PA) (p : Int) (l : List S55) : Prop where
 g : a1.g = a.g
 own : a1.bo.own = a.bo.own
 oth : a1.bo.oth = a.bo.oth
 need : a1.bo.need = a.bo.need
 left : a1.bo.left = a.bo.left
 gv : a1.bo.gv = if gotB a.bo p = true then XM.aput a.bo.gv p () else a.bo.gv
 ct : cont a1.hm = if gotB a.bo p = true then l.foldl (add1 a.bo.need) (cont a.hm) else cont a.hm
theorem J.got {w0 w w' : World} {T : Nat} {a b : PA} {r : PR} {X : Nat → Prop} {p : Int} {l : List S55} {hm' : Hp} (h : J w0.heap.size T w a b r X) (hG : Gt w0 w w' a.g a.gm a.gp a.vO a.vL a.bo a.hm hm' T p l) :
  ∃ a1, J w0.heap.size (T + Hv.serW l) w' a1 b r X ∧ St a a1 p l := ⟨_, h.stepA hG, ⟨rfl, rfl, rfl, rfl, rfl, rfl, hG.what⟩⟩
theorem J.xA {w0 w w' : World} {T B : Nat} {a b : PA} {r : PR} {X : Nat → Prop} {p : Int} {l : List S55} {hm' : Hp} (h : J B T w a b r X) (hG : Gt w0 w w' a.g a.gm a.gp a.vO a.vL a.bo a.hm hm' T p l) {k : Nat} (hx : X k) {o : Obj} (hb : w.heap[k]? = some o) : w'.heap[k]? = some o :=
 blk_kept hb hG.kept (fun h2 => h.ax k hx (h2.elim (fun e => .inr (.inl e)) (fun e => .inr (.inr (.inr (.inr e))))))
theorem St.bb {a a1 : PA} {p : Int} {l : List S55} {o : Ow} {A : List Int} {need : R} {lf : List R} (h : St a a1 p l) (hb : a.bo.own = o ∧ a.bo.oth = A ∧ a.bo.need = need ∧ a.bo.left = lf) : a1.bo.own = o ∧ a1.bo.oth = A ∧ a1.bo.need = need ∧ a1.bo.left = lf :=
 ⟨h.own.trans hb.1, h.oth.trans hb.2.1, h.need.trans hb.2.2.1, h.left.trans hb.2.2.2⟩
theorem gotB_eq {a b : Bo} (h1 : a.own = b.own) (h2 : a.oth = b.oth) (p : Int) : gotB a p = gotB b p := by unfold gotB; rw [h1, h2]
theorem St.gvl {a a1 : PA} {p : Int} {l : List S55} (h : St a a1 p l) : a1.bo.gv.length ≤ a.bo.gv.length + 1 := by
 rw [h.gv]
 split
 ·
  exact XM.length_aput _ _ _
 ·
  omega
/-- The next step's state. -/
theorem ti_next {w wr w' : World} {i T T' ga gb gr : Nat} {o : Ow} {A : List Int} {need : R} {lf : List R} {a b a1 b1 b2 : PA} {r r1 : PR} {X : Nat → Prop} {p : Int} {l : List S55} (h : TI w wr i T ga gb gr o A need lf a b r) (hj : J w.heap.size T' w' a1 b2 r1 X) (sa : St a a1 p l) (sb : St b b1 p l) (sb2 : St b1 b2 p l)
  (hr : r1.g = r.g ∧ r1.bo.own = r.bo.own ∧ r1.bo.oth = r.bo.oth ∧ r1.bo.need = r.bo.need ∧ r1.bo.fil = r.bo.fil ∧ r1.bo.giv.length ≤ r.bo.giv.length + 1) (hbel : Below w.heap.size w w') {T2 : Nat} (hT : T' ≤ T2) : TI w w' (i + 1) T2 ga gb gr o A need lf a1 b2 r1 := by
 have e1 : gotB b.bo p = gotB a.bo p := gotB_eq (h.bb.1.trans h.ba.1.symm) (h.bb.2.1.trans h.ba.2.1.symm) p; have e2 : gotB b1.bo p = gotB a.bo p := (gotB_eq sb.own sb.oth p).trans e1; refine ⟨(hj.none).more hT, sa.g.trans h.ga, (sb2.g.trans sb.g).trans h.gb, hr.1.trans h.gr, sa.bb h.ba, sb2.bb (sb.bb h.bb), ⟨hr.2.1.trans h.br.1, hr.2.2.1.trans h.br.2.1, hr.2.2.2.1.trans h.br.2.2.1, hr.2.2.2.2.1.trans h.br.2.2.2⟩, ?_, ?_, hbel, ?_, ?_⟩
 ·
  rw [sa.gv, sb2.gv, sb.gv, e1, e2, h.gv]
  split
  ·
   exact (aput_idem _ _ _).symm
  ·
   rfl
 ·
  rw [sa.ct, sb2.ct, sb.ct, e1, e2]
  split
  ·
   have n1 : b1.bo.need = a.bo.need := (sb.need.trans h.bb.2.2.1).trans h.ba.2.2.1.symm; have n2 : b.bo.need = a.bo.need := h.bb.2.2.1.trans h.ba.2.2.1.symm; rw [n1, n2]; exact h.ce.twice a.bo.need l
  ·
   exact h.ce
 ·
  have := sa.gvl; have := h.gl; omega
 ·
  have := hr.2.2.2.2.2; have := h.rl; omega
theorem TI.like {w w' : World} {i T ga gb gr : Nat} {o : Ow} {A : List Int} {need : R} {lf : List R} {a b : PA} {r : PR} (h : TI w w' i T ga gb gr o A need lf a b r) : Like a.bo b.bo :=
 ⟨h.ba.1.trans h.bb.1.symm, h.ba.2.1.trans h.bb.2.1.symm, h.gv, h.ba.2.2.1.trans h.bb.2.2.1.symm, h.ba.2.2.2.trans h.bb.2.2.2.symm⟩
theorem rgot_at {w0 W : World} {T : Nat} {a b : PA} {r : PR} {X : Nat → Prop} {o : Ow} {A : List Int} {need : R} (h : J w0.heap.size T W a b r X) (hb : r.bo.own = o ∧ r.bo.oth = A ∧ r.bo.need = need ∧ r.bo.fil = []) (hA : A.length ≤ 8) (hg : r.bo.giv.length ≤ 2048)
  (hB : Below w0.heap.size w0 W) (p : Int) (A1 : Option Addr) (c : Nat) (l : List S55) (hL : Kd.C k55 w0 A1 l.length l) (hT : T + Hv.serW l ≤ 1000000) (gr : Nat) (hgr : r.g = gr) (q : Bool) (hq : Bt.rgotB r.bo p = q) :
  Calls Tryz.prog 11 #[.pointer (some ⟨gr, 0, none⟩), .int .i64 p, .slice A1 l.length c] W fun e w' => e = .returned (.bool q) ∧ ∃ r1, J w0.heap.size (T + Hv.serW l) w' a b r1 X ∧ (r1.g = r.g ∧ r1.bo.own = r.bo.own ∧ r1.bo.oth = r.bo.oth ∧ r1.bo.need = r.bo.need ∧ r1.bo.fil = r.bo.fil ∧ r1.bo.giv.length ≤ r.bo.giv.length + 1) ∧ Below w0.heap.size w0 w' := by
 subst hgr hq; refine (Bt.rgot_calls w0 W r.g r.vO r.vG r.vF r.vS r.bo r.S _ T h.ir h.vr (fun k hk e => hk.2.2.1 (.inl e)) (fun k hk e => hk.2.2.1 (.inr (.inr (.inl e)))) hB (by rw [hb.2.1]; omega) (by omega) p A1 c l hL h.lr hT).mono ?_; rintro e w' ⟨rfl, vG', vS', hG⟩; refine ⟨rfl, _, h.stepR (Nat.le_add_right _ _) hG, ⟨rfl, rfl, rfl, rfl, rfl, ?_⟩, hG.bel⟩; show (if Bt.rgotB r.bo p = true then r.bo.giv ++ [p] else r.bo.giv).length ≤ _
 split
 ·
  simp
 ·
  omega
theorem serOf_len {w : World} {gp B T : Nat} {hm : Hp} (h : HM w gp B T hm) {ns : List ByteArray} (hp : ns.Perm (hm.map (·.1))) : (Hm.serOf hm ns).length ≤ T ∧ ∀ s ∈ Hm.serOf hm ns, s.f1.length ≤ T := by
 constructor
 ·
  unfold Hm.serOf; rw [List.length_map, hp.length_eq, List.length_map]; exact h.cnt
 ·
  intro s hs; obtain ⟨n, _, rfl⟩ := List.mem_map.1 hs; exact Nat.le_trans (Vw.view_len _) (h.cur_len n)
end Tw
end Go.Proofs.YtiinmagnpkfbbaaGreat
end
