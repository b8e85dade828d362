/- The fetch: stream, of points that may be younger than it. -/
import Derived.Test.YtgagcimfkmegnaaPPage
set_option maxHeartbeats 8000000
set_option maxRecDepth 100000
namespace Go.Proofs.Ytgagcimfkmegnaa
set_option linter.unusedVariables false
set_option linter.unusedSimpArgs false
open Go.RowKit Go.Proofs.YtgagcimfkmegnaaW.PrintWords Go.Proofs.YtgagcimfkmegnaaW.PrintLast Go.Proofs.YtgagcimfkmegnaaW.PrintMore Go.Proofs.Ytgagcimfkmegnaa.QT
namespace Ps
open Hm (Hp HM HMap cur put Sh Ft)
theorem stream_callsV (w0 w : World) (g gm : Nat) (x : Fx) (seq er : Int) (c : Me) (vM : Value) (D : List Me) (hm : Hp) (T : Nat) (m0 : S46) (A1 : Option Addr) (c1 : Nat) (A2 : Option Addr) (c2 : Nat)
  (hb : w.heap[g]? = some (.cells (fcells x seq c vM er gm (hf g 44) 7) 77 (0, 0))) (hQ : Kd.Q k25 25 w w0.heap.size (fun _ => True) vM D) (hM : HM w gm w0.heap.size T hm) (hB : Below w0.heap.size w0 w) (hg : w0.heap.size ≤ g) (hgm : w0.heap.size ≤ gm) (hD : 0 < D.length) (hid : (rd_T25 D 0).f0.size ≤ maxLen)
  (hC : Kd.C k42 w A1 m0.f11.length m0.f11) (hc : m0.f11.length ≤ c1) (hn : T + (m0.f11.length + 1) ≤ 1000000) :
  Calls Try.prog 44 #[.pointer (some ⟨g, 0, none⟩), .agg (mcs m0 A1 c1 A2 c2)] w (StrOut w0 w g gm x seq er c vM D (rd_T25 D 0) hm T m0.f11) := by
 obtain ⟨gq, oq, cq, hvm, _⟩ := Kd.Q_form hQ hD
 obtain ⟨P, hP⟩ : ∃ P, m0.f11 = P := ⟨_, rfl⟩
 obtain ⟨m, hmm⟩ : ∃ m, rd_T25 D 0 = m := ⟨_, rfl⟩
 have hd0 : (0 : Int) < (D.length : Int) := by omega
 unfold mcs; rw [hP] at hC hc hn ⊢; rw [hmm] at hid ⊢; subst hvm; have HB := Lib.hid hb; have HQ := Lib.hid hQ; have HMM := Lib.hid hM; have HBW := Lib.hid hB; have HGG := Lib.hid hg; have HGP := Lib.hid hgm; have HID := Lib.hid hid; have HC := Lib.hid hC; have HCC := Lib.hid hc; have HN := Lib.hid hn; have HME := Lib.hid hmm; clear hb hQ hM hB hg hgm hid hC hc hn hmm hP
 obtain ⟨bv, hbs⟩ : ∃ bv, bv = #[Value.int .i64 m0.f0, .int .i64 m0.f1, .int .i64 m0.f2, .int .i64 m0.f3, .int .i64 m0.f4, .string m0.f5, .int .i64 m0.f6, .int .i64 m0.f7.f0, .int .i64 m0.f7.f1, .int .i64 m0.f8.f0, .int .u64 m0.f8.f1, .int .u64 m0.f8.f2, .int .i64 m0.f9, .bool m0.f10, .slice A1 P.length c1, .slice A2 m0.f12.length c2] := ⟨_, rfl⟩
 have HBS := Lib.hid hbs; clear hbs; go_enter Try.func44, Try.ntmps44
 go_wp2_with (first
  | ((with_reducible refine gate_dst (N := 2) rfl ?_); refine box_event rfl (N := 2) rfl (cs := #[.pointer (some ⟨g, 0, none⟩)]) (t := 36) ?hr ?_; (case hr => go_simp; done); intro gf hgf Y hboy hbY; have HY := Lib.hid (And.intro hboy hbY); clear hgf hboy hbY)
  | ((with_reducible refine gate_dst (N := 3) rfl ?_); refine box_event rfl (N := 3) rfl (cs := #[.int .i64 m0.f0, .int .i64 m0.f1, .int .i64 m0.f2, .int .i64 m0.f3, .int .i64 m0.f4, .string m0.f5, .int .i64 m0.f6, .int .i64 m0.f7.f0, .int .i64 m0.f7.f1, .int .i64 m0.f8.f0, .int .u64 m0.f8.f1, .int .u64 m0.f8.f2, .int .i64 m0.f9, .bool m0.f10, .slice A1 P.length c1, .slice A2 m0.f12.length c2]) (t := 46) ?hr ?_; (case hr => go_simp; done); intro gx hgx Y2 hbox0 hbX; have hbox : Y2.heap[gx]? = some (.cells bv 46 (0, 0)) := (by rw [HBS.out]; exact hbox0); have HY2 := Lib.hid (below_then HY.out.2 HY.out.2.size hbX); have HX2 := Lib.hid hbox; have HF2 := Lib.hid (blk_below HY.out.1 hbX); have yf : Y2.cell? ⟨gf, 0, none⟩ = some (.pointer (some ⟨g, 0, none⟩)) := (blk_cell HF2.out 0).trans rfl; have y21 : Y2.cell? ⟨g, 21, none⟩ = some (.slice (some ⟨gq, oq, none⟩) D.length cq) := (blk_cell (blk_below HB.out HY2.out) 21).trans rfl; obtain ⟨ad, hA, p0, p1, p2, p3⟩ := at_T25 (Kd.Q_reads' (Kd.Q_below HQ.out HY2.out)).2.2 0 (by omega) hd0; cases hA; rw [HME.out] at p0 p1 p2 p3; have p0 : Y2.cell? ⟨gq, oq, none⟩ = some (.string m.f0) := (by simpa [Addr.add] using p0); have p1 : Y2.cell? ⟨gq, oq + 1, none⟩ = some (.int .i64 m.f1) := (by simpa [Addr.add] using p1); have p2 : Y2.cell? ⟨gq, oq + 2, none⟩ = some (.int .i64 m.f2) := (by simpa [Addr.add] using p2); have p3 : Y2.cell? ⟨gq, oq + 3, none⟩ = some (.int .u32 m.f3) := (by simpa [Addr.add] using p3); clear hgx hbox0 hbox hbX)
  | ((with_reducible refine gate_dst (N := 5) rfl ?_); refine box_event rfl (N := 5) rfl (cs := #[.string ⟨#[]⟩, .int .i64 0, .int .i64 0, .int .u32 0]) (t := 25) ?hr ?_; (case hr => go_simp; done); intro gz hgz Z hboz hbZ; have HZ := Lib.hid (And.intro hgz (And.intro hboz hbZ)); clear hgz hboz hbZ p0 p1 p2 p3 yf y21)
  | (refine store_blk (t := 25) (p := .tmp 5) (v := .tmp 12) (g := gz) (off := 0) (cur := #[.string ⟨#[]⟩, .int .i64 0, .int .i64 0, .int .u32 0]) (cur' := #[.string m.f0, .int .i64 m.f1, .int .i64 m.f2, .int .u32 m.f3]) (e := 25) (u := .agg #[.string m.f0, .int .i64 m.f1, .int .i64 m.f2, .int .u32 m.f3]) rfl rfl rfl rfl rfl HZ.out.2.1 (by kernel_rfl) (Nat.le_of_ble_eq_true rfl) (by rfl) (by rfl) ?_; intro Z2 hz2 hg2 hs2; have HW1 := Lib.hid (below_grow HZ.out.2.2 hg2 (Nat.le_of_eq HZ.out.1.symm)); have HZ2 := Lib.hid hz2; have x14 : Z2.cell? ⟨gx, 14, none⟩ = some (.slice A1 P.length c1) := (blk_cell (blk_below HX2.out HW1.out) 14).trans (by rw [HBS.out]; rfl); clear hz2 hg2 hs2))
 have HBZ := Lib.hid (below_then HY2.out HY2.out.size HW1.out); have hck := check_calls Z2 A1 c1 P (Kd.C_below HC.out HBZ.out) HCC.out
 obtain ⟨ck, hcke⟩ : ∃ ck, chkP P = ck := ⟨_, rfl⟩
 rw [hcke] at hck; have HCK := Lib.hid hck; have HCE := Lib.hid hcke; clear hck hcke; with_reducible refine HCK.out.mono ?_
 rintro e w3 ⟨rfl, hb3⟩; have HB3Z := Lib.hid hb3; have HBW3 := Lib.hid (below_then HBZ.out HBZ.out.size hb3); clear hb3 x14 HCK
 by_cases hk : ck = 0
 case neg =>
  have d1 : (ck != 0) = true := bne_iff_ne.2 hk; have HOK := Lib.hid (show okP m x.sz P = false by unfold okP; rw [HCE.out, beq_eq_false_iff_ne.2 hk]; rfl); clear hk; go_wp2; go_ret; unfold StrOut; exact ⟨by rw [HOK.out]; rfl, fun _ => HBW3.out, fun h => by rw [HOK.out] at h; cases h⟩
 case pos =>
 have d1 : (ck != 0) = false := by rw [hk]; rfl
 have HGF3 := Lib.hid (blk_below (blk_below HF2.out HW1.out) HB3Z.out); have HGZ3 := Lib.hid (blk_below HZ2.out HB3Z.out); have HGX3 := Lib.hid (blk_below (blk_below HX2.out HW1.out) HB3Z.out); have HGB3 := Lib.hid (blk_below HB.out HBW3.out); have hcn := contains_calls w3 A1 c1 P (Kd.C_below HC.out HBW3.out) (by have := HN.out; omega) (oddP m.f1 x.sz) gz gf (fun W hW q => odd_calls W q gz gf g m.f1 x.sz ((blk_cell (blk_below HGZ3.out hW) 1).trans rfl) ((blk_cell (blk_below HGF3.out hW) 0).trans rfl) ((blk_cell (blk_below HGB3.out hW) 20).trans rfl))
 obtain ⟨an, han⟩ : ∃ an, P.any (oddP m.f1 x.sz) = an := ⟨_, rfl⟩
 rw [han] at hcn; have HCN := Lib.hid hcn; have HOK := Lib.hid (show okP m x.sz P = !an by unfold okP; rw [HCE.out, hk, han]; rfl); have y14 : w3.cell? ⟨gx, 14, none⟩ = some (.slice A1 P.length c1) := (blk_cell HGX3.out 14).trans (by rw [HBS.out]; rfl); clear hcn han hk; go_wp2_with fail
 with_reducible refine HCN.out.mono ?_
 rintro e w1 ⟨rfl, hb1⟩; have HB1Z := Lib.hid hb1; have HBX1 := Lib.hid (below_then HBW3.out HBW3.out.size hb1); clear hb1 y14 HCN d1
 cases an with
 | true =>
  go_wp2; go_ret; unfold StrOut
  exact ⟨by rw [HOK.out]; rfl, fun _ => HBX1.out, fun h => by rw [HOK.out] at h; cases h⟩
 | false =>
  have HGF := Lib.hid (blk_below HGF3.out HB1Z.out); have HGZ := Lib.hid (blk_below HGZ3.out HB1Z.out); have HGX := Lib.hid (blk_below HGX3.out HB1Z.out); have HGB := Lib.hid (blk_below HB.out HBX1.out); have HRP := Lib.hid (fun W (hW : Below w1.heap.size w1 W) => (show ReadsRow (k42.K w1) 3 W A1 P.length P from ReadsRow.imp_ (Kd.C_below HC.out HBX1.out) hW (fun _ _ h => h))); have HHM := Lib.hid (fun W (hW : Below w1.heap.size w1 W) => ((HMM.out.below HBX1.out).below hW).cur_R m.f0); have HB1W := Lib.hid (fun W (hW : Below w1.heap.size w1 W) => below_then (below_then HBW.out HBW.out.size HBX1.out) (below_then HBW.out HBW.out.size HBX1.out).size hW); have HLP := Lib.hid (show ((cur hm m.f0).2.length + P.length) * 24 ≤ 140737488355328 by have h1 := HMM.out.cur_len m.f0; have h3 := HN.out; omega); have HSTEP := Lib.hid (fun W (hW : Below w1.heap.size w1 W) v1 w2 hR hg hat => ((HMM.out.below HBX1.out).below hW).step (w1 := w2) (v1 := v1) (ps := P) (n := P.length + 1) m.f0 HID.out hR hg hat (by have := HN.out; omega) (Nat.le_succ _) (Nat.succ_le_succ (Nat.zero_le _))); have HFTT := Lib.hid (fun W (hW : Below w1.heap.size w1 W) (v1 : Value) (w2 X3 : World) (hg : W.grownBy w2 (cur hm m.f0).1.ownBlock) (hat : v1.ownBlock = (cur hm m.f0).1.ownBlock ∨ ∃ b, v1.ownBlock = some b ∧ W.heap.size ≤ b) (hg3 : w2.grownBy X3 (some gm)) => (Ft.of_below hW gm hm).then_ (Ft.put (i := m.f0) (ps := P) hg hat hg3)); have HOTH := Lib.hid (fun W (hW : Below w1.heap.size w1 W) (w2 : World) (hg : W.grownBy w2 (cur hm m.f0).1.ownBlock) => (show ∀ k o, w1.heap[k]? = some o → (∀ cells, o ≠ .cells cells 42 (0, 0)) → w2.heap[k]? = some o from fun k o h1 h2 => (hg.block k (blk_lt (blk_below h1 hW)) (fun e => by obtain ⟨cc, hh⟩ := Hm.R97_cells (((HMM.out.below HBX1.out).below hW).cur_R m.f0) k e.symm; rw [blk_below h1 hW] at hh; exact h2 cc (Option.some.inj hh))).trans (blk_below h1 hW))); have HLKK := Lib.hid (fun W (hW : Below w1.heap.size w1 W) (w2 : World) (hg : W.grownBy w2 (cur hm m.f0).1.ownBlock) => HMap.look (w := w2) (XM.MapIs.kept ((HMM.out.below HBX1.out).below hW).map hg (fun e => by obtain ⟨cc, hc⟩ := Hm.R97_cells (((HMM.out.below HBX1.out).below hW).cur_R m.f0) gm e.symm; exact XM.MapIs.noCells ((HMM.out.below HBX1.out).below hW).map hc rfl)) m.f0 HID.out)
  have HQQ := Lib.hid (fun W (hW : Below w1.heap.size w1 W) (w2 X3 : World) (hg : W.grownBy w2 (cur hm m.f0).1.ownBlock) (hg3 : w2.grownBy X3 (some gm)) => Kd.Q_grown1 (Kd.Q_grown2 (Kd.Q_below (Kd.Q_below HQ.out HBX1.out) hW) rfl hg (fun k hk e => by
    obtain ⟨cc, hh⟩ := Hm.R97_cells (((HMM.out.below HBX1.out).below hW).cur_R m.f0) k hk; obtain ⟨cells, hh2⟩ := Kd.Q_typed (Kd.Q_below (Kd.Q_below HQ.out HBX1.out) hW) k e.symm; rw [hh] at hh2
    cases hh2)) rfl hg3 (fun e => by
    obtain ⟨cells, hh2⟩ := Kd.Q_typed (Kd.Q_below HQ.out HBX1.out) gm e.symm
    exact XM.MapIs.noCells (HMM.out.below HBX1.out).map hh2 rfl))
  have HNM := Lib.hid (show ∀ k cells t, w1.heap[k]? = some (.cells cells t (0, 0)) → k ≠ gm from fun k cells t h e => XM.MapIs.noCells (HMM.out.below HBX1.out).map (by rw [← e]; exact h) rfl); have zf : w1.cell? ⟨gf, 0, none⟩ = some (.pointer (some ⟨g, 0, none⟩)) := (blk_cell HGF.out 0).trans rfl; have z23 : w1.cell? ⟨g, 23, none⟩ = some (.map (some gm)) := (blk_cell HGB.out 23).trans rfl; have zz : w1.cell? ⟨gz, 0, none⟩ = some (.string m.f0) := (blk_cell HGZ.out 0).trans rfl; have z14 : w1.cell? ⟨gx, 14, none⟩ = some (.slice A1 P.length c1) := (blk_cell HGX.out 14).trans (by rw [HBS.out]; rfl); have zl := HMap.look ((HMM.out.below HBX1.out).below (below_drew (Below.refl _ _))).map m.f0 HID.out; go_wp2_with fail
  refine start_ (n := 17) (S := fun w' => w'.cell? ⟨gf, 0, none⟩ = some (.pointer (some ⟨g, 0, none⟩)) ∧ w'.cell? ⟨g, 23, none⟩ = some (.map (some gm)) ∧ w'.cell? ⟨gz, 0, none⟩ = some (.string m.f0) ∧ w'.cell? ⟨gx, 14, none⟩ = some (.slice A1 P.length c1) ∧ (Instr.lookup 74 (.map (some gm)) (.string m.f0) false).run Try.prog w' = .ok (cur hm m.f0).1 w') (ds := [16]) #[false, false, false, false, false, false, false, false, false, false, false, false, false, false, false, false, false] (by kernel_rfl) rfl rfl ⟨zf, z23, zz, z14, zl⟩ (fun hHeld => ?_); refine with_tabW PStr5.tab5 PStr5.bits5 (fun HT_ HW_ => ?_); refine pure_ (i := 4) (N := some 28) (v := ?_) (a' := ?_) #[false, false, false, false, true, false, false, false, false, false, false, false, false, false, false, false, false] rfl rfl (any_of HT_.out (by kernel_rfl)) (fun _ _ _ h => h) (Or.inl ⟨by rfl, ?_⟩) ?_ ?_; rotate_left
  ·
   intro w'; go_simp; with_reducible rfl
  rotate_left
  ·
   simp only [Act.put, List.setIfInBounds_toArray, List.set_cons_zero, List.set_cons_succ, i64_w, i32_w]; rfl
  refine pure_ (i := 10) (N := some 34) (v := ?_) (a' := ?_) #[false, false, false, false, true, false, false, false, false, false, true, false, false, false, false, false, false] rfl rfl (any_of HT_.out (by kernel_rfl)) (fun _ _ _ h => h) (Or.inl ⟨by rfl, ?_⟩) ?_ ?_; rotate_left
  ·
   intro w'; go_simp; with_reducible rfl
  rotate_left
  ·
   simp only [Act.put, List.setIfInBounds_toArray, List.set_cons_zero, List.set_cons_succ, i64_w, i32_w]; rfl
  refine pure_ (i := 13) (N := some 37) (v := ?_) (a' := ?_) #[false, false, false, false, true, false, false, false, false, false, true, false, false, true, false, false, false] rfl rfl (any_of HT_.out (by kernel_rfl)) (fun _ _ _ h => h) (Or.inl ⟨by rfl, ?_⟩) ?_ ?_; rotate_left
  ·
   intro w'; go_simp; with_reducible rfl
  rotate_left
  ·
   simp only [Act.put, List.setIfInBounds_toArray, List.set_cons_zero, List.set_cons_succ, i64_w, i32_w]; rfl
  refine take_ (i := 0) (N := some 24) (v := ?_) (a' := ?_) #[true, false, false, false, true, false, false, false, false, false, true, false, false, true, false, false, false] rfl rfl (take_ofW HT_.out HW_.out (by kernel_rfl)) (fun _ _ _ h => h) (Or.inl ⟨by rfl, ?_⟩) hHeld ?_ ?_; rotate_left
  ·
   rintro w' ⟨s0, s1, s2, s3, s4⟩; go_simp; with_reducible rfl
  rotate_left
  ·
   simp only [Act.put, List.setIfInBounds_toArray, List.set_cons_zero, List.set_cons_succ, i64_w, i32_w]; rfl
  refine pure_ (i := 1) (N := some 25) (v := ?_) (a' := ?_) #[true, true, false, false, true, false, false, false, false, false, true, false, false, true, false, false, false] rfl rfl (any_of HT_.out (by kernel_rfl)) (fun _ _ _ h => h) (Or.inl ⟨by rfl, ?_⟩) ?_ ?_; rotate_left
  ·
   intro w'; go_simp; with_reducible rfl
  rotate_left
  ·
   simp only [Act.put, List.setIfInBounds_toArray, List.set_cons_zero, List.set_cons_succ, i64_w, i32_w]; rfl
  refine pure_ (i := 2) (N := some 26) (v := ?_) (a' := ?_) #[true, true, true, false, true, false, false, false, false, false, true, false, false, true, false, false, false] rfl rfl (any_of HT_.out (by kernel_rfl)) (fun _ _ _ h => h) (Or.inl ⟨by rfl, ?_⟩) ?_ ?_; rotate_left
  ·
   intro w'; go_simp; with_reducible rfl
  rotate_left
  ·
   simp only [Act.put, List.setIfInBounds_toArray, List.set_cons_zero, List.set_cons_succ, i64_w, i32_w]; rfl
  refine take_ (i := 3) (N := some 27) (v := ?_) (a' := ?_) #[true, true, true, true, true, false, false, false, false, false, true, false, false, true, false, false, false] rfl rfl (take_ofW HT_.out HW_.out (by kernel_rfl)) (fun _ _ _ h => h) (Or.inl ⟨by rfl, ?_⟩) hHeld ?_ ?_; rotate_left
  ·
   rintro w' ⟨s0, s1, s2, s3, s4⟩; go_simp; with_reducible rfl
  rotate_left
  ·
   simp only [Act.put, List.setIfInBounds_toArray, List.set_cons_zero, List.set_cons_succ, i64_w, i32_w]; rfl
  refine take_ (i := 5) (N := some 29) (v := ?_) (a' := ?_) #[true, true, true, true, true, true, false, false, false, false, true, false, false, true, false, false, false] rfl rfl (take_ofW HT_.out HW_.out (by kernel_rfl)) (fun _ _ _ h => h) (Or.inl ⟨by rfl, ?_⟩) hHeld ?_ ?_; rotate_left
  ·
   rintro w' ⟨s0, s1, s2, s3, s4⟩; go_simp; with_reducible rfl
  rotate_left
  ·
   simp only [Act.put, List.setIfInBounds_toArray, List.set_cons_zero, List.set_cons_succ, i64_w, i32_w]; rfl
  refine take_ (i := 6) (N := some 30) (v := ?_) (a' := ?_) #[true, true, true, true, true, true, true, false, false, false, true, false, false, true, false, false, false] rfl rfl (take_ofW HT_.out HW_.out (by kernel_rfl)) (fun _ _ _ h => h) (Or.inl ⟨by rfl, ?_⟩) hHeld ?_ ?_; rotate_left
  ·
   rintro w' ⟨s0, s1, s2, s3, s4⟩; go_simp; with_reducible rfl
  rotate_left
  ·
   simp only [Act.put, List.setIfInBounds_toArray, List.set_cons_zero, List.set_cons_succ, i64_w, i32_w]; rfl
  refine pure_ (i := 7) (N := some 31) (v := ?_) (a' := ?_) #[true, true, true, true, true, true, true, true, false, false, true, false, false, true, false, false, false] rfl rfl (any_of HT_.out (by kernel_rfl)) (fun _ _ _ h => h) (Or.inl ⟨by rfl, ?_⟩) ?_ ?_; rotate_left
  ·
   intro w'; go_simp; with_reducible rfl
  rotate_left
  ·
   simp only [Act.put, List.setIfInBounds_toArray, List.set_cons_zero, List.set_cons_succ, i64_w, i32_w]; rfl
  refine pure_ (i := 8) (N := some 32) (v := ?_) (a' := ?_) #[true, true, true, true, true, true, true, true, true, false, true, false, false, true, false, false, false] rfl rfl (any_of HT_.out (by kernel_rfl)) (fun _ _ _ h => h) (Or.inl ⟨by rfl, ?_⟩) ?_ ?_; rotate_left
  ·
   intro w'; go_simp; with_reducible rfl
  rotate_left
  ·
   simp only [Act.put, List.setIfInBounds_toArray, List.set_cons_zero, List.set_cons_succ, i64_w, i32_w]; rfl
  refine take_ (i := 9) (N := some 33) (v := ?_) (a' := ?_) #[true, true, true, true, true, true, true, true, true, true, true, false, false, true, false, false, false] rfl rfl (take_ofW HT_.out HW_.out (by kernel_rfl)) (fun _ _ _ h => h) (Or.inl ⟨by rfl, ?_⟩) hHeld ?_ ?_; rotate_left
  ·
   rintro w' ⟨s0, s1, s2, s3, s4⟩; go_simp; with_reducible rfl
  rotate_left
  ·
   simp only [Act.put, List.setIfInBounds_toArray, List.set_cons_zero, List.set_cons_succ, i64_w, i32_w]; rfl
  refine take_ (i := 11) (N := some 35) (v := ?_) (a' := ?_) #[true, true, true, true, true, true, true, true, true, true, true, true, false, true, false, false, false] rfl rfl (take_ofW HT_.out HW_.out (by kernel_rfl)) (fun _ _ _ h => h) (Or.inl ⟨by rfl, ?_⟩) hHeld ?_ ?_; rotate_left
  ·
   rintro w' ⟨s0, s1, s2, s3, s4⟩; go_simp; with_reducible rfl
  rotate_left
  ·
   simp only [Act.put, List.setIfInBounds_toArray, List.set_cons_zero, List.set_cons_succ, i64_w, i32_w]; rfl
  refine take_ (i := 12) (N := some 36) (v := ?_) (a' := ?_) #[true, true, true, true, true, true, true, true, true, true, true, true, true, true, false, false, false] rfl rfl (take_ofW HT_.out HW_.out (by kernel_rfl)) (fun _ _ _ h => h) (Or.inl ⟨by rfl, ?_⟩) hHeld ?_ ?_; rotate_left
  ·
   rintro w' ⟨s0, s1, s2, s3, s4⟩; go_simp; with_reducible rfl
  rotate_left
  ·
   simp only [Act.put, List.setIfInBounds_toArray, List.set_cons_zero, List.set_cons_succ, i64_w, i32_w]; rfl
  refine take_ (i := 14) (N := some 38) (v := ?_) (a' := ?_) #[true, true, true, true, true, true, true, true, true, true, true, true, true, true, true, false, false] rfl rfl (take_ofW HT_.out HW_.out (by kernel_rfl)) (fun _ _ _ h => h) (Or.inl ⟨by rfl, ?_⟩) hHeld ?_ ?_; rotate_left
  ·
   rintro w' ⟨s0, s1, s2, s3, s4⟩; go_simp; with_reducible rfl
  rotate_left
  ·
   simp only [Act.put, List.setIfInBounds_toArray, List.set_cons_zero, List.set_cons_succ, i64_w, i32_w]; rfl
  refine one_ (i := 15) (N := some 39) #[true, true, true, true, true, true, true, true, true, true, true, true, true, true, true, true, false] rfl rfl (one_of HT_.out (by kernel_rfl)) (by decide) (fun K hK => ?_); refine Kd.R_append_rows_step k42 (Rr := k42.K w1) (w0 := w0) w0.heap.size (by rfl) (.tmp 36) (.tmp 38) 44 42 (.agg #[.int .i64 0, .int .u64 0, .int .u64 0]) 24 (by rfl) Try.underlying44 info42 (by rfl) (by decide) (by decide) (cur hm m.f0).1 (cur hm m.f0).2 P A1 P.length c1 (fun _ => True) (fun _ => False) (by rfl) (by rfl) (HHM.out _ (below_drew (Below.refl _ _))) (HRP.out _ (below_drew (Below.refl _ _))) (fun x cs h => by obtain rfl := k42_open h; exact k42_mkM _ _ _ _) (fun _ h => h.elim) (fun _ _ => trivial) (HB1W.out _ (below_drew (Below.refl _ _))) (HB1W.out _ (below_drew (Below.refl _ _))).size HLP.out ?_; intro v5 w2 hR5 hB5 hg5 hat5; obtain ⟨X3, hrun, hHM3, hg3, hs3⟩ := HSTEP.out _ (below_drew (Below.refl _ _)) v5 w2 hR5 hg5 hat5; have HFT := Lib.hid (HFTT.out _ (below_drew (Below.refl _ _)) v5 w2 X3 hg5 hat5 hg3); have HQ3 := Lib.hid (HQQ.out _ (below_drew (Below.refl _ _)) w2 X3 hg5 hg3); have HB3 := Lib.hid (hB5.grown hg3 hB5.size (fun k hk => by cases hk; exact HGP.out)); have HM3 := Lib.hid hHM3; have HOT := Lib.hid (HOTH.out _ (below_drew (Below.refl _ _)) w2 hg5); have hl5 := HLKK.out _ (below_drew (Below.refl _ _)) w2 hg5; have HOX := Lib.hid (show ∀ k o, w1.heap[k]? = some o → (∀ cells, o ≠ .cells cells 42 (0, 0)) → k ≠ gm → X3.heap[k]? = some o from fun k o h1 h2 h3 => blk_other (HOT.out k o h1 h2) hg3 h3); clear hR5 hB5 hg5 hat5 hHM3 hg3 hs3; refine hK.out _ _ ⟨((blk_cell (HOT.out _ _ HGF.out (fun _ e => by cases e)) 0).trans rfl), ((blk_cell (HOT.out _ _ HGB.out (fun _ e => by cases e)) 23).trans rfl), ((blk_cell (HOT.out _ _ HGZ.out (fun _ e => by cases e)) 0).trans rfl), ((blk_cell (HOT.out _ _ HGX.out (fun _ e => by cases e)) 14).trans (by rw [HBS.out]; rfl)), hl5⟩ (fun hHeld => ?_); clear hK K; refine norm_ (a' := ?_) ?_ ?_; rotate_left
  ·
   show Act.put _ (some 39) _ = _; simp only [Act.put, List.setIfInBounds_toArray, List.set_cons_zero, List.set_cons_succ, i64_w, i32_w]; rfl
  refine last_ (i := 16) (N := none) #[true, true, true, true, true, true, true, true, true, true, true, true, true, true, true, true, true] rfl rfl (one_of HT_.out (by kernel_rfl)) (by decide) (fun K hK => ?_); refine skip_ (w1 := ?_) (by rfl) rfl ?_ ?_; rotate_left
  ·
   go_simp; rfl
  refine hK.out _ _ ?_; clear hK K; refine done_ (done_of HT_.out (by kernel_rfl)) ?_; clear zf z23 zz z14 zl hl5; have HBK3 := Lib.hid (HOX.out _ _ HGB.out (fun _ e => by cases e) (HNM.out _ _ _ HGB.out)); have xf : X3.cell? ⟨gf, 0, none⟩ = some (.pointer (some ⟨g, 0, none⟩)) := (blk_cell (HOX.out _ _ HGF.out (fun _ e => by cases e) (HNM.out _ _ _ HGF.out)) 0).trans rfl; have x21 : X3.cell? ⟨g, 21, none⟩ = some (.slice (some ⟨gq, oq, none⟩) D.length cq) := (blk_cell HBK3.out 21).trans rfl; have x21f : X3.frozen? ⟨g, 21, none⟩ = false := blk_frozen HBK3.out 21
  obtain ⟨A', hA'⟩ : ∃ A', (if cq = (1 : Int).toNat then some ⟨gq, oq, none⟩ else (some (⟨gq, oq, none⟩ : Addr)).map (·.add ((1 : Int).toNat * 4))) = A' := ⟨_, rfl⟩
  obtain ⟨n', hn'⟩ : ∃ n', D.length - (1 : Int).toNat = n' := ⟨_, rfl⟩
  obtain ⟨c', hc'⟩ : ∃ c', cq - (1 : Int).toNat = c' := ⟨_, rfl⟩
  obtain ⟨i25, hi25, hz25⟩ : ∃ i, Try.prog.info? 25 = some i ∧ i.size = 4 := ⟨_, rfl, rfl⟩
  have hsl : ∀ W : World, (Instr.slice 22 (.slice (some ⟨gq, oq, none⟩) D.length cq) (some (.int .i64 1)) none none).run Try.prog W = .ok (.slice A' n' c') W := fun W => by
   rw [← hA', ← hn', ← hc']; exact cut_from 22 25 .i64 Try.underlying22 hi25 4 hz25 (some ⟨gq, oq, none⟩) D.length cq 1 (by omega) (by omega) W
  have HQ4 := Lib.hid (show Kd.Q k25 25 X3 w0.heap.size (fun _ => True) (.slice A' n' c') (D.drop 1) from by rw [← hA', ← hn', ← hc']; exact Kd.Q_drop HQ3.out (by omega))
  have HOWN := Lib.hid (show (Value.slice A' n' c').ownBlock = some gq from by
   rw [← hA']
   split
   ·
    rfl
   ·
    simp [Value.ownBlock, Addr.add])
  clear hA' hn' hc' hi25 hz25; go_wp2_with fail
  refine start_ (n := 9) (S := fun w' => w'.cell? ⟨gf, 0, none⟩ = some (.pointer (some ⟨g, 0, none⟩)) ∧ w'.cell? ⟨g, 21, none⟩ = some (.slice (some ⟨gq, oq, none⟩) D.length cq)) (ds := [8]) #[false, false, false, false, false, false, false, false, false] (by kernel_rfl) rfl rfl ⟨xf, x21⟩ (fun hHeld => ?_); refine with_tabW PStr6.tab6 PStr6.bits6 (fun HT_ HW_ => ?_); refine take_ (i := 0) (N := some 40) (v := ?_) (a' := ?_) #[true, false, false, false, false, false, false, false, false] rfl rfl (take_ofW HT_.out HW_.out (by kernel_rfl)) (fun _ _ _ h => h) (Or.inl ⟨by rfl, ?_⟩) hHeld ?_ ?_; rotate_left
  ·
   rintro w' ⟨s0, s1⟩; go_simp; with_reducible rfl
  rotate_left
  ·
   simp only [Act.put, List.setIfInBounds_toArray, List.set_cons_zero, List.set_cons_succ, i64_w, i32_w]; rfl
  refine take_ (i := 1) (N := some 41) (v := ?_) (a' := ?_) #[true, true, false, false, false, false, false, false, false] rfl rfl (take_ofW HT_.out HW_.out (by kernel_rfl)) (fun _ _ _ h => h) (Or.inl ⟨by rfl, ?_⟩) hHeld ?_ ?_; rotate_left
  ·
   rintro w' ⟨s0, s1⟩; go_simp; with_reducible rfl
  rotate_left
  ·
   simp only [Act.put, List.setIfInBounds_toArray, List.set_cons_zero, List.set_cons_succ, i64_w, i32_w]; rfl
  refine pure_ (i := 2) (N := some 42) (v := ?_) (a' := ?_) #[true, true, true, false, false, false, false, false, false] rfl rfl (any_of HT_.out (by kernel_rfl)) (fun _ _ _ h => h) (Or.inl ⟨by rfl, ?_⟩) ?_ ?_; rotate_left
  ·
   intro w'; go_simp; with_reducible rfl
  rotate_left
  ·
   simp only [Act.put, List.setIfInBounds_toArray, List.set_cons_zero, List.set_cons_succ, i64_w, i32_w]; rfl
  refine pure_ (i := 3) (N := some 43) (v := ?_) (a' := ?_) #[true, true, true, true, false, false, false, false, false] rfl rfl (any_of HT_.out (by kernel_rfl)) (fun _ _ _ h => h) (Or.inl ⟨by rfl, ?_⟩) ?_ ?_; rotate_left
  ·
   intro w'; go_simp; with_reducible rfl
  rotate_left
  ·
   simp only [Act.put, List.setIfInBounds_toArray, List.set_cons_zero, List.set_cons_succ, i64_w, i32_w]; rfl
  refine take_ (i := 4) (N := some 44) (v := ?_) (a' := ?_) #[true, true, true, true, true, false, false, false, false] rfl rfl (take_ofW HT_.out HW_.out (by kernel_rfl)) (fun _ _ _ h => h) (Or.inl ⟨by rfl, ?_⟩) hHeld ?_ ?_; rotate_left
  ·
   rintro w' ⟨s0, s1⟩; go_simp; with_reducible rfl
  rotate_left
  ·
   simp only [Act.put, List.setIfInBounds_toArray, List.set_cons_zero, List.set_cons_succ, i64_w, i32_w]; rfl
  refine pure_ (i := 5) (N := some 45) (v := ?_) (a' := ?_) #[true, true, true, true, true, true, false, false, false] rfl rfl (any_of HT_.out (by kernel_rfl)) (fun _ _ _ h => h) (Or.inl ⟨by rfl, ?_⟩) ?_ ?_; rotate_left
  ·
   intro w'; go_simp; with_reducible rfl
  rotate_left
  ·
   simp only [Act.put, List.setIfInBounds_toArray, List.set_cons_zero, List.set_cons_succ, i64_w, i32_w]; rfl
  refine pure_ (i := 6) (N := some 46) (v := ?_) (a' := ?_) #[true, true, true, true, true, true, true, false, false] rfl rfl (any_of HT_.out (by kernel_rfl)) (fun _ _ _ h => h) (Or.inl ⟨by rfl, ?_⟩) ?_ ?_; rotate_left
  ·
   intro w'; go_simp; with_reducible rfl
  rotate_left
  ·
   simp only [Act.put, List.setIfInBounds_toArray, List.set_cons_zero, List.set_cons_succ, i64_w, i32_w]; rfl
  refine pure_ (i := 7) (N := some 47) (v := ?_) (a' := ?_) #[true, true, true, true, true, true, true, true, false] rfl rfl (any_of HT_.out (by kernel_rfl)) (fun _ _ _ h => h) (Or.inl ⟨by rfl, ?_⟩) ?_ ?_; rotate_left
  ·
   intro w'; go_simp; with_reducible rfl
  rotate_left
  ·
   simp only [Act.put, List.setIfInBounds_toArray, List.set_cons_zero, List.set_cons_succ, i64_w, i32_w]; rfl
  refine last_ (i := 8) (N := none) #[true, true, true, true, true, true, true, true, true] rfl rfl (one_of HT_.out (by kernel_rfl)) (by decide) (fun K hK => ?_); refine skip_ (w1 := ?_) (by rfl) rfl ?_ ?_; rotate_left
  ·
   go_simp; rfl
  refine hK.out _ _ ?_; clear hK K; refine done_ (done_of HT_.out (by kernel_rfl)) ?_; go_wp2; go_ret; unfold StrOut
  obtain ⟨X4, hX4, hx4, hg4⟩ : ∃ X4, X4 = (X3.setCell ⟨g, 21, none⟩ (.slice A' n' c')).drew ∧ X4.heap[g]? = some (.cells (fcells x seq c (.slice A' n' c') er gm (hf g 44) 7) 77 (0, 0)) ∧ X3.grownBy X4 (some g) :=
   ⟨_, rfl, blk_set HBK3.out 21 _, grown_drew (grown_set HBK3.out 21 _)⟩
  rw [← hX4]; refine ⟨by rw [HOK.out]; rfl, (fun h => by rw [HOK.out] at h; cases h), fun _ => ⟨v5, .slice A' n' c', hx4, ?_, ?_, below_grow HB3.out hg4 HGG.out, ?_, ?_⟩⟩
  ·
   exact Kd.Q_grown1 HQ4.out rfl hg4 (fun e => by
    obtain ⟨cells, hh2⟩ := Kd.Q_typed HQ4.out g e.symm; rw [HBK3.out] at hh2
    cases hh2)
  ·
   exact hm_set HM3.out HBK3.out (by decide) hg4
  ·
   refine Kept.of_grown hg4 ((Kept.of_below HBX1.out _).then_ HFT.out.kept (fun k hk => .inl (.inr (.inr hk)))) (fun k hk => .inl (.inl (by cases hk; rfl)))
  ·
   rintro k (h | h | h)
   ·
    exact .inl (.inl h)
   ·
    rw [HOWN.out] at h; exact .inl (.inr (.inl h))
   ·
    rcases HFT.out.own k h with h1 | h1
    ·
     exact .inl (.inr (.inr h1))
    ·
     exact .inr (Nat.le_trans HBX1.out.size h1)
end Ps
end Go.Proofs.Ytgagcimfkmegnaa
