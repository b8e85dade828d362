/- The fetch: page, of metas that may be younger than it. -/
import Derived.Test.YtgagcimfkmegnaaPPage
set_option maxHeartbeats 8000000
set_option maxRecDepth 100000
namespace Go.Proofs.Ytgagcimfkmegnaa
set_option linter.unusedVariables false
set_option linter.unusedSimpArgs false
open Go.RowKit Go.Proofs.YtgagcimfkmegnaaW.PrintWords Go.Proofs.YtgagcimfkmegnaaW.PrintLast Go.Proofs.YtgagcimfkmegnaaW.PrintMore Go.Proofs.Ytgagcimfkmegnaa.QT
namespace Ps
open Hm (Hp HM HMap cur put Sh Ft)
theorem page_callsV (w0 w : World) (g gm : Nat) (vM0 : Value) (x : Fx) (seq er : Int) (c0 : Me) (L0 : List Me) (m0 : S46) (A1 : Option Addr) (c1 : Nat) (A2 : Option Addr) (c2 : Nat)
  (hb : w.heap[g]? = some (.cells (fcells x seq c0 vM0 er gm (hf g 29) 5) 77 (0, 0))) (hR : Kd.R k25 25 w w0.heap.size (fun _ => True) vM0 L0) (hB : Below w0.heap.size w0 w) (hg : w0.heap.size ≤ g) (hC : ∀ W, Kept w W (fun k => k = g ∨ vM0.ownBlock = some k) → Kd.C k25 W A2 m0.f12.length m0.f12) (hn : L0.length + m0.f12.length ≤ 1000000) :
  Calls Try.prog 29 #[.pointer (some ⟨g, 0, none⟩), .agg (mcs m0 A1 c1 A2 c2)] w (PageOut w0 w g gm x seq er vM0 c0 L0 m0.f10 m0.f12) := by
 have HC := Lib.hid hC; have HN := Lib.hid hn; have HPX := Lib.hid (fun (gx : Nat) (Y : World) (hy : Y.heap[gx]? = some (.cells (mcs m0 A1 c1 A2 c2) 46 (0, 0))) (hY : Below w.heap.size w Y) => (⟨blk_below hb hY, hy, Kd.R_below hR hY, below_then hB hB.size hY, Kept.of_below hY _, fun k hk => .inl hk, hg⟩ : PM w0 w Y g gx gm x seq er (mcs m0 A1 c1 A2 c2) vM0 c0 L0 vM0 (hf g 29) 5))
 obtain ⟨ms, hms⟩ : ∃ ms, m0.f12 = ms := ⟨_, rfl⟩
 obtain ⟨more, hmore⟩ : ∃ more, m0.f10 = more := ⟨_, rfl⟩
 unfold mcs at HPX ⊢; rw [hms] at HC HN HPX ⊢; rw [hmore] at HPX ⊢; clear hb hR hB hg hC hn hms hmore
 obtain ⟨q0, hq0⟩ : ∃ q0, ((ms.length : Int) == 0) = q0 := ⟨_, rfl⟩
 obtain ⟨bv, hbs⟩ : ∃ bv, #[Value.int .i64 m0.f0, .int .i64 m0.f1, .int .i64 m0.f2, .int .i64 m0.f3, .int .i64 m0.f4, .string m0.f5, .int .i64 m0.f6, .int .i64 m0.f7.f0, .int .i64 m0.f7.f1, .int .i64 m0.f8.f0, .int .u64 m0.f8.f1, .int .u64 m0.f8.f2, .int .i64 m0.f9, .bool more, .slice A1 m0.f11.length c1, .slice A2 ms.length c2] = bv := ⟨_, rfl⟩
 have HBS := Lib.hid hbs.symm; rw [hbs] at HPX; have BX := Lib.hid (show ∀ (gx : Nat) (Y : World), Y.heap[gx]? = some (.cells bv 46 (0, 0)) → Y.cell? ⟨gx, 13, none⟩ = some (.bool more) ∧ Y.cell? ⟨gx, 15, none⟩ = some (.slice A2 ms.length c2) from fun gx Y hy => ⟨(blk_cell hy 13).trans (by rw [← hbs]; rfl), (blk_cell hy 15).trans (by rw [← hbs]; rfl)⟩); clear hbs
 cases hmo : (more && q0) with
 | true =>
  have hm1 : more = true := by cases more <;> simp_all
  have hm2 : q0 = true := by cases q0 <;> simp_all
  subst hm1 hm2; have HE := Lib.hid (show pageA c0.f1 c0.f0 L0 true ms = ((c0.f1, c0.f0, L0), false) by unfold pageA; rw [hq0]; rfl); clear hmo; go_enter Try.func29, Try.ntmps29
  go_wp2_with (first
   | ((with_reducible refine gate_dst (N := 3) rfl ?_); refine box_event rfl (N := 3) rfl (cs := #[.int .i64 m0.f0, .int .i64 m0.f1, .int .i64 m0.f2, .int .i64 m0.f3, .int .i64 m0.f4, .string m0.f5, .int .i64 m0.f6, .int .i64 m0.f7.f0, .int .i64 m0.f7.f1, .int .i64 m0.f8.f0, .int .u64 m0.f8.f1, .int .u64 m0.f8.f2, .int .i64 m0.f9, .bool true, .slice A1 m0.f11.length c1, .slice A2 ms.length c2]) (t := 46) ?hr ?_; (case hr => go_simp; done); intro gx hgx Y hboy0 hbY; have hboy : Y.heap[gx]? = some (.cells bv 46 (0, 0)) := (by rw [HBS.out]; exact hboy0); clear hboy0; have HY := Lib.hid (And.intro hboy hbY); have y13 := (BX.out gx Y hboy).1; have y15 := (BX.out gx Y hboy).2; clear hgx hboy hbY))
  go_ret; unfold PageOut
  exact ⟨gx, bv, c0, L0, vM0, false, rfl, HE.out.symm, HPX.out gx Y HY.out.1 HY.out.2⟩
 | false =>
  have HE := Lib.hid (show pageA c0.f1 c0.f0 L0 more ms = pageF c0.f1 c0.f0 L0 ms by unfold pageA; rw [hq0, hmo]; rfl); cases more <;> cases q0 <;> simp only [Bool.and_true, Bool.and_false, Bool.true_and, Bool.false_and, Bool.true_eq_false, Bool.false_eq_true] at hmo
  case true.false =>
   clear hmo; go_enter Try.func29, Try.ntmps29
   go_wp2_with (first
    | ((with_reducible refine gate_dst (N := 3) rfl ?_); refine box_event rfl (N := 3) rfl (cs := #[.int .i64 m0.f0, .int .i64 m0.f1, .int .i64 m0.f2, .int .i64 m0.f3, .int .i64 m0.f4, .string m0.f5, .int .i64 m0.f6, .int .i64 m0.f7.f0, .int .i64 m0.f7.f1, .int .i64 m0.f8.f0, .int .u64 m0.f8.f1, .int .u64 m0.f8.f2, .int .i64 m0.f9, .bool true, .slice A1 m0.f11.length c1, .slice A2 ms.length c2]) (t := 46) ?hr ?_; (case hr => go_simp; done); intro gx hgx Y hboy0 hbY; have hboy : Y.heap[gx]? = some (.cells bv 46 (0, 0)) := (by rw [HBS.out]; exact hboy0); clear hboy0; have HY := Lib.hid (And.intro hboy hbY); have y13 := (BX.out gx Y hboy).1; have y15 := (BX.out gx Y hboy).2; clear hgx hboy hbY))
   have HP := Lib.hid (HPX.out gx Y HY.out.1 HY.out.2); clear y13 y15; go_loopg [6, 18] ms.length (fun gn v6 v18 wr => ∃ (i : Nat) (c : Me) (L : List Me) (vM : Value), v18 = .int .i64 (i : Int) ∧ Aside0 (gn = ms.length - i) ∧ Aside0 (i ≤ ms.length) ∧ Aside0 (pageF c0.f1 c0.f0 L0 ms = pageF c.f1 c.f0 L (ms.drop i)) ∧ Aside0 (L.length = L0.length + i) ∧ Aside0 (PM w0 w wr g gx gm x seq er bv vM0 c L vM (hf g 29) 5))
   case atStart => exact ⟨0, c0, L0, vM0, rfl, ⟨rfl⟩, ⟨Nat.zero_le _⟩, ⟨rfl⟩, ⟨rfl⟩, ⟨HP.out⟩⟩
   case round =>
    clear HP; obtain ⟨i, c, L, vM, rfl, HN1, HI, HRUN, HLL, HPW⟩ := hrel
    by_cases hi : i < ms.length
    ·
     have hi0 : (i : Int) < (ms.length : Int) := by omega
     have hz : (0 : Int) ≤ (i : Int) := by omega
     have hwi : wrap64 ((i : Int) + 1) = ((i + 1 : Nat) : Int) := idx i ms.length hi (by have := HN.out; omega); obtain ⟨ad, hA, p0, p1, p2, p3⟩ := at_T25 (HC.out _ HPW.out.kept) (i : Int) hz hi0; cases hA
     obtain ⟨m, hm⟩ : ∃ m, rd_T25 ms (i : Int) = m := ⟨_, rfl⟩
     rw [hm, Int.toNat_natCast] at p0 p1 p2 p3
     have hdr : ms.drop i = m :: ms.drop (i + 1) := by
      rw [List.drop_eq_getElem_cons hi, ← hm]; unfold rd_T25; rw [Int.toNat_natCast, List.getD_eq_getElem?_getD, List.getElem?_eq_getElem hi]; rfl
     have HDR := Lib.hid hdr; have HLO := Lib.hid (show (L.length + 1) * 40 ≤ 140737488355328 by have h1 := HLL.out; have h2 := HN.out; omega); clear hm hdr
     go_wp2_with (first
      | ((with_reducible refine gate_dst (N := 6) rfl ?_); refine box_event rfl (N := 6) rfl (cs := #[.string ⟨#[]⟩, .int .i64 0, .int .i64 0, .int .u32 0]) (t := 25) ?hr ?_; (case hr => go_simp; done); intro gz hgz Z hboz hbZ; have HZ := Lib.hid (And.intro hgz (And.intro hboz hbZ)); clear hgz hboz hbZ p0 p1 p2 p3)
      | (refine store_blk (t := 25) (p := .tmp 6) (v := .tmp 21) (g := gz) (off := 0) (cur := #[.string ⟨#[]⟩, .int .i64 0, .int .i64 0, .int .u32 0]) (cur' := #[.string m.f0, .int .i64 m.f1, .int .i64 m.f2, .int .u32 m.f3]) (e := 25) (u := .agg #[.string m.f0, .int .i64 m.f1, .int .i64 m.f2, .int .u32 m.f3]) rfl rfl rfl rfl rfl HZ.out.2.1 (by kernel_rfl) (Nat.le_of_ble_eq_true rfl) (by rfl) (by rfl) ?_; intro Z2 hz2 hg2 hs2; have HP2 := Lib.hid (HPW.out.below (below_grow HZ.out.2.2 hg2 (Nat.le_of_eq HZ.out.1.symm))); have HZ2 := Lib.hid hz2; have z0 : Z2.cell? ⟨gz, 0, none⟩ = some (.string m.f0) := (blk_cell hz2 0).trans rfl; have z1 : Z2.cell? ⟨gz, 1, none⟩ = some (.int .i64 m.f1) := (blk_cell hz2 1).trans rfl; have z2 : Z2.cell? ⟨gz, 2, none⟩ = some (.int .i64 m.f2) := (blk_cell hz2 2).trans rfl; have z3 : Z2.cell? ⟨gz, 3, none⟩ = some (.int .u32 m.f3) := (blk_cell hz2 3).trans rfl; have y0 : Z2.cell? ⟨g, 16, none⟩ = some (.string c.f0) := (blk_cell HP2.out.blk 16).trans rfl; have y1 : Z2.cell? ⟨g, 17, none⟩ = some (.int .i64 c.f1) := (blk_cell HP2.out.blk 17).trans rfl; have y2 : Z2.cell? ⟨g, 18, none⟩ = some (.int .i64 c.f2) := (blk_cell HP2.out.blk 18).trans rfl; have y3 : Z2.cell? ⟨g, 19, none⟩ = some (.int .u32 c.f3) := (blk_cell HP2.out.blk 19).trans rfl; clear hz2 hg2 hs2))
     cases hq : behP m c.f1 c.f0 with
     | false =>
      have HBEH := Lib.hid hq; have HFIN := Lib.hid (show pageA c0.f1 c0.f0 L0 true ms = ((c.f1, c.f0, L), false) by rw [HE.out, HRUN.out, HDR.out, pageF, if_neg (by rw [hq]; simp)]); clear hq; refine start_ (n := 7) (S := fun w' => w'.cell? ⟨gz, 0, none⟩ = some (.string m.f0) ∧ w'.cell? ⟨gz, 1, none⟩ = some (.int .i64 m.f1) ∧ w'.cell? ⟨gz, 2, none⟩ = some (.int .i64 m.f2) ∧ w'.cell? ⟨gz, 3, none⟩ = some (.int .u32 m.f3) ∧ w'.cell? ⟨g, 16, none⟩ = some (.string c.f0) ∧ w'.cell? ⟨g, 17, none⟩ = some (.int .i64 c.f1) ∧ w'.cell? ⟨g, 18, none⟩ = some (.int .i64 c.f2) ∧ w'.cell? ⟨g, 19, none⟩ = some (.int .u32 c.f3)) (ds := []) (bs 7 0) (by kernel_rfl) rfl rfl ⟨z0, z1, z2, z3, y0, y1, y2, y3⟩ (fun hHeld => ?_); refine with_tabW PPage6.tab6 PPage6.bits6 (fun HT_ HW_ => ?_); apply pv 1 23 (bs 7 2) HT_; rfl; rfl; kernel_rfl; exact qq; rfl; intro w'; go_simp; with_reducible rfl; simp only [zz]; rfl
      apply pv 2 24 (bs 7 6) HT_; rfl; rfl; kernel_rfl; exact qq; rfl; intro w'; go_simp; with_reducible rfl; simp only [zz]; rfl
      apply pv 3 25 (bs 7 14) HT_; rfl; rfl; kernel_rfl; exact qq; rfl; intro w'; go_simp; with_reducible rfl; simp only [zz]; rfl
      apply tb 0 22 (bs 7 15) HT_ HW_ hHeld; rfl; rfl; kernel_rfl; exact qq; rfl; rintro w' ⟨s0, s1, s2, s3, s4, s5, s6, s7⟩; go_simp; with_reducible rfl; simp only [zz]; rfl
      apply tb 4 26 (bs 7 31) HT_ HW_ hHeld; rfl; rfl; kernel_rfl; exact qq; rfl; rintro w' ⟨s0, s1, s2, s3, s4, s5, s6, s7⟩; go_simp; with_reducible rfl; simp only [zz]; rfl
      refine one_ (i := 5) (N := some 27) (bs 7 63) rfl rfl (one_of HT_.out (by kernel_rfl)) (by decide) (fun K hK => ?_); refine goes_ Try.func27 (by kernel_rfl) rfl #[aggM m, aggM c] (by rfl) rfl rfl (by simp only [List.map_toArray, List.map_cons, List.map_nil]; rfl) ?_; with_reducible refine ((order_calls _ m c)).mono ?_
      rintro e w5 ⟨r, rfl, hr5, hb5⟩; refine ⟨_, rfl, ?_⟩; have HP5 := Lib.hid (HP2.out.below (below_then (below_drew (Below.refl _ _)) (Nat.le_refl _) hb5)); have HZ5 := Lib.hid (blk_below HZ2.out (below_then (below_drew (Below.refl _ _)) (Nat.le_refl _) hb5)); rw [HBEH.out] at hr5; clear hb5; refine hK.out _ _ ⟨((blk_cell HZ5.out 0).trans rfl), ((blk_cell HZ5.out 1).trans rfl), ((blk_cell HZ5.out 2).trans rfl), ((blk_cell HZ5.out 3).trans rfl), ((blk_cell HP5.out.blk 16).trans rfl), ((blk_cell HP5.out.blk 17).trans rfl), ((blk_cell HP5.out.blk 18).trans rfl), ((blk_cell HP5.out.blk 19).trans rfl)⟩ (fun hHeld => ?_); clear hK K; refine norm_ (a' := ?_) ?_ ?_; rotate_left
      ·
       show Act.put _ (some 27) _ = _; simp only [Act.put, List.setIfInBounds_toArray, List.set_cons_zero, List.set_cons_succ, i64_w, i32_w]; rfl
      apply pv 6 28 (bs 7 127) HT_; rfl; rfl; kernel_rfl; exact qq; rfl; intro w'; go_simp; with_reducible rfl; simp only [zz]; rfl
      refine done_ (done_of HT_.out (by kernel_rfl)) ?_; have hr5 : decide (r ≤ 0) = true := hr5; clear z0 z1 z2 z3 y0 y1 y2 y3; go_wp2; go_ret; unfold PageOut
      exact ⟨gx, bv, c, L, vM, false, rfl, HFIN.out.symm, HP5.out⟩
     | true =>
      have HBEH := Lib.hid hq; have HRUN2 := Lib.hid (show pageF c0.f1 c0.f0 L0 ms = pageF m.f1 m.f0 (L ++ [m]) (ms.drop (i + 1)) by rw [HRUN.out, HDR.out, pageF, if_pos hq]); clear hq; refine start_ (n := 7) (S := fun w' => w'.cell? ⟨gz, 0, none⟩ = some (.string m.f0) ∧ w'.cell? ⟨gz, 1, none⟩ = some (.int .i64 m.f1) ∧ w'.cell? ⟨gz, 2, none⟩ = some (.int .i64 m.f2) ∧ w'.cell? ⟨gz, 3, none⟩ = some (.int .u32 m.f3) ∧ w'.cell? ⟨g, 16, none⟩ = some (.string c.f0) ∧ w'.cell? ⟨g, 17, none⟩ = some (.int .i64 c.f1) ∧ w'.cell? ⟨g, 18, none⟩ = some (.int .i64 c.f2) ∧ w'.cell? ⟨g, 19, none⟩ = some (.int .u32 c.f3)) (ds := []) (bs 7 0) (by kernel_rfl) rfl rfl ⟨z0, z1, z2, z3, y0, y1, y2, y3⟩ (fun hHeld => ?_); refine with_tabW PPage6.tab6 PPage6.bits6 (fun HT_ HW_ => ?_); apply pv 1 23 (bs 7 2) HT_; rfl; rfl; kernel_rfl; exact qq; rfl; intro w'; go_simp; with_reducible rfl; simp only [zz]; rfl
      apply pv 2 24 (bs 7 6) HT_; rfl; rfl; kernel_rfl; exact qq; rfl; intro w'; go_simp; with_reducible rfl; simp only [zz]; rfl
      apply pv 3 25 (bs 7 14) HT_; rfl; rfl; kernel_rfl; exact qq; rfl; intro w'; go_simp; with_reducible rfl; simp only [zz]; rfl
      apply tb 0 22 (bs 7 15) HT_ HW_ hHeld; rfl; rfl; kernel_rfl; exact qq; rfl; rintro w' ⟨s0, s1, s2, s3, s4, s5, s6, s7⟩; go_simp; with_reducible rfl; simp only [zz]; rfl
      apply tb 4 26 (bs 7 31) HT_ HW_ hHeld; rfl; rfl; kernel_rfl; exact qq; rfl; rintro w' ⟨s0, s1, s2, s3, s4, s5, s6, s7⟩; go_simp; with_reducible rfl; simp only [zz]; rfl
      refine one_ (i := 5) (N := some 27) (bs 7 63) rfl rfl (one_of HT_.out (by kernel_rfl)) (by decide) (fun K hK => ?_); refine goes_ Try.func27 (by kernel_rfl) rfl #[aggM m, aggM c] (by rfl) rfl rfl (by simp only [List.map_toArray, List.map_cons, List.map_nil]; rfl) ?_; with_reducible refine ((order_calls _ m c)).mono ?_
      rintro e w5 ⟨r, rfl, hr5, hb5⟩; refine ⟨_, rfl, ?_⟩; have HP5 := Lib.hid (HP2.out.below (below_then (below_drew (Below.refl _ _)) (Nat.le_refl _) hb5)); have HZ5 := Lib.hid (blk_below HZ2.out (below_then (below_drew (Below.refl _ _)) (Nat.le_refl _) hb5)); rw [HBEH.out] at hr5; clear hb5; refine hK.out _ _ ⟨((blk_cell HZ5.out 0).trans rfl), ((blk_cell HZ5.out 1).trans rfl), ((blk_cell HZ5.out 2).trans rfl), ((blk_cell HZ5.out 3).trans rfl), ((blk_cell HP5.out.blk 16).trans rfl), ((blk_cell HP5.out.blk 17).trans rfl), ((blk_cell HP5.out.blk 18).trans rfl), ((blk_cell HP5.out.blk 19).trans rfl)⟩ (fun hHeld => ?_); clear hK K; refine norm_ (a' := ?_) ?_ ?_; rotate_left
      ·
       show Act.put _ (some 27) _ = _; simp only [Act.put, List.setIfInBounds_toArray, List.set_cons_zero, List.set_cons_succ, i64_w, i32_w]; rfl
      apply pv 6 28 (bs 7 127) HT_; rfl; rfl; kernel_rfl; exact qq; rfl; intro w'; go_simp; with_reducible rfl; simp only [zz]; rfl
      refine done_ (done_of HT_.out (by kernel_rfl)) ?_; have hr5 : decide (r ≤ 0) = false := hr5; clear z0 z1 z2 z3 y0 y1 y2 y3; have z0 : w5.cell? ⟨gz, 0, none⟩ = some (.string m.f0) := (blk_cell HZ5.out 0).trans rfl; have z1 : w5.cell? ⟨gz, 1, none⟩ = some (.int .i64 m.f1) := (blk_cell HZ5.out 1).trans rfl; have z2 : w5.cell? ⟨gz, 2, none⟩ = some (.int .i64 m.f2) := (blk_cell HZ5.out 2).trans rfl; have z3 : w5.cell? ⟨gz, 3, none⟩ = some (.int .u32 m.f3) := (blk_cell HZ5.out 3).trans rfl
      go_wp2_with (first
       | (refine store_blk (t := 25) (p := .tmp 32) (v := .tmp 30) (g := g) (off := 16) (cur := fcells x seq c vM er gm (hf g 29) 5) (cur' := fcells x seq m vM er gm (hf g 29) 5) (e := 77) (u := .agg #[.string m.f0, .int .i64 m.f1, .int .i64 m.f2, .int .u32 m.f3]) rfl rfl rfl rfl rfl HP5.out.blk (by kernel_rfl) (Nat.le_of_ble_eq_true rfl) (by rfl) (by rfl) ?_; intro Z3 hz3 hg3 hs3; have HZ3 := Lib.hid (blk_other HZ5.out hg3 (fun e => by have h1 := HP5.out.blk; rw [← e, HZ5.out] at h1; cases h1)); have HP3 := Lib.hid (HP5.out.set hg3 hz3); clear hz3 hg3 hs3 z0 z1 z2 z3 hr5))
      have z0 : Z3.cell? ⟨gz, 0, none⟩ = some (.string m.f0) := (blk_cell HZ3.out 0).trans rfl; have z1 : Z3.cell? ⟨gz, 1, none⟩ = some (.int .i64 m.f1) := (blk_cell HZ3.out 1).trans rfl; have z2 : Z3.cell? ⟨gz, 2, none⟩ = some (.int .i64 m.f2) := (blk_cell HZ3.out 2).trans rfl; have z3 : Z3.cell? ⟨gz, 3, none⟩ = some (.int .u32 m.f3) := (blk_cell HZ3.out 3).trans rfl; have y21 : Z3.cell? ⟨g, 21, none⟩ = some vM := (blk_cell HP3.out.blk 21).trans rfl; refine start_ (n := 11) (S := fun w' => w'.cell? ⟨g, 21, none⟩ = some vM ∧ w'.cell? ⟨gz, 0, none⟩ = some (.string m.f0) ∧ w'.cell? ⟨gz, 1, none⟩ = some (.int .i64 m.f1) ∧ w'.cell? ⟨gz, 2, none⟩ = some (.int .i64 m.f2) ∧ w'.cell? ⟨gz, 3, none⟩ = some (.int .u32 m.f3)) (ds := [7, 10]) (bs 11 0) (by kernel_rfl) rfl rfl ⟨y21, z0, z1, z2, z3⟩ (fun hHeld => ?_); refine with_tabW PPage9.tab9 PPage9.bits9 (fun HT_ HW_ => ?_); apply pv 0 33 (bs 11 1) HT_; rfl; rfl; kernel_rfl; exact qq; rfl; intro w'; go_simp; with_reducible rfl; simp only [zz]; rfl
      apply pv 1 34 (bs 11 3) HT_; rfl; rfl; kernel_rfl; exact qq; rfl; intro w'; go_simp; with_reducible rfl; simp only [zz]; rfl
      apply pv 2 35 (bs 11 7) HT_; rfl; rfl; kernel_rfl; exact qq; rfl; intro w'; go_simp; with_reducible rfl; simp only [zz]; rfl
      apply pv 3 36 (bs 11 15) HT_; rfl; rfl; kernel_rfl; exact qq; rfl; intro w'; go_simp; with_reducible rfl; simp only [zz]; rfl
      apply tb 4 37 (bs 11 31) HT_ HW_ hHeld; rfl; rfl; kernel_rfl; exact qq; rfl; rintro w' ⟨s0, s1, s2, s3, s4⟩; go_simp; with_reducible rfl; simp only [zz]; rfl
      apply tb 5 38 (bs 11 63) HT_ HW_ hHeld; rfl; rfl; kernel_rfl; exact qq; rfl; rintro w' ⟨s0, s1, s2, s3, s4⟩; go_simp; with_reducible rfl; simp only [zz]; rfl
      refine one_ (i := 6) (N := some 39) (bs 11 127) rfl rfl (one_of HT_.out (by kernel_rfl)) (by decide) (fun K hK => ?_); refine value_ (w1 := ?_) (v := ?_) (by rfl) rfl ?_ ?_; rotate_left 2
      ·
       go_simp
       constructor
       ·
        rfl
       ·
        rfl
      have hBX := below_drew (below_alloc (Below.refl Z3.heap.size Z3) (.cells #[.string m.f0, .int .i64 m.f1, .int .i64 m.f2, .int .u32 m.f3] 25))
      obtain ⟨gl, hgl⟩ : ∃ gl, gl = Z3.heap.size := ⟨_, rfl⟩
      have hRL := Kd.R_drew (R_singleM Z3 m w0.heap.size gl HP3.out.bel.size hgl)
      obtain ⟨X1, hX1⟩ : ∃ X1 : World, X1 = (Z3.alloc (.cells #[.string m.f0, .int .i64 m.f1, .int .i64 m.f2, .int .u32 m.f3] 25)).drew := ⟨_, rfl⟩
      rw [← hX1] at hRL hBX; rw [← hX1, ← hgl]; have HP4 := Lib.hid (HP3.out.below hBX); have HZ4 := Lib.hid (blk_below HZ3.out hBX); have HRL := Lib.hid hRL; clear hRL hBX hX1 hgl; refine hK.out _ _ ⟨((blk_cell HP4.out.blk 21).trans rfl), ((blk_cell HZ4.out 0).trans rfl), ((blk_cell HZ4.out 1).trans rfl), ((blk_cell HZ4.out 2).trans rfl), ((blk_cell HZ4.out 3).trans rfl)⟩ (fun hHeld => ?_); clear hK K; refine norm_ (a' := ?_) ?_ ?_; rotate_left
      ·
       show Act.put _ (some 39) _ = _; simp only [Act.put, List.setIfInBounds_toArray, List.set_cons_zero, List.set_cons_succ, i64_w, i32_w]; rfl
      refine last_ (i := 7) (N := some 40) (bs 11 255) rfl rfl (one_of HT_.out (by kernel_rfl)) (by decide) (fun K hK => ?_); refine Kd.R_append_rows_step k25 (Rr := k25.K X1) (w0 := w0) w0.heap.size (by rfl) (.tmp 37) (.tmp 39) 22 25 (.agg #[.string ⟨#[]⟩, .int .i64 0, .int .i64 0, .int .u32 0]) 40 (by rfl) Try.underlying22 info25 (by rfl) (by decide) (by decide) vM L [m] (some ⟨gl, 0, none⟩) 1 1 (fun _ => True) (fun _ => False) (by rfl) (by rfl) HP4.out.row (Kd.R_reads' HRL.out).2.2 (fun x cs hk => by obtain rfl := k25_open hk; exact k25_mkM _ _ _ x) (fun _ h => h.elim) (fun _ _ => trivial) HP4.out.bel HP4.out.bel.size (by have := HLO.out; omega) ?_; intro v5 X2 hR5 hB5 hg5 hat5; obtain ⟨A5, n5, c5, rfl⟩ : ∃ A n c, v5 = .slice A n c := by obtain ⟨A, c, e⟩ := Kd.R_slice hR5; exact ⟨A, _, c, e⟩
      have HAPP := Lib.hid (HP4.out.app hg5 hat5 hR5 hB5); have hbk := (hg5.block g (blk_lt HP4.out.blk) (Kd.R_ne HP4.out.row HP4.out.blk (by decide))).trans HP4.out.blk; have e21 : X2.cell? ⟨g, 21, none⟩ = some vM := (blk_cell hbk 21).trans rfl; have e21f : X2.frozen? ⟨g, 21, none⟩ = false := blk_frozen hbk 21; clear hR5 hB5 hg5 hat5 hbk; refine hK.out _ _ ?_; clear hK K; refine norm_ (a' := ?_) ?_ ?_; rotate_left
      ·
       show Act.put _ (some 40) _ = _; simp only [Act.put, List.setIfInBounds_toArray, List.set_cons_zero, List.set_cons_succ, i64_w, i32_w]; rfl
      apply pv 8 41 (bs 11 511) HT_; rfl; rfl; kernel_rfl; exact qq; rfl; intro w'; go_simp; with_reducible rfl; simp only [zz]; rfl
      apply pv 9 42 (bs 11 1023) HT_; rfl; rfl; kernel_rfl; exact qq; rfl; intro w'; go_simp; with_reducible rfl; simp only [zz]; rfl
      refine last_ (i := 10) (N := none) (bs 11 2047) rfl rfl (one_of HT_.out (by kernel_rfl)) (by decide) (fun K hK => ?_); refine skip_ (w1 := ?_) (by rfl) rfl ?_ ?_; rotate_left
      ·
       go_simp; rfl
      refine hK.out _ _ ?_; clear hK K; refine done_ (done_of HT_.out (by kernel_rfl)) ?_
      obtain ⟨X3, hX3⟩ : ∃ X3, X2.setCell ⟨g, 21, none⟩ (.slice A5 n5 c5) = X3 := ⟨_, rfl⟩
      have happ := HAPP.out; rw [hX3] at happ ⊢; have HP9 := Lib.hid happ; have HIN := Lib.hid (show ∀ k, k = ms.length - i → ms.length - (i + 1) < k by intro k hk; omega); have HL9 := Lib.hid (show (L ++ [m]).length = L0.length + (i + 1) by rw [List.length_append, HLL.out]; simp; omega); clear happ hX3 HAPP z0 z1 z2 z3 y21 e21 e21f; go_wp2; go_roundg (ms.length - (i + 1))
      case measure => go_light; exact HIN.out _ HN1.out
      case rel => exact ⟨i + 1, m, L ++ [m], .slice A5 n5 c5, by (simp [hwi]; done), ⟨rfl⟩, ⟨hi⟩, ⟨HRUN2.out⟩, ⟨HL9.out⟩, ⟨HP9.out⟩⟩
    ·
     have hge : ¬ (i : Int) < (ms.length : Int) := by omega
     have hie : i = ms.length := by have := HI.out; omega
     have HFIN := Lib.hid (show pageA c0.f1 c0.f0 L0 true ms = ((c.f1, c.f0, L), true) by rw [HE.out, HRUN.out, hie, List.drop_length, pageF]); clear hie; have y13 := (BX.out gx wr HPW.out.bx).1; go_wp2; go_ret; unfold PageOut; exact ⟨gx, bv, c, L, vM, true, rfl, HFIN.out.symm, HPW.out⟩
  case false.true =>
   clear hmo; go_enter Try.func29, Try.ntmps29
   go_wp2_with (first
    | ((with_reducible refine gate_dst (N := 3) rfl ?_); refine box_event rfl (N := 3) rfl (cs := #[.int .i64 m0.f0, .int .i64 m0.f1, .int .i64 m0.f2, .int .i64 m0.f3, .int .i64 m0.f4, .string m0.f5, .int .i64 m0.f6, .int .i64 m0.f7.f0, .int .i64 m0.f7.f1, .int .i64 m0.f8.f0, .int .u64 m0.f8.f1, .int .u64 m0.f8.f2, .int .i64 m0.f9, .bool false, .slice A1 m0.f11.length c1, .slice A2 ms.length c2]) (t := 46) ?hr ?_; (case hr => go_simp; done); intro gx hgx Y hboy0 hbY; have hboy : Y.heap[gx]? = some (.cells bv 46 (0, 0)) := (by rw [HBS.out]; exact hboy0); clear hboy0; have HY := Lib.hid (And.intro hboy hbY); have y13 := (BX.out gx Y hboy).1; have y15 := (BX.out gx Y hboy).2; clear hgx hboy hbY))
   have HP := Lib.hid (HPX.out gx Y HY.out.1 HY.out.2); clear y13 y15; go_loopg [6, 18] ms.length (fun gn v6 v18 wr => ∃ (i : Nat) (c : Me) (L : List Me) (vM : Value), v18 = .int .i64 (i : Int) ∧ Aside0 (gn = ms.length - i) ∧ Aside0 (i ≤ ms.length) ∧ Aside0 (pageF c0.f1 c0.f0 L0 ms = pageF c.f1 c.f0 L (ms.drop i)) ∧ Aside0 (L.length = L0.length + i) ∧ Aside0 (PM w0 w wr g gx gm x seq er bv vM0 c L vM (hf g 29) 5))
   case atStart => exact ⟨0, c0, L0, vM0, rfl, ⟨rfl⟩, ⟨Nat.zero_le _⟩, ⟨rfl⟩, ⟨rfl⟩, ⟨HP.out⟩⟩
   case round =>
    clear HP; obtain ⟨i, c, L, vM, rfl, HN1, HI, HRUN, HLL, HPW⟩ := hrel
    by_cases hi : i < ms.length
    ·
     have hi0 : (i : Int) < (ms.length : Int) := by omega
     have hz : (0 : Int) ≤ (i : Int) := by omega
     have hwi : wrap64 ((i : Int) + 1) = ((i + 1 : Nat) : Int) := idx i ms.length hi (by have := HN.out; omega); obtain ⟨ad, hA, p0, p1, p2, p3⟩ := at_T25 (HC.out _ HPW.out.kept) (i : Int) hz hi0; cases hA
     obtain ⟨m, hm⟩ : ∃ m, rd_T25 ms (i : Int) = m := ⟨_, rfl⟩
     rw [hm, Int.toNat_natCast] at p0 p1 p2 p3
     have hdr : ms.drop i = m :: ms.drop (i + 1) := by
      rw [List.drop_eq_getElem_cons hi, ← hm]; unfold rd_T25; rw [Int.toNat_natCast, List.getD_eq_getElem?_getD, List.getElem?_eq_getElem hi]; rfl
     have HDR := Lib.hid hdr; have HLO := Lib.hid (show (L.length + 1) * 40 ≤ 140737488355328 by have h1 := HLL.out; have h2 := HN.out; omega); clear hm hdr
     go_wp2_with (first
      | ((with_reducible refine gate_dst (N := 6) rfl ?_); refine box_event rfl (N := 6) rfl (cs := #[.string ⟨#[]⟩, .int .i64 0, .int .i64 0, .int .u32 0]) (t := 25) ?hr ?_; (case hr => go_simp; done); intro gz hgz Z hboz hbZ; have HZ := Lib.hid (And.intro hgz (And.intro hboz hbZ)); clear hgz hboz hbZ p0 p1 p2 p3)
      | (refine store_blk (t := 25) (p := .tmp 6) (v := .tmp 21) (g := gz) (off := 0) (cur := #[.string ⟨#[]⟩, .int .i64 0, .int .i64 0, .int .u32 0]) (cur' := #[.string m.f0, .int .i64 m.f1, .int .i64 m.f2, .int .u32 m.f3]) (e := 25) (u := .agg #[.string m.f0, .int .i64 m.f1, .int .i64 m.f2, .int .u32 m.f3]) rfl rfl rfl rfl rfl HZ.out.2.1 (by kernel_rfl) (Nat.le_of_ble_eq_true rfl) (by rfl) (by rfl) ?_; intro Z2 hz2 hg2 hs2; have HP2 := Lib.hid (HPW.out.below (below_grow HZ.out.2.2 hg2 (Nat.le_of_eq HZ.out.1.symm))); have HZ2 := Lib.hid hz2; have z0 : Z2.cell? ⟨gz, 0, none⟩ = some (.string m.f0) := (blk_cell hz2 0).trans rfl; have z1 : Z2.cell? ⟨gz, 1, none⟩ = some (.int .i64 m.f1) := (blk_cell hz2 1).trans rfl; have z2 : Z2.cell? ⟨gz, 2, none⟩ = some (.int .i64 m.f2) := (blk_cell hz2 2).trans rfl; have z3 : Z2.cell? ⟨gz, 3, none⟩ = some (.int .u32 m.f3) := (blk_cell hz2 3).trans rfl; have y0 : Z2.cell? ⟨g, 16, none⟩ = some (.string c.f0) := (blk_cell HP2.out.blk 16).trans rfl; have y1 : Z2.cell? ⟨g, 17, none⟩ = some (.int .i64 c.f1) := (blk_cell HP2.out.blk 17).trans rfl; have y2 : Z2.cell? ⟨g, 18, none⟩ = some (.int .i64 c.f2) := (blk_cell HP2.out.blk 18).trans rfl; have y3 : Z2.cell? ⟨g, 19, none⟩ = some (.int .u32 c.f3) := (blk_cell HP2.out.blk 19).trans rfl; clear hz2 hg2 hs2))
     cases hq : behP m c.f1 c.f0 with
     | false =>
      have HBEH := Lib.hid hq; have HFIN := Lib.hid (show pageA c0.f1 c0.f0 L0 false ms = ((c.f1, c.f0, L), false) by rw [HE.out, HRUN.out, HDR.out, pageF, if_neg (by rw [hq]; simp)]); clear hq; refine start_ (n := 7) (S := fun w' => w'.cell? ⟨gz, 0, none⟩ = some (.string m.f0) ∧ w'.cell? ⟨gz, 1, none⟩ = some (.int .i64 m.f1) ∧ w'.cell? ⟨gz, 2, none⟩ = some (.int .i64 m.f2) ∧ w'.cell? ⟨gz, 3, none⟩ = some (.int .u32 m.f3) ∧ w'.cell? ⟨g, 16, none⟩ = some (.string c.f0) ∧ w'.cell? ⟨g, 17, none⟩ = some (.int .i64 c.f1) ∧ w'.cell? ⟨g, 18, none⟩ = some (.int .i64 c.f2) ∧ w'.cell? ⟨g, 19, none⟩ = some (.int .u32 c.f3)) (ds := []) (bs 7 0) (by kernel_rfl) rfl rfl ⟨z0, z1, z2, z3, y0, y1, y2, y3⟩ (fun hHeld => ?_); refine with_tabW PPage6.tab6 PPage6.bits6 (fun HT_ HW_ => ?_); apply pv 1 23 (bs 7 2) HT_; rfl; rfl; kernel_rfl; exact qq; rfl; intro w'; go_simp; with_reducible rfl; simp only [zz]; rfl
      apply pv 2 24 (bs 7 6) HT_; rfl; rfl; kernel_rfl; exact qq; rfl; intro w'; go_simp; with_reducible rfl; simp only [zz]; rfl
      apply pv 3 25 (bs 7 14) HT_; rfl; rfl; kernel_rfl; exact qq; rfl; intro w'; go_simp; with_reducible rfl; simp only [zz]; rfl
      apply tb 0 22 (bs 7 15) HT_ HW_ hHeld; rfl; rfl; kernel_rfl; exact qq; rfl; rintro w' ⟨s0, s1, s2, s3, s4, s5, s6, s7⟩; go_simp; with_reducible rfl; simp only [zz]; rfl
      apply tb 4 26 (bs 7 31) HT_ HW_ hHeld; rfl; rfl; kernel_rfl; exact qq; rfl; rintro w' ⟨s0, s1, s2, s3, s4, s5, s6, s7⟩; go_simp; with_reducible rfl; simp only [zz]; rfl
      refine one_ (i := 5) (N := some 27) (bs 7 63) rfl rfl (one_of HT_.out (by kernel_rfl)) (by decide) (fun K hK => ?_); refine goes_ Try.func27 (by kernel_rfl) rfl #[aggM m, aggM c] (by rfl) rfl rfl (by simp only [List.map_toArray, List.map_cons, List.map_nil]; rfl) ?_; with_reducible refine ((order_calls _ m c)).mono ?_
      rintro e w5 ⟨r, rfl, hr5, hb5⟩; refine ⟨_, rfl, ?_⟩; have HP5 := Lib.hid (HP2.out.below (below_then (below_drew (Below.refl _ _)) (Nat.le_refl _) hb5)); have HZ5 := Lib.hid (blk_below HZ2.out (below_then (below_drew (Below.refl _ _)) (Nat.le_refl _) hb5)); rw [HBEH.out] at hr5; clear hb5; refine hK.out _ _ ⟨((blk_cell HZ5.out 0).trans rfl), ((blk_cell HZ5.out 1).trans rfl), ((blk_cell HZ5.out 2).trans rfl), ((blk_cell HZ5.out 3).trans rfl), ((blk_cell HP5.out.blk 16).trans rfl), ((blk_cell HP5.out.blk 17).trans rfl), ((blk_cell HP5.out.blk 18).trans rfl), ((blk_cell HP5.out.blk 19).trans rfl)⟩ (fun hHeld => ?_); clear hK K; refine norm_ (a' := ?_) ?_ ?_; rotate_left
      ·
       show Act.put _ (some 27) _ = _; simp only [Act.put, List.setIfInBounds_toArray, List.set_cons_zero, List.set_cons_succ, i64_w, i32_w]; rfl
      apply pv 6 28 (bs 7 127) HT_; rfl; rfl; kernel_rfl; exact qq; rfl; intro w'; go_simp; with_reducible rfl; simp only [zz]; rfl
      refine done_ (done_of HT_.out (by kernel_rfl)) ?_; have hr5 : decide (r ≤ 0) = true := hr5; clear z0 z1 z2 z3 y0 y1 y2 y3; go_wp2; go_ret; unfold PageOut
      exact ⟨gx, bv, c, L, vM, false, rfl, HFIN.out.symm, HP5.out⟩
     | true =>
      have HBEH := Lib.hid hq; have HRUN2 := Lib.hid (show pageF c0.f1 c0.f0 L0 ms = pageF m.f1 m.f0 (L ++ [m]) (ms.drop (i + 1)) by rw [HRUN.out, HDR.out, pageF, if_pos hq]); clear hq; refine start_ (n := 7) (S := fun w' => w'.cell? ⟨gz, 0, none⟩ = some (.string m.f0) ∧ w'.cell? ⟨gz, 1, none⟩ = some (.int .i64 m.f1) ∧ w'.cell? ⟨gz, 2, none⟩ = some (.int .i64 m.f2) ∧ w'.cell? ⟨gz, 3, none⟩ = some (.int .u32 m.f3) ∧ w'.cell? ⟨g, 16, none⟩ = some (.string c.f0) ∧ w'.cell? ⟨g, 17, none⟩ = some (.int .i64 c.f1) ∧ w'.cell? ⟨g, 18, none⟩ = some (.int .i64 c.f2) ∧ w'.cell? ⟨g, 19, none⟩ = some (.int .u32 c.f3)) (ds := []) (bs 7 0) (by kernel_rfl) rfl rfl ⟨z0, z1, z2, z3, y0, y1, y2, y3⟩ (fun hHeld => ?_); refine with_tabW PPage6.tab6 PPage6.bits6 (fun HT_ HW_ => ?_); apply pv 1 23 (bs 7 2) HT_; rfl; rfl; kernel_rfl; exact qq; rfl; intro w'; go_simp; with_reducible rfl; simp only [zz]; rfl
      apply pv 2 24 (bs 7 6) HT_; rfl; rfl; kernel_rfl; exact qq; rfl; intro w'; go_simp; with_reducible rfl; simp only [zz]; rfl
      apply pv 3 25 (bs 7 14) HT_; rfl; rfl; kernel_rfl; exact qq; rfl; intro w'; go_simp; with_reducible rfl; simp only [zz]; rfl
      apply tb 0 22 (bs 7 15) HT_ HW_ hHeld; rfl; rfl; kernel_rfl; exact qq; rfl; rintro w' ⟨s0, s1, s2, s3, s4, s5, s6, s7⟩; go_simp; with_reducible rfl; simp only [zz]; rfl
      apply tb 4 26 (bs 7 31) HT_ HW_ hHeld; rfl; rfl; kernel_rfl; exact qq; rfl; rintro w' ⟨s0, s1, s2, s3, s4, s5, s6, s7⟩; go_simp; with_reducible rfl; simp only [zz]; rfl
      refine one_ (i := 5) (N := some 27) (bs 7 63) rfl rfl (one_of HT_.out (by kernel_rfl)) (by decide) (fun K hK => ?_); refine goes_ Try.func27 (by kernel_rfl) rfl #[aggM m, aggM c] (by rfl) rfl rfl (by simp only [List.map_toArray, List.map_cons, List.map_nil]; rfl) ?_; with_reducible refine ((order_calls _ m c)).mono ?_
      rintro e w5 ⟨r, rfl, hr5, hb5⟩; refine ⟨_, rfl, ?_⟩; have HP5 := Lib.hid (HP2.out.below (below_then (below_drew (Below.refl _ _)) (Nat.le_refl _) hb5)); have HZ5 := Lib.hid (blk_below HZ2.out (below_then (below_drew (Below.refl _ _)) (Nat.le_refl _) hb5)); rw [HBEH.out] at hr5; clear hb5; refine hK.out _ _ ⟨((blk_cell HZ5.out 0).trans rfl), ((blk_cell HZ5.out 1).trans rfl), ((blk_cell HZ5.out 2).trans rfl), ((blk_cell HZ5.out 3).trans rfl), ((blk_cell HP5.out.blk 16).trans rfl), ((blk_cell HP5.out.blk 17).trans rfl), ((blk_cell HP5.out.blk 18).trans rfl), ((blk_cell HP5.out.blk 19).trans rfl)⟩ (fun hHeld => ?_); clear hK K; refine norm_ (a' := ?_) ?_ ?_; rotate_left
      ·
       show Act.put _ (some 27) _ = _; simp only [Act.put, List.setIfInBounds_toArray, List.set_cons_zero, List.set_cons_succ, i64_w, i32_w]; rfl
      apply pv 6 28 (bs 7 127) HT_; rfl; rfl; kernel_rfl; exact qq; rfl; intro w'; go_simp; with_reducible rfl; simp only [zz]; rfl
      refine done_ (done_of HT_.out (by kernel_rfl)) ?_; have hr5 : decide (r ≤ 0) = false := hr5; clear z0 z1 z2 z3 y0 y1 y2 y3; have z0 : w5.cell? ⟨gz, 0, none⟩ = some (.string m.f0) := (blk_cell HZ5.out 0).trans rfl; have z1 : w5.cell? ⟨gz, 1, none⟩ = some (.int .i64 m.f1) := (blk_cell HZ5.out 1).trans rfl; have z2 : w5.cell? ⟨gz, 2, none⟩ = some (.int .i64 m.f2) := (blk_cell HZ5.out 2).trans rfl; have z3 : w5.cell? ⟨gz, 3, none⟩ = some (.int .u32 m.f3) := (blk_cell HZ5.out 3).trans rfl
      go_wp2_with (first
       | (refine store_blk (t := 25) (p := .tmp 32) (v := .tmp 30) (g := g) (off := 16) (cur := fcells x seq c vM er gm (hf g 29) 5) (cur' := fcells x seq m vM er gm (hf g 29) 5) (e := 77) (u := .agg #[.string m.f0, .int .i64 m.f1, .int .i64 m.f2, .int .u32 m.f3]) rfl rfl rfl rfl rfl HP5.out.blk (by kernel_rfl) (Nat.le_of_ble_eq_true rfl) (by rfl) (by rfl) ?_; intro Z3 hz3 hg3 hs3; have HZ3 := Lib.hid (blk_other HZ5.out hg3 (fun e => by have h1 := HP5.out.blk; rw [← e, HZ5.out] at h1; cases h1)); have HP3 := Lib.hid (HP5.out.set hg3 hz3); clear hz3 hg3 hs3 z0 z1 z2 z3 hr5))
      have z0 : Z3.cell? ⟨gz, 0, none⟩ = some (.string m.f0) := (blk_cell HZ3.out 0).trans rfl; have z1 : Z3.cell? ⟨gz, 1, none⟩ = some (.int .i64 m.f1) := (blk_cell HZ3.out 1).trans rfl; have z2 : Z3.cell? ⟨gz, 2, none⟩ = some (.int .i64 m.f2) := (blk_cell HZ3.out 2).trans rfl; have z3 : Z3.cell? ⟨gz, 3, none⟩ = some (.int .u32 m.f3) := (blk_cell HZ3.out 3).trans rfl; have y21 : Z3.cell? ⟨g, 21, none⟩ = some vM := (blk_cell HP3.out.blk 21).trans rfl; refine start_ (n := 11) (S := fun w' => w'.cell? ⟨g, 21, none⟩ = some vM ∧ w'.cell? ⟨gz, 0, none⟩ = some (.string m.f0) ∧ w'.cell? ⟨gz, 1, none⟩ = some (.int .i64 m.f1) ∧ w'.cell? ⟨gz, 2, none⟩ = some (.int .i64 m.f2) ∧ w'.cell? ⟨gz, 3, none⟩ = some (.int .u32 m.f3)) (ds := [7, 10]) (bs 11 0) (by kernel_rfl) rfl rfl ⟨y21, z0, z1, z2, z3⟩ (fun hHeld => ?_); refine with_tabW PPage9.tab9 PPage9.bits9 (fun HT_ HW_ => ?_); apply pv 0 33 (bs 11 1) HT_; rfl; rfl; kernel_rfl; exact qq; rfl; intro w'; go_simp; with_reducible rfl; simp only [zz]; rfl
      apply pv 1 34 (bs 11 3) HT_; rfl; rfl; kernel_rfl; exact qq; rfl; intro w'; go_simp; with_reducible rfl; simp only [zz]; rfl
      apply pv 2 35 (bs 11 7) HT_; rfl; rfl; kernel_rfl; exact qq; rfl; intro w'; go_simp; with_reducible rfl; simp only [zz]; rfl
      apply pv 3 36 (bs 11 15) HT_; rfl; rfl; kernel_rfl; exact qq; rfl; intro w'; go_simp; with_reducible rfl; simp only [zz]; rfl
      apply tb 4 37 (bs 11 31) HT_ HW_ hHeld; rfl; rfl; kernel_rfl; exact qq; rfl; rintro w' ⟨s0, s1, s2, s3, s4⟩; go_simp; with_reducible rfl; simp only [zz]; rfl
      apply tb 5 38 (bs 11 63) HT_ HW_ hHeld; rfl; rfl; kernel_rfl; exact qq; rfl; rintro w' ⟨s0, s1, s2, s3, s4⟩; go_simp; with_reducible rfl; simp only [zz]; rfl
      refine one_ (i := 6) (N := some 39) (bs 11 127) rfl rfl (one_of HT_.out (by kernel_rfl)) (by decide) (fun K hK => ?_); refine value_ (w1 := ?_) (v := ?_) (by rfl) rfl ?_ ?_; rotate_left 2
      ·
       go_simp
       constructor
       ·
        rfl
       ·
        rfl
      have hBX := below_drew (below_alloc (Below.refl Z3.heap.size Z3) (.cells #[.string m.f0, .int .i64 m.f1, .int .i64 m.f2, .int .u32 m.f3] 25))
      obtain ⟨gl, hgl⟩ : ∃ gl, gl = Z3.heap.size := ⟨_, rfl⟩
      have hRL := Kd.R_drew (R_singleM Z3 m w0.heap.size gl HP3.out.bel.size hgl)
      obtain ⟨X1, hX1⟩ : ∃ X1 : World, X1 = (Z3.alloc (.cells #[.string m.f0, .int .i64 m.f1, .int .i64 m.f2, .int .u32 m.f3] 25)).drew := ⟨_, rfl⟩
      rw [← hX1] at hRL hBX; rw [← hX1, ← hgl]; have HP4 := Lib.hid (HP3.out.below hBX); have HZ4 := Lib.hid (blk_below HZ3.out hBX); have HRL := Lib.hid hRL; clear hRL hBX hX1 hgl; refine hK.out _ _ ⟨((blk_cell HP4.out.blk 21).trans rfl), ((blk_cell HZ4.out 0).trans rfl), ((blk_cell HZ4.out 1).trans rfl), ((blk_cell HZ4.out 2).trans rfl), ((blk_cell HZ4.out 3).trans rfl)⟩ (fun hHeld => ?_); clear hK K; refine norm_ (a' := ?_) ?_ ?_; rotate_left
      ·
       show Act.put _ (some 39) _ = _; simp only [Act.put, List.setIfInBounds_toArray, List.set_cons_zero, List.set_cons_succ, i64_w, i32_w]; rfl
      refine last_ (i := 7) (N := some 40) (bs 11 255) rfl rfl (one_of HT_.out (by kernel_rfl)) (by decide) (fun K hK => ?_); refine Kd.R_append_rows_step k25 (Rr := k25.K X1) (w0 := w0) w0.heap.size (by rfl) (.tmp 37) (.tmp 39) 22 25 (.agg #[.string ⟨#[]⟩, .int .i64 0, .int .i64 0, .int .u32 0]) 40 (by rfl) Try.underlying22 info25 (by rfl) (by decide) (by decide) vM L [m] (some ⟨gl, 0, none⟩) 1 1 (fun _ => True) (fun _ => False) (by rfl) (by rfl) HP4.out.row (Kd.R_reads' HRL.out).2.2 (fun x cs hk => by obtain rfl := k25_open hk; exact k25_mkM _ _ _ x) (fun _ h => h.elim) (fun _ _ => trivial) HP4.out.bel HP4.out.bel.size (by have := HLO.out; omega) ?_; intro v5 X2 hR5 hB5 hg5 hat5; obtain ⟨A5, n5, c5, rfl⟩ : ∃ A n c, v5 = .slice A n c := by obtain ⟨A, c, e⟩ := Kd.R_slice hR5; exact ⟨A, _, c, e⟩
      have HAPP := Lib.hid (HP4.out.app hg5 hat5 hR5 hB5); have hbk := (hg5.block g (blk_lt HP4.out.blk) (Kd.R_ne HP4.out.row HP4.out.blk (by decide))).trans HP4.out.blk; have e21 : X2.cell? ⟨g, 21, none⟩ = some vM := (blk_cell hbk 21).trans rfl; have e21f : X2.frozen? ⟨g, 21, none⟩ = false := blk_frozen hbk 21; clear hR5 hB5 hg5 hat5 hbk; refine hK.out _ _ ?_; clear hK K; refine norm_ (a' := ?_) ?_ ?_; rotate_left
      ·
       show Act.put _ (some 40) _ = _; simp only [Act.put, List.setIfInBounds_toArray, List.set_cons_zero, List.set_cons_succ, i64_w, i32_w]; rfl
      apply pv 8 41 (bs 11 511) HT_; rfl; rfl; kernel_rfl; exact qq; rfl; intro w'; go_simp; with_reducible rfl; simp only [zz]; rfl
      apply pv 9 42 (bs 11 1023) HT_; rfl; rfl; kernel_rfl; exact qq; rfl; intro w'; go_simp; with_reducible rfl; simp only [zz]; rfl
      refine last_ (i := 10) (N := none) (bs 11 2047) rfl rfl (one_of HT_.out (by kernel_rfl)) (by decide) (fun K hK => ?_); refine skip_ (w1 := ?_) (by rfl) rfl ?_ ?_; rotate_left
      ·
       go_simp; rfl
      refine hK.out _ _ ?_; clear hK K; refine done_ (done_of HT_.out (by kernel_rfl)) ?_
      obtain ⟨X3, hX3⟩ : ∃ X3, X2.setCell ⟨g, 21, none⟩ (.slice A5 n5 c5) = X3 := ⟨_, rfl⟩
      have happ := HAPP.out; rw [hX3] at happ ⊢; have HP9 := Lib.hid happ; have HIN := Lib.hid (show ∀ k, k = ms.length - i → ms.length - (i + 1) < k by intro k hk; omega); have HL9 := Lib.hid (show (L ++ [m]).length = L0.length + (i + 1) by rw [List.length_append, HLL.out]; simp; omega); clear happ hX3 HAPP z0 z1 z2 z3 y21 e21 e21f; go_wp2; go_roundg (ms.length - (i + 1))
      case measure => go_light; exact HIN.out _ HN1.out
      case rel => exact ⟨i + 1, m, L ++ [m], .slice A5 n5 c5, by (simp [hwi]; done), ⟨rfl⟩, ⟨hi⟩, ⟨HRUN2.out⟩, ⟨HL9.out⟩, ⟨HP9.out⟩⟩
    ·
     have hge : ¬ (i : Int) < (ms.length : Int) := by omega
     have hie : i = ms.length := by have := HI.out; omega
     have HFIN := Lib.hid (show pageA c0.f1 c0.f0 L0 false ms = ((c.f1, c.f0, L), true) by rw [HE.out, HRUN.out, hie, List.drop_length, pageF]); clear hie; have y13 := (BX.out gx wr HPW.out.bx).1
     go_wp2_with (first
      | (refine store_blk (t := 3) (p := .tmp 52) (v := .const (.int .i64 7)) (g := g) (off := 25) (cur := fcells x seq c vM er gm (hf g 29) 5) (cur' := fcells x seq c vM er gm (hf g 29) 7) (e := 77) (u := .int .i64 7) rfl rfl rfl rfl rfl HPW.out.blk (by kernel_rfl) (Nat.le_of_ble_eq_true rfl) (by rfl) (by rfl) ?_; intro Z3 hz3 hg3 hs3; have HP3 := Lib.hid (HPW.out.set hg3 hz3); clear hz3 hg3 hs3)
      | (refine store_blk (t := 75) (p := .tmp 54) (v := .tmp 50) (g := g) (off := 24) (cur := fcells x seq c vM er gm (hf g 29) 7) (cur' := fcells x seq c vM er gm (hf g 44) 7) (e := 77) (u := hf g 44) rfl rfl rfl rfl rfl HP3.out.blk (by kernel_rfl) (Nat.le_of_ble_eq_true rfl) (by rfl) (by rfl) ?_; intro Z4 hz4 hg4 hs4; have HP4 := Lib.hid (HP3.out.set hg4 hz4); clear hz4 hg4 hs4))
     go_ret; unfold PageOut; exact ⟨gx, bv, c, L, vM, true, rfl, HFIN.out.symm, HP4.out⟩
  case false.false =>
   clear hmo; go_enter Try.func29, Try.ntmps29
   go_wp2_with (first
    | ((with_reducible refine gate_dst (N := 3) rfl ?_); refine box_event rfl (N := 3) rfl (cs := #[.int .i64 m0.f0, .int .i64 m0.f1, .int .i64 m0.f2, .int .i64 m0.f3, .int .i64 m0.f4, .string m0.f5, .int .i64 m0.f6, .int .i64 m0.f7.f0, .int .i64 m0.f7.f1, .int .i64 m0.f8.f0, .int .u64 m0.f8.f1, .int .u64 m0.f8.f2, .int .i64 m0.f9, .bool false, .slice A1 m0.f11.length c1, .slice A2 ms.length c2]) (t := 46) ?hr ?_; (case hr => go_simp; done); intro gx hgx Y hboy0 hbY; have hboy : Y.heap[gx]? = some (.cells bv 46 (0, 0)) := (by rw [HBS.out]; exact hboy0); clear hboy0; have HY := Lib.hid (And.intro hboy hbY); have y13 := (BX.out gx Y hboy).1; have y15 := (BX.out gx Y hboy).2; clear hgx hboy hbY))
   have HP := Lib.hid (HPX.out gx Y HY.out.1 HY.out.2); clear y13 y15; go_loopg [6, 18] ms.length (fun gn v6 v18 wr => ∃ (i : Nat) (c : Me) (L : List Me) (vM : Value), v18 = .int .i64 (i : Int) ∧ Aside0 (gn = ms.length - i) ∧ Aside0 (i ≤ ms.length) ∧ Aside0 (pageF c0.f1 c0.f0 L0 ms = pageF c.f1 c.f0 L (ms.drop i)) ∧ Aside0 (L.length = L0.length + i) ∧ Aside0 (PM w0 w wr g gx gm x seq er bv vM0 c L vM (hf g 29) 5))
   case atStart => exact ⟨0, c0, L0, vM0, rfl, ⟨rfl⟩, ⟨Nat.zero_le _⟩, ⟨rfl⟩, ⟨rfl⟩, ⟨HP.out⟩⟩
   case round =>
    clear HP; obtain ⟨i, c, L, vM, rfl, HN1, HI, HRUN, HLL, HPW⟩ := hrel
    by_cases hi : i < ms.length
    ·
     have hi0 : (i : Int) < (ms.length : Int) := by omega
     have hz : (0 : Int) ≤ (i : Int) := by omega
     have hwi : wrap64 ((i : Int) + 1) = ((i + 1 : Nat) : Int) := idx i ms.length hi (by have := HN.out; omega); obtain ⟨ad, hA, p0, p1, p2, p3⟩ := at_T25 (HC.out _ HPW.out.kept) (i : Int) hz hi0; cases hA
     obtain ⟨m, hm⟩ : ∃ m, rd_T25 ms (i : Int) = m := ⟨_, rfl⟩
     rw [hm, Int.toNat_natCast] at p0 p1 p2 p3
     have hdr : ms.drop i = m :: ms.drop (i + 1) := by
      rw [List.drop_eq_getElem_cons hi, ← hm]; unfold rd_T25; rw [Int.toNat_natCast, List.getD_eq_getElem?_getD, List.getElem?_eq_getElem hi]; rfl
     have HDR := Lib.hid hdr; have HLO := Lib.hid (show (L.length + 1) * 40 ≤ 140737488355328 by have h1 := HLL.out; have h2 := HN.out; omega); clear hm hdr
     go_wp2_with (first
      | ((with_reducible refine gate_dst (N := 6) rfl ?_); refine box_event rfl (N := 6) rfl (cs := #[.string ⟨#[]⟩, .int .i64 0, .int .i64 0, .int .u32 0]) (t := 25) ?hr ?_; (case hr => go_simp; done); intro gz hgz Z hboz hbZ; have HZ := Lib.hid (And.intro hgz (And.intro hboz hbZ)); clear hgz hboz hbZ p0 p1 p2 p3)
      | (refine store_blk (t := 25) (p := .tmp 6) (v := .tmp 21) (g := gz) (off := 0) (cur := #[.string ⟨#[]⟩, .int .i64 0, .int .i64 0, .int .u32 0]) (cur' := #[.string m.f0, .int .i64 m.f1, .int .i64 m.f2, .int .u32 m.f3]) (e := 25) (u := .agg #[.string m.f0, .int .i64 m.f1, .int .i64 m.f2, .int .u32 m.f3]) rfl rfl rfl rfl rfl HZ.out.2.1 (by kernel_rfl) (Nat.le_of_ble_eq_true rfl) (by rfl) (by rfl) ?_; intro Z2 hz2 hg2 hs2; have HP2 := Lib.hid (HPW.out.below (below_grow HZ.out.2.2 hg2 (Nat.le_of_eq HZ.out.1.symm))); have HZ2 := Lib.hid hz2; have z0 : Z2.cell? ⟨gz, 0, none⟩ = some (.string m.f0) := (blk_cell hz2 0).trans rfl; have z1 : Z2.cell? ⟨gz, 1, none⟩ = some (.int .i64 m.f1) := (blk_cell hz2 1).trans rfl; have z2 : Z2.cell? ⟨gz, 2, none⟩ = some (.int .i64 m.f2) := (blk_cell hz2 2).trans rfl; have z3 : Z2.cell? ⟨gz, 3, none⟩ = some (.int .u32 m.f3) := (blk_cell hz2 3).trans rfl; have y0 : Z2.cell? ⟨g, 16, none⟩ = some (.string c.f0) := (blk_cell HP2.out.blk 16).trans rfl; have y1 : Z2.cell? ⟨g, 17, none⟩ = some (.int .i64 c.f1) := (blk_cell HP2.out.blk 17).trans rfl; have y2 : Z2.cell? ⟨g, 18, none⟩ = some (.int .i64 c.f2) := (blk_cell HP2.out.blk 18).trans rfl; have y3 : Z2.cell? ⟨g, 19, none⟩ = some (.int .u32 c.f3) := (blk_cell HP2.out.blk 19).trans rfl; clear hz2 hg2 hs2))
     cases hq : behP m c.f1 c.f0 with
     | false =>
      have HBEH := Lib.hid hq; have HFIN := Lib.hid (show pageA c0.f1 c0.f0 L0 false ms = ((c.f1, c.f0, L), false) by rw [HE.out, HRUN.out, HDR.out, pageF, if_neg (by rw [hq]; simp)]); clear hq; refine start_ (n := 7) (S := fun w' => w'.cell? ⟨gz, 0, none⟩ = some (.string m.f0) ∧ w'.cell? ⟨gz, 1, none⟩ = some (.int .i64 m.f1) ∧ w'.cell? ⟨gz, 2, none⟩ = some (.int .i64 m.f2) ∧ w'.cell? ⟨gz, 3, none⟩ = some (.int .u32 m.f3) ∧ w'.cell? ⟨g, 16, none⟩ = some (.string c.f0) ∧ w'.cell? ⟨g, 17, none⟩ = some (.int .i64 c.f1) ∧ w'.cell? ⟨g, 18, none⟩ = some (.int .i64 c.f2) ∧ w'.cell? ⟨g, 19, none⟩ = some (.int .u32 c.f3)) (ds := []) (bs 7 0) (by kernel_rfl) rfl rfl ⟨z0, z1, z2, z3, y0, y1, y2, y3⟩ (fun hHeld => ?_); refine with_tabW PPage6.tab6 PPage6.bits6 (fun HT_ HW_ => ?_); apply pv 1 23 (bs 7 2) HT_; rfl; rfl; kernel_rfl; exact qq; rfl; intro w'; go_simp; with_reducible rfl; simp only [zz]; rfl
      apply pv 2 24 (bs 7 6) HT_; rfl; rfl; kernel_rfl; exact qq; rfl; intro w'; go_simp; with_reducible rfl; simp only [zz]; rfl
      apply pv 3 25 (bs 7 14) HT_; rfl; rfl; kernel_rfl; exact qq; rfl; intro w'; go_simp; with_reducible rfl; simp only [zz]; rfl
      apply tb 0 22 (bs 7 15) HT_ HW_ hHeld; rfl; rfl; kernel_rfl; exact qq; rfl; rintro w' ⟨s0, s1, s2, s3, s4, s5, s6, s7⟩; go_simp; with_reducible rfl; simp only [zz]; rfl
      apply tb 4 26 (bs 7 31) HT_ HW_ hHeld; rfl; rfl; kernel_rfl; exact qq; rfl; rintro w' ⟨s0, s1, s2, s3, s4, s5, s6, s7⟩; go_simp; with_reducible rfl; simp only [zz]; rfl
      refine one_ (i := 5) (N := some 27) (bs 7 63) rfl rfl (one_of HT_.out (by kernel_rfl)) (by decide) (fun K hK => ?_); refine goes_ Try.func27 (by kernel_rfl) rfl #[aggM m, aggM c] (by rfl) rfl rfl (by simp only [List.map_toArray, List.map_cons, List.map_nil]; rfl) ?_; with_reducible refine ((order_calls _ m c)).mono ?_
      rintro e w5 ⟨r, rfl, hr5, hb5⟩; refine ⟨_, rfl, ?_⟩; have HP5 := Lib.hid (HP2.out.below (below_then (below_drew (Below.refl _ _)) (Nat.le_refl _) hb5)); have HZ5 := Lib.hid (blk_below HZ2.out (below_then (below_drew (Below.refl _ _)) (Nat.le_refl _) hb5)); rw [HBEH.out] at hr5; clear hb5; refine hK.out _ _ ⟨((blk_cell HZ5.out 0).trans rfl), ((blk_cell HZ5.out 1).trans rfl), ((blk_cell HZ5.out 2).trans rfl), ((blk_cell HZ5.out 3).trans rfl), ((blk_cell HP5.out.blk 16).trans rfl), ((blk_cell HP5.out.blk 17).trans rfl), ((blk_cell HP5.out.blk 18).trans rfl), ((blk_cell HP5.out.blk 19).trans rfl)⟩ (fun hHeld => ?_); clear hK K; refine norm_ (a' := ?_) ?_ ?_; rotate_left
      ·
       show Act.put _ (some 27) _ = _; simp only [Act.put, List.setIfInBounds_toArray, List.set_cons_zero, List.set_cons_succ, i64_w, i32_w]; rfl
      apply pv 6 28 (bs 7 127) HT_; rfl; rfl; kernel_rfl; exact qq; rfl; intro w'; go_simp; with_reducible rfl; simp only [zz]; rfl
      refine done_ (done_of HT_.out (by kernel_rfl)) ?_; have hr5 : decide (r ≤ 0) = true := hr5; clear z0 z1 z2 z3 y0 y1 y2 y3; go_wp2; go_ret; unfold PageOut
      exact ⟨gx, bv, c, L, vM, false, rfl, HFIN.out.symm, HP5.out⟩
     | true =>
      have HBEH := Lib.hid hq; have HRUN2 := Lib.hid (show pageF c0.f1 c0.f0 L0 ms = pageF m.f1 m.f0 (L ++ [m]) (ms.drop (i + 1)) by rw [HRUN.out, HDR.out, pageF, if_pos hq]); clear hq; refine start_ (n := 7) (S := fun w' => w'.cell? ⟨gz, 0, none⟩ = some (.string m.f0) ∧ w'.cell? ⟨gz, 1, none⟩ = some (.int .i64 m.f1) ∧ w'.cell? ⟨gz, 2, none⟩ = some (.int .i64 m.f2) ∧ w'.cell? ⟨gz, 3, none⟩ = some (.int .u32 m.f3) ∧ w'.cell? ⟨g, 16, none⟩ = some (.string c.f0) ∧ w'.cell? ⟨g, 17, none⟩ = some (.int .i64 c.f1) ∧ w'.cell? ⟨g, 18, none⟩ = some (.int .i64 c.f2) ∧ w'.cell? ⟨g, 19, none⟩ = some (.int .u32 c.f3)) (ds := []) (bs 7 0) (by kernel_rfl) rfl rfl ⟨z0, z1, z2, z3, y0, y1, y2, y3⟩ (fun hHeld => ?_); refine with_tabW PPage6.tab6 PPage6.bits6 (fun HT_ HW_ => ?_); apply pv 1 23 (bs 7 2) HT_; rfl; rfl; kernel_rfl; exact qq; rfl; intro w'; go_simp; with_reducible rfl; simp only [zz]; rfl
      apply pv 2 24 (bs 7 6) HT_; rfl; rfl; kernel_rfl; exact qq; rfl; intro w'; go_simp; with_reducible rfl; simp only [zz]; rfl
      apply pv 3 25 (bs 7 14) HT_; rfl; rfl; kernel_rfl; exact qq; rfl; intro w'; go_simp; with_reducible rfl; simp only [zz]; rfl
      apply tb 0 22 (bs 7 15) HT_ HW_ hHeld; rfl; rfl; kernel_rfl; exact qq; rfl; rintro w' ⟨s0, s1, s2, s3, s4, s5, s6, s7⟩; go_simp; with_reducible rfl; simp only [zz]; rfl
      apply tb 4 26 (bs 7 31) HT_ HW_ hHeld; rfl; rfl; kernel_rfl; exact qq; rfl; rintro w' ⟨s0, s1, s2, s3, s4, s5, s6, s7⟩; go_simp; with_reducible rfl; simp only [zz]; rfl
      refine one_ (i := 5) (N := some 27) (bs 7 63) rfl rfl (one_of HT_.out (by kernel_rfl)) (by decide) (fun K hK => ?_); refine goes_ Try.func27 (by kernel_rfl) rfl #[aggM m, aggM c] (by rfl) rfl rfl (by simp only [List.map_toArray, List.map_cons, List.map_nil]; rfl) ?_; with_reducible refine ((order_calls _ m c)).mono ?_
      rintro e w5 ⟨r, rfl, hr5, hb5⟩; refine ⟨_, rfl, ?_⟩; have HP5 := Lib.hid (HP2.out.below (below_then (below_drew (Below.refl _ _)) (Nat.le_refl _) hb5)); have HZ5 := Lib.hid (blk_below HZ2.out (below_then (below_drew (Below.refl _ _)) (Nat.le_refl _) hb5)); rw [HBEH.out] at hr5; clear hb5; refine hK.out _ _ ⟨((blk_cell HZ5.out 0).trans rfl), ((blk_cell HZ5.out 1).trans rfl), ((blk_cell HZ5.out 2).trans rfl), ((blk_cell HZ5.out 3).trans rfl), ((blk_cell HP5.out.blk 16).trans rfl), ((blk_cell HP5.out.blk 17).trans rfl), ((blk_cell HP5.out.blk 18).trans rfl), ((blk_cell HP5.out.blk 19).trans rfl)⟩ (fun hHeld => ?_); clear hK K; refine norm_ (a' := ?_) ?_ ?_; rotate_left
      ·
       show Act.put _ (some 27) _ = _; simp only [Act.put, List.setIfInBounds_toArray, List.set_cons_zero, List.set_cons_succ, i64_w, i32_w]; rfl
      apply pv 6 28 (bs 7 127) HT_; rfl; rfl; kernel_rfl; exact qq; rfl; intro w'; go_simp; with_reducible rfl; simp only [zz]; rfl
      refine done_ (done_of HT_.out (by kernel_rfl)) ?_; have hr5 : decide (r ≤ 0) = false := hr5; clear z0 z1 z2 z3 y0 y1 y2 y3; have z0 : w5.cell? ⟨gz, 0, none⟩ = some (.string m.f0) := (blk_cell HZ5.out 0).trans rfl; have z1 : w5.cell? ⟨gz, 1, none⟩ = some (.int .i64 m.f1) := (blk_cell HZ5.out 1).trans rfl; have z2 : w5.cell? ⟨gz, 2, none⟩ = some (.int .i64 m.f2) := (blk_cell HZ5.out 2).trans rfl; have z3 : w5.cell? ⟨gz, 3, none⟩ = some (.int .u32 m.f3) := (blk_cell HZ5.out 3).trans rfl
      go_wp2_with (first
       | (refine store_blk (t := 25) (p := .tmp 32) (v := .tmp 30) (g := g) (off := 16) (cur := fcells x seq c vM er gm (hf g 29) 5) (cur' := fcells x seq m vM er gm (hf g 29) 5) (e := 77) (u := .agg #[.string m.f0, .int .i64 m.f1, .int .i64 m.f2, .int .u32 m.f3]) rfl rfl rfl rfl rfl HP5.out.blk (by kernel_rfl) (Nat.le_of_ble_eq_true rfl) (by rfl) (by rfl) ?_; intro Z3 hz3 hg3 hs3; have HZ3 := Lib.hid (blk_other HZ5.out hg3 (fun e => by have h1 := HP5.out.blk; rw [← e, HZ5.out] at h1; cases h1)); have HP3 := Lib.hid (HP5.out.set hg3 hz3); clear hz3 hg3 hs3 z0 z1 z2 z3 hr5))
      have z0 : Z3.cell? ⟨gz, 0, none⟩ = some (.string m.f0) := (blk_cell HZ3.out 0).trans rfl; have z1 : Z3.cell? ⟨gz, 1, none⟩ = some (.int .i64 m.f1) := (blk_cell HZ3.out 1).trans rfl; have z2 : Z3.cell? ⟨gz, 2, none⟩ = some (.int .i64 m.f2) := (blk_cell HZ3.out 2).trans rfl; have z3 : Z3.cell? ⟨gz, 3, none⟩ = some (.int .u32 m.f3) := (blk_cell HZ3.out 3).trans rfl; have y21 : Z3.cell? ⟨g, 21, none⟩ = some vM := (blk_cell HP3.out.blk 21).trans rfl; refine start_ (n := 11) (S := fun w' => w'.cell? ⟨g, 21, none⟩ = some vM ∧ w'.cell? ⟨gz, 0, none⟩ = some (.string m.f0) ∧ w'.cell? ⟨gz, 1, none⟩ = some (.int .i64 m.f1) ∧ w'.cell? ⟨gz, 2, none⟩ = some (.int .i64 m.f2) ∧ w'.cell? ⟨gz, 3, none⟩ = some (.int .u32 m.f3)) (ds := [7, 10]) (bs 11 0) (by kernel_rfl) rfl rfl ⟨y21, z0, z1, z2, z3⟩ (fun hHeld => ?_); refine with_tabW PPage9.tab9 PPage9.bits9 (fun HT_ HW_ => ?_); apply pv 0 33 (bs 11 1) HT_; rfl; rfl; kernel_rfl; exact qq; rfl; intro w'; go_simp; with_reducible rfl; simp only [zz]; rfl
      apply pv 1 34 (bs 11 3) HT_; rfl; rfl; kernel_rfl; exact qq; rfl; intro w'; go_simp; with_reducible rfl; simp only [zz]; rfl
      apply pv 2 35 (bs 11 7) HT_; rfl; rfl; kernel_rfl; exact qq; rfl; intro w'; go_simp; with_reducible rfl; simp only [zz]; rfl
      apply pv 3 36 (bs 11 15) HT_; rfl; rfl; kernel_rfl; exact qq; rfl; intro w'; go_simp; with_reducible rfl; simp only [zz]; rfl
      apply tb 4 37 (bs 11 31) HT_ HW_ hHeld; rfl; rfl; kernel_rfl; exact qq; rfl; rintro w' ⟨s0, s1, s2, s3, s4⟩; go_simp; with_reducible rfl; simp only [zz]; rfl
      apply tb 5 38 (bs 11 63) HT_ HW_ hHeld; rfl; rfl; kernel_rfl; exact qq; rfl; rintro w' ⟨s0, s1, s2, s3, s4⟩; go_simp; with_reducible rfl; simp only [zz]; rfl
      refine one_ (i := 6) (N := some 39) (bs 11 127) rfl rfl (one_of HT_.out (by kernel_rfl)) (by decide) (fun K hK => ?_); refine value_ (w1 := ?_) (v := ?_) (by rfl) rfl ?_ ?_; rotate_left 2
      ·
       go_simp
       constructor
       ·
        rfl
       ·
        rfl
      have hBX := below_drew (below_alloc (Below.refl Z3.heap.size Z3) (.cells #[.string m.f0, .int .i64 m.f1, .int .i64 m.f2, .int .u32 m.f3] 25))
      obtain ⟨gl, hgl⟩ : ∃ gl, gl = Z3.heap.size := ⟨_, rfl⟩
      have hRL := Kd.R_drew (R_singleM Z3 m w0.heap.size gl HP3.out.bel.size hgl)
      obtain ⟨X1, hX1⟩ : ∃ X1 : World, X1 = (Z3.alloc (.cells #[.string m.f0, .int .i64 m.f1, .int .i64 m.f2, .int .u32 m.f3] 25)).drew := ⟨_, rfl⟩
      rw [← hX1] at hRL hBX; rw [← hX1, ← hgl]; have HP4 := Lib.hid (HP3.out.below hBX); have HZ4 := Lib.hid (blk_below HZ3.out hBX); have HRL := Lib.hid hRL; clear hRL hBX hX1 hgl; refine hK.out _ _ ⟨((blk_cell HP4.out.blk 21).trans rfl), ((blk_cell HZ4.out 0).trans rfl), ((blk_cell HZ4.out 1).trans rfl), ((blk_cell HZ4.out 2).trans rfl), ((blk_cell HZ4.out 3).trans rfl)⟩ (fun hHeld => ?_); clear hK K; refine norm_ (a' := ?_) ?_ ?_; rotate_left
      ·
       show Act.put _ (some 39) _ = _; simp only [Act.put, List.setIfInBounds_toArray, List.set_cons_zero, List.set_cons_succ, i64_w, i32_w]; rfl
      refine last_ (i := 7) (N := some 40) (bs 11 255) rfl rfl (one_of HT_.out (by kernel_rfl)) (by decide) (fun K hK => ?_); refine Kd.R_append_rows_step k25 (Rr := k25.K X1) (w0 := w0) w0.heap.size (by rfl) (.tmp 37) (.tmp 39) 22 25 (.agg #[.string ⟨#[]⟩, .int .i64 0, .int .i64 0, .int .u32 0]) 40 (by rfl) Try.underlying22 info25 (by rfl) (by decide) (by decide) vM L [m] (some ⟨gl, 0, none⟩) 1 1 (fun _ => True) (fun _ => False) (by rfl) (by rfl) HP4.out.row (Kd.R_reads' HRL.out).2.2 (fun x cs hk => by obtain rfl := k25_open hk; exact k25_mkM _ _ _ x) (fun _ h => h.elim) (fun _ _ => trivial) HP4.out.bel HP4.out.bel.size (by have := HLO.out; omega) ?_; intro v5 X2 hR5 hB5 hg5 hat5; obtain ⟨A5, n5, c5, rfl⟩ : ∃ A n c, v5 = .slice A n c := by obtain ⟨A, c, e⟩ := Kd.R_slice hR5; exact ⟨A, _, c, e⟩
      have HAPP := Lib.hid (HP4.out.app hg5 hat5 hR5 hB5); have hbk := (hg5.block g (blk_lt HP4.out.blk) (Kd.R_ne HP4.out.row HP4.out.blk (by decide))).trans HP4.out.blk; have e21 : X2.cell? ⟨g, 21, none⟩ = some vM := (blk_cell hbk 21).trans rfl; have e21f : X2.frozen? ⟨g, 21, none⟩ = false := blk_frozen hbk 21; clear hR5 hB5 hg5 hat5 hbk; refine hK.out _ _ ?_; clear hK K; refine norm_ (a' := ?_) ?_ ?_; rotate_left
      ·
       show Act.put _ (some 40) _ = _; simp only [Act.put, List.setIfInBounds_toArray, List.set_cons_zero, List.set_cons_succ, i64_w, i32_w]; rfl
      apply pv 8 41 (bs 11 511) HT_; rfl; rfl; kernel_rfl; exact qq; rfl; intro w'; go_simp; with_reducible rfl; simp only [zz]; rfl
      apply pv 9 42 (bs 11 1023) HT_; rfl; rfl; kernel_rfl; exact qq; rfl; intro w'; go_simp; with_reducible rfl; simp only [zz]; rfl
      refine last_ (i := 10) (N := none) (bs 11 2047) rfl rfl (one_of HT_.out (by kernel_rfl)) (by decide) (fun K hK => ?_); refine skip_ (w1 := ?_) (by rfl) rfl ?_ ?_; rotate_left
      ·
       go_simp; rfl
      refine hK.out _ _ ?_; clear hK K; refine done_ (done_of HT_.out (by kernel_rfl)) ?_
      obtain ⟨X3, hX3⟩ : ∃ X3, X2.setCell ⟨g, 21, none⟩ (.slice A5 n5 c5) = X3 := ⟨_, rfl⟩
      have happ := HAPP.out; rw [hX3] at happ ⊢; have HP9 := Lib.hid happ; have HIN := Lib.hid (show ∀ k, k = ms.length - i → ms.length - (i + 1) < k by intro k hk; omega); have HL9 := Lib.hid (show (L ++ [m]).length = L0.length + (i + 1) by rw [List.length_append, HLL.out]; simp; omega); clear happ hX3 HAPP z0 z1 z2 z3 y21 e21 e21f; go_wp2; go_roundg (ms.length - (i + 1))
      case measure => go_light; exact HIN.out _ HN1.out
      case rel => exact ⟨i + 1, m, L ++ [m], .slice A5 n5 c5, by (simp [hwi]; done), ⟨rfl⟩, ⟨hi⟩, ⟨HRUN2.out⟩, ⟨HL9.out⟩, ⟨HP9.out⟩⟩
    ·
     have hge : ¬ (i : Int) < (ms.length : Int) := by omega
     have hie : i = ms.length := by have := HI.out; omega
     have HFIN := Lib.hid (show pageA c0.f1 c0.f0 L0 false ms = ((c.f1, c.f0, L), true) by rw [HE.out, HRUN.out, hie, List.drop_length, pageF]); clear hie; have y13 := (BX.out gx wr HPW.out.bx).1
     go_wp2_with (first
      | (refine store_blk (t := 3) (p := .tmp 52) (v := .const (.int .i64 7)) (g := g) (off := 25) (cur := fcells x seq c vM er gm (hf g 29) 5) (cur' := fcells x seq c vM er gm (hf g 29) 7) (e := 77) (u := .int .i64 7) rfl rfl rfl rfl rfl HPW.out.blk (by kernel_rfl) (Nat.le_of_ble_eq_true rfl) (by rfl) (by rfl) ?_; intro Z3 hz3 hg3 hs3; have HP3 := Lib.hid (HPW.out.set hg3 hz3); clear hz3 hg3 hs3)
      | (refine store_blk (t := 75) (p := .tmp 54) (v := .tmp 50) (g := g) (off := 24) (cur := fcells x seq c vM er gm (hf g 29) 7) (cur' := fcells x seq c vM er gm (hf g 44) 7) (e := 77) (u := hf g 44) rfl rfl rfl rfl rfl HP3.out.blk (by kernel_rfl) (Nat.le_of_ble_eq_true rfl) (by rfl) (by rfl) ?_; intro Z4 hz4 hg4 hs4; have HP4 := Lib.hid (HP3.out.set hg4 hz4); clear hz4 hg4 hs4))
     go_ret; unfold PageOut; exact ⟨gx, bv, c, L, vM, true, rfl, HFIN.out.symm, HP4.out⟩
end Ps
end Go.Proofs.Ytgagcimfkmegnaa
