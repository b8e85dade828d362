/- PeersAll: the walk. -/
import Derived.Test.YtgagcimfkmegnaaPage2
set_option maxHeartbeats 8000000
set_option maxRecDepth 100000
namespace Go.Proofs.Ytgagcimfkmegnaa
set_option linter.unusedVariables false
set_option linter.unusedSimpArgs false
open Go.RowKit Go.Proofs.YtgagcimfkmegnaaW.PrintWords Go.Proofs.YtgagcimfkmegnaaW.PrintLast Go.Proofs.YtgagcimfkmegnaaW.PrintMore Go.Proofs.Ytgagcimfkmegnaa.QT
namespace Pa
open Ps
open Hm (Hp HM HMap cur put Sh)
def All10.T10 : Bool × List (List Nat × List Nat) := (true, [([], []), ([], []), ([], []), ([1, 2], [1, 2]), ([3], [3]), ([4], [4]), ([], []), ([], []), ([6, 7], [6, 7]), ([8], [8]), ([9], [9]), ([10], [10]), ([5, 11], [5, 11]), ([12], [12]), ([0, 13, 11], [0, 13]), ([14, 14, 0, 1, 2, 3, 4, 5, 6, 7, 8, 9, 10, 11, 12, 13, 14], [0, 14])])
def All10.B10 : List Nat := [0, 0, 0, 6, 14, 30, 0, 0, 192, 448, 960, 1984, 4094, 8190, 16383, 32767]
theorem All10.tab10 : rtab .any (opsOf Try.f5 10) = All10.T10 := by kernel_rfl
theorem All10.bits10 : waitsOk All10.T10.2 All10.B10 = true := by kernel_rfl
def All18.T18 : Bool × List (List Nat × List Nat) := (true, [([], []), ([0], [0]), ([1], [1]), ([2], [2]), ([3], [3]), ([3], [3]), ([5, 3], [3, 5]), ([6, 3], [3, 6]), ([4, 7, 3], [3, 4, 7]), ([8, 3], [3, 8]), ([3], [3]), ([9, 10, 3], [3, 9, 10]), ([3, 11], [3, 11])])
def All18.B18 : List Nat := [0, 1, 3, 7, 15, 15, 47, 111, 255, 511, 15, 2047, 4095]
theorem All18.tab18 : rtab .any (opsOf Try.f5 18) = All18.T18 := by kernel_rfl
theorem All18.bits18 : waitsOk All18.T18.2 All18.B18 = true := by kernel_rfl
def All29.T29 : Bool × List (List Nat × List Nat) := (true, [([], []), ([], []), ([0, 1], [0, 1]), ([2], [2]), ([3], [3]), ([], []), ([5], [5]), ([4, 6], [4, 6]), ([7], [7]), ([8], [8]), ([8], [8]), ([8], [8]), ([10, 11, 8], [8, 10, 11]), ([12, 8], [8, 12]), ([9, 13, 8, 8], [8, 9, 13]), ([8, 14], [8, 14])])
def All29.B29 : List Nat := [0, 0, 3, 7, 15, 0, 32, 127, 255, 511, 511, 511, 3583, 7679, 16383, 32767]
theorem All29.tab29 : rtab .any (opsOf Try.f5 29) = All29.T29 := by kernel_rfl
theorem All29.bits29 : waitsOk All29.T29.2 All29.B29 = true := by kernel_rfl
theorem page_f {M : List Me} (hM : M.length ≤ 2560) (b : Int) (q : ByteArray) : peers_Page.f M b q = some (page M b q) := by
 unfold peers_Page.f page; rw [if_pos (by omega)]
 split <;> rfl
theorem all_calls (w : World) (A : Option Addr) (c : Nat) (l : List S65) (A' : Option Addr) (cn : Nat) (nz : List S46) (hC : Kd.C k65 w A l.length l) (hc : l.length ≤ c) (hN : Kd.C k46 w A' nz.length nz) (hcn : nz.length ≤ cn) (hnl : nz.length ≤ 9223372036854775807) (hnL : ∀ s ∈ nz, s.f12.length ≤ 9223372036854775807) (hidl : ∀ s ∈ l, s.f0.size ≤ maxLen) :
  Calls Try.prog 5 #[.slice A l.length c, .slice A' nz.length cn] w fun e w' => e = .returned (.bool true) ∧ Below w.heap.size w w' := by
 have hu65 := Try.underlying65; have hu25 := Try.underlying25; obtain ⟨rh, hrh1, hrh2⟩ := Hv.heavy_any w A' cn nz hN hcn hnl hnL; have HHC := Lib.hid hrh2; have HC := Lib.hid hC; have HCL := Lib.hid hc; have HN := Lib.hid hN; have HCN := Lib.hid hcn; have HNL := Lib.hid hnl; have HIDL := Lib.hid hidl; clear hC hc hN hcn hnl hnL hrh1 hrh2 hidl
 by_cases h40 : (l.length : Int) > 40
 ·
  have d0 : decide (40 < (l.length : Int)) = true := decide_eq_true h40; have d1 : decide (40 < l.length) = true := decide_eq_true (by omega); clear h40; go_enter Try.func5, Try.ntmps5
  go_wp2; go_ret; exact ⟨rfl, by first | exact Below.refl _ _ | exact pw_below_drewN (Below.refl _ _) _⟩
 have d0 : decide (40 < (l.length : Int)) = false := decide_eq_false h40; have d1 : decide (40 < l.length) = false := decide_eq_false (by omega); have HL40 := Lib.hid (show l.length ≤ 40 by omega); clear h40; go_enter Try.func5, Try.ntmps5
 go_wp2_with fail
 with_reducible refine HHC.out.mono ?_
 rintro e w1 ⟨rfl, hb1⟩; have HB1 := Lib.hid hb1; clear hb1 HHC d0 d1
 cases rh with
 | true =>
  go_wp2; go_ret
  exact ⟨rfl, HB1.out⟩
 | false =>
 go_wp2_with (first
  | ((with_reducible refine gate_dst (N := 26) rfl ?_); refine Kd.R_lit k25 _ 25 ?hg (N := 26) ?hd (xs := ([] : List S25)) (inner := []) (ok := (fun _ => True)) (okp := (fun _ => True)) ?hr ?hp (fun _ hk => hk) trivial (Below.refl _ _) (Nat.le_refl _) (by simp) ?_; (case hd => rfl); (case hg => rfl); (case hr => first | (go_simp; done) | (go_simp; rfl)); (case hp => exact (Reps.none _ _)); intro vM w2 ho hb hg_ hnew_; clear hg_ hnew_; have HM := Lib.hid (Kd.R_lower ho HB1.out.size); have HB2 := Lib.hid (below_then HB1.out HB1.out.size hb); have HVL := Lib.hid (Kd.R_lt HM.out); clear ho hb)
  | ((with_reducible refine gate_dst (N := 27) rfl ?_); refine Kd.N_lit k65 _ 65 ?hg (N' := 27) ?hd (xs := ([] : List S65)) (inner := []) (ok := (fun k_ => some k_ ≠ (vM : Value).ownBlock)) (okp := (fun k_ => some k_ ≠ (vM : Value).ownBlock)) ?hr ?hp (fun _ hk => hk) (Kd.fresh' HVL.out _ (Nat.le_refl _)) (Below.refl _ _) (Nat.le_refl _) (by simp) ?_; (case hd => rfl); (case hg => rfl); (case hr => first | (go_simp; done) | (go_simp; rfl)); (case hp => exact (Reps.none _ _)); intro vL w3 ho hb hg_ hnew_; clear hg_ hnew_; have HM3 := Lib.hid (Kd.R_below HM.out hb); have HL3 := Lib.hid (Kd.N_lower ho HB2.out.size); have HB3 := Lib.hid (below_then HB2.out HB2.out.size hb); clear ho hb))
 try go_frame
 clear HM HB1 HB2 HVL; go_loopg [5, 6, 7] l.length (fun gn v5 v6 v7 wr => ∃ (x : Int) (i : Nat) (M : List S25) (D : List S65), v7 = .int .i64 x ∧ Aside0 (x = (i : Int)) ∧ Aside0 (gn = l.length - i) ∧ Aside0 (i ≤ l.length) ∧ Aside0 (Gs l i M D) ∧ Aside0 (Kd.R k25 25 wr w.heap.size (fun _ => True) v5 M) ∧ Aside0 (Kd.N k65 65 wr w.heap.size (fun k_ => some k_ ≠ (v5 : Value).ownBlock) v6 D) ∧ Aside0 (Below w.heap.size w wr))
 case atStart => exact ⟨0, 0, [], [], rfl, ⟨rfl⟩, ⟨rfl⟩, ⟨Nat.zero_le _⟩, ⟨⟨gd_nil, rfl⟩⟩, ⟨HM3.out⟩, ⟨HL3.out⟩, ⟨HB3.out⟩⟩
 case round =>
  clear HM3 HL3 HB3; obtain ⟨x, i, M, D, rfl, HX, HN_, HI, HG, HM, HL, HB⟩ := hrel
  by_cases hi : i < l.length
  ·
   have hx0 : 0 ≤ x := by rw [HX.out]; omega
   have hx1 : x < (l.length : Int) := by rw [HX.out]; omega
   have e0 : decide (0 ≤ x) = true := decide_eq_true hx0; have e1 : decide (x < (l.length : Int)) = true := decide_eq_true hx1; obtain ⟨ad, A1, c1, eA, hw0, hw1, hl1, hC1⟩ := at_T65 HC.out x hx0 hx1; cases eA
   obtain ⟨s, hs⟩ : ∃ s, rd_T65 l x = s := ⟨_, rfl⟩
   obtain ⟨j, hj⟩ : ∃ j, wrap64 (x - 1) = j := ⟨_, rfl⟩
   obtain ⟨t, ht⟩ : ∃ t, rd_T65 l j = t := ⟨_, rfl⟩
   rw [hs] at hw0 hw1 hl1 hC1; have HLS := Lib.hid (show l[i] = s by rw [← hs, HX.out, rdS hi]); have HS := Lib.hid hs; have HC1 := Lib.hid hC1; have HL1 := Lib.hid hl1; have HII := Lib.hid hi; clear hs hC1 hl1; have hp0 := (HB.out.cell (World.block_lt_of_cell? w _ hw0)).trans hw0; have hp1 := (HB.out.cell (World.block_lt_of_cell? w _ hw1)).trans hw1; replace hx0 := eq_true hx0; replace hx1 := eq_true hx1
   go_upto_region 8 with (fail)
   go_cut [66] (fun v66 wc => ∃ odd : Bool, v66 = .bool odd ∧ Aside0 (odd = false → (x > 0 → Op.bytesLess t.f0.toList s.f0.toList = true) ∧ s.f0.toList ≠ [] ∧ s.f1.length ≤ 64) ∧ Aside0 (Kd.R k25 25 wc w.heap.size (fun _ => True) u5 M) ∧ Aside0 (Kd.N k65 65 wc w.heap.size (fun k_ => some k_ ≠ (u5 : Value).ownBlock) u6 D) ∧ Aside0 (Below w.heap.size w wc))
   case first =>
    as_aux_lemma =>
    by_cases c1_ : x > 0
    ·
     have f0 : decide (0 < x) = true := decide_eq_true c1_
     have HJ := Lib.hid (show 0 ≤ j ∧ j < (l.length : Int) from by
      have h1 := HX.out; have h2 := HII.out; have h3 := HL40.out; rw [← hj]; unfold wrap64
      omega)
     obtain ⟨hj0, hj1⟩ := HJ.out; obtain ⟨ad2, A2, c2, eA2, hq0, hq1, hl2, hC2⟩ := at_T65 HC.out j hj0 hj1; cases eA2; rw [ht] at hq0 hq1; clear hq1 hl2 hC2 HJ ht c1_; have hq0' := (HB.out.cell (World.block_lt_of_cell? w _ hq0)).trans hq0; have hjw : IntKind.i64.wrap (x - 1) = j := (i64_w _).trans hj; have f1 : decide (0 ≤ j) = true := decide_eq_true hj0; have f2 : decide (j < (l.length : Int)) = true := decide_eq_true hj1; replace hj0 := eq_true hj0; replace hj1 := eq_true hj1
     by_cases c2_ : Op.bytesLess t.f0.toList s.f0.toList = true
     ·
      have g0 : Op.bytesLess s.f0.toList t.f0.toList = false := str_asymm c2_; have g1 : (s.f0.toList == t.f0.toList) = false := str_ne c2_
      by_cases c3_ : s.f0.toList = []
      ·
       have g2 : (s.f0.toList == ([] : List UInt8)) = true := beq_iff_eq.mpr c3_; have g3 : (s.f0.toList != ([] : List UInt8)) = false := bne_eq_false_iff_eq.mpr c3_; clear c3_; go_wp2; repeat (go_quiet (fail); try go_wp2)
       go_meet
       case rel => exact ⟨_, by first | rfl | (simp; done) | (simp [*]; done), ⟨fun h => by cases h⟩, ⟨by first | exact HM.out | exact Kd.R_below HM.out (pw_below_drewN (Below.refl _ _) _)⟩, ⟨by first | exact HL.out | exact Kd.N_below HL.out (pw_below_drewN (Below.refl _ _) _)⟩, ⟨by first | exact HB.out | exact pw_below_drewN HB.out _⟩⟩
      ·
       have g2 : (s.f0.toList == ([] : List UInt8)) = false := beq_eq_false_iff_ne.mpr c3_; have g3 : (s.f0.toList != ([] : List UInt8)) = true := bne_iff_ne.mpr c3_; have H3 := Lib.hid c3_; have H2 := Lib.hid c2_; clear c3_; go_wp2; repeat (go_quiet (fail); try go_wp2)
       go_meet
       case rel => exact ⟨_, by first | rfl | (simp; done) | (simp [*]; done), ⟨fun h => ⟨fun _ => H2.out, H3.out, by simp at h; omega⟩⟩, ⟨by first | exact HM.out | exact Kd.R_below HM.out (pw_below_drewN (Below.refl _ _) _)⟩, ⟨by first | exact HL.out | exact Kd.N_below HL.out (pw_below_drewN (Below.refl _ _) _)⟩, ⟨by first | exact HB.out | exact pw_below_drewN HB.out _⟩⟩
     ·
      have c2f : Op.bytesLess t.f0.toList s.f0.toList = false := Bool.eq_false_iff.mpr c2_; have g0 := str_ge c2f; clear c2_; go_wp2; repeat (go_quiet (fail); try go_wp2)
      go_meet
      case rel => exact ⟨_, by first | rfl | (simp; done) | (simp [*]; done), ⟨fun h => by cases h⟩, ⟨by first | exact HM.out | exact Kd.R_below HM.out (pw_below_drewN (Below.refl _ _) _)⟩, ⟨by first | exact HL.out | exact Kd.N_below HL.out (pw_below_drewN (Below.refl _ _) _)⟩, ⟨by first | exact HB.out | exact pw_below_drewN HB.out _⟩⟩
    ·
     have f0 : decide (0 < x) = false := decide_eq_false c1_; have H1 := Lib.hid c1_; clear c1_
     by_cases c3_ : s.f0.toList = []
     ·
      have g2 : (s.f0.toList == ([] : List UInt8)) = true := beq_iff_eq.mpr c3_; have g3 : (s.f0.toList != ([] : List UInt8)) = false := bne_eq_false_iff_eq.mpr c3_; clear c3_; go_wp2; repeat (go_quiet (fail); try go_wp2)
      go_meet
      case rel => exact ⟨_, by first | rfl | (simp; done) | (simp [*]; done), ⟨fun h => by cases h⟩, ⟨by first | exact HM.out | exact Kd.R_below HM.out (pw_below_drewN (Below.refl _ _) _)⟩, ⟨by first | exact HL.out | exact Kd.N_below HL.out (pw_below_drewN (Below.refl _ _) _)⟩, ⟨by first | exact HB.out | exact pw_below_drewN HB.out _⟩⟩
     ·
      have g2 : (s.f0.toList == ([] : List UInt8)) = false := beq_eq_false_iff_ne.mpr c3_; have g3 : (s.f0.toList != ([] : List UInt8)) = true := bne_iff_ne.mpr c3_; have H3 := Lib.hid c3_; clear c3_; go_wp2; repeat (go_quiet (fail); try go_wp2)
      go_meet
      case rel => exact ⟨_, by first | rfl | (simp; done) | (simp [*]; done), ⟨fun h => ⟨fun h1 => absurd h1 (by have := H1.out; omega), H3.out, by simp at h; omega⟩⟩, ⟨by first | exact HM.out | exact Kd.R_below HM.out (pw_below_drewN (Below.refl _ _) _)⟩, ⟨by first | exact HL.out | exact Kd.N_below HL.out (pw_below_drewN (Below.refl _ _) _)⟩, ⟨by first | exact HB.out | exact pw_below_drewN HB.out _⟩⟩
   case rest =>
    clear hp0 hp1 HM HL HB; obtain ⟨odd, rfl, HFN, HM0, HL0, HB0⟩ := hcut
    cases odd with
    | true =>
     go_wp2; go_ret
     exact ⟨rfl, HB0.out⟩
    | false =>
    have HFX := Lib.hid (HFN.out rfl); have HJT := Lib.hid (And.intro hj ht); clear HFN hj ht
    obtain ⟨vw, hvw⟩ : ∃ vw, Vw.view s.f1 = vw := ⟨_, rfl⟩
    have HVV := Lib.hid hvw; have HVU := Lib.hid (show Vw.Up vw by rw [← hvw]; exact (Vw.view_is _).1); have HV64 := Lib.hid (show vw.length ≤ 64 by rw [← hvw]; exact Nat.le_trans (Vw.view_len _) HFX.out.2.2); have HGS := Lib.hid (gs_ser HG.out HL40.out HX.out HII.out HS.out (fun _ => HJT.out) HFX.out.1 HFX.out.2.1); have HLD := Lib.hid (show D.length + 1 ≤ 40 by have h1 := HG.out.eq; have h2 := HII.out; have h3 := HL40.out; rw [h1, List.length_map, List.length_take]; omega); have HDI := Lib.hid (show (D.length : Int) = x by have h1 := HG.out.eq; have h2 := HII.out; rw [HX.out, h1, List.length_map, List.length_take]; omega); clear hvw
    as_aux_lemma =>
    go_upto_region 10 with (fail)
    have HM := Lib.hid (Kd.R_drew HM0.out); have HL := Lib.hid (Kd.N_drew HL0.out); have HB := Lib.hid (below_drew1 HB0.out); have hd0 : wc.drew.cell? (ad.add (x.toNat * 2)) = some (.string s.f0) := (HB.out.cell (World.block_lt_of_cell? w _ hw0)).trans hw0; have hd1 : wc.drew.cell? ⟨(ad.add (x.toNat * 2)).block, (ad.add (x.toNat * 2)).off + 1, none⟩ = some (.slice A1 s.f1.length c1) := (HB.out.cell (World.block_lt_of_cell? w _ hw1)).trans hw1; have HVW := Lib.hid (view_calls wc.drew A1 c1 s.f1 (Kd.C_below HC1.out HB.out) HL1.out (by have := HFX.out.2.2; omega)); clear HM0 HL0 HB0; refine start_ (n := 16) (S := fun w' => w'.cell? (ad.add (x.toNat * 2)) = some (.string s.f0) ∧ w'.cell? ⟨(ad.add (x.toNat * 2)).block, (ad.add (x.toNat * 2)).off + 1, none⟩ = some (.slice A1 s.f1.length c1)) (ds := [13, 14]) (bs 16 0) (by kernel_rfl) rfl rfl ⟨hd0, hd1⟩ (fun hHeld => ?_); refine with_tabW All10.tab10 All10.bits10 (fun HT_ HW_ => ?_); apply pv 0 67 (bs 16 1) HT_; rfl; rfl; kernel_rfl; exact qq; rfl; intro w'; go_simp; with_reducible rfl; simp only [zz]; rfl
    apply pv 1 68 (bs 16 3) HT_; rfl; rfl; kernel_rfl; exact qq; rfl; intro w'; go_simp; with_reducible rfl; simp only [zz]; rfl
    apply pv 2 69 (bs 16 7) HT_; rfl; rfl; kernel_rfl; exact qq; rfl; intro w'; go_simp; with_reducible rfl; simp only [zz]; rfl
    apply pv 3 70 (bs 16 15) HT_; rfl; rfl; kernel_rfl; exact qq; rfl; intro w'; go_simp; with_reducible rfl; simp only [zz]; rfl
    apply pv 4 71 (bs 16 31) HT_; rfl; rfl; kernel_rfl; exact qq; rfl; intro w'; go_simp; with_reducible rfl; simp only [zz]; rfl
    apply pv 6 73 (bs 16 95) HT_; rfl; rfl; kernel_rfl; exact qq; rfl; intro w'; go_simp; with_reducible rfl; simp only [zz]; rfl
    apply pv 7 74 (bs 16 223) HT_; rfl; rfl; kernel_rfl; exact qq; rfl; intro w'; go_simp; with_reducible rfl; simp only [zz]; rfl
    apply pv 8 75 (bs 16 479) HT_; rfl; rfl; kernel_rfl; exact qq; rfl; intro w'; go_simp; with_reducible rfl; simp only [zz]; rfl
    apply pv 9 76 (bs 16 991) HT_; rfl; rfl; kernel_rfl; exact qq; rfl; intro w'; go_simp; with_reducible rfl; simp only [zz]; rfl
    apply tb 5 72 (bs 16 1023) HT_ HW_ hHeld; rfl; rfl; kernel_rfl; exact qq; rfl; rintro w' ⟨s0, s1⟩; go_simp; with_reducible rfl; simp only [zz]; rfl
    apply tb 10 77 (bs 16 2047) HT_ HW_ hHeld; rfl; rfl; kernel_rfl; exact qq; rfl; rintro w' ⟨s0, s1⟩; go_simp; with_reducible rfl; simp only [zz]; rfl
    refine one_ (i := 11) (N := some 78) (bs 16 4095) rfl rfl (one_of HT_.out (by kernel_rfl)) (by decide) (fun K hK => ?_); refine goes_ Try.func22 (by kernel_rfl) rfl #[.slice A1 s.f1.length c1] (by rfl) rfl rfl (by simp only [List.map_toArray, List.map_cons, List.map_nil]; rfl) ?_; with_reducible refine (HVW.out).mono ?_
    rintro e w2 ⟨v2, rfl, ho2, hb2⟩; refine ⟨_, rfl, ?_⟩; rw [HVV.out] at ho2; have HM2 := Lib.hid (Kd.R_below HM.out hb2); have HL2 := Lib.hid (Kd.N_elder' HL.out (Kd.R_base ho2) hb2); have HV2 := Lib.hid (Kd.R_lower ho2 HB.out.size); have HB2 := Lib.hid (below_then HB.out HB.out.size hb2); clear ho2 hb2; obtain ⟨Av, cv, ev⟩ := Kd.R_slice HV2.out; subst ev; have HVA := Lib.hid (Kd.R_mono (ok' := fun k_ => some k_ ≠ (u5 : Value).ownBlock ∧ some k_ ≠ (u6 : Value).ownBlock) (Kd.R_apart' (Kd.R_apart' HV2.out (Kd.R_typed HM2.out) (by decide)) (Kd.N_typed HL2.out) (by decide)) (fun k_ hk => ⟨hk.1.2, hk.2⟩)); refine hK.out _ _ ⟨(HB2.out.cell (World.block_lt_of_cell? w _ hw0)).trans hw0, (HB2.out.cell (World.block_lt_of_cell? w _ hw1)).trans hw1⟩ (fun hHeld => ?_); clear hK K; refine norm_ (a' := ?_) ?_ ?_; rotate_left
    ·
     show Act.put _ (some 78) _ = _; simp only [Act.put, List.setIfInBounds_toArray, List.set_cons_zero, List.set_cons_succ, i64_w, i32_w]; rfl
    apply pv 12 79 (bs 16 8191) HT_; rfl; rfl; kernel_rfl; exact qq; rfl; intro w'; go_simp; with_reducible rfl; simp only [zz]; rfl
    refine last_ (i := 13) (N := some 80) (bs 16 16383) rfl rfl (one_of HT_.out (by kernel_rfl)) (by decide) (fun K hK => ?_); refine value_ (w1 := ?_) (v := ?_) (by rfl) rfl ?_ ?_; rotate_left 2
    ·
     go_simp
     constructor
     ·
      rfl
     ·
      rfl
    refine hK.out _ _ ?_; clear hK K; refine norm_ (a' := ?_) ?_ ?_; rotate_left
    ·
     show Act.put _ (some 80) _ = _; simp only [Act.put, List.setIfInBounds_toArray, List.set_cons_zero, List.set_cons_succ, i64_w, i32_w]; rfl
    refine last_ (i := 14) (N := some 81) (bs 16 32767) rfl rfl (one_of HT_.out (by kernel_rfl)) (by decide) (fun K hK => ?_); refine Kd.N_append_step k65 (w0 := w) w.heap.size (by rfl) (.tmp 67) (.tmp 80) 58 65 (.agg #[(.string ⟨#[]⟩), (.slice none 0 0)]) 40 rfl Try.underlying58 info65' rfl (by decide) (by omega) u6 D (⟨s.f0, vw⟩ : S65) [.string s.f0, .slice Av vw.length cv] (fun k_ => some k_ ≠ (u5 : Value).ownBlock) (fun k_ => some k_ ≠ (u5 : Value).ownBlock ∧ some k_ ≠ (u6 : Value).ownBlock) rfl rfl ?aP (fun _ hk => hk) ?aF ?aO ?aB ?aS ?aL ?_
    (case aP => exact (k65_mkF _ _ (⟨s.f0, vw⟩ : S65) (Kd.R_reads' HVA.out).2.1 (Kd.R_F HVA.out)))
    (case aB => exact HB2.out)
    (case aF => exact (fun k_ hk => Kd.fresh' (Kd.R_lt HM2.out) k_ hk))
    (case aO => exact Kd.N_mono HL2.out (fun _ hk => hk.1))
    (case aS => exact HB2.out.size)
    (case aL => have := HLD.out; omega)
    intro v3 w3 ho hb hg hat; have HM3 := Lib.hid (Kd.R_over' HM2.out (Kd.N_typed HL2.out) (by decide) hg); have HL3 := Lib.hid ho; have HB3 := Lib.hid hb; clear ho hb hg hat; refine hK.out _ _ ?_; clear hK K; refine norm_ (a' := ?_) ?_ ?_; rotate_left
    ·
     show Act.put _ (some 81) _ = _; simp only [Act.put, List.setIfInBounds_toArray, List.set_cons_zero, List.set_cons_succ, i64_w, i32_w]; rfl
    apply pv 15 6 (bs 16 65535) HT_; rfl; rfl; kernel_rfl; exact qq; rfl; intro w'; go_simp; with_reducible rfl; simp only [zz]; rfl
    refine done_ (done_of HT_.out (by kernel_rfl)) ?_; clear HM HL HB HM2 HL2 HB2 HV2 HVA HVW hHeld; try go_wp2
    obtain ⟨LD, hLD⟩ : ∃ LD, D ++ [(⟨s.f0, vw⟩ : S65)] = LD := ⟨_, rfl⟩
    rw [hLD] at HL3; have HLDE := Lib.hid hLD; have HRD := Lib.hid (show rd_T65 LD x = ⟨s.f0, vw⟩ from by rw [← hLD]; unfold rd_T65; rw [← HDI.out, Int.toNat_natCast]; simp); have HXL := Lib.hid (show x < (LD.length : Int) from by rw [← hLD, List.length_append, ← HDI.out]; simp; omega); obtain ⟨Al, cl, el⟩ := Kd.N_slice HL3.out; subst el; clear hLD; go_loopg [5, 8] vw.length (fun gn v5 v8 wr => ∃ (y : Int) (k : Nat) (M' : List S25), v8 = .int .i64 y ∧ Aside0 (y = (k : Int)) ∧ Aside0 (gn = vw.length - k) ∧ Aside0 (k ≤ vw.length) ∧ Aside0 (Gd M' (D ++ [⟨s.f0, vw.take k⟩])) ∧ Aside0 (Kd.R k25 25 wr w.heap.size (fun _ => True) v5 M') ∧ Aside0 (Kd.N k65 65 wr w.heap.size (fun k_ => some k_ ≠ (v5 : Value).ownBlock) (.slice Al LD.length cl) LD) ∧ Aside0 (Below w.heap.size w wr))
    case atStart => exact ⟨0, 0, M, rfl, ⟨rfl⟩, ⟨rfl⟩, ⟨Nat.zero_le _⟩, ⟨by rw [List.take_zero]; exact HGS.out⟩, ⟨HM3.out⟩, ⟨HL3.out⟩, ⟨HB3.out⟩⟩
    case round =>
     clear HM3 HL3 HB3 HGS; obtain ⟨y, k, M', rfl, HY, HNK, HK, HGD, HM, HL, HB⟩ := hrel; obtain ⟨Am, cm, em⟩ := Kd.R_slice HM.out; subst em; obtain ⟨al, A2, c2, eL, hy0, hy1, hl2, hC2⟩ := at_T65 (Kd.N_reads' HL.out).2.2 x (of_eq_true hx0) HXL.out; cases eL; rw [HRD.out] at hy0 hy1 hl2 hC2
     dsimp only at hy0 hy1 hl2 hC2
     have e3 : decide (x < (LD.length : Int)) = true := decide_eq_true HXL.out; have hx2 := eq_true HXL.out; have HML := Lib.hid (show M'.length ≤ 2560 from gd_len HGD.out (by have := HLD.out; simpa using this))
     by_cases hk : k < vw.length
     ·
      have hz0 : 0 ≤ y := by rw [HY.out]; omega
      have hz1 : y < (vw.length : Int) := by rw [HY.out]; omega
      have e4 : decide (0 ≤ y) = true := decide_eq_true hz0; have e5 : decide (y < (vw.length : Int)) = true := decide_eq_true hz1; obtain ⟨ap, eP, q0, q1, q2⟩ := at_T42 hC2 y hz0 hz1; cases eP
      obtain ⟨p, hp⟩ : ∃ p, rd_T42 vw y = p := ⟨_, rfl⟩
      rw [hp] at q0; have HVK := Lib.hid (show vw[k] = p by rw [← hp, HY.out, rdP hk]); have HYN := Lib.hid (show wrap64 (y + 1) = ((k + 1 : Nat) : Int) by rw [HY.out]; have := HV64.out; unfold wrap64; omega); have HIN := Lib.hid (show ∀ n, n = vw.length - k → vw.length - (k + 1) < n by intro n hn; omega); have HKK := Lib.hid hk; clear q1 q2 hC2 hl2 hp; replace hz0 := eq_true hz0; replace hz1 := eq_true hz1
      by_cases ht : p.f0 < 0
      ·
       have t0 : decide (p.f0 < 0) = true := decide_eq_true ht; clear ht; go_wp2; go_ret; exact ⟨rfl, HB.out⟩
      by_cases ht2 : p.f0 > 1099511627776
      ·
       have t0 : decide (p.f0 < 0) = false := decide_eq_false ht; have t1 : decide (1099511627776 < p.f0) = true := decide_eq_true ht2; clear ht ht2; go_wp2; go_ret; exact ⟨rfl, HB.out⟩
      have t0 : decide (p.f0 < 0) = false := decide_eq_false ht; have t1 : decide (1099511627776 < p.f0) = false := decide_eq_false ht2; have hp0 : 0 ≤ p.f0 := by omega
      have hp1 : p.f0 ≤ 1099511627776 := by omega
      have HGP := Lib.hid (gs_pt HGD.out hk HVU.out HV64.out HVK.out hp0 hp1); clear ht ht2
      go_wp2_with (first
       | ((with_reducible refine gate_dst (N := 10) rfl ?_); refine box_event rfl (N := 10) rfl (cs := #[.string ⟨#[]⟩, .int .i64 0, .int .i64 0, .int .u32 0]) (t := 25) ?hr ?_; (case hr => first | (go_simp; done) | (go_simp; rfl)); intro g10 hg_ Z1 hbo_ hb_; have HZ1 := Lib.hid (And.intro hg_ (And.intro hbo_ hb_)); clear hg_ hbo_ hb_)
       | (refine store_blk (t := 25) (p := .tmp 10) (v := .tmp 115) (g := g10) (off := 0) (cur := #[.string ⟨#[]⟩, .int .i64 0, .int .i64 0, .int .u32 0]) (cur' := #[.string s.f0, .int .i64 (p.f0 / 60 * 60), .int .i64 0, .int .u32 0]) (e := 25) (u := .agg #[.string s.f0, .int .i64 (p.f0 / 60 * 60), .int .i64 0, .int .u32 0]) rfl rfl rfl rfl rfl HZ1.out.2.1 (by kernel_rfl) (Nat.le_of_ble_eq_true rfl) (by rfl) (by rfl) ?_; intro Z2 hz_ hg_ hs_; have HZ2 := Lib.hid (And.intro hz_ hg_); have HBZ := Lib.hid (below_grow HZ1.out.2.2 hg_ (Nat.le_of_eq HZ1.out.1.symm)); have zc0 : Z2.cell? ⟨g10, 0, none⟩ = some (.string s.f0) := (blk_cell hz_ 0).trans rfl; have zc1 : Z2.cell? ⟨g10, 1, none⟩ = some (.int .i64 (p.f0 / 60 * 60)) := (blk_cell hz_ 1).trans rfl; have zc2 : Z2.cell? ⟨g10, 2, none⟩ = some (.int .i64 0) := (blk_cell hz_ 2).trans rfl; have zc3 : Z2.cell? ⟨g10, 3, none⟩ = some (.int .u32 0) := (blk_cell hz_ 3).trans rfl; clear hz_ hg_ hs_))
      try simp only [Act.put, List.setIfInBounds_toArray, List.set_cons_zero, List.set_cons_succ]
      go_cut [128] (fun v128 wc => ∃ nb : Bool, v128 = .bool nb ∧ Aside0 (nb = !decide (M'.getLast? = some (mk s.f0 p))) ∧ Aside0 (wc.heap[g10]? = some (.cells #[.string s.f0, .int .i64 (p.f0 / 60 * 60), .int .i64 0, .int .u32 0] 25 (0, 0))) ∧ Aside0 (Below wr.heap.size wr wc))
      case first =>
       by_cases hM : M' = []
       ·
        have b0 : ((M'.length : Int) == 0) = true := beq_iff_eq.mpr (by rw [hM]; rfl); have b1 : ((M'.length : Int) != 0) = false := bne_eq_false_iff_eq.mpr (by rw [hM]; rfl); have HNB := Lib.hid (show true = !decide (M'.getLast? = some (mk s.f0 p)) by rw [hM]; rfl); clear hM
        as_aux_lemma =>
        go_wp2; repeat (go_quiet (fail); try go_wp2)
        go_meet
        case rel => exact ⟨true, by first | rfl | (simp; done) | (simp [*]; done), ⟨HNB.out⟩, ⟨by first | exact HZ2.out.1 | exact blk_drew HZ2.out.1⟩, ⟨by first | exact HBZ.out | exact pw_below_drewN HBZ.out _⟩⟩
       ·
        have hl0 : 0 < M'.length := List.length_pos_iff.2 hM; have b0 : ((M'.length : Int) == 0) = false := beq_eq_false_iff_ne.mpr (by omega); have b1 : ((M'.length : Int) != 0) = true := bne_iff_ne.mpr (by omega)
        obtain ⟨jm, hjm⟩ : ∃ jm, wrap64 ((M'.length : Int) - 1) = jm := ⟨_, rfl⟩
        obtain ⟨m0, hm0⟩ : ∃ m0, rd_T25 M' jm = m0 := ⟨_, rfl⟩
        have hj0 : 0 ≤ jm := by rw [← hjm]; have := HML.out; unfold wrap64; omega
        have hj1 : jm < (M'.length : Int) := by rw [← hjm]; have := HML.out; unfold wrap64; omega
        have hnb := ne_last hM (by have := HML.out; omega) hjm hm0 s.f0 (p.f0 / 60 * 60)
        obtain ⟨nb, hnb2⟩ : ∃ nb, (!(m0.f0.toList == s.f0.toList) || (!(m0.f1 == p.f0 / 60 * 60) || (!(m0.f2 == 0) || !(m0.f3 == 0)))) = nb := ⟨_, rfl⟩
        rw [hnb2] at hnb; have HNB := Lib.hid hnb
        have hch : ∀ w' : World, (if m0.f0.toList = s.f0.toList then (if m0.f1 = p.f0 / 60 * 60 then (if m0.f2 = 0 then (if m0.f3 = 0 then Result.ok (Next.value (Value.bool false)) w' else Result.ok (Next.value (Value.bool true)) w') else Result.ok (Next.value (Value.bool true)) w') else Result.ok (Next.value (Value.bool true)) w') else Result.ok (Next.value (Value.bool true)) w') = Result.ok (Next.value (Value.bool nb)) w' := fun w' => by
         rw [← hnb2]
         by_cases h1 : m0.f0.toList = s.f0.toList <;> by_cases h2 : m0.f1 = p.f0 / 60 * 60 <;> by_cases h3 : m0.f2 = 0 <;> by_cases h4 : m0.f3 = 0 <;> simp [h1, h2, h3, h4]
        clear hnb hnb2; obtain ⟨am, eM, n0, n1, n2, n3⟩ := at_T25 (Kd.R_reads' (Kd.R_below HM.out HBZ.out)).2.2 jm hj0 hj1; cases eM; rw [hm0] at n0 n1 n2 n3; have b2 : decide (0 ≤ jm) = true := decide_eq_true hj0; have b3 : decide (jm < (M'.length : Int)) = true := decide_eq_true hj1; have hjw : IntKind.i64.wrap ((M'.length : Int) - 1) = jm := (i64_w _).trans hjm; clear hm0 hl0 hM; replace hj0 := eq_true hj0; replace hj1 := eq_true hj1
        as_aux_lemma =>
        have nq0 : Z2.drew.cell? (am.add (jm.toNat * 4)) = some (.string m0.f0) := n0; have nq1 : Z2.drew.cell? ⟨(am.add (jm.toNat * 4)).block, (am.add (jm.toNat * 4)).off + 1, none⟩ = some (.int .i64 m0.f1) := n1; have nq2 : Z2.drew.cell? ⟨(am.add (jm.toNat * 4)).block, (am.add (jm.toNat * 4)).off + 2, none⟩ = some (.int .i64 m0.f2) := n2; have nq3 : Z2.drew.cell? ⟨(am.add (jm.toNat * 4)).block, (am.add (jm.toNat * 4)).off + 3, none⟩ = some (.int .u32 m0.f3) := n3; have nz0 : Z2.drew.cell? ⟨g10, 0, none⟩ = some (.string s.f0) := zc0; have nz1 : Z2.drew.cell? ⟨g10, 1, none⟩ = some (.int .i64 (p.f0 / 60 * 60)) := zc1; have nz2 : Z2.drew.cell? ⟨g10, 2, none⟩ = some (.int .i64 0) := zc2; have nz3 : Z2.drew.cell? ⟨g10, 3, none⟩ = some (.int .u32 0) := zc3; try go_wp2
        refine start_ (n := 13) (S := fun w' => w'.cell? (am.add (jm.toNat * 4)) = some (.string m0.f0) ∧ w'.cell? ⟨(am.add (jm.toNat * 4)).block, (am.add (jm.toNat * 4)).off + 1, none⟩ = some (.int .i64 m0.f1) ∧ w'.cell? ⟨(am.add (jm.toNat * 4)).block, (am.add (jm.toNat * 4)).off + 2, none⟩ = some (.int .i64 m0.f2) ∧ w'.cell? ⟨(am.add (jm.toNat * 4)).block, (am.add (jm.toNat * 4)).off + 3, none⟩ = some (.int .u32 m0.f3) ∧ w'.cell? ⟨g10, 0, none⟩ = some (.string s.f0) ∧ w'.cell? ⟨g10, 1, none⟩ = some (.int .i64 (p.f0 / 60 * 60)) ∧ w'.cell? ⟨g10, 2, none⟩ = some (.int .i64 0) ∧ w'.cell? ⟨g10, 3, none⟩ = some (.int .u32 0)) (ds := []) (bs 13 0) (by kernel_rfl) rfl rfl ⟨nq0, nq1, nq2, nq3, nz0, nz1, nz2, nz3⟩ (fun hHeld => ?_); refine with_tabW All18.tab18 All18.bits18 (fun HT_ HW_ => ?_); apply pv 0 116 (bs 13 1) HT_; rfl; rfl; kernel_rfl; exact qq; rfl; intro w'; go_simp; with_reducible rfl; simp only [zz]; rfl
        apply pv 1 117 (bs 13 3) HT_; rfl; rfl; kernel_rfl; exact qq; rfl; intro w'; go_simp; with_reducible rfl; simp only [zz]; rfl
        apply pv 2 118 (bs 13 7) HT_; rfl; rfl; kernel_rfl; exact qq; rfl; intro w'; go_simp; with_reducible rfl; simp only [zz]; rfl
        apply pv 3 119 (bs 13 15) HT_; rfl; rfl; kernel_rfl; exact qq; rfl; intro w'; go_simp; with_reducible rfl; simp only [zz]; rfl
        apply pv 4 120 (bs 13 31) HT_; rfl; rfl; kernel_rfl; exact qq; rfl; intro w'; go_simp; with_reducible rfl; simp only [zz]; rfl
        apply pv 5 121 (bs 13 63) HT_; rfl; rfl; kernel_rfl; exact qq; rfl; intro w'; go_simp; with_reducible rfl; simp only [zz]; rfl
        apply pv 6 122 (bs 13 127) HT_; rfl; rfl; kernel_rfl; exact qq; rfl; intro w'; go_simp; with_reducible rfl; simp only [zz]; rfl
        apply pv 7 123 (bs 13 255) HT_; rfl; rfl; kernel_rfl; exact qq; rfl; intro w'; go_simp; with_reducible rfl; simp only [zz]; rfl
        apply pv 8 124 (bs 13 511) HT_; rfl; rfl; kernel_rfl; exact qq; rfl; intro w'; go_simp; with_reducible rfl; simp only [zz]; rfl
        apply tb 9 125 (bs 13 1023) HT_ HW_ hHeld; rfl; rfl; kernel_rfl; exact qq; rfl; rintro w' ⟨s0, s1, s2, s3, s4, s5, s6, s7⟩; go_simp; with_reducible rfl; simp only [zz]; rfl
        apply tb 10 126 (bs 13 2047) HT_ HW_ hHeld; rfl; rfl; kernel_rfl; exact qq; rfl; rintro w' ⟨s0, s1, s2, s3, s4, s5, s6, s7⟩; go_simp; with_reducible rfl; simp only [zz]; rfl
        apply pv 11 127 (bs 13 4095) HT_; rfl; rfl; kernel_rfl; exact qq; rfl; intro w'; go_simp; with_reducible rfl; simp only [zz]; rfl
        apply pv 12 128 (bs 13 8191) HT_; rfl; rfl; kernel_rfl; exact qq; rfl; intro w'; go_simp; with_reducible rfl; simp only [zz]; rfl
        refine done_ (done_of HT_.out (by kernel_rfl)) ?_; try go_wp2
        go_meet
        case rel => exact ⟨_, rfl, ⟨HNB.out⟩, ⟨by first | exact HZ2.out.1 | exact blk_drew HZ2.out.1⟩, ⟨by first | exact HBZ.out | exact pw_below_drewN HBZ.out _⟩⟩
      case rest =>
       clear zc0 zc1 zc2 zc3 HZ1 HZ2 HBZ; obtain ⟨nb, rfl, HNB, HX10, HBC⟩ := hcut; have HBD := Lib.hid (below_then HB.out HB.out.size HBC.out)
       as_aux_lemma =>
       cases nb with
       | true =>
        have zc0 : wc.cell? ⟨g10, 0, none⟩ = some (.string s.f0) := (blk_cell HX10.out 0).trans rfl; have zc1 : wc.cell? ⟨g10, 1, none⟩ = some (.int .i64 (p.f0 / 60 * 60)) := (blk_cell HX10.out 1).trans rfl; have zc2 : wc.cell? ⟨g10, 2, none⟩ = some (.int .i64 0) := (blk_cell HX10.out 2).trans rfl; have zc3 : wc.cell? ⟨g10, 3, none⟩ = some (.int .u32 0) := (blk_cell HX10.out 3).trans rfl
        go_wp2_with (first | ((with_reducible refine gate_builtin (b := .append) (xs := #[.tmp 129, .tmp 131]) rfl ?_); at_builtin; refine Kd.R_append k25 (w0 := w) w.heap.size rfl (.tmp 129) (.tmp 131) 22 25 (.agg #[(.string ⟨#[]⟩), (.int .i64 0), (.int .i64 0), (.int .u32 0)]) 40 rfl Try.underlying22 info25 rfl (by decide) (by omega) (.slice Am M'.length cm) M' (mk s.f0 p) [.string s.f0, .int .i64 (p.f0 / 60 * 60), .int .i64 0, .int .u32 0] (fun _ => True) (fun _ => False) rfl rfl ?aP (fun _ hk => hk.elim) (fun _ _ => trivial) ?aO ?aB ?aS ?aL ?_; (case aP => exact k25_mkM _ _ _ (mk s.f0 p)); (case aB => exact HBD.out); (case aO => exact Kd.R_below HM.out HBC.out); (case aS => exact HBD.out.size); (case aL => have := HML.out; omega); intro v9 w9 ho hb hg hat; have HM9 := Lib.hid ho; have HB9 := Lib.hid hb; have HL9 := Lib.hid (N_grown (Kd.N_below HL.out HBC.out) hg hat); clear ho hb hg hat))
        go_roundg (vw.length - (k + 1))
        case measure => exact HIN.out _ HNK.out
        case rel => exact ⟨wrap64 (y + 1), k + 1, addM M' (mk s.f0 p), by first | rfl | (simp; done), ⟨HYN.out⟩, ⟨rfl⟩, ⟨HKK.out⟩, ⟨HGP.out⟩, ⟨by rw [addM_app HNB.out]; exact HM9.out⟩, ⟨HL9.out⟩, ⟨HB9.out⟩⟩
       | false =>
        go_wp2; go_roundg (vw.length - (k + 1))
        case measure => exact HIN.out _ HNK.out
        case rel => exact ⟨wrap64 (y + 1), k + 1, addM M' (mk s.f0 p), by first | rfl | (simp; done), ⟨HYN.out⟩, ⟨rfl⟩, ⟨HKK.out⟩, ⟨HGP.out⟩, ⟨by rw [addM_same HNB.out]; exact Kd.R_below HM.out HBC.out⟩, ⟨Kd.N_below HL.out HBC.out⟩, ⟨HBD.out⟩⟩
     ·
      have e5 : decide (y < (vw.length : Int)) = false := decide_eq_false (by rw [HY.out]; omega); have HGN := Lib.hid (show Gs l (i + 1) M' LD from by rw [← HLDE.out]; exact gs_next HG.out HII.out HLS.out HVV.out (by have := HGD.out; rwa [List.take_of_length_le (by omega)] at this)); have HXN := Lib.hid (show wrap64 (x + 1) = ((i + 1 : Nat) : Int) by rw [HX.out]; have h1 := HL40.out; have h2 := HII.out; unfold wrap64; omega); have HIN := Lib.hid (show ∀ n, n = l.length - i → l.length - (i + 1) < n by have := HII.out; intro n hn; omega); clear hk hl2 hC2
      as_aux_lemma =>
      go_wp2; go_roundg (l.length - (i + 1))
      case measure => exact HIN.out _ HN_.out
      case rel => exact ⟨wrap64 (x + 1), i + 1, M', LD, by first | rfl | (simp; done), ⟨HXN.out⟩, ⟨rfl⟩, ⟨HII.out⟩, ⟨HGN.out⟩, ⟨HM.out⟩, ⟨HL.out⟩, ⟨HB.out⟩⟩
  ·
   as_aux_lemma =>
   obtain ⟨W0, rfl⟩ : ∃ W0, W0 = wr := ⟨_, rfl⟩
   have hei : decide (x < (l.length : Int)) = false := decide_eq_false (by rw [HX.out]; omega); have HEQ := Lib.hid (show D = l.map srv by have h1 := HG.out.eq; rw [h1, List.take_of_length_le (by omega)]); have HGD := Lib.hid HG.out.gd; have HDL := Lib.hid (show D.length ≤ 40 by rw [HEQ.out, List.length_map]; exact HL40.out); have HML := Lib.hid (gd_len HGD.out HDL.out); have HIDS := Lib.hid (fun (a : Fa) (h : Iv M a) => srv_sz HIDL.out (HEQ.out ▸ HGD.out) h); obtain ⟨Am, cm, em⟩ := Kd.R_slice HM.out; subst em; obtain ⟨Al, cl, el⟩ := Kd.N_slice HL.out; subst el; have HMC := Lib.hid (And.intro (Kd.R_reads' HM.out).2.1 (Kd.R_reads' HM.out).2.2); have HLC := Lib.hid (And.intro (Kd.N_reads' HL.out).2.1 (Kd.N_reads' HL.out).2.2); have HNN := Lib.hid (Kd.C_below HN.out HB.out)
   obtain ⟨fx, hfx⟩ : ∃ fx : Fx, fx = ⟨3, 1, 2, ⟨0, 1099511627777⟩, 60⟩ := ⟨_, rfl⟩
   have HSZ := Lib.hid (show fx.sz = 60 by rw [hfx]); have HRG := Lib.hid (show fx.rg = ⟨0, 1099511627777⟩ by rw [hfx]); have HNW := Lib.hid (show Calls Try.prog 8 #[.int .i64 1, .int .i64 2, .int .i64 60, .agg #[.int .i64 0, .int .i64 1099511627777], .int .i64 3, .int .i64 10] W0 (fun e w' => ∃ g gm : Nat, e = .returned (.pointer (some ⟨g, 0, none⟩)) ∧ FIs w' W0.heap.size g gm (.slice none 0 0) fx z25 (a0 10) ∧ Hm.HM w' gm W0.heap.size 0 [] ∧ Below W0.heap.size W0 w' ∧ W0.heap.size ≤ g ∧ W0.heap.size ≤ gm) from by subst hfx; exact new_calls W0 W0 (Below.refl _ _) ⟨3, 1, 2, ⟨0, 1099511627777⟩, 60⟩ 10); clear hi HX HN_ HI HG hfx HM HN HCN HC HCL HL40; go_wp2_with fail
   with_reducible refine HNW.out.mono ?_
   rintro e w1 ⟨g, gm, rfl, hI, hM, hb, hg, hgm⟩; have HF0 := Lib.hid hI; have HM0 := Lib.hid hM; have HB0 := Lib.hid hb; have HGM := Lib.hid hgm; clear hI hM hb hg hgm HNW hei; have hml : (M.length : Int) ≤ 2560 := by have := HML.out; omega
   go_wp2_with fail
   go_loopg [12, 13, 14, 15, 16] (2 * M.length + 2) (fun gn v12 v13 v14 v15 v16 wq => ∃ (z : Int) (n : Nat) (a : Fa) (cu : S25) (vM : Value) (hm : Hp), v12 = .int .i64 z ∧ Aside0 (z = (n : Int)) ∧ Aside0 (gn = 2 * M.length + 2 - n) ∧ Aside0 (n + rem M a ≤ 2 * M.length + 1) ∧ Aside0 (Iv M a) ∧ Aside0 (a.seq = 10 + (n : Int)) ∧ Aside0 (FIs wq W0.heap.size g gm vM fx cu a) ∧ Aside0 (Hm.HM wq gm W0.heap.size (65 * n) hm) ∧ Aside0 ((fun k => (cur hm k).2) = toldOf D M a.n) ∧ Aside0 (Below W0.heap.size W0 wq))
   case atStart => exact ⟨0, 0, a0 10, z25, .slice none 0 0, [], rfl, ⟨rfl⟩, ⟨rfl⟩, ⟨by have := rem_start M 10; omega⟩, ⟨iv_start HGD.out 10⟩, ⟨rfl⟩, ⟨HF0.out⟩, ⟨HM0.out⟩, ⟨by funext k; rfl⟩, ⟨HB0.out⟩⟩
   case round =>
    obtain ⟨wq, rfl⟩ : ∃ wq, wq = wr := ⟨_, rfl⟩
    clear HF0 HM0 HB0; obtain ⟨z, n, a, cu, vM, hm, rfl, HZ, HGN, HRM, HIV, HSQ, HF, HMP, HTD, HBQ⟩ := hrel; have hz1 : z < 2 * (M.length : Int) + 4 := by rw [HZ.out]; have := HRM.out; omega
    have hz2 : 0 ≤ z := by rw [HZ.out]; omega
    have HNE := Lib.hid (next_calls wq _ g gm vM fx cu a HF.out)
    cases hl : a.live with
    | false =>
     rw [show qmsg fx a = mc0 by unfold qmsg; rw [hl]; rfl, hl] at HNE; have HFI := Lib.hid (dead_fin HIV.out hl); clear hl
     as_aux_lemma =>
     go_wp2_with fail
     with_reducible refine HNE.out.mono ?_
     rintro e w1 ⟨rfl, hb1⟩; have HB1 := Lib.hid hb1; clear hb1 HNE
     go_wp2_with (first
      | ((with_reducible refine gate_dst (N := 13) rfl ?_); refine box_event rfl (N := 13) rfl (cs := mc0) (t := 46) ?hr ?_; (case hr => first | (go_simp; done) | (go_simp; rfl)); intro g13 hg_ Z1 hbo_ hb_; have HZ1 := Lib.hid (And.intro hg_ (And.intro hbo_ hb_)); clear hg_ hbo_ hb_)
      | (refine store_blk (t := 46) (p := .tmp 13) (v := .tmp 146) (g := g13) (off := 0) (cur := mc0) (cur' := mc0) (e := 46) (u := .agg mc0) rfl rfl rfl rfl rfl HZ1.out.2.1 (by kernel_rfl) (Nat.le_of_ble_eq_true rfl) (by rfl) (by rfl) ?_; intro Z2 hz_ hg_ hs_; have HZ2 := Lib.hid (And.intro hz_ hg_); have HBT := Lib.hid (below_then HB1.out HB1.out.size (below_grow HZ1.out.2.2 hg_ (Nat.le_of_eq HZ1.out.1.symm))); clear hz_ hg_ hs_)
      | ((with_reducible refine gate_dst (N := 208) rfl ?_); refine Kd.N_lit k65 _ 65 ?hg (N' := 208) ?hd (xs := ([] : List S65)) (inner := []) (ok := (fun _ => True)) (okp := (fun _ => True)) ?hr ?hp (fun _ hk => hk) trivial (Below.refl _ _) (Nat.le_refl _) (by simp) ?_; (case hd => rfl); (case hg => rfl); (case hr => first | (go_simp; done) | (go_simp; rfl)); (case hp => exact (Reps.none _ _)); intro vW w3 ho hb hg_ hnew_; clear hg_ hnew_; have HW3 := Lib.hid ho; have HBV := Lib.hid hb; clear ho hb))
     try go_frame
     have HFE := Lib.hid (HF.out.below HBT.out); have HME := Lib.hid (HMP.out.below HBT.out); have HBR := Lib.hid (below_then HBQ.out HBQ.out.size HBT.out); clear HF HMP HB1; go_loopg [17, 18] D.length (fun gn v17 v18 wt => ∃ (y : Int) (k : Nat), v18 = .int .i64 y ∧ Aside0 (y = (k : Int)) ∧ Aside0 (gn = D.length - k) ∧ Aside0 (k ≤ D.length) ∧ Aside0 (Kd.N k65 65 wt Z2.heap.size (fun _ => True) v17 (want (D.take k))) ∧ Aside0 (Below Z2.heap.size Z2 wt))
     case atStart => exact ⟨0, 0, rfl, ⟨rfl⟩, ⟨rfl⟩, ⟨Nat.zero_le _⟩, ⟨HW3.out⟩, ⟨HBV.out⟩⟩
     case round =>
      obtain ⟨wt, rfl⟩ : ∃ wt, wt = wr := ⟨_, rfl⟩
      clear HW3 HBV; obtain ⟨y, k, rfl, HY, HNK, HKK, HW, HBT2⟩ := hrel; have HBA := Lib.hid (below_then HBR.out HBR.out.size HBT2.out)
      by_cases hk : k < D.length
      ·
       have hk0 : 0 ≤ y := by rw [HY.out]; omega
       have hk1 : y < (D.length : Int) := by rw [HY.out]; omega
       obtain ⟨al, A2, c2, eL, hx0_, hx1_, hl2, hC2⟩ := at_T65 HLC.out.2 y hk0 hk1; cases eL
       have HVV := Lib.hid (show Kd.V k42 42 W0 w.heap.size _ (.slice A2 (rd_T65 D y).f1.length c2) (rd_T65 D y).f1 from by
        obtain ⟨ce, hce, hMe, hcc⟩ := Kd.N_get HL.out z65 y hk0 hk1; obtain ⟨ua, uc, rfl, ul, ge⟩ := k65_openF hMe; have hv1 := hcc 1 _ rfl; rw [add_field _ _ 1 (by omega)] at hv1; replace hv1 := Option.some.inj (hv1.symm.trans hx1_)
        injection hv1 with hva hvn hvc
        rw [hva] at ge; rw [hvc] at ul
        exact Kd.V_mk ul ge)
       obtain ⟨d, hd⟩ : ∃ d, rd_T65 D y = d := ⟨_, rfl⟩
       rw [hd] at hx0_ hx1_ hl2 hC2 HVV; have hx0 := (HBA.out.cell (World.block_lt_of_cell? W0 _ hx0_)).trans hx0_; have hx1 := (HBA.out.cell (World.block_lt_of_cell? W0 _ hx1_)).trans hx1_; have HDK := Lib.hid (show D[k] = d by rw [← hd, HY.out, rdS hk]); have HWS := Lib.hid (want_snoc hk); rw [HDK.out] at HWS; have HZN := Lib.hid (show wrap64 (y + 1) = ((k + 1 : Nat) : Int) by rw [HY.out]; have := HDL.out; unfold wrap64; omega); have HIN := Lib.hid (show ∀ n, n = D.length - k → D.length - (k + 1) < n by intro n hn; omega); have HKD := Lib.hid hk; have k0_ : decide (0 ≤ y) = true := decide_eq_true hk0; have k1_ : decide (y < (D.length : Int)) = true := decide_eq_true hk1; replace hk0 := eq_true hk0; replace hk1 := eq_true hk1; have HL2 := Lib.hid hl2; clear hx0_ hx1_ hC2 hl2 hd
       by_cases h0 : (d.f1.length : Int) > 0
       ·
        have d0 : decide (0 < (d.f1.length : Int)) = true := decide_eq_true h0; have d1 : decide (0 < d.f1.length) = true := decide_eq_true (by omega); rw [if_pos h0] at HWS; have HVW := Lib.hid (Kd.V_mono (ok' := fun k_ => some k_ ≠ (u17 : Value).ownBlock) (Kd.V_elder' (u := u17) HVV.out (fun k2 hk2 => Nat.le_trans HBR.out.size (Kd.N_base HW.out k2 hk2)) HBA.out) (fun k2 hk2 => hk2.2)); have HLW := Lib.hid (show (want (D.take k)).length < 41 by have h1 := List.length_filter_le (fun s : Sr => decide ((s.f1.length : Int) > 0)) (D.take k); have h2 := HDL.out; rw [List.length_take] at h1; unfold want; omega); clear h0
        as_aux_lemma =>
        go_wp2_with (first | ((with_reducible refine gate_builtin (b := .append) (xs := #[.tmp 222, .tmp 227]) rfl ?_); at_builtin; refine Kd.N_append k65 (w0 := Z2) Z2.heap.size rfl (.tmp 222) (.tmp 227) 58 65 (.agg #[(.string ⟨#[]⟩), (.slice none 0 0)]) 40 rfl Try.underlying58 info65' rfl (by decide) (by omega) u17 (want (D.take k)) d [.string d.f0, .slice A2 d.f1.length c2] (fun _ => True) (fun k_ => some k_ ≠ (u17 : Value).ownBlock) rfl rfl ?aP (fun _ hk => ⟨trivial, hk⟩) (fun _ _ => trivial) ?aO ?aB ?aS ?aL ?_; (case aP => exact k65_mkF _ _ d HL2.out (Kd.V_F HVW.out)); (case aB => exact HBT2.out); (case aO => exact HW.out); (case aS => exact HBT2.out.size); (case aL => have := HLW.out; omega); intro v9 w9 ho hb hg hat; have HW9 := Lib.hid ho; have HB9 := Lib.hid hb; clear ho hb hg hat))
        go_roundg (D.length - (k + 1))
        case measure => exact HIN.out _ HNK.out
        case rel => exact ⟨wrap64 (y + 1), k + 1, by first | rfl | (simp; done), ⟨HZN.out⟩, ⟨rfl⟩, ⟨HKD.out⟩, ⟨by rw [HWS.out]; exact HW9.out⟩, ⟨HB9.out⟩⟩
       ·
        have d0 : decide (0 < (d.f1.length : Int)) = false := decide_eq_false h0; have d1 : decide (0 < d.f1.length) = false := decide_eq_false (by omega); rw [if_neg h0, List.append_nil] at HWS; clear h0
        as_aux_lemma =>
        go_wp2; go_roundg (D.length - (k + 1))
        case measure => exact HIN.out _ HNK.out
        case rel => exact ⟨wrap64 (y + 1), k + 1, by first | rfl | (simp; done), ⟨HZN.out⟩, ⟨rfl⟩, ⟨HKD.out⟩, ⟨by rw [HWS.out]; exact HW.out⟩, ⟨HBT2.out⟩⟩
      ·
       have k1_ : decide (y < (D.length : Int)) = false := decide_eq_false (by rw [HY.out]; omega); have hge : ¬ y < (D.length : Int) := by rw [HY.out]; omega
       have HWD := Lib.hid (show want (D.take k) = want D by rw [List.take_of_length_le (by omega)]); rw [HWD.out] at HW; obtain ⟨Aw, cw, ew⟩ := Kd.N_slice HW.out; subst ew; have HWC := Lib.hid (And.intro (Kd.N_reads' HW.out).2.1 (Kd.N_reads' HW.out).2.2); have HWL := Lib.hid (want_len HGD.out HDL.out); have HVS := Lib.hid (want_vs HGD.out); have HND := Lib.hid (nd_of HME.out); have HSX := Lib.hid (show SR fx.rg (fun k => (cur hm k).2) (want D) from by rw [HRG.out, HTD.out, HFI.out.2]; exact want_SR HGD.out); have HDN := Lib.hid (done_calls wt _ g gm vM fx cu a (HFE.out.below HBT2.out)); rw [HFI.out.1] at HDN; have HER := Lib.hid (err_calls wt _ g gm vM fx cu a (HFE.out.below HBT2.out)); rw [HIV.out.er] at HER; have HSR := Lib.hid (series_calls wt _ g gm vM fx cu a hm _ (HFE.out.below HBT2.out) (HME.out.below HBT2.out) (by have h1 := HRM.out; have h2 := HML.out; omega)); clear hk
       as_aux_lemma =>
       go_wp2_with fail
       with_reducible refine HDN.out.mono ?_
       rintro e w4 ⟨rfl, rfl⟩; clear HDN; go_wp2_with fail
       with_reducible refine HER.out.mono ?_
       rintro e w5 ⟨rfl, rfl⟩; clear HER; go_wp2_with fail
       with_reducible refine HSR.out.mono ?_
       rintro e w7 ⟨v7, ns, rfl, hpm, hpw, hR7, hb7⟩; rw [series_eq HSX.out hpm hpw HND.out, HVS.out] at hR7; obtain ⟨A7, c7, rfl⟩ := Kd.R_slice hR7; have HSM := Lib.hid (sameSeries_calls w7 A7 c7 Aw cw (want D) HWL.out.1 HWL.out.2 (Kd.R_reads' hR7).2.2 (Kd.R_reads' hR7).2.1 (Kd.C_below HWC.out.2 hb7) HWC.out.1); have HB7 := Lib.hid hb7; clear hpm hpw hR7 hb7 HSR; go_wp2_with fail
       with_reducible refine HSM.out.mono ?_
       rintro e w8 ⟨rfl, hb8⟩; have HB8 := Lib.hid hb8; clear hb8 HSM; go_wp2; go_ret
       exact ⟨rfl, below_then HB.out HB.out.size (below_then HBA.out HBA.out.size (below_then HB7.out HB7.out.size HB8.out))⟩
    | true =>
     obtain ⟨kd, e9, p9, h9, q, b, r0, r1, hqm, hq2⟩ := qmsg_live fx hl; rw [hqm, hl] at HNE; have HLV := Lib.hid hl; have HQ2 := Lib.hid hq2; have HRP := Lib.hid (rem_pos HIV.out hl)
     obtain ⟨sq, hsq⟩ : ∃ sq, a.seq = sq := ⟨_, rfl⟩
     rw [hsq] at HNE; have HSE := Lib.hid hsq; clear hqm hq2 hl hsq
     as_aux_lemma =>
     go_wp2_with fail
     with_reducible refine HNE.out.mono ?_
     rintro e w1 ⟨rfl, hb1⟩; have HB1 := Lib.hid hb1; clear hb1 HNE
     go_wp2_with (first
      | ((with_reducible refine gate_dst (N := 13) rfl ?_); refine box_event rfl (N := 13) rfl (cs := mc0) (t := 46) ?hr ?_; (case hr => first | (go_simp; done) | (go_simp; rfl)); intro g13 hg_ Z1 hbo_ hb_; have HZ1 := Lib.hid (And.intro hg_ (And.intro hbo_ hb_)); clear hg_ hbo_ hb_)
      | (refine store_blk (t := 46) (p := .tmp 13) (v := .tmp 146) (g := g13) (off := 0) (cur := mc0) (cur' := mc kd sq e9 p9 h9 q b r0 r1) (e := 46) (u := .agg (mc kd sq e9 p9 h9 q b r0 r1)) rfl rfl rfl rfl rfl HZ1.out.2.1 (by kernel_rfl) (Nat.le_of_ble_eq_true rfl) (by rfl) (by rfl) ?_; intro Z2 hz_ hg_ hs_; have HZ2 := Lib.hid (And.intro hz_ hg_); have HX13 := Lib.hid hz_; have HB13 := Lib.hid (below_then HB1.out HB1.out.size (below_grow HZ1.out.2.2 hg_ (Nat.le_of_eq HZ1.out.1.symm))); clear hz_ hg_ hs_))
     go_loopg [15] nz.length (fun gn v15 wn => ∃ (z2 : Int) (k : Nat), v15 = .int .i64 z2 ∧ Aside0 (z2 = (k : Int)) ∧ Aside0 (gn = nz.length - k) ∧ Aside0 (k ≤ nz.length) ∧ Aside0 (wn.heap[g13]? = some (.cells (mc kd sq e9 p9 h9 q b r0 r1) 46 (0, 0))) ∧ Aside0 (Below wq.heap.size wq wn))
     case atStart => exact ⟨0, 0, rfl, ⟨rfl⟩, ⟨rfl⟩, ⟨Nat.zero_le _⟩, ⟨HX13.out⟩, ⟨HB13.out⟩⟩
     case round =>
      obtain ⟨wn, rfl⟩ : ∃ wn, wn = wr := ⟨_, rfl⟩
      clear HX13 HB13 HZ1 HZ2 HB1; obtain ⟨z2, k, rfl, HZK, HNK, HKK, HX13, HBN⟩ := hrel; have HBW := Lib.hid (below_then HBQ.out HBQ.out.size HBN.out)
      by_cases hk : k < nz.length
      ·
       have hk0 : 0 ≤ z2 := by rw [HZK.out]; omega
       have hk1 : z2 < (nz.length : Int) := by rw [HZK.out]; omega
       obtain ⟨ad, A1, c1, A2, c2, eN, p0, p1, p2, p3, p4, p5, p6, p7, p8, p9, p10, p11, p12, p13, p14, p15, hl1, hC1, hl2, hC2⟩ := at_T46 (Kd.C_below HNN.out HBW.out) z2 hk0 hk1; cases eN
       obtain ⟨m, hm_⟩ : ∃ m, rd_T46 nz z2 = m := ⟨_, rfl⟩
       rw [hm_] at p0 p1 p2 p3 p4 p5 p6 p7 p8 p9 p10 p11 p12 p13 p14 p15; have ky1 : wn.cell? ⟨g13, 1, none⟩ = some (.int .i64 sq) := (blk_cell HX13.out 1).trans rfl; have HZN := Lib.hid (show wrap64 (z2 + 1) = ((k + 1 : Nat) : Int) by rw [HZK.out]; have := HNL.out; unfold wrap64; omega); have HIN := Lib.hid (show ∀ n, n = nz.length - k → nz.length - (k + 1) < n by intro n hn; omega); have HKN := Lib.hid hk; have k0_ : decide (0 ≤ z2) = true := decide_eq_true hk0; have k1_ : decide (z2 < (nz.length : Int)) = true := decide_eq_true hk1; clear hk hm_ hl1 hC1 hl2 hC2
       by_cases hs : m.f1 = sq
       ·
        have g0 : (m.f1 == sq) = true := beq_iff_eq.mpr hs; have g1 : (m.f1 != sq) = false := bne_eq_false_iff_eq.mpr hs; replace hk0 := eq_true hk0; replace hk1 := eq_true hk1; clear hs
        as_aux_lemma =>
        go_wp2; repeat (go_quiet (fail); try go_wp2)
        go_roundg (nz.length - (k + 1))
        case measure => exact HIN.out _ HNK.out
        case rel => exact ⟨wrap64 (z2 + 1), k + 1, by first | rfl | (simp; done), ⟨HZN.out⟩, ⟨rfl⟩, ⟨HKN.out⟩, ⟨by first | exact HX13.out | exact blk_drew HX13.out⟩, ⟨by first | exact HBN.out | exact pw_below_drewN HBN.out _⟩⟩
       ·
        have g0 : (m.f1 == sq) = false := beq_eq_false_iff_ne.mpr hs; have g1 : (m.f1 != sq) = true := bne_iff_ne.mpr hs; have HHE := Lib.hid (show Calls Try.prog 13 #[.pointer (some ⟨g, 0, none⟩), .agg #[.int .i64 m.f0, .int .i64 m.f1, .int .i64 m.f2, .int .i64 m.f3, .int .i64 m.f4, .string m.f5, .int .i64 m.f6, .int .i64 m.f7.f0, .int .i64 m.f7.f1, .int .i64 m.f8.f0, .int .u64 m.f8.f1, .int .u64 m.f8.f2, .int .i64 m.f9, .bool m.f10, .slice A1 m.f11.length c1, .slice A2 m.f12.length c2]] wn.drew (fun e w' => e = .returned (.bool false) ∧ Below wn.heap.size wn.drew w') from hear_no W0 wn.drew g gm fx cu vM hm _ a m A1 c1 A2 c2 (HF.out.below (below_drew HBN.out)) (HMP.out.below (below_drew HBN.out)) (below_drew HBW.out) (hit_else (by rw [HSE.out]; exact hs))); have kx0 : wn.drew.cell? (ad.add (z2.toNat * 16)) = some (.int .i64 m.f0) := p0; have kx1 : wn.drew.cell? ⟨(ad.add (z2.toNat * 16)).block, (ad.add (z2.toNat * 16)).off + 1, none⟩ = some (.int .i64 m.f1) := p1; have kx2 : wn.drew.cell? ⟨(ad.add (z2.toNat * 16)).block, (ad.add (z2.toNat * 16)).off + 2, none⟩ = some (.int .i64 m.f2) := p2; have kx3 : wn.drew.cell? ⟨(ad.add (z2.toNat * 16)).block, (ad.add (z2.toNat * 16)).off + 3, none⟩ = some (.int .i64 m.f3) := p3; have kx4 : wn.drew.cell? ⟨(ad.add (z2.toNat * 16)).block, (ad.add (z2.toNat * 16)).off + 4, none⟩ = some (.int .i64 m.f4) := p4; have kx5 : wn.drew.cell? ⟨(ad.add (z2.toNat * 16)).block, (ad.add (z2.toNat * 16)).off + 5, none⟩ = some (.string m.f5) := p5; have kx6 : wn.drew.cell? ⟨(ad.add (z2.toNat * 16)).block, (ad.add (z2.toNat * 16)).off + 6, none⟩ = some (.int .i64 m.f6) := p6; have kx7 : wn.drew.cell? ⟨(ad.add (z2.toNat * 16)).block, (ad.add (z2.toNat * 16)).off + 7, none⟩ = some (.int .i64 m.f7.f0) := p7; have kx8 : wn.drew.cell? ⟨(ad.add (z2.toNat * 16)).block, (ad.add (z2.toNat * 16)).off + 8, none⟩ = some (.int .i64 m.f7.f1) := p8; have kx9 : wn.drew.cell? ⟨(ad.add (z2.toNat * 16)).block, (ad.add (z2.toNat * 16)).off + 9, none⟩ = some (.int .i64 m.f8.f0) := p9; have kx10 : wn.drew.cell? ⟨(ad.add (z2.toNat * 16)).block, (ad.add (z2.toNat * 16)).off + 10, none⟩ = some (.int .u64 m.f8.f1) := p10; have kx11 : wn.drew.cell? ⟨(ad.add (z2.toNat * 16)).block, (ad.add (z2.toNat * 16)).off + 11, none⟩ = some (.int .u64 m.f8.f2) := p11; have kx12 : wn.drew.cell? ⟨(ad.add (z2.toNat * 16)).block, (ad.add (z2.toNat * 16)).off + 12, none⟩ = some (.int .i64 m.f9) := p12; have kx13 : wn.drew.cell? ⟨(ad.add (z2.toNat * 16)).block, (ad.add (z2.toNat * 16)).off + 13, none⟩ = some (.bool m.f10) := p13; have kx14 : wn.drew.cell? ⟨(ad.add (z2.toNat * 16)).block, (ad.add (z2.toNat * 16)).off + 14, none⟩ = some (.slice A1 m.f11.length c1) := p14; have kx15 : wn.drew.cell? ⟨(ad.add (z2.toNat * 16)).block, (ad.add (z2.toNat * 16)).off + 15, none⟩ = some (.slice A2 m.f12.length c2) := p15; have ky1 : wn.drew.cell? ⟨g13, 1, none⟩ = some (.int .i64 sq) := ky1; replace hk0 := eq_true hk0; replace hk1 := eq_true hk1; clear hs
        as_aux_lemma =>
        go_upto_region 29 with (fail)
        refine start_ (n := 16) (S := fun w' => w'.cell? (ad.add (z2.toNat * 16)) = some (.int .i64 m.f0) ∧ w'.cell? ⟨(ad.add (z2.toNat * 16)).block, (ad.add (z2.toNat * 16)).off + 1, none⟩ = some (.int .i64 m.f1) ∧ w'.cell? ⟨(ad.add (z2.toNat * 16)).block, (ad.add (z2.toNat * 16)).off + 2, none⟩ = some (.int .i64 m.f2) ∧ w'.cell? ⟨(ad.add (z2.toNat * 16)).block, (ad.add (z2.toNat * 16)).off + 3, none⟩ = some (.int .i64 m.f3) ∧ w'.cell? ⟨(ad.add (z2.toNat * 16)).block, (ad.add (z2.toNat * 16)).off + 4, none⟩ = some (.int .i64 m.f4) ∧ w'.cell? ⟨(ad.add (z2.toNat * 16)).block, (ad.add (z2.toNat * 16)).off + 5, none⟩ = some (.string m.f5) ∧ w'.cell? ⟨(ad.add (z2.toNat * 16)).block, (ad.add (z2.toNat * 16)).off + 6, none⟩ = some (.int .i64 m.f6) ∧ w'.cell? ⟨(ad.add (z2.toNat * 16)).block, (ad.add (z2.toNat * 16)).off + 7, none⟩ = some (.int .i64 m.f7.f0) ∧ w'.cell? ⟨(ad.add (z2.toNat * 16)).block, (ad.add (z2.toNat * 16)).off + 8, none⟩ = some (.int .i64 m.f7.f1) ∧ w'.cell? ⟨(ad.add (z2.toNat * 16)).block, (ad.add (z2.toNat * 16)).off + 9, none⟩ = some (.int .i64 m.f8.f0) ∧ w'.cell? ⟨(ad.add (z2.toNat * 16)).block, (ad.add (z2.toNat * 16)).off + 10, none⟩ = some (.int .u64 m.f8.f1) ∧ w'.cell? ⟨(ad.add (z2.toNat * 16)).block, (ad.add (z2.toNat * 16)).off + 11, none⟩ = some (.int .u64 m.f8.f2) ∧ w'.cell? ⟨(ad.add (z2.toNat * 16)).block, (ad.add (z2.toNat * 16)).off + 12, none⟩ = some (.int .i64 m.f9) ∧ w'.cell? ⟨(ad.add (z2.toNat * 16)).block, (ad.add (z2.toNat * 16)).off + 13, none⟩ = some (.bool m.f10) ∧ w'.cell? ⟨(ad.add (z2.toNat * 16)).block, (ad.add (z2.toNat * 16)).off + 14, none⟩ = some (.slice A1 m.f11.length c1) ∧ w'.cell? ⟨(ad.add (z2.toNat * 16)).block, (ad.add (z2.toNat * 16)).off + 15, none⟩ = some (.slice A2 m.f12.length c2) ∧ w'.cell? ⟨g13, 1, none⟩ = some (.int .i64 sq)) (ds := [14]) (bs 16 0) (by kernel_rfl) rfl rfl ⟨kx0, kx1, kx2, kx3, kx4, kx5, kx6, kx7, kx8, kx9, kx10, kx11, kx12, kx13, kx14, kx15, ky1⟩ (fun hHeld => ?_); refine with_tabW All29.tab29 All29.bits29 (fun HT_ HW_ => ?_); apply pv 0 156 (bs 16 1) HT_; rfl; rfl; kernel_rfl; exact qq; rfl; intro w'; go_simp; with_reducible rfl; simp only [zz]; rfl
        apply pv 1 157 (bs 16 3) HT_; rfl; rfl; kernel_rfl; exact qq; rfl; intro w'; go_simp; with_reducible rfl; simp only [zz]; rfl
        apply pv 2 158 (bs 16 7) HT_; rfl; rfl; kernel_rfl; exact qq; rfl; intro w'; go_simp; with_reducible rfl; simp only [zz]; rfl
        apply pv 3 159 (bs 16 15) HT_; rfl; rfl; kernel_rfl; exact qq; rfl; intro w'; go_simp; with_reducible rfl; simp only [zz]; rfl
        apply pv 5 161 (bs 16 47) HT_; rfl; rfl; kernel_rfl; exact qq; rfl; intro w'; go_simp; with_reducible rfl; simp only [zz]; rfl
        apply tb 4 160 (bs 16 63) HT_ HW_ hHeld; rfl; rfl; kernel_rfl; exact qq; rfl; rintro w' ⟨s0, s1, s2, s3, s4, s5, s6, s7, s8, s9, s10, s11, s12, s13, s14, s15, s16⟩; go_simp; with_reducible rfl; simp only [zz]; rfl
        apply tb 6 162 (bs 16 127) HT_ HW_ hHeld; rfl; rfl; kernel_rfl; exact qq; rfl; rintro w' ⟨s0, s1, s2, s3, s4, s5, s6, s7, s8, s9, s10, s11, s12, s13, s14, s15, s16⟩; go_simp; with_reducible rfl; simp only [zz]; rfl
        apply pv 7 163 (bs 16 255) HT_; rfl; rfl; kernel_rfl; exact qq; rfl; intro w'; go_simp; with_reducible rfl; simp only [zz]; rfl
        apply pv 8 164 (bs 16 511) HT_; rfl; rfl; kernel_rfl; exact qq; rfl; intro w'; go_simp; with_reducible rfl; simp only [zz]; rfl
        apply pv 9 165 (bs 16 1023) HT_; rfl; rfl; kernel_rfl; exact qq; rfl; intro w'; go_simp; with_reducible rfl; simp only [zz]; rfl
        apply pv 10 166 (bs 16 2047) HT_; rfl; rfl; kernel_rfl; exact qq; rfl; intro w'; go_simp; with_reducible rfl; simp only [zz]; rfl
        apply pv 11 167 (bs 16 4095) HT_; rfl; rfl; kernel_rfl; exact qq; rfl; intro w'; go_simp; with_reducible rfl; simp only [zz]; rfl
        apply pv 12 168 (bs 16 8191) HT_; rfl; rfl; kernel_rfl; exact qq; rfl; intro w'; go_simp; with_reducible rfl; simp only [zz]; rfl
        apply tb 13 169 (bs 16 16383) HT_ HW_ hHeld; rfl; rfl; kernel_rfl; exact qq; rfl; rintro w' ⟨s0, s1, s2, s3, s4, s5, s6, s7, s8, s9, s10, s11, s12, s13, s14, s15, s16⟩; go_simp; with_reducible rfl; simp only [zz]; rfl
        refine last_ (i := 14) (N := some 170) (bs 16 32767) rfl rfl (one_of HT_.out (by kernel_rfl)) (by decide) (fun K hK => ?_); refine goes_ Try.func13 (by kernel_rfl) rfl #[.pointer (some ⟨g, 0, none⟩), .agg #[.int .i64 m.f0, .int .i64 m.f1, .int .i64 m.f2, .int .i64 m.f3, .int .i64 m.f4, .string m.f5, .int .i64 m.f6, .int .i64 m.f7.f0, .int .i64 m.f7.f1, .int .i64 m.f8.f0, .int .u64 m.f8.f1, .int .u64 m.f8.f2, .int .i64 m.f9, .bool m.f10, .slice A1 m.f11.length c1, .slice A2 m.f12.length c2]] (by rfl) rfl rfl (by simp only [List.map_toArray, List.map_cons, List.map_nil]; rfl) ?_; with_reducible refine (HHE.out).mono ?_
        rintro e w4 ⟨rfl, hb4⟩; refine ⟨_, rfl, ?_⟩; have HB4 := Lib.hid hb4; clear hb4; refine hK.out _ _ ?_; clear hK K; refine norm_ (a' := ?_) ?_ ?_; rotate_left
        ·
         show Act.put _ (some 170) _ = _; simp only [Act.put, List.setIfInBounds_toArray, List.set_cons_zero, List.set_cons_succ, i64_w, i32_w]; rfl
        apply pv 15 171 (bs 16 65535) HT_; rfl; rfl; kernel_rfl; exact qq; rfl; intro w'; go_simp; with_reducible rfl; simp only [zz]; rfl
        refine done_ (done_of HT_.out (by kernel_rfl)) ?_; go_wp2; go_roundg (nz.length - (k + 1))
        case measure => exact HIN.out _ HNK.out
        case rel => exact ⟨wrap64 (z2 + 1), k + 1, by first | rfl | (simp; done), ⟨HZN.out⟩, ⟨rfl⟩, ⟨HKN.out⟩, ⟨blk_below (blk_drew HX13.out) HB4.out⟩, ⟨below_then (below_drew HBN.out) HBN.out.size HB4.out⟩⟩
      ·
       have hge : ¬ z2 < (nz.length : Int) := by rw [HZK.out]; omega
       clear hk
       as_aux_lemma =>
       have kb0 : wn.cell? ⟨g13, 0, none⟩ = some (.int .i64 kd) := (blk_cell HX13.out 0).trans rfl; have kb1 : wn.cell? ⟨g13, 1, none⟩ = some (.int .i64 sq) := (blk_cell HX13.out 1).trans rfl; have kb5 : wn.cell? ⟨g13, 5, none⟩ = some (.string q) := (blk_cell HX13.out 5).trans rfl; have kb6 : wn.cell? ⟨g13, 6, none⟩ = some (.int .i64 b) := (blk_cell HX13.out 6).trans rfl
       obtain ⟨ka, hka⟩ : ∃ ka, wrap64 (kd + 1) = ka := ⟨_, rfl⟩
       have HKA := Lib.hid hka; have HSQ2 := Lib.hid (show 0 ≤ a.seq ∧ a.seq ≤ 1000000 by have h1 := HSQ.out; have h2 := HRM.out; have h3 := HML.out; omega)
       go_upto_if 180 with (first
        | ((with_reducible refine gate_dst (N := 16) rfl ?_); refine box_event rfl (N := 16) rfl (cs := mc0) (t := 46) ?hr ?_; (case hr => first | (go_simp; done) | (go_simp; rfl)); intro g16 hg_ Z3 hbo_ hb_; have HZ3 := Lib.hid (And.intro hg_ (And.intro hbo_ hb_)); clear hg_ hbo_ hb_)
        | (refine store_blk (t := 46) (p := .tmp 16) (v := .tmp 177) (g := g16) (off := 0) (cur := mc0) (cur' := #[.int .i64 ka, .int .i64 sq, .int .i64 0, .int .i64 0, .int .i64 0, .string ⟨#[]⟩, .int .i64 0, .int .i64 0, .int .i64 0, .int .i64 0, .int .u64 0, .int .u64 0, .int .i64 0, .bool false, .slice none 0 0, .slice none 0 0]) (e := 46) (u := .agg #[.int .i64 ka, .int .i64 sq, .int .i64 0, .int .i64 0, .int .i64 0, .string ⟨#[]⟩, .int .i64 0, .int .i64 0, .int .i64 0, .int .i64 0, .int .u64 0, .int .u64 0, .int .i64 0, .bool false, .slice none 0 0, .slice none 0 0]) rfl rfl rfl rfl rfl HZ3.out.2.1 (by kernel_rfl) (Nat.le_of_ble_eq_true rfl) (by rfl) (by rfl) ?_; intro Z4 hz_ hg_ hs_; have HZ4 := Lib.hid (And.intro hz_ hg_); have HX16 := Lib.hid hz_; have HB16 := Lib.hid (below_grow HZ3.out.2.2 hg_ (Nat.le_of_eq HZ3.out.1.symm)); have HG16 := Lib.hid (Nat.le_of_eq HZ3.out.1.symm); have HG17 := Lib.hid (show wq.heap.size ≤ g16 from Nat.le_trans HBN.out.size (Nat.le_of_eq HZ3.out.1.symm)); have HX14 := Lib.hid (blk_below HX13.out (below_grow HZ3.out.2.2 hg_ (Nat.le_of_eq HZ3.out.1.symm))); clear kb0 kb1 kb5 kb6; have kb0 : Z4.cell? ⟨g13, 0, none⟩ = some (.int .i64 kd) := (blk_cell HX14.out 0).trans rfl; have kb1 : Z4.cell? ⟨g13, 1, none⟩ = some (.int .i64 sq) := (blk_cell HX14.out 1).trans rfl; have kb5 : Z4.cell? ⟨g13, 5, none⟩ = some (.string q) := (blk_cell HX14.out 5).trans rfl; have kb6 : Z4.cell? ⟨g13, 6, none⟩ = some (.int .i64 b) := (blk_cell HX14.out 6).trans rfl; clear hz_ hg_ hs_))
       try simp only [Act.put, List.setIfInBounds_toArray, List.set_cons_zero, List.set_cons_succ]
       go_cut [16] (fun v16 wc => ∃ (ma : S46) (A1 : Option Addr) (c1 : Nat) (A2 : Option Addr) (c2 : Nat), v16 = .pointer (some ⟨g16, 0, none⟩) ∧ Aside0 (Step M D a ma) ∧ Aside0 (wc.heap[g16]? = some (.cells (mcs ma A1 c1 A2 c2) 46 (0, 0))) ∧ Aside0 (ma.f11.length ≤ c1) ∧ Aside0 (∀ W, Kept wc W (PFt g gm vM hm) → Kd.C k42 W A1 ma.f11.length ma.f11) ∧ Aside0 (∀ W, Kept wc W (PFt g gm vM hm) → Kd.C k25 W A2 ma.f12.length ma.f12) ∧ Aside0 (ma.f12.length ≤ 8) ∧ Aside0 (Below wq.heap.size wq wc))
       case first =>
        have HPL := Lib.hid (pftA_lt HF.out HMP.out); rcases HQ2.out with ⟨hp, hkd, hq, hb⟩ | ⟨hp, hkd, hq, hb⟩
        ·
         have c0_ : (kd == 5) = true := by rw [hkd]; rfl
         have HK6 := Lib.hid (show ka = 6 by rw [← HKA.out, hkd]; unfold wrap64; omega); have HST := Lib.hid (step_page (D := D) HIV.out HLV.out hp HSQ2.out); rw [← hq, ← hb, HSE.out] at HST
         obtain ⟨⟨pl, pm⟩, hpg⟩ : ∃ y, page M b q = y := ⟨_, rfl⟩
         rw [hpg] at HST; have HP8 := Lib.hid (show pl.length ≤ 8 by have := page_len M b q; rw [hpg] at this; exact this); have HPG := Lib.hid (fun W (hW : Below W0.heap.size W0 W) => peers_Page.calls Am cm M b q pl pm W (Kd.C_below HMC.out.2 hW) HMC.out.1 (by rw [page_f HML.out, hpg])); clear hp hkd hq hb hpg
         as_aux_lemma =>
         go_wp2_with fail
         with_reducible refine (HPG.out _ (below_then HBW.out HBW.out.size HB16.out)).mono ?_
         rintro e w6 ⟨v6, rfl, hR6, hb6⟩; obtain ⟨Ap, cp, ep⟩ := Kd.R_slice hR6; subst ep; have HR6 := Lib.hid hR6; have HB6 := Lib.hid (below_then HB16.out HB16.out.size hb6); have HX6 := Lib.hid (blk_below HX16.out hb6); have HS6 := Lib.hid hb6.size; clear hR6 hb6 HPG
         go_wp2_with (first
          | (refine store_blk (t := 22) (p := .tmp 190) (v := .tmp 188) (g := g16) (off := 15) (cur := #[.int .i64 ka, .int .i64 sq, .int .i64 0, .int .i64 0, .int .i64 0, .string ⟨#[]⟩, .int .i64 0, .int .i64 0, .int .i64 0, .int .i64 0, .int .u64 0, .int .u64 0, .int .i64 0, .bool false, .slice none 0 0, .slice none 0 0]) (cur' := #[.int .i64 ka, .int .i64 sq, .int .i64 0, .int .i64 0, .int .i64 0, .string ⟨#[]⟩, .int .i64 0, .int .i64 0, .int .i64 0, .int .i64 0, .int .u64 0, .int .u64 0, .int .i64 0, .bool false, .slice none 0 0, .slice Ap pl.length cp]) (e := 46) (u := .slice Ap pl.length cp) rfl rfl rfl rfl rfl HX6.out (by kernel_rfl) (Nat.le_of_ble_eq_true rfl) (by rfl) (by rfl) ?_; intro Y1 hz_ hg_ hs_; have HY1 := Lib.hid (And.intro hz_ hg_); clear hz_ hg_ hs_)
          | (refine store_blk (t := 4) (p := .tmp 191) (v := .tmp 189) (g := g16) (off := 13) (cur := #[.int .i64 ka, .int .i64 sq, .int .i64 0, .int .i64 0, .int .i64 0, .string ⟨#[]⟩, .int .i64 0, .int .i64 0, .int .i64 0, .int .i64 0, .int .u64 0, .int .u64 0, .int .i64 0, .bool false, .slice none 0 0, .slice Ap pl.length cp]) (cur' := #[.int .i64 ka, .int .i64 sq, .int .i64 0, .int .i64 0, .int .i64 0, .string ⟨#[]⟩, .int .i64 0, .int .i64 0, .int .i64 0, .int .i64 0, .int .u64 0, .int .u64 0, .int .i64 0, .bool pm, .slice none 0 0, .slice Ap pl.length cp]) (e := 46) (u := .bool pm) rfl rfl rfl rfl rfl HY1.out.1 (by kernel_rfl) (Nat.le_of_ble_eq_true rfl) (by rfl) (by rfl) ?_; intro Y2 hz_ hg_ hs_; have HY2 := Lib.hid (And.intro hz_ hg_); clear hz_ hg_ hs_))
         go_meet
         case rel => exact ⟨pmsg sq (pl, pm), none, 0, Ap, cp, rfl, ⟨HST.out⟩, ⟨by have h := HY2.out.1; rw [HK6.out] at h; exact h⟩, ⟨Nat.le_refl _⟩, ⟨Kd.C_kept_nil⟩, ⟨Kd.C_kept_own (Kd.R_tight rfl (Kd.R_grown1 (Kd.R_grown1 HR6.out rfl HY1.out.2 (Kd.R_ne HR6.out HX6.out (by decide))) rfl HY2.out.2 (Kd.R_ne (Kd.R_grown1 HR6.out rfl HY1.out.2 (Kd.R_ne HR6.out HX6.out (by decide))) HY1.out.1 (by decide)))) (fun k hk hp => by have h1 := Kd.R_base HR6.out k hk.symm; have h2 := HPL.out k hp; have h3 := HBN.out.size; have h4 := HZ3.out.1; have h5 := HB16.out.size; omega)⟩, ⟨HP8.out⟩, ⟨below_then HBN.out HBN.out.size (below_grow (below_grow HB6.out HY1.out.2 HG16.out) HY2.out.2 HG16.out)⟩⟩
        ·
         have c0_ : (kd == 5) = false := by rw [hkd]; rfl
         have HK8 := Lib.hid (show ka = 8 by rw [← HKA.out, hkd]; unfold wrap64; omega); have HST := Lib.hid (step_block HGD.out HIV.out HLV.out hp HSQ2.out); rw [← hq, ← hb, HSE.out] at HST
         have HBB := Lib.hid (show wrap64 (b + 60) = b + 60 by
          have hn := live_n HIV.out HLV.out hp; have hr := rd_at HIV.out hp hn; have hm2 : (srtM M)[a.n]'(by obtain ⟨Q2, e, -⟩ := HIV.out.sp; rw [e, List.length_append]; omega) ∈ srtM M := List.getElem_mem _; obtain ⟨s, hs2, p, hp2, e⟩ := (HGD.out.mem _).1 (mem_srt.1 hm2); have h1 := HGD.out.tm s hs2 p hp2; rw [hb, hr, e]; show wrap64 (p.f0 / 60 * 60 + 60) = p.f0 / 60 * 60 + 60; unfold wrap64
          omega)
         obtain ⟨P, hP⟩ : ∃ P, pts D q b = P := ⟨_, rfl⟩
         rw [hP] at HST; have HPT := Lib.hid (fun W (hW : Below W0.heap.size W0 W) => points_calls W Al cl D q b (Kd.C_below HLC.out.2 hW) HLC.out.1 (by have := HDL.out; omega) (fun s hs => by have := HGD.out.sz s hs; omega) HBB.out); rw [hP] at HPT; clear hp hkd hq hb hP HBB
         as_aux_lemma =>
         go_wp2_with fail
         with_reducible refine (HPT.out _ (below_then HBW.out HBW.out.size HB16.out)).mono ?_
         rintro e w6 ⟨v6, rfl, hR6, hb6⟩; obtain ⟨Ap, cp, ep⟩ := Kd.R_slice hR6; subst ep; have HR6 := Lib.hid hR6; have HB6 := Lib.hid (below_then HB16.out HB16.out.size hb6); have HX6 := Lib.hid (blk_below HX16.out hb6); clear hR6 hb6 HPT
         go_wp2_with (first
          | (refine store_blk (t := 44) (p := .tmp 198) (v := .tmp 197) (g := g16) (off := 14) (cur := #[.int .i64 ka, .int .i64 sq, .int .i64 0, .int .i64 0, .int .i64 0, .string ⟨#[]⟩, .int .i64 0, .int .i64 0, .int .i64 0, .int .i64 0, .int .u64 0, .int .u64 0, .int .i64 0, .bool false, .slice none 0 0, .slice none 0 0]) (cur' := #[.int .i64 ka, .int .i64 sq, .int .i64 0, .int .i64 0, .int .i64 0, .string ⟨#[]⟩, .int .i64 0, .int .i64 0, .int .i64 0, .int .i64 0, .int .u64 0, .int .u64 0, .int .i64 0, .bool false, .slice Ap P.length cp, .slice none 0 0]) (e := 46) (u := .slice Ap P.length cp) rfl rfl rfl rfl rfl HX6.out (by kernel_rfl) (Nat.le_of_ble_eq_true rfl) (by rfl) (by rfl) ?_; intro Y1 hz_ hg_ hs_; have HY1 := Lib.hid (And.intro hz_ hg_); clear hz_ hg_ hs_))
         go_meet
         case rel => exact ⟨bmsg sq P, Ap, cp, none, 0, rfl, ⟨HST.out⟩, ⟨by have h := HY1.out.1; rw [HK8.out] at h; exact h⟩, ⟨(Kd.R_reads' HR6.out).2.1⟩, ⟨Kd.C_kept_own (Kd.R_tight rfl (Kd.R_grown1 HR6.out rfl HY1.out.2 (Kd.R_ne HR6.out HX6.out (by decide)))) (fun k hk hp => by have h1 := Kd.R_base HR6.out k hk.symm; have h2 := HPL.out k hp; have h3 := HBN.out.size; have h4 := HZ3.out.1; have h5 := HB16.out.size; omega)⟩, ⟨Kd.C_kept_nil⟩, ⟨Nat.zero_le _⟩, ⟨below_then HBN.out HBN.out.size (below_grow HB6.out HY1.out.2 HG16.out)⟩⟩
       case rest =>
        clear HX16 HB16 HKA HZ3 HZ4; obtain ⟨ma, A1, c1, A2, c2, rfl, HST, HX16, HC1, HCA, HCB, HC8, HBC⟩ := hcut; have HBX := Lib.hid (below_then HBQ.out HBQ.out.size HBC.out); have HNP := Lib.hid (show ¬ PFt g gm vM hm g16 from fun h => by have h1 := pftA_lt HF.out HMP.out _ h; have h2 := HG17.out; omega)
        have HHE := Lib.hid (show Calls Try.prog 13 #[.pointer (some ⟨g, 0, none⟩), .agg #[.int .i64 ma.f0, .int .i64 ma.f1, .int .i64 ma.f2, .int .i64 ma.f3, .int .i64 ma.f4, .string ma.f5, .int .i64 ma.f6, .int .i64 ma.f7.f0, .int .i64 ma.f7.f1, .int .i64 ma.f8.f0, .int .u64 ma.f8.f1, .int .u64 ma.f8.f2, .int .i64 ma.f9, .bool ma.f10, .slice A1 ma.f11.length c1, .slice A2 ma.f12.length c2]] wc (fun e w' => e = .returned (.bool true) ∧ ∃ c' vM' hm', HearOut W0 wc g gm fx vM hm (65 * n) a ma w' c' vM' hm') from by
         have h := hear_callsV W0 wc g gm fx cu vM hm (65 * n) a ma A1 c1 A2 c2 (HF.out.below HBC.out) (HMP.out.below HBC.out) HBX.out HGM.out (HIDS.out a HIV.out) (fun W hk => HCA.out W hk) HC1.out (fun W hk => HCB.out W hk) (by have h1 := L_len HIV.out; have h2 := HML.out; have h3 := HC8.out; omega) (by have h1 := HST.out.len; have h2 := HRM.out; have h3 := HML.out; omega); rw [HST.out.hit] at h
         exact h)
        have HNX := Lib.hid (show ∀ (w4 : World) (cu2 : S25) (vM2 : Value) (hm2 : Hp), HearOut W0 wc g gm fx vM hm (65 * n) a ma w4 cu2 vM2 hm2 → Calls Try.prog 13 #[.pointer (some ⟨g, 0, none⟩), .agg #[.int .i64 ma.f0, .int .i64 ma.f1, .int .i64 ma.f2, .int .i64 ma.f3, .int .i64 ma.f4, .string ma.f5, .int .i64 ma.f6, .int .i64 ma.f7.f0, .int .i64 ma.f7.f1, .int .i64 ma.f8.f0, .int .u64 ma.f8.f1, .int .u64 ma.f8.f2, .int .i64 ma.f9, .bool ma.f10, .slice A1 ma.f11.length c1, .slice A2 ma.f12.length c2]] w4 (fun e w' => e = .returned (.bool false) ∧ Below w4.heap.size w4 w') from fun w4 cu2 vM2 hm2 hH => hear_no W0 w4 g gm fx cu2 vM2 hm2 _ _ ma A1 c1 A2 c2 hH.is hH.map hH.bel (by rw [HSZ.out]; exact hit_again HST.out.se HST.out.sq)); have HZN := Lib.hid (show z + 1 = ((n + 1 : Nat) : Int) by rw [HZ.out]; omega); have HIN := Lib.hid (show ∀ y, y = 2 * M.length + 2 - n → 2 * M.length + 2 - (n + 1) < y by have h1 := HRM.out; intro y hy; omega)
        as_aux_lemma =>
        have kc0 : wc.cell? ⟨g16, 0, none⟩ = some (.int .i64 ma.f0) := (blk_cell HX16.out 0).trans rfl; have kc1 : wc.cell? ⟨g16, 1, none⟩ = some (.int .i64 ma.f1) := (blk_cell HX16.out 1).trans rfl; have kc2 : wc.cell? ⟨g16, 2, none⟩ = some (.int .i64 ma.f2) := (blk_cell HX16.out 2).trans rfl; have kc3 : wc.cell? ⟨g16, 3, none⟩ = some (.int .i64 ma.f3) := (blk_cell HX16.out 3).trans rfl; have kc4 : wc.cell? ⟨g16, 4, none⟩ = some (.int .i64 ma.f4) := (blk_cell HX16.out 4).trans rfl; have kc5 : wc.cell? ⟨g16, 5, none⟩ = some (.string ma.f5) := (blk_cell HX16.out 5).trans rfl; have kc6 : wc.cell? ⟨g16, 6, none⟩ = some (.int .i64 ma.f6) := (blk_cell HX16.out 6).trans rfl; have kc7 : wc.cell? ⟨g16, 7, none⟩ = some (.int .i64 ma.f7.f0) := (blk_cell HX16.out 7).trans rfl; have kc8 : wc.cell? ⟨g16, 8, none⟩ = some (.int .i64 ma.f7.f1) := (blk_cell HX16.out 8).trans rfl; have kc9 : wc.cell? ⟨g16, 9, none⟩ = some (.int .i64 ma.f8.f0) := (blk_cell HX16.out 9).trans rfl; have kc10 : wc.cell? ⟨g16, 10, none⟩ = some (.int .u64 ma.f8.f1) := (blk_cell HX16.out 10).trans rfl; have kc11 : wc.cell? ⟨g16, 11, none⟩ = some (.int .u64 ma.f8.f2) := (blk_cell HX16.out 11).trans rfl; have kc12 : wc.cell? ⟨g16, 12, none⟩ = some (.int .i64 ma.f9) := (blk_cell HX16.out 12).trans rfl; have kc13 : wc.cell? ⟨g16, 13, none⟩ = some (.bool ma.f10) := (blk_cell HX16.out 13).trans rfl; have kc14 : wc.cell? ⟨g16, 14, none⟩ = some (.slice A1 ma.f11.length c1) := (blk_cell HX16.out 14).trans rfl; have kc15 : wc.cell? ⟨g16, 15, none⟩ = some (.slice A2 ma.f12.length c2) := (blk_cell HX16.out 15).trans rfl; go_wp2_with fail
        with_reducible refine HHE.out.mono ?_
        rintro e w4 ⟨rfl, cu2, vM2, hm2, hH⟩; have HH := Lib.hid hH; have HX4 := Lib.hid (blk_kept HX16.out HH.out.kept HNP.out); have HNO := Lib.hid (HNX.out w4 cu2 vM2 hm2 HH.out); clear hH HHE HNX kc0 kc1 kc2 kc3 kc4 kc5 kc6 kc7 kc8 kc9 kc10 kc11 kc12 kc13 kc14 kc15; have kd0 : w4.cell? ⟨g16, 0, none⟩ = some (.int .i64 ma.f0) := (blk_cell HX4.out 0).trans rfl; have kd1 : w4.cell? ⟨g16, 1, none⟩ = some (.int .i64 ma.f1) := (blk_cell HX4.out 1).trans rfl; have kd2 : w4.cell? ⟨g16, 2, none⟩ = some (.int .i64 ma.f2) := (blk_cell HX4.out 2).trans rfl; have kd3 : w4.cell? ⟨g16, 3, none⟩ = some (.int .i64 ma.f3) := (blk_cell HX4.out 3).trans rfl; have kd4 : w4.cell? ⟨g16, 4, none⟩ = some (.int .i64 ma.f4) := (blk_cell HX4.out 4).trans rfl; have kd5 : w4.cell? ⟨g16, 5, none⟩ = some (.string ma.f5) := (blk_cell HX4.out 5).trans rfl; have kd6 : w4.cell? ⟨g16, 6, none⟩ = some (.int .i64 ma.f6) := (blk_cell HX4.out 6).trans rfl; have kd7 : w4.cell? ⟨g16, 7, none⟩ = some (.int .i64 ma.f7.f0) := (blk_cell HX4.out 7).trans rfl; have kd8 : w4.cell? ⟨g16, 8, none⟩ = some (.int .i64 ma.f7.f1) := (blk_cell HX4.out 8).trans rfl; have kd9 : w4.cell? ⟨g16, 9, none⟩ = some (.int .i64 ma.f8.f0) := (blk_cell HX4.out 9).trans rfl; have kd10 : w4.cell? ⟨g16, 10, none⟩ = some (.int .u64 ma.f8.f1) := (blk_cell HX4.out 10).trans rfl; have kd11 : w4.cell? ⟨g16, 11, none⟩ = some (.int .u64 ma.f8.f2) := (blk_cell HX4.out 11).trans rfl; have kd12 : w4.cell? ⟨g16, 12, none⟩ = some (.int .i64 ma.f9) := (blk_cell HX4.out 12).trans rfl; have kd13 : w4.cell? ⟨g16, 13, none⟩ = some (.bool ma.f10) := (blk_cell HX4.out 13).trans rfl; have kd14 : w4.cell? ⟨g16, 14, none⟩ = some (.slice A1 ma.f11.length c1) := (blk_cell HX4.out 14).trans rfl; have kd15 : w4.cell? ⟨g16, 15, none⟩ = some (.slice A2 ma.f12.length c2) := (blk_cell HX4.out 15).trans rfl; go_wp2_with fail
        with_reducible refine HNO.out.mono ?_
        rintro e w5 ⟨rfl, hb5⟩; have HB5 := Lib.hid hb5; clear hb5 HNO kd0 kd1 kd2 kd3 kd4 kd5 kd6 kd7 kd8 kd9 kd10 kd11 kd12 kd13 kd14 kd15; go_wp2; go_roundg (2 * M.length + 2 - (n + 1))
        case measure => exact HIN.out _ HGN.out
        case rel => exact ⟨z + 1, n + 1, hearA 60 a ma, cu2, vM2, hm2, by first | rfl | (simp; done), ⟨HZN.out⟩, ⟨rfl⟩, ⟨by have h1 := HST.out.rm; have h2 := HRM.out; omega⟩, ⟨HST.out.iv⟩, ⟨by rw [HST.out.se, HSQ.out]; omega⟩, ⟨by have h := HH.out.is.below HB5.out; rw [HSZ.out] at h; exact h⟩, ⟨(HH.out.map.below HB5.out).more (by have := HST.out.len; omega)⟩, ⟨HST.out.told HSZ.out HTD.out HH.out⟩, ⟨below_then HH.out.bel HH.out.bel.size HB5.out⟩⟩
end Pa
end Go.Proofs.Ytgagcimfkmegnaa
