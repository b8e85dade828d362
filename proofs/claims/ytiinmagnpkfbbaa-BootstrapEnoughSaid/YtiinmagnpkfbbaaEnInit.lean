/- BootstrapEnough: one that comes new. -/
import Derived.Test.YtiinmagnpkfbbaaEnWalk
import Derived.Deep.Light
namespace Go.Proofs.Ytiinmagnpkfbbaa
set_option linter.unusedVariables false
set_option linter.unusedSimpArgs false
open Go.RowKit Go.Proofs.YtiinmagnpkfbbaaW.PrintWords Go.Proofs.YtiinmagnpkfbbaaW.PrintLast Go.Proofs.YtiinmagnpkfbbaaW.PrintMore Go.Proofs.Ytiinmagnpkfbbaa.QT
namespace Bt
open Rg (normR)
theorem wrap_small (i : Nat) (h : i ≤ 8) : wrap64 ((i : Int) + 1) = (i : Int) + 1 := by unfold wrap64; omega
def En_TT.T28 : Bool × List (List Nat × List Nat) := (true, [([], []), ([0], [0]), ([], []), ([2], [2]), ([3], [3]), ([4, 1], [4]), ([5], [5]), ([6, 5], [5, 6]), ([5, 7], [5, 7]), ([1, 8], [1, 8]), ([9, 5], [9]), ([10], [10]), ([11, 10, 10], [10, 11]), ([12, 12, 10], [10, 12]), ([13], [13]), ([14, 13, 13], [13, 14]), ([15, 13], [13, 15]), ([16, 13], [13, 16]), ([13, 17, 10], [10, 13, 17]), ([10, 18], [10, 18]), ([19, 15, 0, 1, 2, 3, 4, 5, 6, 7, 8, 9, 10, 11, 12, 13, 14, 15, 16, 17, 18, 19], [19])])
def En_TT.B28 : List Nat := [0, 1, 0, 4, 12, 31, 63, 127, 255, 511, 1023, 2047, 4095, 8191, 16383, 32767, 65535, 131071, 262143, 524287, 1048575]
theorem En_TT.tab28 : rtab .any (opsOf Try.f3 28) = En_TT.T28 := by kernel_rfl
theorem En_TT.bits28 : waitsOk En_TT.T28.2 En_TT.B28 = true := by kernel_rfl
def En_FT.T28 : Bool × List (List Nat × List Nat) := (true, [([], []), ([0], [0]), ([], []), ([2], [2]), ([3], [3]), ([4, 1], [4]), ([5], [5]), ([6, 5], [5, 6]), ([5, 7], [5, 7]), ([1, 8], [1, 8]), ([9, 5], [9]), ([10], [10]), ([11, 10, 10], [10, 11]), ([12, 12, 10], [10, 12]), ([13], [13]), ([14, 13, 13], [13, 14]), ([15, 13], [13, 15]), ([16, 13], [13, 16]), ([13, 17, 10], [10, 13, 17]), ([10, 18], [10, 18]), ([19, 15, 0, 1, 2, 3, 4, 5, 6, 7, 8, 9, 10, 11, 12, 13, 14, 15, 16, 17, 18, 19], [19])])
def En_FT.B28 : List Nat := [0, 1, 0, 4, 12, 31, 63, 127, 255, 511, 1023, 2047, 4095, 8191, 16383, 32767, 65535, 131071, 262143, 524287, 1048575]
theorem En_FT.tab28 : rtab .any (opsOf Try.f3 28) = En_FT.T28 := by kernel_rfl
theorem En_FT.bits28 : waitsOk En_FT.T28.2 En_FT.B28 = true := by kernel_rfl
def En_FF.T28 : Bool × List (List Nat × List Nat) := (true, [([], []), ([0], [0]), ([], []), ([2], [2]), ([3], [3]), ([4, 1], [4]), ([5], [5]), ([6, 5], [5, 6]), ([5, 7], [5, 7]), ([1, 8], [1, 8]), ([9, 5], [9]), ([10], [10]), ([11, 10, 10], [10, 11]), ([12, 12, 10], [10, 12]), ([13], [13]), ([14, 13, 13], [13, 14]), ([15, 13], [13, 15]), ([16, 13], [13, 16]), ([13, 17, 10], [10, 13, 17]), ([10, 18], [10, 18]), ([19, 15, 0, 1, 2, 3, 4, 5, 6, 7, 8, 9, 10, 11, 12, 13, 14, 15, 16, 17, 18, 19], [19])])
def En_FF.B28 : List Nat := [0, 1, 0, 4, 12, 31, 63, 127, 255, 511, 1023, 2047, 4095, 8191, 16383, 32767, 65535, 131071, 262143, 524287, 1048575]
theorem En_FF.tab28 : rtab .any (opsOf Try.f3 28) = En_FF.T28 := by kernel_rfl
theorem En_FF.bits28 : waitsOk En_FF.T28.2 En_FF.B28 = true := by kernel_rfl
set_option maxHeartbeats 4000000 in
set_option maxRecDepth 100000 in
theorem enough_init (w : World) (V : Int) (An : Option Addr) (cn : Nat) (nodes : List Int) (As : Option Addr) (cs : Nat) (shards : List (List Ow)) (hP : Pl.PlAt w An cn nodes As cs shards) (sh n : Int) (Ag : Option Addr) (cg : Nat) (gs : List Bool) (hG : Kd.C Kd.bool w Ag gs.length gs) (hcg : gs.length ≤ cg) (hc : Pl.checkP V nodes shards = 0) (ho : Pl.ownsP shards sh n = true) (hs : (Pl.findP shards sh n).1.f1 = 1) :
    Calls Try.prog 3 #[.agg #[.int .i64 V, .slice An nodes.length cn, .slice As shards.length cs], .int .i64 sh, .int .i64 n, .slice Ag gs.length cg] w fun e w' => e = .returned (.bool true) ∧ Below w.heap.size w w' := by
  obtain ⟨⟨o, is⟩, hfe⟩ : ∃ q : Ow × Bool, Pl.findP shards sh n = q := ⟨_, rfl⟩
  have ho2 := ho
  unfold Pl.ownsP at ho2
  rw [hfe, Bool.and_eq_true] at ho2
  obtain ⟨his, _⟩ := ho2
  dsimp only at his
  subst his
  obtain ⟨h0', h1, hlm, hol, hon⟩ := Pl.find_mem (shards := shards) (sh := sh) (n := n) (by rw [hfe])
  rw [hfe] at hol hon hs
  dsimp only at hol hon hs
  obtain ⟨l, hl⟩ : ∃ l, rd_L4 shards sh = l := ⟨_, rfl⟩
  rw [hl] at hlm hol
  obtain ⟨ad, A1, c1, ead, q0, hc1, hC1⟩ := at_L4 hP.hs sh h0' h1
  rw [hl] at q0 hC1
  cases ead
  have HQ0 := Lib.hid q0
  have HC1 := Lib.hid hC1
  clear q0 hC1 hc1
  have hrf := Pl.check_right hc hlm
  have hlen := hrf.len
  have HWF := Lib.hid (fun gv => wf_bo hP hlm hol hlen n gv)
  have HL := Lib.hid hl
  have HC := Lib.hid hc
  have HO := Lib.hid ho
  have HP := Lib.hid hP
  have HFE := Lib.hid hfe
  have HG := Lib.hid hG
  have HRF := Lib.hid hrf
  have HOL := Lib.hid hol
  have HON := Lib.hid hon
  clear hc ho hP hfe hG hl hlm hrf hol hon
  have d5 : (o.f1 != 1) = false := by rw [hs]; rfl
  have HS := Lib.hid hs
  clear hs
  by_cases h3 : (gs.length : Int) < 3
  · have d0 : decide ((gs.length : Int) < 3) = true := decide_eq_true h3
    go_enter Try.func3, Try.ntmps3
    go_wp2_with ((with_reducible refine gate_dst (N := 4) rfl ?_); refine box_event rfl (N := 4) rfl (cs := #[.int .i64 V, .slice An nodes.length cn, .slice (some ad) shards.length cs]) (t := 25) ?hr ?_; (case hr => first | (go_simp; done) | (go_simp; rfl)); intro g4 hg4 X hbox hbX; have HX := Lib.hid hbX; have HG4 := Lib.hid hbox; have y0 : X.cell? ⟨g4, 0, none⟩ = some (.int .i64 V) := (blk_cell hbox 0).trans rfl; have y1 : X.cell? ⟨g4, 1, none⟩ = some (.slice An nodes.length cn) := (blk_cell hbox 1).trans rfl; have y2 : X.cell? ⟨g4, 2, none⟩ = some (.slice (some ad) shards.length cs) := (blk_cell hbox 2).trans rfl; clear hg4 hbox hbX)
    obtain ⟨r, hr⟩ := large_any X V An cn nodes (some ad) cs shards (HP.out.below HX.out)
    have HLG := Lib.hid hr
    clear hr
    with_reducible refine HLG.out.mono ?_
    rintro e w1 ⟨rfl, hb1⟩
    have HB1 := Lib.hid (below_then HX.out HX.out.size hb1)
    have HG41 := Lib.hid (blk_below HG4.out hb1)
    clear hb1 y0 y1 y2 HLG HG4
    cases r with
    | true =>
      go_wp2
      go_ret
      exact ⟨rfl, HB1.out⟩
    | false =>
      go_wp2
      go_ret
      exact ⟨rfl, HB1.out⟩
  have d0 : decide ((gs.length : Int) < 3) = false := decide_eq_false h3
  go_enter Try.func3, Try.ntmps3
  go_wp2_with ((with_reducible refine gate_dst (N := 4) rfl ?_); refine box_event rfl (N := 4) rfl (cs := #[.int .i64 V, .slice An nodes.length cn, .slice (some ad) shards.length cs]) (t := 25) ?hr ?_; (case hr => first | (go_simp; done) | (go_simp; rfl)); intro g4 hg4 X hbox hbX; have HX := Lib.hid hbX; have HG4 := Lib.hid hbox; have y0 : X.cell? ⟨g4, 0, none⟩ = some (.int .i64 V) := (blk_cell hbox 0).trans rfl; have y1 : X.cell? ⟨g4, 1, none⟩ = some (.slice An nodes.length cn) := (blk_cell hbox 1).trans rfl; have y2 : X.cell? ⟨g4, 2, none⟩ = some (.slice (some ad) shards.length cs) := (blk_cell hbox 2).trans rfl; clear hg4 hbox hbX)
  obtain ⟨r, hr⟩ := large_any X V An cn nodes (some ad) cs shards (HP.out.below HX.out)
  have HLG := Lib.hid hr
  clear hr
  with_reducible refine HLG.out.mono ?_
  rintro e w1 ⟨rfl, hb1⟩
  have HB1 := Lib.hid (below_then HX.out HX.out.size hb1)
  have HG41 := Lib.hid (blk_below HG4.out hb1)
  clear hb1 y0 y1 y2 HLG HG4
  cases r with
  | true =>
    go_wp2
    go_ret
    exact ⟨rfl, HB1.out⟩
  | false =>
    have y0 : w1.cell? ⟨g4, 0, none⟩ = some (.int .i64 V) := (blk_cell HG41.out 0).trans rfl
    have y1 : w1.cell? ⟨g4, 1, none⟩ = some (.slice An nodes.length cn) := (blk_cell HG41.out 1).trans rfl
    have y2 : w1.cell? ⟨g4, 2, none⟩ = some (.slice (some ad) shards.length cs) := (blk_cell HG41.out 2).trans rfl
    have y3 : g4 < w1.heap.size := blk_lt HG41.out
    have HAL := Lib.hid (below_alloc (Below.refl w1.heap.size w1) (.cells #[.int .i64 5, .int .i64 50] 29))
    have HAQ := Lib.hid (blk_new w1 (.cells #[.int .i64 5, .int .i64 50] 29))
    go_wp2_with fail
    obtain ⟨g9, hg9⟩ : ∃ g9, g9 = w1.heap.size := ⟨_, rfl⟩
    obtain ⟨Y, hY⟩ : ∃ Y : World, Y = w1.alloc (.cells #[.int .i64 5, .int .i64 50] 29) := ⟨_, rfl⟩
    rw [← hY] at HAL HAQ
    rw [← hg9] at HAQ
    rw [← hY, ← hg9]
    have HBY := Lib.hid (below_then HB1.out HB1.out.size HAL.out)
    have HG4Y := Lib.hid (blk_below HG41.out HAL.out)
    clear hY hg9 y0 y1 y2 y3 HAL
    have HNW := Lib.hid (new_ok Y V An cn nodes (some ad) cs shards (HP.out.below HBY.out) sh n ⟨5, 50⟩ HC.out HO.out)
    rw [HFE.out, HL.out] at HNW
    with_reducible refine HNW.out.mono ?_
    rintro e w2 ⟨g, gm, gp, vO, vL, rfl, hIs, hb2⟩
    have HIS2 := Lib.hid (show Is w2 Y.heap.size g gm gp vO vL (bo o (othersL l n) []) from hIs)
    have HB2 := Lib.hid (below_then HBY.out HBY.out.size hb2)
    have HG42 := Lib.hid (blk_below HG4Y.out hb2)
    have HG92 := Lib.hid (blk_below HAQ.out hb2)
    have y0 : w2.cell? ⟨g4, 0, none⟩ = some (.int .i64 V) := (blk_cell HG42.out 0).trans rfl
    have y1 : w2.cell? ⟨g4, 1, none⟩ = some (.slice An nodes.length cn) := (blk_cell HG42.out 1).trans rfl
    have y2 : w2.cell? ⟨g4, 2, none⟩ = some (.slice (some ad) shards.length cs) := (blk_cell HG42.out 2).trans rfl
    have z0 : w2.cell? ⟨g9, 0, none⟩ = some (.int .i64 5) := (blk_cell HG92.out 0).trans rfl
    have z1 : w2.cell? ⟨g9, 1, none⟩ = some (.int .i64 50) := (blk_cell HG92.out 1).trans rfl
    clear hIs hb2 HNW
    go_wp2_with fail
    have HRW := Lib.hid (rnew_ok w2 V An cn nodes (some ad) cs shards (HP.out.below HB2.out) sh n ⟨5, 50⟩ HC.out HO.out)
    with_reducible refine HRW.out.mono ?_
    rintro e w3 ⟨gr, vR, rfl, _, hb3⟩
    have HIS3 := Lib.hid (HIS2.out.below hb3)
    have HB3 := Lib.hid (below_then HB2.out HB2.out.size hb3)
    have HG43 := Lib.hid (blk_below HG42.out hb3)
    clear hb3 y0 y1 y2 z0 z1 HRW HG42 HIS2
    have y0 : w3.cell? ⟨g4, 0, none⟩ = some (.int .i64 V) := (blk_cell HG43.out 0).trans rfl
    have y1 : w3.cell? ⟨g4, 1, none⟩ = some (.slice An nodes.length cn) := (blk_cell HG43.out 1).trans rfl
    have y2 : w3.cell? ⟨g4, 2, none⟩ = some (.slice (some ad) shards.length cs) := (blk_cell HG43.out 2).trans rfl
    go_wp2_with fail
    have HFD := Lib.hid (Pl.rfind_calls w3 V An cn nodes (some ad) cs shards (HP.out.below HB3.out) sh n)
    rw [HFE.out] at HFD
    with_reducible refine HFD.out.mono ?_
    rintro e w4 ⟨rfl, hb4⟩
    unfold Pl.aggO
    have HIS4 := Lib.hid (HIS3.out.below hb4)
    have HB4 := Lib.hid (below_then HB3.out HB3.out.size hb4)
    have HG44 := Lib.hid (blk_below HG43.out hb4)
    clear hb4 y0 y1 y2 HFD HG43 HIS3
    have HAZ := Lib.hid (below_alloc (Below.refl w4.heap.size w4) (.cells #[.int .i64 o.f0, .int .i64 o.f1, .int .i64 o.f2] 38))
    have HAB := Lib.hid (blk_new w4 (.cells #[.int .i64 o.f0, .int .i64 o.f1, .int .i64 o.f2] 38))
    go_wp2_with fail
    obtain ⟨gb, hgb⟩ : ∃ gb, gb = w4.heap.size := ⟨_, rfl⟩
    obtain ⟨Z, hZ⟩ : ∃ Z : World, Z = w4.alloc (.cells #[.int .i64 o.f0, .int .i64 o.f1, .int .i64 o.f2] 38) := ⟨_, rfl⟩
    rw [← hZ] at HAZ HAB
    rw [← hgb] at HAB
    rw [← hZ, ← hgb]
    have HISZ := Lib.hid (HIS4.out.below HAZ.out)
    have HBZ := Lib.hid (below_then HB4.out HB4.out.size HAZ.out)
    have HG4Z := Lib.hid (blk_below HG44.out HAZ.out)
    have hzs : Z.heap.size = gb + 1 := by rw [hZ, hgb]; simp
    try rw [← hzs]
    clear hzs hZ hgb HAZ HIS4 HG44
    have HAE := Lib.hid (below_alloc (Below.refl Z.heap.size Z) (.cells #[] 3))
    have HAF := Lib.hid (blk_new Z (.cells #[] 3))
    go_wp2_with fail
    go_loopg [16, 17] l.length (fun gn v16 v17 wr => ∃ (i : Nat), v17 = .int .i64 (i : Int) ∧ Aside0 (gn = l.length - i) ∧ Aside0 (i ≤ l.length) ∧ Aside0 (Kd.R kI 3 wr Z.heap.size (fun _ => True) v16 (availL (l.take i))) ∧ Aside0 (Below Z.heap.size Z wr))
    case atStart => exact ⟨0, rfl, ⟨rfl⟩, ⟨Nat.zero_le _⟩, ⟨R_empty HAF.out (Nat.le_refl _) trivial⟩, ⟨HAE.out⟩⟩
    case round =>
      clear HAE HAF
      obtain ⟨i, rfl, HN, HI, HR, HB⟩ := hrel
      have HBW := Lib.hid (below_then HBZ.out HBZ.out.size HB.out)
      have s2 : wr.cell? ⟨g4, 2, none⟩ = some (.slice (some ad) shards.length cs) := (blk_cell (blk_below HG4Z.out HB.out) 2).trans rfl
      have s3 : g4 < wr.heap.size := blk_lt (blk_below HG4Z.out HB.out)
      have q2 : wr.cell? (ad.add sh.toNat) = some (.slice A1 l.length c1) := pw_cell_below HBW.out HQ0.out
      by_cases hi : i < l.length
      · have hi0 : (i : Int) < (l.length : Int) := by omega
        have hwi : wrap64 ((i : Int) + 1) = (i : Int) + 1 := by unfold wrap64; omega
        obtain ⟨ad2, ead2, r0, r1, r2⟩ := at_T38 (Kd.C_below HC1.out HBW.out) (i : Int) (by omega) hi0
        cases ead2
        rw [Int.toNat_natCast] at r0 r1 r2
        obtain ⟨x, hx⟩ : ∃ x, rd_T38 l (i : Int) = x := ⟨_, rfl⟩
        rw [hx] at r0 r1 r2
        have hst := avail_step hi
        rw [show l[i] = x from by rw [← hx, rdO hi]] at hst
        have HST := Lib.hid hst
        have HLO := Lib.hid (show (availL (l.take i)).length ≤ 8 by
          unfold availL
          rw [List.length_map]
          have h1 := List.length_filter_le (fun o : Ow => o.f1 == 2) (l.take i)
          rw [List.length_take] at h1
          omega)
        clear hx hst
        have HAX := Lib.hid (below_alloc (Below.refl wr.heap.size wr) (.cells #[.int .i64 x.f0, .int .i64 x.f1, .int .i64 x.f2] 38))
        have HRX := Lib.hid (Kd.R_alloc HR.out (.cells #[.int .i64 x.f0, .int .i64 x.f1, .int .i64 x.f2] 38))
        have HBX := Lib.hid (below_alloc HB.out (.cells #[.int .i64 x.f0, .int .i64 x.f1, .int .i64 x.f2] 38))
        obtain ⟨A6, n6, c6, rfl⟩ : ∃ A n c, u16 = .slice A n c := by obtain ⟨A, c, e⟩ := Kd.R_slice HR.out; exact ⟨A, _, c, e⟩
        cases d6 : (x.f1 == 2) with
        | false =>
          have HEQ := Lib.hid (show availL (l.take (i + 1)) = availL (l.take i) by rw [HST.out, d6]; simp)
          go_wp2_with fail
          go_roundg (l.length - (i + 1))
          case measure => go_light; have := HN.out; omega
          case rel => go_light; exact ⟨i + 1, by first | rfl | (simp [hwi]; done) | rw [hwi], ⟨rfl⟩, ⟨hi⟩, ⟨by rw [HEQ.out]; exact HRX.out⟩, ⟨HBX.out⟩⟩
        | true =>
          have HEQ := Lib.hid (show availL (l.take (i + 1)) = availL (l.take i) ++ [x.f0] by rw [HST.out, d6]; rfl)
          go_wp2_with (at_builtin; refine (Kd.R_append kI (w0 := Z) Z.heap.size rfl (.tmp 97) (.tmp 100) 22 3 (.int .i64 0) 8 rfl Try.underlying22 info3 rfl (by decide) (by omega) (.slice A6 n6 c6) (availL (l.take i)) x.f0 [.int .i64 x.f0] (fun _ => True) (fun _ => False) rfl ?aX ?aP (fun _ hk => hk.elim) ?aF ?aO ?aB ?aS ?aL ?_); (case aX => first | rfl | (go_simp; done) | (simp; done)); (case aP => rfl); (case aF => exact (fun _ _ => trivial)); (case aO => exact HRX.out); (case aB => exact HBX.out); (case aS => exact HBX.out.size); (case aL => have := HLO.out; omega); intro v5 w5 hR5 hB5 hg5 hat5; have HR5 := Lib.hid hR5; have HB5 := Lib.hid hB5; clear hR5 hB5 hg5 hat5)
          go_roundg (l.length - (i + 1))
          case measure => go_light; have := HN.out; omega
          case rel => go_light; exact ⟨i + 1, by first | rfl | (simp [hwi]; done) | rw [hwi], ⟨rfl⟩, ⟨hi⟩, ⟨by rw [HEQ.out]; exact HR5.out⟩, ⟨HB5.out⟩⟩
      · have hge : ¬ (i : Int) < (l.length : Int) := by omega
        have hie : i = l.length := by have := HI.out; omega
        have HRA := HR.out
        rw [hie, List.take_length] at HRA
        have HRA := Lib.hid HRA
        clear hie HR
        obtain ⟨A, hA⟩ : ∃ A, availL l = A := ⟨_, rfl⟩
        rw [hA] at HRA
        have hoA : othersL l n = A := by rw [← hA, ← HON.out]; exact avail_others HRF.out HOL.out HS.out
        have HA2 := Lib.hid (show A.length ≤ 2 by rw [← hA]; exact avail_two HRF.out HOL.out HS.out)
        have HAF := Lib.hid (show o.f2 ∉ A by rw [← hA]; exact avail_from HRF.out HOL.out HS.out)
        have HAN := Lib.hid (show A.Nodup by rw [← hA]; exact avail_nodup HRF.out)
        have HWG := Lib.hid (show ∀ gv, Wf (bo o A gv) by rw [← hoA]; exact HWF.out)
        have his := HISZ.out.below HB.out
        rw [hoA] at his
        have HIW := Lib.hid his
        obtain ⟨A6, c6, rfl⟩ := Kd.R_slice HRA.out
        clear his hA hoA
        obtain ⟨adg, eag, hk0⟩ := Kd.at_bool (Kd.C_below HG.out HBW.out) 0 (by omega) (by omega)
        cases eag
        rw [show adg.add (0 : Int).toNat = adg from add_z adg, show rdOf false gs 0 = gs.getD 0 false from rfl] at hk0
        have f2 : wr.cell? ⟨gb, 2, none⟩ = some (.int .i64 o.f2) := (blk_cell (blk_below HAB.out HB.out) 2).trans rfl
        cases hb0 : gs.getD 0 false with
        | true =>
          rw [hb0] at hk0
          have HGT := Lib.hid (got_nil wr Y.heap.size g gm gp vO vL (bo o A []) HIW.out (HWG.out _) o.f2 (HWG.out []).src (by show (0 : Nat) < maxLen; decide) HS.out (Or.inl rfl))
          go_wp2_with fail
          with_reducible refine HGT.out.mono ?_
          rintro e w5 ⟨rfl, hI5, hg5⟩
          have HI5 := Lib.hid (show Is w5 Y.heap.size g gm gp vO vL (bo o A (XM.aput [] o.f2 ())) from hI5)
          have HB5 := Lib.hid (HBW.out.grown hg5 HBW.out.size (fun k hk => by cases hk; have h1 := HIW.out.bm; have h2 := HBY.out.size; omega))
          have HR5 := Lib.hid (Kd.R_grown1 HRA.out rfl hg5 (row_map HRA.out HIW.out.gv))
          clear hI5 hg5 HGT f2 hk0 s2 s3 q2
          obtain ⟨gv0, hgv0⟩ : ∃ gv0 : Im, (XM.aput [] o.f2 ()) = gv0 := ⟨_, rfl⟩
          rw [hgv0] at HI5
          have HGV := Lib.hid (show gv0 = (if gs.getD 0 false = true then XM.aput [] o.f2 () else []) by rw [hb0, ← hgv0]; simp)
          have HGL := Lib.hid (show gv0.length ≤ 1 by rw [← hgv0]; simp [XM.aput])
          clear hgv0
          obtain ⟨G, hGd⟩ : ∃ G : Nat → Im × Nat, giveS gs A gv0 = G := ⟨_, rfl⟩
          have HG0 := Lib.hid (show G 0 = (gv0, 0) by rw [← hGd]; rfl)
          have HGS := Lib.hid (show ∀ i, G (i + 1) = if gs.getD (i + 1) false = true then (XM.aput (G i).1 (A.getD i 0) (), (G i).2 + 1) else G i by rw [← hGd]; exact fun i => rfl)
          have HGD := Lib.hid hGd
          clear hGd
          go_wp2_with fail
          go_loopg [19, 20] A.length (fun gn v19 v20 wr => ∃ (i : Nat) (sg : Im) (sc : Nat), v20 = .int .i64 (i : Int) ∧ v19 = .int .i64 (sc : Int) ∧ Aside0 (G i = (sg, sc)) ∧ Aside0 (gn = A.length - i) ∧ Aside0 (i ≤ A.length) ∧ Aside0 (Is wr Y.heap.size g gm gp vO vL (bo o A sg)) ∧ Aside0 (Kd.R kI 3 wr Z.heap.size (fun _ => True) (.slice A6 A.length c6) A) ∧ Aside0 (Below w.heap.size w wr) ∧ Aside0 (sg.length ≤ i + 1) ∧ Aside0 (sc ≤ i))
          case atStart => exact ⟨0, gv0, 0, rfl, rfl, ⟨HG0.out⟩, ⟨rfl⟩, ⟨Nat.zero_le _⟩, ⟨HI5.out⟩, ⟨HR5.out⟩, ⟨HB5.out⟩, ⟨HGL.out⟩, ⟨Nat.le_refl _⟩⟩
          case round =>
            clear HN HI hge
            obtain ⟨i, sg, sc, rfl, rfl, HST, HN, HI, HIQ, HRQ, HBQ, HLG, HCQ⟩ := hrel
            clear HI5 HR5 HB5 HC1 HQ0 HL HC HO HFE HRF HOL HON HG4Z HISZ HAB HWF HRA HIW HB HBW HBZ HB4 HG0
            by_cases hi : i < A.length
            · have hi0 : (i : Int) < (A.length : Int) := by omega
              have hi8 : i ≤ 8 := by have := HA2.out; omega
              have hi2 : (i : Int) < 2 := by have := HA2.out; omega
              have hwi : wrap64 ((i : Int) + 1) = (i : Int) + 1 := wrap_small i hi8
              have hws : wrap64 ((sc : Int) + 1) = (sc : Int) + 1 := wrap_small sc (Nat.le_trans HCQ.out hi8)
              have hgl : (i : Int) + 1 < (gs.length : Int) := by omega
              obtain ⟨bi, hbi⟩ : ∃ bi, gs.getD (i + 1) false = bi := ⟨_, rfl⟩
              have kc : wr.cell? (adg.add (i + 1)) = some (.bool bi) := by
                obtain ⟨a, ea, hc⟩ := Kd.at_bool (Kd.C_below HG.out HBQ.out) ((i : Int) + 1) (by omega) (by omega)
                cases ea
                rw [show ((i : Int) + 1).toNat = i + 1 by omega] at hc
                rw [hc, ← hbi]
                unfold rdOf
                rw [show ((i : Int) + 1).toNat = i + 1 by omega]
              have kd : wr.cell? { block := adg.block, off := adg.off + (i + 1) } = some (.bool bi) := kc
              have hstep := HGS.out i
              rw [hbi, HST.out] at hstep
              clear hbi kc
              cases bi with
              | false =>
                have HSTEP := Lib.hid (show G (i + 1) = (sg, sc) from hstep)
                clear hstep
                have HIN := Lib.hid (show ∀ k, k = A.length - i → A.length - (i + 1) < k by intro k hk; omega)
                have HL2 := Lib.hid (show sg.length ≤ i + 1 + 1 from Nat.le_succ_of_le HLG.out)
                have HC2 := Lib.hid (show sc ≤ i + 1 from Nat.le_succ_of_le HCQ.out)
                go_wp2_with fail
                go_roundg (A.length - (i + 1))
                case measure => exact HIN.out _ HN.out
                case rel => exact ⟨i + 1, sg, sc, by first | rfl | rw [hwi], rfl, ⟨HSTEP.out⟩, ⟨rfl⟩, ⟨hi⟩, ⟨HIQ.out⟩, ⟨HRQ.out⟩, ⟨HBQ.out⟩, ⟨HL2.out⟩, ⟨HC2.out⟩⟩
              | true =>
                obtain ⟨p, hp⟩ : ∃ p, A.getD i 0 = p := ⟨_, rfl⟩
                have hpm : p ∈ A := by rw [← hp, List.getD_eq_getElem?_getD, List.getElem?_eq_getElem hi]; exact List.getElem_mem hi
                have HSTEP := Lib.hid (show G (i + 1) = (XM.aput sg p (), sc + 1) by rw [← hp]; exact hstep)
                clear hstep
                have HIN := Lib.hid (show ∀ k, k = A.length - i → A.length - (i + 1) < k by intro k hk; omega)
                have HL2 := Lib.hid (show (XM.aput sg p ()).length ≤ i + 1 + 1 from Nat.le_trans (XM.length_aput sg p ()) (Nat.succ_le_succ HLG.out))
                have HC2 := Lib.hid (show sc + 1 ≤ i + 1 from Nat.succ_le_succ HCQ.out)
                obtain ⟨ad6, e6, hc6⟩ := Kd.at_int (Kd.R_reads' HRQ.out).2.2 (i : Int) (by omega) (by omega)
                cases e6
                have k6 : wr.cell? (ad6.add i) = some (.int .i64 p) := by rw [Int.toNat_natCast] at hc6; rw [hc6, ← hp]; unfold rd; rw [Int.toNat_natCast]
                have HGT := Lib.hid (got_nil wr Y.heap.size g gm gp vO vL (bo o A sg) HIQ.out (HWG.out _) p ((HWG.out []).oth p hpm) (by show sg.length < maxLen; have := HLG.out; have := HA2.out; simp only [maxLen]; omega) HS.out (Or.inr hpm))
                clear hp hpm hc6
                go_wp2_with fail
                with_reducible refine HGT.out.mono ?_
                rintro e w6 ⟨rfl, hI6, hg6⟩
                have HI6 := Lib.hid (show Is w6 Y.heap.size g gm gp vO vL (bo o A (XM.aput sg p ())) from hI6)
                have HB6 := Lib.hid (HBQ.out.grown hg6 HBQ.out.size (fun k hk => by cases hk; have h1 := HIQ.out.bm; have h2 := HBY.out.size; omega))
                have HR6 := Lib.hid (Kd.R_grown1 HRQ.out rfl hg6 (row_map HRQ.out HIQ.out.gv))
                obtain ⟨s2, hs2⟩ : ∃ s2, XM.aput sg p () = s2 := ⟨_, rfl⟩
                rw [hs2] at HSTEP HL2 HI6
                clear hI6 hg6 HGT k6 kd hs2
                go_wp2_with fail
                go_roundg (A.length - (i + 1))
                case measure => exact HIN.out _ HN.out
                case rel => exact ⟨i + 1, s2, sc + 1, by first | rfl | rw [hwi], by first | rfl | (rw [hws]; rfl), ⟨HSTEP.out⟩, ⟨rfl⟩, ⟨hi⟩, ⟨HI6.out⟩, ⟨HR6.out⟩, ⟨HB6.out⟩, ⟨HL2.out⟩, ⟨HC2.out⟩⟩
            · have hge : ¬ (i : Int) < (A.length : Int) := by omega
              have hie : i = A.length := by have := HI.out; omega
              subst hie
              have HWB := Lib.hid (HWG.out sg)
              have hE := enough_law o A gs ⟨5, 50⟩ [] HA2.out HAF.out HAN.out gv0 HGV.out
              rw [HGD.out, HST.out, hb0] at hE
              obtain ⟨D, hD⟩ : ∃ D : Bool, (true || (sc == 2)) = D := ⟨_, rfl⟩
              have HDD := Lib.hid ((left_done (bo o A sg) HS.out (by simp [bo])).trans (hE.trans hD))
              have HWP := Lib.hid (show D = false → 0 < (wantsOf (bo o A sg)).length from fun hh => wants_pos _ (by intro hl; have h1 := HDD.out; rw [hh] at h1; rw [hl] at h1; cases h1) HS.out)
              have HIF := HIQ
              have HBF := HBQ
              have HDN := Lib.hid (fun W (hW : Below wr.heap.size wr W) => done_calls W Y.heap.size g gm gp vO vL _ (HIF.out.below hW) HWB.out)
              rw [HDD.out] at HDN
              have kf : wr.cell? adg = some (.bool true) := by
                obtain ⟨a, ea, hc⟩ := Kd.at_bool (Kd.C_below HG.out HBQ.out) 0 (by omega) (by omega)
                cases ea
                rw [show adg.add (0 : Int).toNat = adg from add_z adg, show rdOf false gs 0 = gs.getD 0 false from rfl, hb0] at hc
                exact hc
              have hg0 : 0 < gs.length := by omega
              clear hE HGV HGD HGS HST HN HI HIQ HRQ HBQ HLG HCQ hi hb0 HAF HAN HA2 HWG
              cases (hD : true = D)
              go_wp2_with fail
              refine start_ (n := 21) (S := fun w' => w'.cell? adg = some (.bool true)) (ds := []) #[false, false, false, false, false, false, false, false, false, false, false, false, false, false, false, false, false, false, false, false, false] (by kernel_rfl) rfl rfl (kf) (fun hHeld => ?_)
              refine with_tabW En_TT.tab28 En_TT.bits28 (fun HT_ HW_ => ?_)
              refine pure_ (i := 0) (N := some 136) (v := ?_) (a' := ?_) #[true, false, false, false, false, false, false, false, false, false, false, false, false, false, false, false, false, false, false, false, false] rfl rfl (any_of HT_.out (by kernel_rfl)) (fun _ _ _ h => h) (Or.inl ⟨by rfl, ?_⟩) ?_ ?_
              rotate_left
              · intro w'
                go_simp
                with_reducible rfl
              rotate_left
              · simp only [Act.put, List.setIfInBounds_toArray, List.set_cons_zero, List.set_cons_succ, i64_w, i32_w]
                rfl
              refine pure_ (i := 2) (N := some 138) (v := ?_) (a' := ?_) #[true, false, true, false, false, false, false, false, false, false, false, false, false, false, false, false, false, false, false, false, false] rfl rfl (any_of HT_.out (by kernel_rfl)) (fun _ _ _ h => h) (Or.inl ⟨by rfl, ?_⟩) ?_ ?_
              rotate_left
              · intro w'
                go_simp
                with_reducible rfl
              rotate_left
              · simp only [Act.put, List.setIfInBounds_toArray, List.set_cons_zero, List.set_cons_succ, i64_w, i32_w]
                rfl
              refine pure_ (i := 3) (N := some 139) (v := ?_) (a' := ?_) #[true, false, true, true, false, false, false, false, false, false, false, false, false, false, false, false, false, false, false, false, false] rfl rfl (any_of HT_.out (by kernel_rfl)) (fun _ _ _ h => h) (Or.inl ⟨by rfl, ?_⟩) ?_ ?_
              rotate_left
              · intro w'
                go_simp
                with_reducible rfl
              rotate_left
              · simp only [Act.put, List.setIfInBounds_toArray, List.set_cons_zero, List.set_cons_succ, i64_w, i32_w]
                rfl
              refine take_ (i := 4) (N := some 140) (v := ?_) (a' := ?_) #[true, false, true, true, true, false, false, false, false, false, false, false, false, false, false, false, false, false, false, false, false] rfl rfl (take_ofW HT_.out HW_.out (by kernel_rfl)) (fun _ _ _ h => h) (Or.inl ⟨by rfl, ?_⟩) hHeld ?_ ?_
              rotate_left
              · intro w' s0
                go_simp
                with_reducible rfl
              rotate_left
              · simp only [Act.put, List.setIfInBounds_toArray, List.set_cons_zero, List.set_cons_succ, i64_w, i32_w]
                rfl
              refine one_ (i := 1) (N := some 137) #[true, true, true, true, true, false, false, false, false, false, false, false, false, false, false, false, false, false, false, false, false] rfl rfl (one_of HT_.out (by kernel_rfl)) (by decide) (fun K hK => ?_)
              refine goes_ Try.func12 (by kernel_rfl) rfl #[.pointer (some ⟨g, 0, none⟩)] (by rfl) rfl rfl (by simp only [List.map_toArray, List.map_cons, List.map_nil]; rfl) ?_
              with_reducible refine ((HDN.out _ (below_drew (Below.refl _ _)))).mono ?_
              rintro e w7 ⟨rfl, hb7⟩
              refine ⟨_, rfl, ?_⟩
              have HI7 := Lib.hid (HIF.out.below (below_then (below_drew (Below.refl _ _)) (Nat.le_refl _) hb7))
              have HB7 := Lib.hid (below_then (below_drew HBF.out) HBF.out.size hb7)
              have k7 : w7.cell? adg = some (.bool true) := pw_cell_below hb7 kf
              clear hb7
              refine hK.out _ _ (k7) (fun hHeld => ?_)
              clear hK K
              refine norm_ (a' := ?_) ?_ ?_
              rotate_left
              · show Act.put _ (some 137) _ = _
                simp only [Act.put, List.setIfInBounds_toArray, List.set_cons_zero, List.set_cons_succ, i64_w, i32_w]
                rfl
              refine pure_ (i := 5) (N := some 141) (v := ?_) (a' := ?_) #[true, true, true, true, true, true, false, false, false, false, false, false, false, false, false, false, false, false, false, false, false] rfl rfl (any_of HT_.out (by kernel_rfl)) (fun _ _ _ h => h) (Or.inl ⟨by rfl, ?_⟩) ?_ ?_
              rotate_left
              · intro w'
                go_simp
                with_reducible rfl
              rotate_left
              · simp only [Act.put, List.setIfInBounds_toArray, List.set_cons_zero, List.set_cons_succ, i64_w, i32_w]
                rfl
              refine pure_ (i := 6) (N := some 142) (v := undef) (a' := ?_) #[true, true, true, true, true, true, true, false, false, false, false, false, false, false, false, false, false, false, false, false, false] rfl rfl (any_of HT_.out (by kernel_rfl)) (fun _ _ _ h => h) (Or.inr ⟨by rfl, rfl⟩) ?_ ?_
              rotate_left
              · simp only [Act.put, List.setIfInBounds_toArray, List.set_cons_zero, List.set_cons_succ, i64_w, i32_w]
                rfl
              refine pure_ (i := 7) (N := some 143) (v := undef) (a' := ?_) #[true, true, true, true, true, true, true, true, false, false, false, false, false, false, false, false, false, false, false, false, false] rfl rfl (any_of HT_.out (by kernel_rfl)) (fun _ _ _ h => h) (Or.inr ⟨by rfl, rfl⟩) ?_ ?_
              rotate_left
              · simp only [Act.put, List.setIfInBounds_toArray, List.set_cons_zero, List.set_cons_succ, i64_w, i32_w]
                rfl
              refine pure_ (i := 8) (N := some 144) (v := ?_) (a' := ?_) #[true, true, true, true, true, true, true, true, true, false, false, false, false, false, false, false, false, false, false, false, false] rfl rfl (any_of HT_.out (by kernel_rfl)) (fun _ _ _ h => h) (Or.inl ⟨by rfl, ?_⟩) ?_ ?_
              rotate_left
              · intro w'
                go_simp
                with_reducible rfl
              rotate_left
              · simp only [Act.put, List.setIfInBounds_toArray, List.set_cons_zero, List.set_cons_succ, i64_w, i32_w]
                rfl
              refine pure_ (i := 9) (N := some 145) (v := ?_) (a' := ?_) #[true, true, true, true, true, true, true, true, true, true, false, false, false, false, false, false, false, false, false, false, false] rfl rfl (any_of HT_.out (by kernel_rfl)) (fun _ _ _ h => h) (Or.inl ⟨by rfl, ?_⟩) ?_ ?_
              rotate_left
              · intro w'
                go_simp
                with_reducible rfl
              rotate_left
              · simp only [Act.put, List.setIfInBounds_toArray, List.set_cons_zero, List.set_cons_succ, i64_w, i32_w]
                rfl
              refine pure_ (i := 10) (N := some 146) (v := ?_) (a' := ?_) #[true, true, true, true, true, true, true, true, true, true, true, false, false, false, false, false, false, false, false, false, false] rfl rfl (any_of HT_.out (by kernel_rfl)) (fun _ _ _ h => h) (Or.inl ⟨by rfl, ?_⟩) ?_ ?_
              rotate_left
              · intro w'
                go_simp
                with_reducible rfl
              rotate_left
              · simp only [Act.put, List.setIfInBounds_toArray, List.set_cons_zero, List.set_cons_succ, i64_w, i32_w]
                rfl
              refine pure_ (i := 11) (N := some 147) (v := ?_) (a' := ?_) #[true, true, true, true, true, true, true, true, true, true, true, true, false, false, false, false, false, false, false, false, false] rfl rfl (any_of HT_.out (by kernel_rfl)) (fun _ _ _ h => h) (Or.inl ⟨by rfl, ?_⟩) ?_ ?_
              rotate_left
              · intro w'
                go_simp
                with_reducible rfl
              rotate_left
              · simp only [Act.put, List.setIfInBounds_toArray, List.set_cons_zero, List.set_cons_succ, i64_w, i32_w]
                rfl
              refine one_ (i := 12) (N := some 148) #[true, true, true, true, true, true, true, true, true, true, true, true, true, false, false, false, false, false, false, false, false] rfl rfl (one_of HT_.out (by kernel_rfl)) (by decide) (fun K hK => ?_)
              have HDN2 := Lib.hid (done_calls w7 Y.heap.size g gm gp vO vL _ HI7.out HWB.out)
              rw [HDD.out] at HDN2
              refine goes_ Try.func12 (by kernel_rfl) rfl #[.pointer (some ⟨g, 0, none⟩)] (by rfl) rfl rfl (by simp only [List.map_toArray, List.map_cons, List.map_nil]; rfl) ?_
              with_reducible refine (HDN2.out).mono ?_
              rintro e w8 ⟨rfl, hb8⟩
              refine ⟨_, rfl, ?_⟩
              have HI8 := Lib.hid (HI7.out.below hb8)
              have HB8 := Lib.hid (below_then HB7.out HB7.out.size hb8)
              have k8 : w8.cell? adg = some (.bool true) := pw_cell_below hb8 k7
              clear hb8
              refine hK.out _ _ (k8) (fun hHeld => ?_)
              clear hK K
              refine norm_ (a' := ?_) ?_ ?_
              rotate_left
              · show Act.put _ (some 148) _ = _
                simp only [Act.put, List.setIfInBounds_toArray, List.set_cons_zero, List.set_cons_succ, i64_w, i32_w]
                rfl
              refine pure_ (i := 13) (N := some 149) (v := ?_) (a' := ?_) #[true, true, true, true, true, true, true, true, true, true, true, true, true, true, false, false, false, false, false, false, false] rfl rfl (any_of HT_.out (by kernel_rfl)) (fun _ _ _ h => h) (Or.inl ⟨by rfl, ?_⟩) ?_ ?_
              rotate_left
              · intro w'
                go_simp
                with_reducible rfl
              rotate_left
              · simp only [Act.put, List.setIfInBounds_toArray, List.set_cons_zero, List.set_cons_succ, i64_w, i32_w]
                rfl
              refine pure_ (i := 14) (N := some 150) (v := undef) (a' := ?_) #[true, true, true, true, true, true, true, true, true, true, true, true, true, true, true, false, false, false, false, false, false] rfl rfl (any_of HT_.out (by kernel_rfl)) (fun _ _ _ h => h) (Or.inr ⟨by rfl, rfl⟩) ?_ ?_
              rotate_left
              · simp only [Act.put, List.setIfInBounds_toArray, List.set_cons_zero, List.set_cons_succ, i64_w, i32_w]
                rfl
              refine pure_ (i := 15) (N := some 151) (v := undef) (a' := ?_) #[true, true, true, true, true, true, true, true, true, true, true, true, true, true, true, true, false, false, false, false, false] rfl rfl (any_of HT_.out (by kernel_rfl)) (fun _ _ _ h => h) (Or.inr ⟨by rfl, rfl⟩) ?_ ?_
              rotate_left
              · simp only [Act.put, List.setIfInBounds_toArray, List.set_cons_zero, List.set_cons_succ, i64_w, i32_w]
                rfl
              refine pure_ (i := 16) (N := some 152) (v := undef) (a' := ?_) #[true, true, true, true, true, true, true, true, true, true, true, true, true, true, true, true, true, false, false, false, false] rfl rfl (any_of HT_.out (by kernel_rfl)) (fun _ _ _ h => h) (Or.inr ⟨by rfl, rfl⟩) ?_ ?_
              rotate_left
              · simp only [Act.put, List.setIfInBounds_toArray, List.set_cons_zero, List.set_cons_succ, i64_w, i32_w]
                rfl
              refine pure_ (i := 17) (N := some 153) (v := undef) (a' := ?_) #[true, true, true, true, true, true, true, true, true, true, true, true, true, true, true, true, true, true, false, false, false] rfl rfl (any_of HT_.out (by kernel_rfl)) (fun _ _ _ h => h) (Or.inr ⟨by rfl, rfl⟩) ?_ ?_
              rotate_left
              · simp only [Act.put, List.setIfInBounds_toArray, List.set_cons_zero, List.set_cons_succ, i64_w, i32_w]
                rfl
              refine pure_ (i := 18) (N := some 154) (v := ?_) (a' := ?_) #[true, true, true, true, true, true, true, true, true, true, true, true, true, true, true, true, true, true, true, false, false] rfl rfl (any_of HT_.out (by kernel_rfl)) (fun _ _ _ h => h) (Or.inl ⟨by rfl, ?_⟩) ?_ ?_
              rotate_left
              · intro w'
                go_simp
                with_reducible rfl
              rotate_left
              · simp only [Act.put, List.setIfInBounds_toArray, List.set_cons_zero, List.set_cons_succ, i64_w, i32_w]
                rfl
              refine pure_ (i := 19) (N := some 155) (v := ?_) (a' := ?_) #[true, true, true, true, true, true, true, true, true, true, true, true, true, true, true, true, true, true, true, true, false] rfl rfl (any_of HT_.out (by kernel_rfl)) (fun _ _ _ h => h) (Or.inl ⟨by rfl, ?_⟩) ?_ ?_
              rotate_left
              · intro w'
                go_simp
                with_reducible rfl
              rotate_left
              · simp only [Act.put, List.setIfInBounds_toArray, List.set_cons_zero, List.set_cons_succ, i64_w, i32_w]
                rfl
              refine pure_ (i := 20) (N := some 8) (v := ?_) (a' := ?_) #[true, true, true, true, true, true, true, true, true, true, true, true, true, true, true, true, true, true, true, true, true] rfl rfl (any_of HT_.out (by kernel_rfl)) (fun _ _ _ h => h) (Or.inl ⟨by rfl, ?_⟩) ?_ ?_
              rotate_left
              · intro w'
                go_simp
                with_reducible rfl
              rotate_left
              · simp only [Act.put, List.setIfInBounds_toArray, List.set_cons_zero, List.set_cons_succ, i64_w, i32_w]
                rfl
              refine done_ (done_of HT_.out (by kernel_rfl)) ?_
              go_wp2
              go_ret
              exact ⟨rfl, HB8.out⟩
        | false =>
          rw [hb0] at hk0
          have HI5 := HIW
          have HB5 := HBW
          have HR5 := HRA
          obtain ⟨gv0, hgv0⟩ : ∃ gv0 : Im, [] = gv0 := ⟨_, rfl⟩
          rw [hgv0] at HI5
          have HGV := Lib.hid (show gv0 = (if gs.getD 0 false = true then XM.aput [] o.f2 () else []) by rw [hb0, ← hgv0]; simp)
          have HGL := Lib.hid (show gv0.length ≤ 1 by rw [← hgv0]; simp [XM.aput])
          clear hgv0
          obtain ⟨G, hGd⟩ : ∃ G : Nat → Im × Nat, giveS gs A gv0 = G := ⟨_, rfl⟩
          have HG0 := Lib.hid (show G 0 = (gv0, 0) by rw [← hGd]; rfl)
          have HGS := Lib.hid (show ∀ i, G (i + 1) = if gs.getD (i + 1) false = true then (XM.aput (G i).1 (A.getD i 0) (), (G i).2 + 1) else G i by rw [← hGd]; exact fun i => rfl)
          have HGD := Lib.hid hGd
          clear hGd
          go_wp2_with fail
          clear f2 hk0 s2 s3 q2
          go_loopg [19, 20] A.length (fun gn v19 v20 wr => ∃ (i : Nat) (sg : Im) (sc : Nat), v20 = .int .i64 (i : Int) ∧ v19 = .int .i64 (sc : Int) ∧ Aside0 (G i = (sg, sc)) ∧ Aside0 (gn = A.length - i) ∧ Aside0 (i ≤ A.length) ∧ Aside0 (Is wr Y.heap.size g gm gp vO vL (bo o A sg)) ∧ Aside0 (Kd.R kI 3 wr Z.heap.size (fun _ => True) (.slice A6 A.length c6) A) ∧ Aside0 (Below w.heap.size w wr) ∧ Aside0 (sg.length ≤ i + 1) ∧ Aside0 (sc ≤ i))
          case atStart => exact ⟨0, gv0, 0, rfl, rfl, ⟨HG0.out⟩, ⟨rfl⟩, ⟨Nat.zero_le _⟩, ⟨HI5.out⟩, ⟨HR5.out⟩, ⟨HB5.out⟩, ⟨HGL.out⟩, ⟨Nat.le_refl _⟩⟩
          case round =>
            clear HN HI hge
            obtain ⟨i, sg, sc, rfl, rfl, HST, HN, HI, HIQ, HRQ, HBQ, HLG, HCQ⟩ := hrel
            clear HI5 HR5 HB5 HC1 HQ0 HL HC HO HFE HRF HOL HON HG4Z HISZ HAB HWF HRA HIW HB HBW HBZ HB4 HG0
            by_cases hi : i < A.length
            · have hi0 : (i : Int) < (A.length : Int) := by omega
              have hi8 : i ≤ 8 := by have := HA2.out; omega
              have hi2 : (i : Int) < 2 := by have := HA2.out; omega
              have hwi : wrap64 ((i : Int) + 1) = (i : Int) + 1 := wrap_small i hi8
              have hws : wrap64 ((sc : Int) + 1) = (sc : Int) + 1 := wrap_small sc (Nat.le_trans HCQ.out hi8)
              have hgl : (i : Int) + 1 < (gs.length : Int) := by omega
              obtain ⟨bi, hbi⟩ : ∃ bi, gs.getD (i + 1) false = bi := ⟨_, rfl⟩
              have kc : wr.cell? (adg.add (i + 1)) = some (.bool bi) := by
                obtain ⟨a, ea, hc⟩ := Kd.at_bool (Kd.C_below HG.out HBQ.out) ((i : Int) + 1) (by omega) (by omega)
                cases ea
                rw [show ((i : Int) + 1).toNat = i + 1 by omega] at hc
                rw [hc, ← hbi]
                unfold rdOf
                rw [show ((i : Int) + 1).toNat = i + 1 by omega]
              have kd : wr.cell? { block := adg.block, off := adg.off + (i + 1) } = some (.bool bi) := kc
              have hstep := HGS.out i
              rw [hbi, HST.out] at hstep
              clear hbi kc
              cases bi with
              | false =>
                have HSTEP := Lib.hid (show G (i + 1) = (sg, sc) from hstep)
                clear hstep
                have HIN := Lib.hid (show ∀ k, k = A.length - i → A.length - (i + 1) < k by intro k hk; omega)
                have HL2 := Lib.hid (show sg.length ≤ i + 1 + 1 from Nat.le_succ_of_le HLG.out)
                have HC2 := Lib.hid (show sc ≤ i + 1 from Nat.le_succ_of_le HCQ.out)
                go_wp2_with fail
                go_roundg (A.length - (i + 1))
                case measure => exact HIN.out _ HN.out
                case rel => exact ⟨i + 1, sg, sc, by first | rfl | rw [hwi], rfl, ⟨HSTEP.out⟩, ⟨rfl⟩, ⟨hi⟩, ⟨HIQ.out⟩, ⟨HRQ.out⟩, ⟨HBQ.out⟩, ⟨HL2.out⟩, ⟨HC2.out⟩⟩
              | true =>
                obtain ⟨p, hp⟩ : ∃ p, A.getD i 0 = p := ⟨_, rfl⟩
                have hpm : p ∈ A := by rw [← hp, List.getD_eq_getElem?_getD, List.getElem?_eq_getElem hi]; exact List.getElem_mem hi
                have HSTEP := Lib.hid (show G (i + 1) = (XM.aput sg p (), sc + 1) by rw [← hp]; exact hstep)
                clear hstep
                have HIN := Lib.hid (show ∀ k, k = A.length - i → A.length - (i + 1) < k by intro k hk; omega)
                have HL2 := Lib.hid (show (XM.aput sg p ()).length ≤ i + 1 + 1 from Nat.le_trans (XM.length_aput sg p ()) (Nat.succ_le_succ HLG.out))
                have HC2 := Lib.hid (show sc + 1 ≤ i + 1 from Nat.succ_le_succ HCQ.out)
                obtain ⟨ad6, e6, hc6⟩ := Kd.at_int (Kd.R_reads' HRQ.out).2.2 (i : Int) (by omega) (by omega)
                cases e6
                have k6 : wr.cell? (ad6.add i) = some (.int .i64 p) := by rw [Int.toNat_natCast] at hc6; rw [hc6, ← hp]; unfold rd; rw [Int.toNat_natCast]
                have HGT := Lib.hid (got_nil wr Y.heap.size g gm gp vO vL (bo o A sg) HIQ.out (HWG.out _) p ((HWG.out []).oth p hpm) (by show sg.length < maxLen; have := HLG.out; have := HA2.out; simp only [maxLen]; omega) HS.out (Or.inr hpm))
                clear hp hpm hc6
                go_wp2_with fail
                with_reducible refine HGT.out.mono ?_
                rintro e w6 ⟨rfl, hI6, hg6⟩
                have HI6 := Lib.hid (show Is w6 Y.heap.size g gm gp vO vL (bo o A (XM.aput sg p ())) from hI6)
                have HB6 := Lib.hid (HBQ.out.grown hg6 HBQ.out.size (fun k hk => by cases hk; have h1 := HIQ.out.bm; have h2 := HBY.out.size; omega))
                have HR6 := Lib.hid (Kd.R_grown1 HRQ.out rfl hg6 (row_map HRQ.out HIQ.out.gv))
                obtain ⟨s2, hs2⟩ : ∃ s2, XM.aput sg p () = s2 := ⟨_, rfl⟩
                rw [hs2] at HSTEP HL2 HI6
                clear hI6 hg6 HGT k6 kd hs2
                go_wp2_with fail
                go_roundg (A.length - (i + 1))
                case measure => exact HIN.out _ HN.out
                case rel => exact ⟨i + 1, s2, sc + 1, by first | rfl | rw [hwi], by first | rfl | (rw [hws]; rfl), ⟨HSTEP.out⟩, ⟨rfl⟩, ⟨hi⟩, ⟨HI6.out⟩, ⟨HR6.out⟩, ⟨HB6.out⟩, ⟨HL2.out⟩, ⟨HC2.out⟩⟩
            · have hge : ¬ (i : Int) < (A.length : Int) := by omega
              have hie : i = A.length := by have := HI.out; omega
              subst hie
              have HWB := Lib.hid (HWG.out sg)
              have hE := enough_law o A gs ⟨5, 50⟩ [] HA2.out HAF.out HAN.out gv0 HGV.out
              rw [HGD.out, HST.out, hb0] at hE
              obtain ⟨D, hD⟩ : ∃ D : Bool, (false || (sc == 2)) = D := ⟨_, rfl⟩
              have HDD := Lib.hid ((left_done (bo o A sg) HS.out (by simp [bo])).trans (hE.trans hD))
              have HWP := Lib.hid (show D = false → 0 < (wantsOf (bo o A sg)).length from fun hh => wants_pos _ (by intro hl; have h1 := HDD.out; rw [hh] at h1; rw [hl] at h1; cases h1) HS.out)
              have HIF := HIQ
              have HBF := HBQ
              have HDN := Lib.hid (fun W (hW : Below wr.heap.size wr W) => done_calls W Y.heap.size g gm gp vO vL _ (HIF.out.below hW) HWB.out)
              rw [HDD.out] at HDN
              have kf : wr.cell? adg = some (.bool false) := by
                obtain ⟨a, ea, hc⟩ := Kd.at_bool (Kd.C_below HG.out HBQ.out) 0 (by omega) (by omega)
                cases ea
                rw [show adg.add (0 : Int).toNat = adg from add_z adg, show rdOf false gs 0 = gs.getD 0 false from rfl, hb0] at hc
                exact hc
              have hg0 : 0 < gs.length := by omega
              clear hE HGV HGD HGS HST HN HI HIQ HRQ HBQ HLG HCQ hi hb0 HAF HAN HA2 HWG
              cases d8 : ((sc : Int) == 2) with
              | true =>
                have hsc : sc = 2 := by have h := eq_of_beq d8; omega
                rw [hsc] at hD
                cases (show true = D from hD)
                clear hD hsc
                go_wp2_with fail
                refine start_ (n := 21) (S := fun w' => w'.cell? adg = some (.bool false)) (ds := []) #[false, false, false, false, false, false, false, false, false, false, false, false, false, false, false, false, false, false, false, false, false] (by kernel_rfl) rfl rfl (kf) (fun hHeld => ?_)
                refine with_tabW En_FT.tab28 En_FT.bits28 (fun HT_ HW_ => ?_)
                refine pure_ (i := 0) (N := some 136) (v := ?_) (a' := ?_) #[true, false, false, false, false, false, false, false, false, false, false, false, false, false, false, false, false, false, false, false, false] rfl rfl (any_of HT_.out (by kernel_rfl)) (fun _ _ _ h => h) (Or.inl ⟨by rfl, ?_⟩) ?_ ?_
                rotate_left
                · intro w'
                  go_simp
                  with_reducible rfl
                rotate_left
                · simp only [Act.put, List.setIfInBounds_toArray, List.set_cons_zero, List.set_cons_succ, i64_w, i32_w]
                  rfl
                refine pure_ (i := 2) (N := some 138) (v := ?_) (a' := ?_) #[true, false, true, false, false, false, false, false, false, false, false, false, false, false, false, false, false, false, false, false, false] rfl rfl (any_of HT_.out (by kernel_rfl)) (fun _ _ _ h => h) (Or.inl ⟨by rfl, ?_⟩) ?_ ?_
                rotate_left
                · intro w'
                  go_simp
                  with_reducible rfl
                rotate_left
                · simp only [Act.put, List.setIfInBounds_toArray, List.set_cons_zero, List.set_cons_succ, i64_w, i32_w]
                  rfl
                refine pure_ (i := 3) (N := some 139) (v := ?_) (a' := ?_) #[true, false, true, true, false, false, false, false, false, false, false, false, false, false, false, false, false, false, false, false, false] rfl rfl (any_of HT_.out (by kernel_rfl)) (fun _ _ _ h => h) (Or.inl ⟨by rfl, ?_⟩) ?_ ?_
                rotate_left
                · intro w'
                  go_simp
                  with_reducible rfl
                rotate_left
                · simp only [Act.put, List.setIfInBounds_toArray, List.set_cons_zero, List.set_cons_succ, i64_w, i32_w]
                  rfl
                refine take_ (i := 4) (N := some 140) (v := ?_) (a' := ?_) #[true, false, true, true, true, false, false, false, false, false, false, false, false, false, false, false, false, false, false, false, false] rfl rfl (take_ofW HT_.out HW_.out (by kernel_rfl)) (fun _ _ _ h => h) (Or.inl ⟨by rfl, ?_⟩) hHeld ?_ ?_
                rotate_left
                · intro w' s0
                  go_simp
                  with_reducible rfl
                rotate_left
                · simp only [Act.put, List.setIfInBounds_toArray, List.set_cons_zero, List.set_cons_succ, i64_w, i32_w]
                  rfl
                refine one_ (i := 1) (N := some 137) #[true, true, true, true, true, false, false, false, false, false, false, false, false, false, false, false, false, false, false, false, false] rfl rfl (one_of HT_.out (by kernel_rfl)) (by decide) (fun K hK => ?_)
                refine goes_ Try.func12 (by kernel_rfl) rfl #[.pointer (some ⟨g, 0, none⟩)] (by rfl) rfl rfl (by simp only [List.map_toArray, List.map_cons, List.map_nil]; rfl) ?_
                with_reducible refine ((HDN.out _ (below_drew (Below.refl _ _)))).mono ?_
                rintro e w7 ⟨rfl, hb7⟩
                refine ⟨_, rfl, ?_⟩
                have HI7 := Lib.hid (HIF.out.below (below_then (below_drew (Below.refl _ _)) (Nat.le_refl _) hb7))
                have HB7 := Lib.hid (below_then (below_drew HBF.out) HBF.out.size hb7)
                have k7 : w7.cell? adg = some (.bool false) := pw_cell_below hb7 kf
                clear hb7
                refine hK.out _ _ (k7) (fun hHeld => ?_)
                clear hK K
                refine norm_ (a' := ?_) ?_ ?_
                rotate_left
                · show Act.put _ (some 137) _ = _
                  simp only [Act.put, List.setIfInBounds_toArray, List.set_cons_zero, List.set_cons_succ, i64_w, i32_w]
                  rfl
                refine pure_ (i := 5) (N := some 141) (v := ?_) (a' := ?_) #[true, true, true, true, true, true, false, false, false, false, false, false, false, false, false, false, false, false, false, false, false] rfl rfl (any_of HT_.out (by kernel_rfl)) (fun _ _ _ h => h) (Or.inl ⟨by rfl, ?_⟩) ?_ ?_
                rotate_left
                · intro w'
                  go_simp
                  with_reducible rfl
                rotate_left
                · simp only [Act.put, List.setIfInBounds_toArray, List.set_cons_zero, List.set_cons_succ, i64_w, i32_w]
                  rfl
                refine pure_ (i := 6) (N := some 142) (v := ?_) (a' := ?_) #[true, true, true, true, true, true, true, false, false, false, false, false, false, false, false, false, false, false, false, false, false] rfl rfl (any_of HT_.out (by kernel_rfl)) (fun _ _ _ h => h) (Or.inl ⟨by rfl, ?_⟩) ?_ ?_
                rotate_left
                · intro w'
                  go_simp
                  with_reducible rfl
                rotate_left
                · simp only [Act.put, List.setIfInBounds_toArray, List.set_cons_zero, List.set_cons_succ, i64_w, i32_w]
                  rfl
                refine pure_ (i := 7) (N := some 143) (v := ?_) (a' := ?_) #[true, true, true, true, true, true, true, true, false, false, false, false, false, false, false, false, false, false, false, false, false] rfl rfl (any_of HT_.out (by kernel_rfl)) (fun _ _ _ h => h) (Or.inl ⟨by rfl, ?_⟩) ?_ ?_
                rotate_left
                · intro w'
                  go_simp
                  with_reducible rfl
                rotate_left
                · simp only [Act.put, List.setIfInBounds_toArray, List.set_cons_zero, List.set_cons_succ, i64_w, i32_w]
                  rfl
                refine pure_ (i := 8) (N := some 144) (v := ?_) (a' := ?_) #[true, true, true, true, true, true, true, true, true, false, false, false, false, false, false, false, false, false, false, false, false] rfl rfl (any_of HT_.out (by kernel_rfl)) (fun _ _ _ h => h) (Or.inl ⟨by rfl, ?_⟩) ?_ ?_
                rotate_left
                · intro w'
                  go_simp
                  with_reducible rfl
                rotate_left
                · simp only [Act.put, List.setIfInBounds_toArray, List.set_cons_zero, List.set_cons_succ, i64_w, i32_w]
                  rfl
                refine pure_ (i := 9) (N := some 145) (v := ?_) (a' := ?_) #[true, true, true, true, true, true, true, true, true, true, false, false, false, false, false, false, false, false, false, false, false] rfl rfl (any_of HT_.out (by kernel_rfl)) (fun _ _ _ h => h) (Or.inl ⟨by rfl, ?_⟩) ?_ ?_
                rotate_left
                · intro w'
                  go_simp
                  with_reducible rfl
                rotate_left
                · simp only [Act.put, List.setIfInBounds_toArray, List.set_cons_zero, List.set_cons_succ, i64_w, i32_w]
                  rfl
                refine pure_ (i := 10) (N := some 146) (v := ?_) (a' := ?_) #[true, true, true, true, true, true, true, true, true, true, true, false, false, false, false, false, false, false, false, false, false] rfl rfl (any_of HT_.out (by kernel_rfl)) (fun _ _ _ h => h) (Or.inl ⟨by rfl, ?_⟩) ?_ ?_
                rotate_left
                · intro w'
                  go_simp
                  with_reducible rfl
                rotate_left
                · simp only [Act.put, List.setIfInBounds_toArray, List.set_cons_zero, List.set_cons_succ, i64_w, i32_w]
                  rfl
                refine pure_ (i := 11) (N := some 147) (v := ?_) (a' := ?_) #[true, true, true, true, true, true, true, true, true, true, true, true, false, false, false, false, false, false, false, false, false] rfl rfl (any_of HT_.out (by kernel_rfl)) (fun _ _ _ h => h) (Or.inl ⟨by rfl, ?_⟩) ?_ ?_
                rotate_left
                · intro w'
                  go_simp
                  with_reducible rfl
                rotate_left
                · simp only [Act.put, List.setIfInBounds_toArray, List.set_cons_zero, List.set_cons_succ, i64_w, i32_w]
                  rfl
                refine one_ (i := 12) (N := some 148) #[true, true, true, true, true, true, true, true, true, true, true, true, true, false, false, false, false, false, false, false, false] rfl rfl (one_of HT_.out (by kernel_rfl)) (by decide) (fun K hK => ?_)
                have HDN2 := Lib.hid (done_calls w7 Y.heap.size g gm gp vO vL _ HI7.out HWB.out)
                rw [HDD.out] at HDN2
                refine goes_ Try.func12 (by kernel_rfl) rfl #[.pointer (some ⟨g, 0, none⟩)] (by rfl) rfl rfl (by simp only [List.map_toArray, List.map_cons, List.map_nil]; rfl) ?_
                with_reducible refine (HDN2.out).mono ?_
                rintro e w8 ⟨rfl, hb8⟩
                refine ⟨_, rfl, ?_⟩
                have HI8 := Lib.hid (HI7.out.below hb8)
                have HB8 := Lib.hid (below_then HB7.out HB7.out.size hb8)
                have k8 : w8.cell? adg = some (.bool false) := pw_cell_below hb8 k7
                clear hb8
                refine hK.out _ _ (k8) (fun hHeld => ?_)
                clear hK K
                refine norm_ (a' := ?_) ?_ ?_
                rotate_left
                · show Act.put _ (some 148) _ = _
                  simp only [Act.put, List.setIfInBounds_toArray, List.set_cons_zero, List.set_cons_succ, i64_w, i32_w]
                  rfl
                refine pure_ (i := 13) (N := some 149) (v := ?_) (a' := ?_) #[true, true, true, true, true, true, true, true, true, true, true, true, true, true, false, false, false, false, false, false, false] rfl rfl (any_of HT_.out (by kernel_rfl)) (fun _ _ _ h => h) (Or.inl ⟨by rfl, ?_⟩) ?_ ?_
                rotate_left
                · intro w'
                  go_simp
                  with_reducible rfl
                rotate_left
                · simp only [Act.put, List.setIfInBounds_toArray, List.set_cons_zero, List.set_cons_succ, i64_w, i32_w]
                  rfl
                refine pure_ (i := 14) (N := some 150) (v := undef) (a' := ?_) #[true, true, true, true, true, true, true, true, true, true, true, true, true, true, true, false, false, false, false, false, false] rfl rfl (any_of HT_.out (by kernel_rfl)) (fun _ _ _ h => h) (Or.inr ⟨by rfl, rfl⟩) ?_ ?_
                rotate_left
                · simp only [Act.put, List.setIfInBounds_toArray, List.set_cons_zero, List.set_cons_succ, i64_w, i32_w]
                  rfl
                refine pure_ (i := 15) (N := some 151) (v := undef) (a' := ?_) #[true, true, true, true, true, true, true, true, true, true, true, true, true, true, true, true, false, false, false, false, false] rfl rfl (any_of HT_.out (by kernel_rfl)) (fun _ _ _ h => h) (Or.inr ⟨by rfl, rfl⟩) ?_ ?_
                rotate_left
                · simp only [Act.put, List.setIfInBounds_toArray, List.set_cons_zero, List.set_cons_succ, i64_w, i32_w]
                  rfl
                refine pure_ (i := 16) (N := some 152) (v := undef) (a' := ?_) #[true, true, true, true, true, true, true, true, true, true, true, true, true, true, true, true, true, false, false, false, false] rfl rfl (any_of HT_.out (by kernel_rfl)) (fun _ _ _ h => h) (Or.inr ⟨by rfl, rfl⟩) ?_ ?_
                rotate_left
                · simp only [Act.put, List.setIfInBounds_toArray, List.set_cons_zero, List.set_cons_succ, i64_w, i32_w]
                  rfl
                refine pure_ (i := 17) (N := some 153) (v := undef) (a' := ?_) #[true, true, true, true, true, true, true, true, true, true, true, true, true, true, true, true, true, true, false, false, false] rfl rfl (any_of HT_.out (by kernel_rfl)) (fun _ _ _ h => h) (Or.inr ⟨by rfl, rfl⟩) ?_ ?_
                rotate_left
                · simp only [Act.put, List.setIfInBounds_toArray, List.set_cons_zero, List.set_cons_succ, i64_w, i32_w]
                  rfl
                refine pure_ (i := 18) (N := some 154) (v := ?_) (a' := ?_) #[true, true, true, true, true, true, true, true, true, true, true, true, true, true, true, true, true, true, true, false, false] rfl rfl (any_of HT_.out (by kernel_rfl)) (fun _ _ _ h => h) (Or.inl ⟨by rfl, ?_⟩) ?_ ?_
                rotate_left
                · intro w'
                  go_simp
                  with_reducible rfl
                rotate_left
                · simp only [Act.put, List.setIfInBounds_toArray, List.set_cons_zero, List.set_cons_succ, i64_w, i32_w]
                  rfl
                refine pure_ (i := 19) (N := some 155) (v := ?_) (a' := ?_) #[true, true, true, true, true, true, true, true, true, true, true, true, true, true, true, true, true, true, true, true, false] rfl rfl (any_of HT_.out (by kernel_rfl)) (fun _ _ _ h => h) (Or.inl ⟨by rfl, ?_⟩) ?_ ?_
                rotate_left
                · intro w'
                  go_simp
                  with_reducible rfl
                rotate_left
                · simp only [Act.put, List.setIfInBounds_toArray, List.set_cons_zero, List.set_cons_succ, i64_w, i32_w]
                  rfl
                refine pure_ (i := 20) (N := some 8) (v := ?_) (a' := ?_) #[true, true, true, true, true, true, true, true, true, true, true, true, true, true, true, true, true, true, true, true, true] rfl rfl (any_of HT_.out (by kernel_rfl)) (fun _ _ _ h => h) (Or.inl ⟨by rfl, ?_⟩) ?_ ?_
                rotate_left
                · intro w'
                  go_simp
                  with_reducible rfl
                rotate_left
                · simp only [Act.put, List.setIfInBounds_toArray, List.set_cons_zero, List.set_cons_succ, i64_w, i32_w]
                  rfl
                refine done_ (done_of HT_.out (by kernel_rfl)) ?_
                go_wp2
                go_ret
                exact ⟨rfl, HB8.out⟩
              | false =>
                have hsc : (sc == 2) = false := by rw [beq_eq_false_iff_ne]; intro h; rw [h] at d8; cases d8
                rw [hsc] at hD
                cases (show false = D from hD)
                have HWQ := Lib.hid (HWP.out rfl)
                clear hD hsc HWP
                go_wp2_with fail
                refine start_ (n := 21) (S := fun w' => w'.cell? adg = some (.bool false)) (ds := []) #[false, false, false, false, false, false, false, false, false, false, false, false, false, false, false, false, false, false, false, false, false] (by kernel_rfl) rfl rfl (kf) (fun hHeld => ?_)
                refine with_tabW En_FF.tab28 En_FF.bits28 (fun HT_ HW_ => ?_)
                refine pure_ (i := 0) (N := some 136) (v := ?_) (a' := ?_) #[true, false, false, false, false, false, false, false, false, false, false, false, false, false, false, false, false, false, false, false, false] rfl rfl (any_of HT_.out (by kernel_rfl)) (fun _ _ _ h => h) (Or.inl ⟨by rfl, ?_⟩) ?_ ?_
                rotate_left
                · intro w'
                  go_simp
                  with_reducible rfl
                rotate_left
                · simp only [Act.put, List.setIfInBounds_toArray, List.set_cons_zero, List.set_cons_succ, i64_w, i32_w]
                  rfl
                refine pure_ (i := 2) (N := some 138) (v := ?_) (a' := ?_) #[true, false, true, false, false, false, false, false, false, false, false, false, false, false, false, false, false, false, false, false, false] rfl rfl (any_of HT_.out (by kernel_rfl)) (fun _ _ _ h => h) (Or.inl ⟨by rfl, ?_⟩) ?_ ?_
                rotate_left
                · intro w'
                  go_simp
                  with_reducible rfl
                rotate_left
                · simp only [Act.put, List.setIfInBounds_toArray, List.set_cons_zero, List.set_cons_succ, i64_w, i32_w]
                  rfl
                refine pure_ (i := 3) (N := some 139) (v := ?_) (a' := ?_) #[true, false, true, true, false, false, false, false, false, false, false, false, false, false, false, false, false, false, false, false, false] rfl rfl (any_of HT_.out (by kernel_rfl)) (fun _ _ _ h => h) (Or.inl ⟨by rfl, ?_⟩) ?_ ?_
                rotate_left
                · intro w'
                  go_simp
                  with_reducible rfl
                rotate_left
                · simp only [Act.put, List.setIfInBounds_toArray, List.set_cons_zero, List.set_cons_succ, i64_w, i32_w]
                  rfl
                refine take_ (i := 4) (N := some 140) (v := ?_) (a' := ?_) #[true, false, true, true, true, false, false, false, false, false, false, false, false, false, false, false, false, false, false, false, false] rfl rfl (take_ofW HT_.out HW_.out (by kernel_rfl)) (fun _ _ _ h => h) (Or.inl ⟨by rfl, ?_⟩) hHeld ?_ ?_
                rotate_left
                · intro w' s0
                  go_simp
                  with_reducible rfl
                rotate_left
                · simp only [Act.put, List.setIfInBounds_toArray, List.set_cons_zero, List.set_cons_succ, i64_w, i32_w]
                  rfl
                refine one_ (i := 1) (N := some 137) #[true, true, true, true, true, false, false, false, false, false, false, false, false, false, false, false, false, false, false, false, false] rfl rfl (one_of HT_.out (by kernel_rfl)) (by decide) (fun K hK => ?_)
                refine goes_ Try.func12 (by kernel_rfl) rfl #[.pointer (some ⟨g, 0, none⟩)] (by rfl) rfl rfl (by simp only [List.map_toArray, List.map_cons, List.map_nil]; rfl) ?_
                with_reducible refine ((HDN.out _ (below_drew (Below.refl _ _)))).mono ?_
                rintro e w7 ⟨rfl, hb7⟩
                refine ⟨_, rfl, ?_⟩
                have HI7 := Lib.hid (HIF.out.below (below_then (below_drew (Below.refl _ _)) (Nat.le_refl _) hb7))
                have HB7 := Lib.hid (below_then (below_drew HBF.out) HBF.out.size hb7)
                have k7 : w7.cell? adg = some (.bool false) := pw_cell_below hb7 kf
                clear hb7
                refine hK.out _ _ (k7) (fun hHeld => ?_)
                clear hK K
                refine norm_ (a' := ?_) ?_ ?_
                rotate_left
                · show Act.put _ (some 137) _ = _
                  simp only [Act.put, List.setIfInBounds_toArray, List.set_cons_zero, List.set_cons_succ, i64_w, i32_w]
                  rfl
                refine pure_ (i := 5) (N := some 141) (v := ?_) (a' := ?_) #[true, true, true, true, true, true, false, false, false, false, false, false, false, false, false, false, false, false, false, false, false] rfl rfl (any_of HT_.out (by kernel_rfl)) (fun _ _ _ h => h) (Or.inl ⟨by rfl, ?_⟩) ?_ ?_
                rotate_left
                · intro w'
                  go_simp
                  with_reducible rfl
                rotate_left
                · simp only [Act.put, List.setIfInBounds_toArray, List.set_cons_zero, List.set_cons_succ, i64_w, i32_w]
                  rfl
                refine pure_ (i := 6) (N := some 142) (v := ?_) (a' := ?_) #[true, true, true, true, true, true, true, false, false, false, false, false, false, false, false, false, false, false, false, false, false] rfl rfl (any_of HT_.out (by kernel_rfl)) (fun _ _ _ h => h) (Or.inl ⟨by rfl, ?_⟩) ?_ ?_
                rotate_left
                · intro w'
                  go_simp
                  with_reducible rfl
                rotate_left
                · simp only [Act.put, List.setIfInBounds_toArray, List.set_cons_zero, List.set_cons_succ, i64_w, i32_w]
                  rfl
                refine pure_ (i := 7) (N := some 143) (v := ?_) (a' := ?_) #[true, true, true, true, true, true, true, true, false, false, false, false, false, false, false, false, false, false, false, false, false] rfl rfl (any_of HT_.out (by kernel_rfl)) (fun _ _ _ h => h) (Or.inl ⟨by rfl, ?_⟩) ?_ ?_
                rotate_left
                · intro w'
                  go_simp
                  with_reducible rfl
                rotate_left
                · simp only [Act.put, List.setIfInBounds_toArray, List.set_cons_zero, List.set_cons_succ, i64_w, i32_w]
                  rfl
                refine pure_ (i := 8) (N := some 144) (v := ?_) (a' := ?_) #[true, true, true, true, true, true, true, true, true, false, false, false, false, false, false, false, false, false, false, false, false] rfl rfl (any_of HT_.out (by kernel_rfl)) (fun _ _ _ h => h) (Or.inl ⟨by rfl, ?_⟩) ?_ ?_
                rotate_left
                · intro w'
                  go_simp
                  with_reducible rfl
                rotate_left
                · simp only [Act.put, List.setIfInBounds_toArray, List.set_cons_zero, List.set_cons_succ, i64_w, i32_w]
                  rfl
                refine pure_ (i := 9) (N := some 145) (v := ?_) (a' := ?_) #[true, true, true, true, true, true, true, true, true, true, false, false, false, false, false, false, false, false, false, false, false] rfl rfl (any_of HT_.out (by kernel_rfl)) (fun _ _ _ h => h) (Or.inl ⟨by rfl, ?_⟩) ?_ ?_
                rotate_left
                · intro w'
                  go_simp
                  with_reducible rfl
                rotate_left
                · simp only [Act.put, List.setIfInBounds_toArray, List.set_cons_zero, List.set_cons_succ, i64_w, i32_w]
                  rfl
                refine pure_ (i := 10) (N := some 146) (v := ?_) (a' := ?_) #[true, true, true, true, true, true, true, true, true, true, true, false, false, false, false, false, false, false, false, false, false] rfl rfl (any_of HT_.out (by kernel_rfl)) (fun _ _ _ h => h) (Or.inl ⟨by rfl, ?_⟩) ?_ ?_
                rotate_left
                · intro w'
                  go_simp
                  with_reducible rfl
                rotate_left
                · simp only [Act.put, List.setIfInBounds_toArray, List.set_cons_zero, List.set_cons_succ, i64_w, i32_w]
                  rfl
                refine pure_ (i := 11) (N := some 147) (v := ?_) (a' := ?_) #[true, true, true, true, true, true, true, true, true, true, true, true, false, false, false, false, false, false, false, false, false] rfl rfl (any_of HT_.out (by kernel_rfl)) (fun _ _ _ h => h) (Or.inl ⟨by rfl, ?_⟩) ?_ ?_
                rotate_left
                · intro w'
                  go_simp
                  with_reducible rfl
                rotate_left
                · simp only [Act.put, List.setIfInBounds_toArray, List.set_cons_zero, List.set_cons_succ, i64_w, i32_w]
                  rfl
                refine one_ (i := 12) (N := some 148) #[true, true, true, true, true, true, true, true, true, true, true, true, true, false, false, false, false, false, false, false, false] rfl rfl (one_of HT_.out (by kernel_rfl)) (by decide) (fun K hK => ?_)
                have HDN2 := Lib.hid (done_calls w7 Y.heap.size g gm gp vO vL _ HI7.out HWB.out)
                rw [HDD.out] at HDN2
                refine goes_ Try.func12 (by kernel_rfl) rfl #[.pointer (some ⟨g, 0, none⟩)] (by rfl) rfl rfl (by simp only [List.map_toArray, List.map_cons, List.map_nil]; rfl) ?_
                with_reducible refine (HDN2.out).mono ?_
                rintro e w8 ⟨rfl, hb8⟩
                refine ⟨_, rfl, ?_⟩
                have HI8 := Lib.hid (HI7.out.below hb8)
                have HB8 := Lib.hid (below_then HB7.out HB7.out.size hb8)
                have k8 : w8.cell? adg = some (.bool false) := pw_cell_below hb8 k7
                clear hb8
                refine hK.out _ _ (k8) (fun hHeld => ?_)
                clear hK K
                refine norm_ (a' := ?_) ?_ ?_
                rotate_left
                · show Act.put _ (some 148) _ = _
                  simp only [Act.put, List.setIfInBounds_toArray, List.set_cons_zero, List.set_cons_succ, i64_w, i32_w]
                  rfl
                refine pure_ (i := 13) (N := some 149) (v := ?_) (a' := ?_) #[true, true, true, true, true, true, true, true, true, true, true, true, true, true, false, false, false, false, false, false, false] rfl rfl (any_of HT_.out (by kernel_rfl)) (fun _ _ _ h => h) (Or.inl ⟨by rfl, ?_⟩) ?_ ?_
                rotate_left
                · intro w'
                  go_simp
                  with_reducible rfl
                rotate_left
                · simp only [Act.put, List.setIfInBounds_toArray, List.set_cons_zero, List.set_cons_succ, i64_w, i32_w]
                  rfl
                refine pure_ (i := 14) (N := some 150) (v := ?_) (a' := ?_) #[true, true, true, true, true, true, true, true, true, true, true, true, true, true, true, false, false, false, false, false, false] rfl rfl (any_of HT_.out (by kernel_rfl)) (fun _ _ _ h => h) (Or.inl ⟨by rfl, ?_⟩) ?_ ?_
                rotate_left
                · intro w'
                  go_simp
                  with_reducible rfl
                rotate_left
                · simp only [Act.put, List.setIfInBounds_toArray, List.set_cons_zero, List.set_cons_succ, i64_w, i32_w]
                  rfl
                refine one_ (i := 15) (N := some 151) #[true, true, true, true, true, true, true, true, true, true, true, true, true, true, true, true, false, false, false, false, false] rfl rfl (one_of HT_.out (by kernel_rfl)) (by decide) (fun K hK => ?_)
                refine goes_ Try.func9 (by kernel_rfl) rfl #[.pointer (some ⟨g, 0, none⟩)] (by rfl) rfl rfl (by simp only [List.map_toArray, List.map_cons, List.map_nil]; rfl) ?_
                with_reducible refine ((wants_calls w8 Y.heap.size g gm gp vO vL _ HI8.out HWB.out)).mono ?_
                rintro e w9 ⟨v9, rfl, hR9, hb9⟩
                refine ⟨_, rfl, ?_⟩
                obtain ⟨A9, n9, c9, hn9, rfl⟩ : ∃ A n c, 0 < n ∧ v9 = .slice A n c := by obtain ⟨A, c, e⟩ := Kd.R_slice hR9; exact ⟨A, _, c, HWQ.out, e⟩
                have hn9 : (0 : Int) < (n9 : Int) := by omega
                have d9 : decide ((n9 : Int) > 0) = true := decide_eq_true hn9
                have HB9 := Lib.hid (below_then HB8.out HB8.out.size hb9)
                have k9 : w9.cell? adg = some (.bool false) := pw_cell_below hb9 k8
                clear hb9 hR9
                refine hK.out _ _ (k9) (fun hHeld => ?_)
                clear hK K
                refine norm_ (a' := ?_) ?_ ?_
                rotate_left
                · show Act.put _ (some 151) _ = _
                  simp only [Act.put, List.setIfInBounds_toArray, List.set_cons_zero, List.set_cons_succ, i64_w, i32_w]
                  rfl
                refine pure_ (i := 16) (N := some 152) (v := ?_) (a' := ?_) #[true, true, true, true, true, true, true, true, true, true, true, true, true, true, true, true, true, false, false, false, false] rfl rfl (any_of HT_.out (by kernel_rfl)) (fun _ _ _ h => h) (Or.inl ⟨by rfl, ?_⟩) ?_ ?_
                rotate_left
                · intro w'
                  go_simp
                  with_reducible rfl
                rotate_left
                · simp only [Act.put, List.setIfInBounds_toArray, List.set_cons_zero, List.set_cons_succ, i64_w, i32_w]
                  rfl
                refine pure_ (i := 17) (N := some 153) (v := ?_) (a' := ?_) #[true, true, true, true, true, true, true, true, true, true, true, true, true, true, true, true, true, true, false, false, false] rfl rfl (any_of HT_.out (by kernel_rfl)) (fun _ _ _ h => h) (Or.inl ⟨by rfl, ?_⟩) ?_ ?_
                rotate_left
                · intro w'
                  go_simp
                  with_reducible rfl
                rotate_left
                · simp only [Act.put, List.setIfInBounds_toArray, List.set_cons_zero, List.set_cons_succ, i64_w, i32_w]
                  rfl
                refine pure_ (i := 18) (N := some 154) (v := ?_) (a' := ?_) #[true, true, true, true, true, true, true, true, true, true, true, true, true, true, true, true, true, true, true, false, false] rfl rfl (any_of HT_.out (by kernel_rfl)) (fun _ _ _ h => h) (Or.inl ⟨by rfl, ?_⟩) ?_ ?_
                rotate_left
                · intro w'
                  go_simp
                  with_reducible rfl
                rotate_left
                · simp only [Act.put, List.setIfInBounds_toArray, List.set_cons_zero, List.set_cons_succ, i64_w, i32_w]
                  rfl
                refine pure_ (i := 19) (N := some 155) (v := ?_) (a' := ?_) #[true, true, true, true, true, true, true, true, true, true, true, true, true, true, true, true, true, true, true, true, false] rfl rfl (any_of HT_.out (by kernel_rfl)) (fun _ _ _ h => h) (Or.inl ⟨by rfl, ?_⟩) ?_ ?_
                rotate_left
                · intro w'
                  go_simp
                  with_reducible rfl
                rotate_left
                · simp only [Act.put, List.setIfInBounds_toArray, List.set_cons_zero, List.set_cons_succ, i64_w, i32_w]
                  rfl
                refine pure_ (i := 20) (N := some 8) (v := ?_) (a' := ?_) #[true, true, true, true, true, true, true, true, true, true, true, true, true, true, true, true, true, true, true, true, true] rfl rfl (any_of HT_.out (by kernel_rfl)) (fun _ _ _ h => h) (Or.inl ⟨by rfl, ?_⟩) ?_ ?_
                rotate_left
                · intro w'
                  go_simp
                  with_reducible rfl
                rotate_left
                · simp only [Act.put, List.setIfInBounds_toArray, List.set_cons_zero, List.set_cons_succ, i64_w, i32_w]
                  rfl
                refine done_ (done_of HT_.out (by kernel_rfl)) ?_
                go_wp2
                go_ret
                exact ⟨rfl, HB9.out⟩
end Bt
end Go.Proofs.Ytiinmagnpkfbbaa
