/- BootstrapNever: the walk. -/
import Derived.Test.YtiinmagnpkfbbaaEnWalk
import Derived.Test.YtiinmagnpkfbbaaLocal
import Derived.Deep.Light
namespace Go.Proofs.Ytiinmagnpkfbbaa
set_option linter.unusedVariables false
set_option linter.unusedSimpArgs false
open Go.RowKit Go.Proofs.YtiinmagnpkfbbaaW.PrintWords Go.Proofs.YtiinmagnpkfbbaaW.PrintLast Go.Proofs.YtiinmagnpkfbbaaW.PrintMore Go.Proofs.Ytiinmagnpkfbbaa.QT
namespace Bt
open Rg (normR)
theorem norm_one (r : R) : normR [r] = if r.f1 ≤ r.f0 then [] else [r] := rfl
theorem norm_short (r : R) : (normR [r]).length ≤ 400000 := by rw [norm_one]; split <;> simp
theorem norm_empty {l : List R} (h : Rg.IsN l) (hm : ∀ t, ¬ Rg.mem l t) : l = [] := by
  cases l with
  | nil => rfl
  | cons x l =>
    have := h.ne x List.mem_cons_self
    exact absurd ⟨x, List.mem_cons_self, Int.le_refl _, this⟩ (hm x.f0)
theorem sub_self (r : R) : Rg.subR (normR [r]) r = [] := by
  obtain ⟨h1, h2⟩ := Rg.subR_is (normR [r]) r
  refine norm_empty h1 (fun t ht => ?_)
  obtain ⟨h3, h4⟩ := (h2 t).1 ht
  obtain ⟨x, hx, h5⟩ := ((Rg.normR_is [r]).2 t).1 h3
  rw [List.mem_singleton.1 hx] at h5
  exact h4 h5
def nv (o : Ow) (A : List Int) (need : R) (left : List R) (pm : Pm) : Bo := ⟨o, A, [], need, left, pm⟩
theorem enough_nil (b : Bo) (h : b.gv = []) : enough b = false := by
  have g : ∀ x, gave b.gv x = false := fun x => by rw [h]; rfl
  unfold enough
  rw [g, g, g]
  simp
theorem wants_head (b : Bo) (h : leftOf b ≠ []) (h1 : b.own.f1 = 1) (h2 : b.gv = []) : ∃ tl, wantsOf b = b.own.f2 :: tl := by
  unfold wantsOf
  rw [if_neg (fun hh => hh.elim h (fun hh => hh h1)), List.filter_cons, if_pos (by rw [h2]; rfl)]
  exact ⟨_, rfl⟩
theorem wf_nv {w : World} {An : Option Addr} {cn : Nat} {nodes : List Int} {As : Option Addr} {cs : Nat} {shards : List (List Ow)} (hP : Pl.PlAt w An cn nodes As cs shards) {l : List Ow} (hlm : l ∈ shards) {o : Ow} (ho : o ∈ l) (hlen : l.length ≤ 8) (n : Int) (need : R) (lf : List R) (hlf : lf.length ≤ 1000000) (pm : Pm) : Wf (nv o (othersL l n) need lf pm) := by
  have h := wf_bo hP hlm ho hlen n []
  exact ⟨h.src, h.oth, h.l1, hlf⟩
theorem lit_step (W : World) (A : Option Addr) (c : Nat) (l : List Hv.Ser) (hl : Kd.C k71 W A l.length l) (hlc : l.length ≤ c) : Kd.C k50 (W.alloc (.cells #[.int .i64 0, .int .i64 0, .int .i64 0, .int .i64 0, .int .i64 0, .slice A l.length c] 50)) (some ⟨W.heap.size, 0, none⟩) 1 [⟨0, 0, 0, ⟨0, 0⟩, l⟩] := by
  refine ⟨rfl, by decide, fun _ => ⟨_, rfl, fun j p hj => ?_⟩⟩
  have hb := blk_new W (.cells #[.int .i64 0, .int .i64 0, .int .i64 0, .int .i64 0, .int .i64 0, .slice A l.length c] 50)
  match j, hj with
  | 0, hj =>
    cases hj
    refine ⟨_, rfl, k50_mk _ (⟨0, 0, 0, ⟨0, 0⟩, l⟩ : S50) hlc (Kd.C_below hl (below_alloc (Below.refl _ _) _)), fun i u hu => ?_⟩
    match i, hu with
    | 0, hu => cases hu; exact (blk_cell hb 0).trans rfl
    | 1, hu => cases hu; exact (blk_cell hb 1).trans rfl
    | 2, hu => cases hu; exact (blk_cell hb 2).trans rfl
    | 3, hu => cases hu; exact (blk_cell hb 3).trans rfl
    | 4, hu => cases hu; exact (blk_cell hb 4).trans rfl
    | 5, hu => cases hu; exact (blk_cell hb 5).trans rfl
def Nv_T.T13 : Bool × List (List Nat × List Nat) := (true, [([], []), ([0], [0]), ([], []), ([2], [2]), ([], []), ([4], [4]), ([3, 5], [3, 5]), ([1, 6], [1, 6]), ([7, 1], [7]), ([8], [8]), ([9, 8, 8], [8, 9]), ([10, 10, 8], [8, 10]), ([11], [11]), ([12, 11], [11, 12]), ([13, 11], [11, 13]), ([14, 11, 11], [11, 14]), ([15], [15]), ([16, 15], [15, 16]), ([17, 15], [15, 17]), ([15], [15]), ([19, 15], [15, 19]), ([18, 20, 15], [15, 18, 20]), ([15, 21, 11], [11, 15, 21]), ([11, 22, 8], [8, 11, 22]), ([8, 23], [8, 23]), ([24, 15, 0, 1, 2, 3, 4, 5, 6, 7, 8, 9, 10, 11, 12, 13, 14, 15, 16, 17, 18, 19, 20, 21, 22, 23, 24], [24])])
def Nv_T.B13 : List Nat := [0, 1, 0, 4, 0, 16, 60, 127, 255, 511, 1023, 2047, 4095, 8191, 16383, 32767, 65535, 131071, 262143, 65535, 589823, 2097151, 4194303, 8388607, 16777215, 33554431]
theorem Nv_T.tab13 : rtab .any (opsOf Try.f4 13) = Nv_T.T13 := by kernel_rfl
theorem Nv_T.bits13 : waitsOk Nv_T.T13.2 Nv_T.B13 = true := by kernel_rfl
def Nv_F.T13 : Bool × List (List Nat × List Nat) := (true, [([], []), ([0], [0]), ([], []), ([2], [2]), ([], []), ([4], [4]), ([3, 5], [3, 5]), ([1, 6], [1, 6]), ([7, 1], [7]), ([8], [8]), ([9, 8, 8], [8, 9]), ([10, 10, 8], [8, 10]), ([11], [11]), ([12, 11], [11, 12]), ([13, 11], [11, 13]), ([14, 11, 11], [11, 14]), ([15], [15]), ([16, 15], [15, 16]), ([17, 15], [15, 17]), ([15], [15]), ([19, 15], [15, 19]), ([18, 20, 15], [15, 18, 20]), ([15, 21, 11], [11, 15, 21]), ([11, 22, 8], [8, 11, 22]), ([8, 23], [8, 23]), ([24, 15, 0, 1, 2, 3, 4, 5, 6, 7, 8, 9, 10, 11, 12, 13, 14, 15, 16, 17, 18, 19, 20, 21, 22, 23, 24], [24])])
def Nv_F.B13 : List Nat := [0, 1, 0, 4, 0, 16, 60, 127, 255, 511, 1023, 2047, 4095, 8191, 16383, 32767, 65535, 131071, 262143, 65535, 589823, 2097151, 4194303, 8388607, 16777215, 33554431]
theorem Nv_F.tab13 : rtab .any (opsOf Try.f4 13) = Nv_F.T13 := by kernel_rfl
theorem Nv_F.bits13 : waitsOk Nv_F.T13.2 Nv_F.B13 = true := by kernel_rfl
set_option maxHeartbeats 4000000 in
set_option maxRecDepth 100000 in
theorem never_err (w : World) (V : Int) (An : Option Addr) (cn : Nat) (nodes : List Int) (As : Option Addr) (cs : Nat) (shards : List (List Ow)) (hP : Pl.PlAt w An cn nodes As cs shards) (sh n : Int) (need : R) (A : Option Addr) (c : Nat) (l : List Hv.Ser) (hl : Kd.C k71 w A l.length l) (hlc : l.length ≤ c) (hids : ∀ x ∈ l, x.f0.size ≤ maxLen) (h : ¬ (Pl.checkP V nodes shards = 0 ∧ Pl.ownsP shards sh n = true)) :
    Calls Try.prog 4 #[.agg #[.int .i64 V, .slice An nodes.length cn, .slice As shards.length cs], .int .i64 sh, .int .i64 n, .agg #[.int .i64 need.f0, .int .i64 need.f1], .slice A l.length c] w fun e w' => e = .returned (.bool true) ∧ Below w.heap.size w w' := by
  obtain ⟨er, her, hnw⟩ := news_err V An cn nodes As cs shards sh n need h
  have HN := Lib.hid hnw
  have d1 : (er != 0) = true := bne_iff_ne.2 her
  clear h hnw her
  have HP := Lib.hid hP
  have HL := Lib.hid hl
  have HLC := Lib.hid hlc
  have HIDS := Lib.hid hids
  clear hP hl hlc hids
  go_enter Try.func4, Try.ntmps4
  go_wp2_with (first
    | ((with_reducible refine gate_dst (N := 5) rfl ?_); refine box_event rfl (N := 5) rfl (cs := #[.int .i64 V, .slice An nodes.length cn, .slice As shards.length cs]) (t := 25) ?hr ?_; (case hr => first | (go_simp; done) | (go_simp; rfl)); intro g4 hg4 X hbox hbX; have HX := Lib.hid (And.intro hg4 (And.intro hbox hbX)); clear hg4 hbox hbX)
    | ((with_reducible refine gate_dst (N := 8) rfl ?_); refine box_event rfl (N := 8) rfl (cs := #[.int .i64 need.f0, .int .i64 need.f1]) (t := 29) ?hr ?_; (case hr => first | (go_simp; done) | (go_simp; rfl)); intro g7 hg7 Y hboy hbY; have HY := Lib.hid (And.intro hg7 (And.intro hboy hbY)); have HG4 := Lib.hid (blk_below HX.out.2.1 hbY); have HG7 := Lib.hid hboy; have y0 : Y.cell? ⟨g4, 0, none⟩ = some (.int .i64 V) := (blk_cell HG4.out 0).trans rfl; have y1 : Y.cell? ⟨g4, 1, none⟩ = some (.slice An nodes.length cn) := (blk_cell HG4.out 1).trans rfl; have y2 : Y.cell? ⟨g4, 2, none⟩ = some (.slice As shards.length cs) := (blk_cell HG4.out 2).trans rfl; have y3 : g4 < Y.heap.size := blk_lt HG4.out; have n3 : g7 < Y.heap.size := blk_lt HG7.out; clear hg7 hboy hbY))
  have HBY := Lib.hid (below_then HX.out.2.2 HX.out.2.2.size HY.out.2.2)
  have HAL := Lib.hid (below_alloc (Below.refl Y.heap.size Y) (.cells #[.int .i64 0, .int .i64 0, .int .i64 0, .int .i64 0, .int .i64 0, .slice A l.length c] 50))
  have HLQ := Lib.hid (lit_step Y A c l (Kd.C_below HL.out HBY.out) HLC.out)
  obtain ⟨gz, hgz⟩ : ∃ gz, gz = Y.heap.size := ⟨_, rfl⟩
  obtain ⟨Z, hZ⟩ : ∃ Z : World, Z = Y.alloc (.cells #[.int .i64 0, .int .i64 0, .int .i64 0, .int .i64 0, .int .i64 0, .slice A l.length c] 50) := ⟨_, rfl⟩
  rw [← hZ] at HAL HLQ
  rw [← hgz] at HLQ
  rw [← hZ, ← hgz]
  have HBZ := Lib.hid (below_then HBY.out HBY.out.size HAL.out)
  have HG4Z := Lib.hid (blk_below HG4.out HAL.out)
  have HG7Z := Lib.hid (blk_below HG7.out HAL.out)
  clear hZ hgz HAL y0 y1 y2 y3 n3 HG4 HG7 HX HY HBY
  obtain ⟨r, hr⟩ := large_any Z V An cn nodes As cs shards (HP.out.below HBZ.out)
  have HLG := Lib.hid hr
  clear hr
  with_reducible refine HLG.out.mono ?_
  rintro e w1 ⟨rfl, hb1⟩
  have HB1 := Lib.hid (below_then HBZ.out HBZ.out.size hb1)
  have HLQ1 := Lib.hid (Kd.C_below HLQ.out hb1)
  have HG41 := Lib.hid (blk_below HG4Z.out hb1)
  have HG71 := Lib.hid (blk_below HG7Z.out hb1)
  clear hb1 HLG HG4Z HG7Z HLQ
  cases r with
  | true =>
    go_wp2
    go_ret
    exact ⟨rfl, HB1.out⟩
  | false =>
  obtain ⟨r2, hr2, hr3⟩ := Hv.heavy_any w1 (some ⟨gz, 0, none⟩) 1 [⟨0, 0, 0, ⟨0, 0⟩, l⟩] HLQ1.out (Nat.le_refl _) (by simp) (by intro s hs; rw [List.mem_singleton.1 hs]; exact HL.out.2.1)
  have HHV := Lib.hid (show Calls Try.prog 13 #[.slice (some ⟨gz, 0, none⟩) 1 1] w1 (fun e w' => e = .returned (.bool r2) ∧ Below w1.heap.size w1 w') from hr3)
  have HHW := Lib.hid hr2
  clear hr2 hr3
  go_wp2_with fail
  with_reducible refine HHV.out.mono ?_
  rintro e w2 ⟨rfl, hb2⟩
  have HB2 := Lib.hid (below_then HB1.out HB1.out.size hb2)
  have HG42 := Lib.hid (blk_below HG41.out hb2)
  have HG72 := Lib.hid (blk_below HG71.out hb2)
  clear hb2 HHV HG41 HG71 HLQ1
  cases r2 with
  | true =>
    go_wp2
    go_ret
    exact ⟨rfl, HB2.out⟩
  | false =>
  have HSW := Lib.hid (show Hv.serW l ≤ 2048 by have := HHW.out rfl; rw [Hv.stepsW_cons] at this; simp only [List.length_singleton] at this; omega)
  clear HHW
  have y0 : w2.cell? ⟨g4, 0, none⟩ = some (.int .i64 V) := (blk_cell HG42.out 0).trans rfl
  have y1 : w2.cell? ⟨g4, 1, none⟩ = some (.slice An nodes.length cn) := (blk_cell HG42.out 1).trans rfl
  have y2 : w2.cell? ⟨g4, 2, none⟩ = some (.slice As shards.length cs) := (blk_cell HG42.out 2).trans rfl
  have n0 : w2.cell? ⟨g7, 0, none⟩ = some (.int .i64 need.f0) := (blk_cell HG72.out 0).trans rfl
  have n1 : w2.cell? ⟨g7, 1, none⟩ = some (.int .i64 need.f1) := (blk_cell HG72.out 1).trans rfl
  go_wp2_with fail
  with_reducible refine (HN.out w2 (HP.out.below HB2.out)).1.mono ?_
  rintro e w3 ⟨rfl, hb3⟩
  have HB3 := Lib.hid (below_then HB2.out HB2.out.size hb3)
  have HG43 := Lib.hid (blk_below HG42.out hb3)
  have HG73 := Lib.hid (blk_below HG72.out hb3)
  clear hb3 y0 y1 y2 n0 n1
  have y0 : w3.cell? ⟨g4, 0, none⟩ = some (.int .i64 V) := (blk_cell HG43.out 0).trans rfl
  have y1 : w3.cell? ⟨g4, 1, none⟩ = some (.slice An nodes.length cn) := (blk_cell HG43.out 1).trans rfl
  have y2 : w3.cell? ⟨g4, 2, none⟩ = some (.slice As shards.length cs) := (blk_cell HG43.out 2).trans rfl
  have n0 : w3.cell? ⟨g7, 0, none⟩ = some (.int .i64 need.f0) := (blk_cell HG73.out 0).trans rfl
  have n1 : w3.cell? ⟨g7, 1, none⟩ = some (.int .i64 need.f1) := (blk_cell HG73.out 1).trans rfl
  go_wp2_with fail
  with_reducible refine (HN.out w3 (HP.out.below HB3.out)).2.mono ?_
  rintro e w4 ⟨rfl, hb4⟩
  have HB4 := Lib.hid (below_then HB3.out HB3.out.size hb4)
  clear hb4 y0 y1 y2 n0 n1
  go_wp2
  go_ret
  exact ⟨by simp, HB4.out⟩
set_option maxHeartbeats 4000000 in
set_option maxRecDepth 100000 in
theorem never_avail (w : World) (V : Int) (An : Option Addr) (cn : Nat) (nodes : List Int) (As : Option Addr) (cs : Nat) (shards : List (List Ow)) (hP : Pl.PlAt w An cn nodes As cs shards) (sh n : Int) (need : R) (A : Option Addr) (c : Nat) (l : List Hv.Ser) (hl : Kd.C k71 w A l.length l) (hlc : l.length ≤ c) (hids : ∀ x ∈ l, x.f0.size ≤ maxLen) (hc : Pl.checkP V nodes shards = 0) (ho : Pl.ownsP shards sh n = true) (HSS : (Pl.findP shards sh n).1.f1 = 2) :
    Calls Try.prog 4 #[.agg #[.int .i64 V, .slice An nodes.length cn, .slice As shards.length cs], .int .i64 sh, .int .i64 n, .agg #[.int .i64 need.f0, .int .i64 need.f1], .slice A l.length c] w fun e w' => e = .returned (.bool true) ∧ Below w.heap.size w w' := by
  obtain ⟨⟨o, is⟩, hfe⟩ : ∃ q : Ow × Bool, Pl.findP shards sh n = q := ⟨_, rfl⟩
  have ho2 := ho
  unfold Pl.ownsP at ho2
  rw [hfe, Bool.and_eq_true] at ho2
  obtain ⟨his, hno⟩ := ho2
  dsimp only at his hno
  subst his
  obtain ⟨h0', h1, hlm, hol, hon⟩ := Pl.find_mem (shards := shards) (sh := sh) (n := n) (by rw [hfe])
  rw [hfe] at hol hon HSS
  dsimp only at hol hon HSS
  obtain ⟨ll, hll⟩ : ∃ ll, rd_L4 shards sh = ll := ⟨_, rfl⟩
  rw [hll] at hlm hol
  have hrf := Pl.check_right hc hlm
  have hlen := hrf.len
  have HWF := Lib.hid (fun lf (hlf : lf.length ≤ 1000000) pm => wf_nv hP hlm hol hlen n need lf hlf pm)
  have HC := Lib.hid hc
  have HO := Lib.hid ho
  have HLL := Lib.hid hll
  have HFE := Lib.hid hfe
  have HSX := Lib.hid HSS
  clear hc ho hfe hll hlm hrf hol hon hlen HSS
  have HP := Lib.hid hP
  have HL := Lib.hid hl
  have HLC := Lib.hid hlc
  have HIDS := Lib.hid hids
  clear hP hl hlc hids
  go_enter Try.func4, Try.ntmps4
  go_wp2_with (first
    | ((with_reducible refine gate_dst (N := 5) rfl ?_); refine box_event rfl (N := 5) rfl (cs := #[.int .i64 V, .slice An nodes.length cn, .slice As shards.length cs]) (t := 25) ?hr ?_; (case hr => first | (go_simp; done) | (go_simp; rfl)); intro g4 hg4 X hbox hbX; have HX := Lib.hid (And.intro hg4 (And.intro hbox hbX)); clear hg4 hbox hbX)
    | ((with_reducible refine gate_dst (N := 8) rfl ?_); refine box_event rfl (N := 8) rfl (cs := #[.int .i64 need.f0, .int .i64 need.f1]) (t := 29) ?hr ?_; (case hr => first | (go_simp; done) | (go_simp; rfl)); intro g7 hg7 Y hboy hbY; have HY := Lib.hid (And.intro hg7 (And.intro hboy hbY)); have HG4 := Lib.hid (blk_below HX.out.2.1 hbY); have HG7 := Lib.hid hboy; have y0 : Y.cell? ⟨g4, 0, none⟩ = some (.int .i64 V) := (blk_cell HG4.out 0).trans rfl; have y1 : Y.cell? ⟨g4, 1, none⟩ = some (.slice An nodes.length cn) := (blk_cell HG4.out 1).trans rfl; have y2 : Y.cell? ⟨g4, 2, none⟩ = some (.slice As shards.length cs) := (blk_cell HG4.out 2).trans rfl; have y3 : g4 < Y.heap.size := blk_lt HG4.out; have n3 : g7 < Y.heap.size := blk_lt HG7.out; clear hg7 hboy hbY))
  have HBY := Lib.hid (below_then HX.out.2.2 HX.out.2.2.size HY.out.2.2)
  have HAL := Lib.hid (below_alloc (Below.refl Y.heap.size Y) (.cells #[.int .i64 0, .int .i64 0, .int .i64 0, .int .i64 0, .int .i64 0, .slice A l.length c] 50))
  have HLQ := Lib.hid (lit_step Y A c l (Kd.C_below HL.out HBY.out) HLC.out)
  obtain ⟨gz, hgz⟩ : ∃ gz, gz = Y.heap.size := ⟨_, rfl⟩
  obtain ⟨Z, hZ⟩ : ∃ Z : World, Z = Y.alloc (.cells #[.int .i64 0, .int .i64 0, .int .i64 0, .int .i64 0, .int .i64 0, .slice A l.length c] 50) := ⟨_, rfl⟩
  rw [← hZ] at HAL HLQ
  rw [← hgz] at HLQ
  rw [← hZ, ← hgz]
  have HBZ := Lib.hid (below_then HBY.out HBY.out.size HAL.out)
  have HG4Z := Lib.hid (blk_below HG4.out HAL.out)
  have HG7Z := Lib.hid (blk_below HG7.out HAL.out)
  clear hZ hgz HAL y0 y1 y2 y3 n3 HG4 HG7 HX HY HBY
  obtain ⟨r, hr⟩ := large_any Z V An cn nodes As cs shards (HP.out.below HBZ.out)
  have HLG := Lib.hid hr
  clear hr
  with_reducible refine HLG.out.mono ?_
  rintro e w1 ⟨rfl, hb1⟩
  have HB1 := Lib.hid (below_then HBZ.out HBZ.out.size hb1)
  have HLQ1 := Lib.hid (Kd.C_below HLQ.out hb1)
  have HG41 := Lib.hid (blk_below HG4Z.out hb1)
  have HG71 := Lib.hid (blk_below HG7Z.out hb1)
  clear hb1 HLG HG4Z HG7Z HLQ
  cases r with
  | true =>
    go_wp2
    go_ret
    exact ⟨rfl, HB1.out⟩
  | false =>
  obtain ⟨r2, hr2, hr3⟩ := Hv.heavy_any w1 (some ⟨gz, 0, none⟩) 1 [⟨0, 0, 0, ⟨0, 0⟩, l⟩] HLQ1.out (Nat.le_refl _) (by simp) (by intro s hs; rw [List.mem_singleton.1 hs]; exact HL.out.2.1)
  have HHV := Lib.hid (show Calls Try.prog 13 #[.slice (some ⟨gz, 0, none⟩) 1 1] w1 (fun e w' => e = .returned (.bool r2) ∧ Below w1.heap.size w1 w') from hr3)
  have HHW := Lib.hid hr2
  clear hr2 hr3
  go_wp2_with fail
  with_reducible refine HHV.out.mono ?_
  rintro e w2 ⟨rfl, hb2⟩
  have HB2 := Lib.hid (below_then HB1.out HB1.out.size hb2)
  have HG42 := Lib.hid (blk_below HG41.out hb2)
  have HG72 := Lib.hid (blk_below HG71.out hb2)
  clear hb2 HHV HG41 HG71 HLQ1
  cases r2 with
  | true =>
    go_wp2
    go_ret
    exact ⟨rfl, HB2.out⟩
  | false =>
  have HSW := Lib.hid (show Hv.serW l ≤ 2048 by have := HHW.out rfl; rw [Hv.stepsW_cons] at this; simp only [List.length_singleton] at this; omega)
  clear HHW
  have y0 : w2.cell? ⟨g4, 0, none⟩ = some (.int .i64 V) := (blk_cell HG42.out 0).trans rfl
  have y1 : w2.cell? ⟨g4, 1, none⟩ = some (.slice An nodes.length cn) := (blk_cell HG42.out 1).trans rfl
  have y2 : w2.cell? ⟨g4, 2, none⟩ = some (.slice As shards.length cs) := (blk_cell HG42.out 2).trans rfl
  have n0 : w2.cell? ⟨g7, 0, none⟩ = some (.int .i64 need.f0) := (blk_cell HG72.out 0).trans rfl
  have n1 : w2.cell? ⟨g7, 1, none⟩ = some (.int .i64 need.f1) := (blk_cell HG72.out 1).trans rfl
  go_wp2_with fail
  have HNW := Lib.hid (new_ok w2 V An cn nodes As cs shards (HP.out.below HB2.out) sh n need HC.out HO.out)
  rw [HFE.out, HLL.out] at HNW
  with_reducible refine HNW.out.mono ?_
  rintro e w3 ⟨g, gm, gp, vO, vL, rfl, hIs, hb3⟩
  have HIS3 := Lib.hid (show Is w3 w2.heap.size g gm gp vO vL (nv o (othersL ll n) need (normR [need]) []) from hIs)
  have HB3 := Lib.hid hb3
  have HG43 := Lib.hid (blk_below HG42.out hb3)
  have HG73 := Lib.hid (blk_below HG72.out hb3)
  clear hIs hb3 HNW y0 y1 y2 n0 n1
  have y0 : w3.cell? ⟨g4, 0, none⟩ = some (.int .i64 V) := (blk_cell HG43.out 0).trans rfl
  have y1 : w3.cell? ⟨g4, 1, none⟩ = some (.slice An nodes.length cn) := (blk_cell HG43.out 1).trans rfl
  have y2 : w3.cell? ⟨g4, 2, none⟩ = some (.slice As shards.length cs) := (blk_cell HG43.out 2).trans rfl
  have n0 : w3.cell? ⟨g7, 0, none⟩ = some (.int .i64 need.f0) := (blk_cell HG73.out 0).trans rfl
  have n1 : w3.cell? ⟨g7, 1, none⟩ = some (.int .i64 need.f1) := (blk_cell HG73.out 1).trans rfl
  go_wp2_with fail
  have HRW := Lib.hid (rnew_ok w3 V An cn nodes As cs shards (HP.out.below (below_then HB2.out HB2.out.size HB3.out)) sh n need HC.out HO.out)
  with_reducible refine HRW.out.mono ?_
  rintro e w4 ⟨gr, vR, rfl, _, hb4⟩
  have HIS4 := Lib.hid (HIS3.out.below hb4)
  have HB4 := Lib.hid (below_then HB3.out HB3.out.size hb4)
  have HG44 := Lib.hid (blk_below HG43.out hb4)
  have HG74 := Lib.hid (blk_below HG73.out hb4)
  clear hb4 HRW y0 y1 y2 n0 n1 HIS3
  have y0 : w4.cell? ⟨g4, 0, none⟩ = some (.int .i64 V) := (blk_cell HG44.out 0).trans rfl
  have y1 : w4.cell? ⟨g4, 1, none⟩ = some (.slice An nodes.length cn) := (blk_cell HG44.out 1).trans rfl
  have y2 : w4.cell? ⟨g4, 2, none⟩ = some (.slice As shards.length cs) := (blk_cell HG44.out 2).trans rfl
  have n0 : w4.cell? ⟨g7, 0, none⟩ = some (.int .i64 need.f0) := (blk_cell HG74.out 0).trans rfl
  have n1 : w4.cell? ⟨g7, 1, none⟩ = some (.int .i64 need.f1) := (blk_cell HG74.out 1).trans rfl
  go_wp2_with fail
  have HFD := Lib.hid (Pl.rfind_calls w4 V An cn nodes As cs shards (HP.out.below (below_then HB2.out HB2.out.size HB4.out)) sh n)
  rw [HFE.out] at HFD
  with_reducible refine HFD.out.mono ?_
  rintro e w5 ⟨rfl, hb5⟩
  unfold Pl.aggO
  have HIS5 := Lib.hid (HIS4.out.below hb5)
  have HB5 := Lib.hid (below_then HB4.out HB4.out.size hb5)
  have HG75 := Lib.hid (blk_below HG74.out hb5)
  clear hb5 HFD y0 y1 y2 n0 n1 HIS4
  have HAZ := Lib.hid (below_alloc (Below.refl w5.heap.size w5) (.cells #[.int .i64 o.f0, .int .i64 o.f1, .int .i64 o.f2] 38))
  have HAB := Lib.hid (blk_new w5 (.cells #[.int .i64 o.f0, .int .i64 o.f1, .int .i64 o.f2] 38))
  have n0 : w5.cell? ⟨g7, 0, none⟩ = some (.int .i64 need.f0) := (blk_cell HG75.out 0).trans rfl
  have n1 : w5.cell? ⟨g7, 1, none⟩ = some (.int .i64 need.f1) := (blk_cell HG75.out 1).trans rfl
  have n3 : g7 < w5.heap.size := blk_lt HG75.out
  go_wp2_with fail
  obtain ⟨gb, hgb⟩ : ∃ gb, gb = w5.heap.size := ⟨_, rfl⟩
  obtain ⟨Z2, hZ2⟩ : ∃ Z2 : World, Z2 = w5.alloc (.cells #[.int .i64 o.f0, .int .i64 o.f1, .int .i64 o.f2] 38) := ⟨_, rfl⟩
  rw [← hZ2] at HAZ HAB
  rw [← hgb] at HAB
  rw [← hZ2, ← hgb]
  have HISZ := Lib.hid (HIS5.out.below HAZ.out)
  have HBZ2 := Lib.hid (below_then HB5.out HB5.out.size HAZ.out)
  have HG7Y := Lib.hid (blk_below HG75.out HAZ.out)
  clear hZ2 hgb HAZ HIS5 n0 n1 n3 HG74 HG75
  have HLO := Lib.hid (Hm.local_calls w2 Z2 g gm gp vO vL _ [] 0 HISZ.out (Hm.HM.nil HISZ.out.pts) HBZ2.out need A c l (Kd.C_below HL.out HB2.out) HIDS.out (by have := HSW.out; omega) (norm_short need))
  have HNB := Lib.hid (show gb ≠ gp from fun e => HISZ.out.pts.noCells HAB.out e.symm)
  have HN7 := Lib.hid (show g7 ≠ gp from fun e => HISZ.out.pts.noCells HG7Y.out e.symm)
  with_reducible refine HLO.out.mono ?_
  rintro e w6 ⟨rfl, h6, vL6, hM6, _, hI6, hB6, hK6⟩
  have HI6 := Lib.hid (show Is w6 w2.heap.size g gm gp vO vL6 (nv o (othersL ll n) need (Hm.leftL (nv o (othersL ll n) need (normR [need]) []) need) (Hm.pmOf h6)) from hI6)
  have HB6 := Lib.hid (below_then HB2.out HB2.out.size hB6)
  have HGB6 := Lib.hid (hK6 gb _ _ HAB.out HNB.out (by decide) (by decide))
  have HG76 := Lib.hid (hK6 g7 _ _ HG7Y.out HN7.out (by decide) (by decide))
  clear hM6 hI6 hB6 hK6 HLO HISZ HBZ2 HAB HG7Y
  have f1 : w6.cell? ⟨gb, 1, none⟩ = some (.int .i64 o.f1) := (blk_cell HGB6.out 1).trans rfl
  have HLF := Lib.hid (show Hm.leftL (nv o (othersL ll n) need (normR [need]) []) need = [] by unfold Hm.leftL nv; rw [if_neg (by rw [HSX.out]; decide)]; exact sub_self need)
  rw [HLF.out] at HI6
  have d2 : (o.f1 == 2) = true := by rw [HSX.out]; rfl
  have HWB := Lib.hid (HWF.out [] (by simp) (Hm.pmOf h6))
  have HLE := Lib.hid (show leftOf (nv o (othersL ll n) need [] (Hm.pmOf h6)) = [] by unfold leftOf; split <;> rfl)
  have HWE := Lib.hid (show wantsOf (nv o (othersL ll n) need [] (Hm.pmOf h6)) = [] by unfold wantsOf; exact if_pos (Or.inl HLE.out))
  go_wp2_with fail
  have HDN := Lib.hid (done_calls w6 w2.heap.size g gm gp vO vL6 _ HI6.out HWB.out)
  rw [HLE.out] at HDN
  with_reducible refine HDN.out.mono ?_
  rintro e w7 ⟨rfl, hb7⟩
  have HI7 := Lib.hid (HI6.out.below hb7)
  have HB7 := Lib.hid (below_then HB6.out HB6.out.size hb7)
  have HGB7 := Lib.hid (blk_below HGB6.out hb7)
  clear hb7 HDN f1 HI6
  go_wp2_with fail
  have HWN := Lib.hid (wants_calls w7 w2.heap.size g gm gp vO vL6 _ HI7.out HWB.out)
  rw [HWE.out] at HWN
  with_reducible refine HWN.out.mono ?_
  rintro e w8 ⟨v8, rfl, hR8, hb8⟩
  obtain ⟨A8, c8, rfl⟩ := Kd.R_slice hR8
  have HI8 := Lib.hid (HI7.out.below hb8)
  have HB8 := Lib.hid (below_then HB7.out HB7.out.size hb8)
  have HGB8 := Lib.hid (blk_below HGB7.out hb8)
  have f0 : w8.cell? ⟨gb, 0, none⟩ = some (.int .i64 o.f0) := (blk_cell HGB8.out 0).trans rfl
  clear hb8 hR8 HWN HI7
  go_wp2_with fail
  have HGN := Lib.hid (got_not w8 g o.f1 o.f0 (.slice A l.length c) ((blk_cell HI8.out.blk 1).trans rfl) (by rw [HSX.out]; decide))
  with_reducible refine HGN.out.mono ?_
  rintro e w9 ⟨rfl, hb9⟩
  have HB9 := Lib.hid (below_then HB8.out HB8.out.size hb9)
  clear hb9 HGN
  go_wp2
  go_ret
  exact ⟨by first | rfl | simp, HB9.out⟩
set_option maxHeartbeats 4000000 in
set_option maxRecDepth 100000 in
theorem never_init1 (w : World) (V : Int) (An : Option Addr) (cn : Nat) (nodes : List Int) (As : Option Addr) (cs : Nat) (shards : List (List Ow)) (hP : Pl.PlAt w An cn nodes As cs shards) (sh n : Int) (need : R) (A : Option Addr) (c : Nat) (l : List Hv.Ser) (hl : Kd.C k71 w A l.length l) (hlc : l.length ≤ c) (hids : ∀ x ∈ l, x.f0.size ≤ maxLen) (hc : Pl.checkP V nodes shards = 0) (ho : Pl.ownsP shards sh n = true) (HSS : (Pl.findP shards sh n).1.f1 = 1) (hle : need.f1 ≤ need.f0) :
    Calls Try.prog 4 #[.agg #[.int .i64 V, .slice An nodes.length cn, .slice As shards.length cs], .int .i64 sh, .int .i64 n, .agg #[.int .i64 need.f0, .int .i64 need.f1], .slice A l.length c] w fun e w' => e = .returned (.bool true) ∧ Below w.heap.size w w' := by
  have HLX := Lib.hid hle
  clear hle
  obtain ⟨⟨o, is⟩, hfe⟩ : ∃ q : Ow × Bool, Pl.findP shards sh n = q := ⟨_, rfl⟩
  have ho2 := ho
  unfold Pl.ownsP at ho2
  rw [hfe, Bool.and_eq_true] at ho2
  obtain ⟨his, hno⟩ := ho2
  dsimp only at his hno
  subst his
  obtain ⟨h0', h1, hlm, hol, hon⟩ := Pl.find_mem (shards := shards) (sh := sh) (n := n) (by rw [hfe])
  rw [hfe] at hol hon HSS
  dsimp only at hol hon HSS
  obtain ⟨ll, hll⟩ : ∃ ll, rd_L4 shards sh = ll := ⟨_, rfl⟩
  rw [hll] at hlm hol
  have hrf := Pl.check_right hc hlm
  have hlen := hrf.len
  have HWF := Lib.hid (fun lf (hlf : lf.length ≤ 1000000) pm => wf_nv hP hlm hol hlen n need lf hlf pm)
  have HC := Lib.hid hc
  have HO := Lib.hid ho
  have HLL := Lib.hid hll
  have HFE := Lib.hid hfe
  have HSX := Lib.hid HSS
  clear hc ho hfe hll hlm hrf hol hon hlen HSS
  have HP := Lib.hid hP
  have HL := Lib.hid hl
  have HLC := Lib.hid hlc
  have HIDS := Lib.hid hids
  clear hP hl hlc hids
  go_enter Try.func4, Try.ntmps4
  go_wp2_with (first
    | ((with_reducible refine gate_dst (N := 5) rfl ?_); refine box_event rfl (N := 5) rfl (cs := #[.int .i64 V, .slice An nodes.length cn, .slice As shards.length cs]) (t := 25) ?hr ?_; (case hr => first | (go_simp; done) | (go_simp; rfl)); intro g4 hg4 X hbox hbX; have HX := Lib.hid (And.intro hg4 (And.intro hbox hbX)); clear hg4 hbox hbX)
    | ((with_reducible refine gate_dst (N := 8) rfl ?_); refine box_event rfl (N := 8) rfl (cs := #[.int .i64 need.f0, .int .i64 need.f1]) (t := 29) ?hr ?_; (case hr => first | (go_simp; done) | (go_simp; rfl)); intro g7 hg7 Y hboy hbY; have HY := Lib.hid (And.intro hg7 (And.intro hboy hbY)); have HG4 := Lib.hid (blk_below HX.out.2.1 hbY); have HG7 := Lib.hid hboy; have y0 : Y.cell? ⟨g4, 0, none⟩ = some (.int .i64 V) := (blk_cell HG4.out 0).trans rfl; have y1 : Y.cell? ⟨g4, 1, none⟩ = some (.slice An nodes.length cn) := (blk_cell HG4.out 1).trans rfl; have y2 : Y.cell? ⟨g4, 2, none⟩ = some (.slice As shards.length cs) := (blk_cell HG4.out 2).trans rfl; have y3 : g4 < Y.heap.size := blk_lt HG4.out; have n3 : g7 < Y.heap.size := blk_lt HG7.out; clear hg7 hboy hbY))
  have HBY := Lib.hid (below_then HX.out.2.2 HX.out.2.2.size HY.out.2.2)
  have HAL := Lib.hid (below_alloc (Below.refl Y.heap.size Y) (.cells #[.int .i64 0, .int .i64 0, .int .i64 0, .int .i64 0, .int .i64 0, .slice A l.length c] 50))
  have HLQ := Lib.hid (lit_step Y A c l (Kd.C_below HL.out HBY.out) HLC.out)
  obtain ⟨gz, hgz⟩ : ∃ gz, gz = Y.heap.size := ⟨_, rfl⟩
  obtain ⟨Z, hZ⟩ : ∃ Z : World, Z = Y.alloc (.cells #[.int .i64 0, .int .i64 0, .int .i64 0, .int .i64 0, .int .i64 0, .slice A l.length c] 50) := ⟨_, rfl⟩
  rw [← hZ] at HAL HLQ
  rw [← hgz] at HLQ
  rw [← hZ, ← hgz]
  have HBZ := Lib.hid (below_then HBY.out HBY.out.size HAL.out)
  have HG4Z := Lib.hid (blk_below HG4.out HAL.out)
  have HG7Z := Lib.hid (blk_below HG7.out HAL.out)
  clear hZ hgz HAL y0 y1 y2 y3 n3 HG4 HG7 HX HY HBY
  obtain ⟨r, hr⟩ := large_any Z V An cn nodes As cs shards (HP.out.below HBZ.out)
  have HLG := Lib.hid hr
  clear hr
  with_reducible refine HLG.out.mono ?_
  rintro e w1 ⟨rfl, hb1⟩
  have HB1 := Lib.hid (below_then HBZ.out HBZ.out.size hb1)
  have HLQ1 := Lib.hid (Kd.C_below HLQ.out hb1)
  have HG41 := Lib.hid (blk_below HG4Z.out hb1)
  have HG71 := Lib.hid (blk_below HG7Z.out hb1)
  clear hb1 HLG HG4Z HG7Z HLQ
  cases r with
  | true =>
    go_wp2
    go_ret
    exact ⟨rfl, HB1.out⟩
  | false =>
  obtain ⟨r2, hr2, hr3⟩ := Hv.heavy_any w1 (some ⟨gz, 0, none⟩) 1 [⟨0, 0, 0, ⟨0, 0⟩, l⟩] HLQ1.out (Nat.le_refl _) (by simp) (by intro s hs; rw [List.mem_singleton.1 hs]; exact HL.out.2.1)
  have HHV := Lib.hid (show Calls Try.prog 13 #[.slice (some ⟨gz, 0, none⟩) 1 1] w1 (fun e w' => e = .returned (.bool r2) ∧ Below w1.heap.size w1 w') from hr3)
  have HHW := Lib.hid hr2
  clear hr2 hr3
  go_wp2_with fail
  with_reducible refine HHV.out.mono ?_
  rintro e w2 ⟨rfl, hb2⟩
  have HB2 := Lib.hid (below_then HB1.out HB1.out.size hb2)
  have HG42 := Lib.hid (blk_below HG41.out hb2)
  have HG72 := Lib.hid (blk_below HG71.out hb2)
  clear hb2 HHV HG41 HG71 HLQ1
  cases r2 with
  | true =>
    go_wp2
    go_ret
    exact ⟨rfl, HB2.out⟩
  | false =>
  have HSW := Lib.hid (show Hv.serW l ≤ 2048 by have := HHW.out rfl; rw [Hv.stepsW_cons] at this; simp only [List.length_singleton] at this; omega)
  clear HHW
  have y0 : w2.cell? ⟨g4, 0, none⟩ = some (.int .i64 V) := (blk_cell HG42.out 0).trans rfl
  have y1 : w2.cell? ⟨g4, 1, none⟩ = some (.slice An nodes.length cn) := (blk_cell HG42.out 1).trans rfl
  have y2 : w2.cell? ⟨g4, 2, none⟩ = some (.slice As shards.length cs) := (blk_cell HG42.out 2).trans rfl
  have n0 : w2.cell? ⟨g7, 0, none⟩ = some (.int .i64 need.f0) := (blk_cell HG72.out 0).trans rfl
  have n1 : w2.cell? ⟨g7, 1, none⟩ = some (.int .i64 need.f1) := (blk_cell HG72.out 1).trans rfl
  go_wp2_with fail
  have HNW := Lib.hid (new_ok w2 V An cn nodes As cs shards (HP.out.below HB2.out) sh n need HC.out HO.out)
  rw [HFE.out, HLL.out] at HNW
  with_reducible refine HNW.out.mono ?_
  rintro e w3 ⟨g, gm, gp, vO, vL, rfl, hIs, hb3⟩
  have HIS3 := Lib.hid (show Is w3 w2.heap.size g gm gp vO vL (nv o (othersL ll n) need (normR [need]) []) from hIs)
  have HB3 := Lib.hid hb3
  have HG43 := Lib.hid (blk_below HG42.out hb3)
  have HG73 := Lib.hid (blk_below HG72.out hb3)
  clear hIs hb3 HNW y0 y1 y2 n0 n1
  have y0 : w3.cell? ⟨g4, 0, none⟩ = some (.int .i64 V) := (blk_cell HG43.out 0).trans rfl
  have y1 : w3.cell? ⟨g4, 1, none⟩ = some (.slice An nodes.length cn) := (blk_cell HG43.out 1).trans rfl
  have y2 : w3.cell? ⟨g4, 2, none⟩ = some (.slice As shards.length cs) := (blk_cell HG43.out 2).trans rfl
  have n0 : w3.cell? ⟨g7, 0, none⟩ = some (.int .i64 need.f0) := (blk_cell HG73.out 0).trans rfl
  have n1 : w3.cell? ⟨g7, 1, none⟩ = some (.int .i64 need.f1) := (blk_cell HG73.out 1).trans rfl
  go_wp2_with fail
  have HRW := Lib.hid (rnew_ok w3 V An cn nodes As cs shards (HP.out.below (below_then HB2.out HB2.out.size HB3.out)) sh n need HC.out HO.out)
  with_reducible refine HRW.out.mono ?_
  rintro e w4 ⟨gr, vR, rfl, _, hb4⟩
  have HIS4 := Lib.hid (HIS3.out.below hb4)
  have HB4 := Lib.hid (below_then HB3.out HB3.out.size hb4)
  have HG44 := Lib.hid (blk_below HG43.out hb4)
  have HG74 := Lib.hid (blk_below HG73.out hb4)
  clear hb4 HRW y0 y1 y2 n0 n1 HIS3
  have y0 : w4.cell? ⟨g4, 0, none⟩ = some (.int .i64 V) := (blk_cell HG44.out 0).trans rfl
  have y1 : w4.cell? ⟨g4, 1, none⟩ = some (.slice An nodes.length cn) := (blk_cell HG44.out 1).trans rfl
  have y2 : w4.cell? ⟨g4, 2, none⟩ = some (.slice As shards.length cs) := (blk_cell HG44.out 2).trans rfl
  have n0 : w4.cell? ⟨g7, 0, none⟩ = some (.int .i64 need.f0) := (blk_cell HG74.out 0).trans rfl
  have n1 : w4.cell? ⟨g7, 1, none⟩ = some (.int .i64 need.f1) := (blk_cell HG74.out 1).trans rfl
  go_wp2_with fail
  have HFD := Lib.hid (Pl.rfind_calls w4 V An cn nodes As cs shards (HP.out.below (below_then HB2.out HB2.out.size HB4.out)) sh n)
  rw [HFE.out] at HFD
  with_reducible refine HFD.out.mono ?_
  rintro e w5 ⟨rfl, hb5⟩
  unfold Pl.aggO
  have HIS5 := Lib.hid (HIS4.out.below hb5)
  have HB5 := Lib.hid (below_then HB4.out HB4.out.size hb5)
  have HG75 := Lib.hid (blk_below HG74.out hb5)
  clear hb5 HFD y0 y1 y2 n0 n1 HIS4
  have HAZ := Lib.hid (below_alloc (Below.refl w5.heap.size w5) (.cells #[.int .i64 o.f0, .int .i64 o.f1, .int .i64 o.f2] 38))
  have HAB := Lib.hid (blk_new w5 (.cells #[.int .i64 o.f0, .int .i64 o.f1, .int .i64 o.f2] 38))
  have n0 : w5.cell? ⟨g7, 0, none⟩ = some (.int .i64 need.f0) := (blk_cell HG75.out 0).trans rfl
  have n1 : w5.cell? ⟨g7, 1, none⟩ = some (.int .i64 need.f1) := (blk_cell HG75.out 1).trans rfl
  have n3 : g7 < w5.heap.size := blk_lt HG75.out
  go_wp2_with fail
  obtain ⟨gb, hgb⟩ : ∃ gb, gb = w5.heap.size := ⟨_, rfl⟩
  obtain ⟨Z2, hZ2⟩ : ∃ Z2 : World, Z2 = w5.alloc (.cells #[.int .i64 o.f0, .int .i64 o.f1, .int .i64 o.f2] 38) := ⟨_, rfl⟩
  rw [← hZ2] at HAZ HAB
  rw [← hgb] at HAB
  rw [← hZ2, ← hgb]
  have HISZ := Lib.hid (HIS5.out.below HAZ.out)
  have HBZ2 := Lib.hid (below_then HB5.out HB5.out.size HAZ.out)
  have HG7Y := Lib.hid (blk_below HG75.out HAZ.out)
  clear hZ2 hgb HAZ HIS5 n0 n1 n3 HG74 HG75
  have HLO := Lib.hid (Hm.local_calls w2 Z2 g gm gp vO vL _ [] 0 HISZ.out (Hm.HM.nil HISZ.out.pts) HBZ2.out need A c l (Kd.C_below HL.out HB2.out) HIDS.out (by have := HSW.out; omega) (norm_short need))
  have HNB := Lib.hid (show gb ≠ gp from fun e => HISZ.out.pts.noCells HAB.out e.symm)
  have HN7 := Lib.hid (show g7 ≠ gp from fun e => HISZ.out.pts.noCells HG7Y.out e.symm)
  with_reducible refine HLO.out.mono ?_
  rintro e w6 ⟨rfl, h6, vL6, hM6, _, hI6, hB6, hK6⟩
  have HI6 := Lib.hid (show Is w6 w2.heap.size g gm gp vO vL6 (nv o (othersL ll n) need (Hm.leftL (nv o (othersL ll n) need (normR [need]) []) need) (Hm.pmOf h6)) from hI6)
  have HB6 := Lib.hid (below_then HB2.out HB2.out.size hB6)
  have HGB6 := Lib.hid (hK6 gb _ _ HAB.out HNB.out (by decide) (by decide))
  have HG76 := Lib.hid (hK6 g7 _ _ HG7Y.out HN7.out (by decide) (by decide))
  clear hM6 hI6 hB6 hK6 HLO HISZ HBZ2 HAB HG7Y
  have f1 : w6.cell? ⟨gb, 1, none⟩ = some (.int .i64 o.f1) := (blk_cell HGB6.out 1).trans rfl
  have HLF := Lib.hid (show Hm.leftL (nv o (othersL ll n) need (normR [need]) []) need = normR [need] by unfold Hm.leftL nv; rw [if_pos HSX.out])
  rw [HLF.out] at HI6
  have d2 : (o.f1 == 2) = false := by rw [HSX.out]; rfl
  have HWB := Lib.hid (HWF.out (normR [need]) (by have := norm_short need; omega) (Hm.pmOf h6))
  have HLE := Lib.hid (show leftOf (nv o (othersL ll n) need (normR [need]) (Hm.pmOf h6)) = normR [need] by unfold leftOf; exact if_neg (fun h => by have := h.2; rw [enough_nil _ rfl] at this; cases this))
  have HDD := Lib.hid (show decide (leftOf (nv o (othersL ll n) need (normR [need]) (Hm.pmOf h6)) = []) = true by rw [HLE.out, norm_one]; rw [if_pos HLX.out]; rfl)
  go_wp2_with fail
  have HWN := Lib.hid (wants_calls w6 w2.heap.size g gm gp vO vL6 _ HI6.out HWB.out)
  with_reducible refine HWN.out.mono ?_
  rintro e w7 ⟨v7, rfl, hR7, hb7⟩
  have HI7 := Lib.hid (HI6.out.below hb7)
  have HB7 := Lib.hid (below_then HB6.out HB6.out.size hb7)
  have HDN := Lib.hid (fun W (hW : Below w7.heap.size w7 W) => done_calls W w2.heap.size g gm gp vO vL6 _ (HI7.out.below hW) HWB.out)
  rw [HDD.out] at HDN
  have m0 : w7.cell? ⟨g7, 0, none⟩ = some (.int .i64 need.f0) := (blk_cell (blk_below HG76.out hb7) 0).trans rfl
  have m1 : w7.cell? ⟨g7, 1, none⟩ = some (.int .i64 need.f1) := (blk_cell (blk_below HG76.out hb7) 1).trans rfl
  have m2 : w7.cell? ⟨gb, 2, none⟩ = some (.int .i64 o.f2) := (blk_cell (blk_below HGB6.out hb7) 2).trans rfl
  obtain ⟨A7, n7, c7, rfl⟩ : ∃ A n c, v7 = .slice A n c := by obtain ⟨A, c, e⟩ := Kd.R_slice hR7; exact ⟨A, _, c, e⟩
  have dl : decide (need.f1 ≤ need.f0) = true := decide_eq_true HLX.out
  clear hb7 hR7 HWN HI6 f1 HLF HLE HDD d2
  go_wp2_with fail
  refine start_ (n := 26) (S := fun w' => w'.cell? ⟨g7, 0, none⟩ = some (.int .i64 need.f0) ∧ w'.cell? ⟨g7, 1, none⟩ = some (.int .i64 need.f1) ∧ w'.cell? ⟨gb, 2, none⟩ = some (.int .i64 o.f2)) (ds := []) #[false, false, false, false, false, false, false, false, false, false, false, false, false, false, false, false, false, false, false, false, false, false, false, false, false, false] (by kernel_rfl) rfl rfl ⟨m0, m1, m2⟩ (fun hHeld => ?_)
  refine with_tabW Nv_T.tab13 Nv_T.bits13 (fun HT_ HW_ => ?_)
  refine pure_ (i := 0) (N := some 86) (v := ?_) (a' := ?_) #[true, false, false, false, false, false, false, false, false, false, false, false, false, false, false, false, false, false, false, false, false, false, false, false, false, false] rfl rfl (any_of HT_.out (by kernel_rfl)) (fun _ _ _ h => h) (Or.inl ⟨by rfl, ?_⟩) ?_ ?_
  rotate_left
  · intro w'
    go_simp
    with_reducible rfl
  rotate_left
  · simp only [Act.put, List.setIfInBounds_toArray, List.set_cons_zero, List.set_cons_succ, i64_w, i32_w]
    rfl
  refine pure_ (i := 2) (N := some 88) (v := ?_) (a' := ?_) #[true, false, true, false, false, false, false, false, false, false, false, false, false, false, false, false, false, false, false, false, false, false, false, false, false, false] rfl rfl (any_of HT_.out (by kernel_rfl)) (fun _ _ _ h => h) (Or.inl ⟨by rfl, ?_⟩) ?_ ?_
  rotate_left
  · intro w'
    go_simp
    with_reducible rfl
  rotate_left
  · simp only [Act.put, List.setIfInBounds_toArray, List.set_cons_zero, List.set_cons_succ, i64_w, i32_w]
    rfl
  refine pure_ (i := 4) (N := some 90) (v := ?_) (a' := ?_) #[true, false, true, false, true, false, false, false, false, false, false, false, false, false, false, false, false, false, false, false, false, false, false, false, false, false] rfl rfl (any_of HT_.out (by kernel_rfl)) (fun _ _ _ h => h) (Or.inl ⟨by rfl, ?_⟩) ?_ ?_
  rotate_left
  · intro w'
    go_simp
    with_reducible rfl
  rotate_left
  · simp only [Act.put, List.setIfInBounds_toArray, List.set_cons_zero, List.set_cons_succ, i64_w, i32_w]
    rfl
  refine take_ (i := 3) (N := some 89) (v := ?_) (a' := ?_) #[true, false, true, true, true, false, false, false, false, false, false, false, false, false, false, false, false, false, false, false, false, false, false, false, false, false] rfl rfl (take_ofW HT_.out HW_.out (by kernel_rfl)) (fun _ _ _ h => h) (Or.inl ⟨by rfl, ?_⟩) hHeld ?_ ?_
  rotate_left
  · rintro w' ⟨s0, s1, s2⟩
    go_simp
    with_reducible rfl
  rotate_left
  · simp only [Act.put, List.setIfInBounds_toArray, List.set_cons_zero, List.set_cons_succ, i64_w, i32_w]
    rfl
  refine take_ (i := 5) (N := some 91) (v := ?_) (a' := ?_) #[true, false, true, true, true, true, false, false, false, false, false, false, false, false, false, false, false, false, false, false, false, false, false, false, false, false] rfl rfl (take_ofW HT_.out HW_.out (by kernel_rfl)) (fun _ _ _ h => h) (Or.inl ⟨by rfl, ?_⟩) hHeld ?_ ?_
  rotate_left
  · rintro w' ⟨s0, s1, s2⟩
    go_simp
    with_reducible rfl
  rotate_left
  · simp only [Act.put, List.setIfInBounds_toArray, List.set_cons_zero, List.set_cons_succ, i64_w, i32_w]
    rfl
  refine pure_ (i := 6) (N := some 92) (v := ?_) (a' := ?_) #[true, false, true, true, true, true, true, false, false, false, false, false, false, false, false, false, false, false, false, false, false, false, false, false, false, false] rfl rfl (any_of HT_.out (by kernel_rfl)) (fun _ _ _ h => h) (Or.inl ⟨by rfl, ?_⟩) ?_ ?_
  rotate_left
  · intro w'
    go_simp
    with_reducible rfl
  rotate_left
  · simp only [Act.put, List.setIfInBounds_toArray, List.set_cons_zero, List.set_cons_succ, i64_w, i32_w]
    rfl
  refine one_ (i := 1) (N := some 87) #[true, true, true, true, true, true, true, false, false, false, false, false, false, false, false, false, false, false, false, false, false, false, false, false, false, false] rfl rfl (one_of HT_.out (by kernel_rfl)) (by decide) (fun K hK => ?_)
  refine goes_ Try.func12 (by kernel_rfl) rfl #[.pointer (some ⟨g, 0, none⟩)] (by rfl) rfl rfl (by simp only [List.map_toArray, List.map_cons, List.map_nil]; rfl) ?_
  with_reducible refine ((HDN.out _ (below_drew (Below.refl _ _)))).mono ?_
  rintro e w8 ⟨rfl, hb8⟩
  refine ⟨_, rfl, ?_⟩
  have HB8 := Lib.hid (show Below w7.heap.size w7 w8 from below_then (below_drew (Below.refl _ _)) (Nat.le_refl _) hb8)
  clear hb8
  refine hK.out _ _ ⟨(pw_cell_below HB8.out m0), (pw_cell_below HB8.out m1), (pw_cell_below HB8.out m2)⟩ (fun hHeld => ?_)
  clear hK K
  refine norm_ (a' := ?_) ?_ ?_
  rotate_left
  · show Act.put _ (some 87) _ = _
    simp only [Act.put, List.setIfInBounds_toArray, List.set_cons_zero, List.set_cons_succ, i64_w, i32_w]
    rfl
  refine pure_ (i := 7) (N := some 93) (v := ?_) (a' := ?_) #[true, true, true, true, true, true, true, true, false, false, false, false, false, false, false, false, false, false, false, false, false, false, false, false, false, false] rfl rfl (any_of HT_.out (by kernel_rfl)) (fun _ _ _ h => h) (Or.inl ⟨by rfl, ?_⟩) ?_ ?_
  rotate_left
  · intro w'
    go_simp
    with_reducible rfl
  rotate_left
  · simp only [Act.put, List.setIfInBounds_toArray, List.set_cons_zero, List.set_cons_succ, i64_w, i32_w]
    rfl
  refine pure_ (i := 8) (N := some 94) (v := ?_) (a' := ?_) #[true, true, true, true, true, true, true, true, true, false, false, false, false, false, false, false, false, false, false, false, false, false, false, false, false, false] rfl rfl (any_of HT_.out (by kernel_rfl)) (fun _ _ _ h => h) (Or.inl ⟨by rfl, ?_⟩) ?_ ?_
  rotate_left
  · intro w'
    go_simp
    with_reducible rfl
  rotate_left
  · simp only [Act.put, List.setIfInBounds_toArray, List.set_cons_zero, List.set_cons_succ, i64_w, i32_w]
    rfl
  refine pure_ (i := 9) (N := some 95) (v := ?_) (a' := ?_) #[true, true, true, true, true, true, true, true, true, true, false, false, false, false, false, false, false, false, false, false, false, false, false, false, false, false] rfl rfl (any_of HT_.out (by kernel_rfl)) (fun _ _ _ h => h) (Or.inl ⟨by rfl, ?_⟩) ?_ ?_
  rotate_left
  · intro w'
    go_simp
    with_reducible rfl
  rotate_left
  · simp only [Act.put, List.setIfInBounds_toArray, List.set_cons_zero, List.set_cons_succ, i64_w, i32_w]
    rfl
  refine one_ (i := 10) (N := some 96) #[true, true, true, true, true, true, true, true, true, true, true, false, false, false, false, false, false, false, false, false, false, false, false, false, false, false] rfl rfl (one_of HT_.out (by kernel_rfl)) (by decide) (fun K hK => ?_)
  refine goes_ Try.func12 (by kernel_rfl) rfl #[.pointer (some ⟨g, 0, none⟩)] (by rfl) rfl rfl (by simp only [List.map_toArray, List.map_cons, List.map_nil]; rfl) ?_
  with_reducible refine ((HDN.out _ HB8.out)).mono ?_
  rintro e w9 ⟨rfl, hb9⟩
  refine ⟨_, rfl, ?_⟩
  have HB9 := Lib.hid (below_then HB8.out HB8.out.size hb9)
  clear hb9
  refine hK.out _ _ ⟨(pw_cell_below HB9.out m0), (pw_cell_below HB9.out m1), (pw_cell_below HB9.out m2)⟩ (fun hHeld => ?_)
  clear hK K
  refine norm_ (a' := ?_) ?_ ?_
  rotate_left
  · show Act.put _ (some 96) _ = _
    simp only [Act.put, List.setIfInBounds_toArray, List.set_cons_zero, List.set_cons_succ, i64_w, i32_w]
    rfl
  refine pure_ (i := 11) (N := some 97) (v := ?_) (a' := ?_) #[true, true, true, true, true, true, true, true, true, true, true, true, false, false, false, false, false, false, false, false, false, false, false, false, false, false] rfl rfl (any_of HT_.out (by kernel_rfl)) (fun _ _ _ h => h) (Or.inl ⟨by rfl, ?_⟩) ?_ ?_
  rotate_left
  · intro w'
    go_simp
    with_reducible rfl
  rotate_left
  · simp only [Act.put, List.setIfInBounds_toArray, List.set_cons_zero, List.set_cons_succ, i64_w, i32_w]
    rfl
  refine pure_ (i := 12) (N := some 98) (v := undef) (a' := ?_) #[true, true, true, true, true, true, true, true, true, true, true, true, true, false, false, false, false, false, false, false, false, false, false, false, false, false] rfl rfl (any_of HT_.out (by kernel_rfl)) (fun _ _ _ h => h) (Or.inr ⟨by rfl, rfl⟩) ?_ ?_
  rotate_left
  · simp only [Act.put, List.setIfInBounds_toArray, List.set_cons_zero, List.set_cons_succ, i64_w, i32_w]
    rfl
  refine pure_ (i := 13) (N := some 99) (v := undef) (a' := ?_) #[true, true, true, true, true, true, true, true, true, true, true, true, true, true, false, false, false, false, false, false, false, false, false, false, false, false] rfl rfl (any_of HT_.out (by kernel_rfl)) (fun _ _ _ h => h) (Or.inr ⟨by rfl, rfl⟩) ?_ ?_
  rotate_left
  · simp only [Act.put, List.setIfInBounds_toArray, List.set_cons_zero, List.set_cons_succ, i64_w, i32_w]
    rfl
  refine pure_ (i := 14) (N := some 100) (v := undef) (a' := ?_) #[true, true, true, true, true, true, true, true, true, true, true, true, true, true, true, false, false, false, false, false, false, false, false, false, false, false] rfl rfl (any_of HT_.out (by kernel_rfl)) (fun _ _ _ h => h) (Or.inr ⟨by rfl, rfl⟩) ?_ ?_
  rotate_left
  · simp only [Act.put, List.setIfInBounds_toArray, List.set_cons_zero, List.set_cons_succ, i64_w, i32_w]
    rfl
  refine pure_ (i := 15) (N := some 101) (v := undef) (a' := ?_) #[true, true, true, true, true, true, true, true, true, true, true, true, true, true, true, true, false, false, false, false, false, false, false, false, false, false] rfl rfl (any_of HT_.out (by kernel_rfl)) (fun _ _ _ h => h) (Or.inr ⟨by rfl, rfl⟩) ?_ ?_
  rotate_left
  · simp only [Act.put, List.setIfInBounds_toArray, List.set_cons_zero, List.set_cons_succ, i64_w, i32_w]
    rfl
  refine pure_ (i := 16) (N := some 102) (v := undef) (a' := ?_) #[true, true, true, true, true, true, true, true, true, true, true, true, true, true, true, true, true, false, false, false, false, false, false, false, false, false] rfl rfl (any_of HT_.out (by kernel_rfl)) (fun _ _ _ h => h) (Or.inr ⟨by rfl, rfl⟩) ?_ ?_
  rotate_left
  · simp only [Act.put, List.setIfInBounds_toArray, List.set_cons_zero, List.set_cons_succ, i64_w, i32_w]
    rfl
  refine pure_ (i := 17) (N := some 103) (v := undef) (a' := ?_) #[true, true, true, true, true, true, true, true, true, true, true, true, true, true, true, true, true, true, false, false, false, false, false, false, false, false] rfl rfl (any_of HT_.out (by kernel_rfl)) (fun _ _ _ h => h) (Or.inr ⟨by rfl, rfl⟩) ?_ ?_
  rotate_left
  · simp only [Act.put, List.setIfInBounds_toArray, List.set_cons_zero, List.set_cons_succ, i64_w, i32_w]
    rfl
  refine pure_ (i := 18) (N := some 104) (v := undef) (a' := ?_) #[true, true, true, true, true, true, true, true, true, true, true, true, true, true, true, true, true, true, true, false, false, false, false, false, false, false] rfl rfl (any_of HT_.out (by kernel_rfl)) (fun _ _ _ h => h) (Or.inr ⟨by rfl, rfl⟩) ?_ ?_
  rotate_left
  · simp only [Act.put, List.setIfInBounds_toArray, List.set_cons_zero, List.set_cons_succ, i64_w, i32_w]
    rfl
  refine pure_ (i := 19) (N := some 105) (v := undef) (a' := ?_) #[true, true, true, true, true, true, true, true, true, true, true, true, true, true, true, true, true, true, true, true, false, false, false, false, false, false] rfl rfl (any_of HT_.out (by kernel_rfl)) (fun _ _ _ h => h) (Or.inr ⟨by rfl, rfl⟩) ?_ ?_
  rotate_left
  · simp only [Act.put, List.setIfInBounds_toArray, List.set_cons_zero, List.set_cons_succ, i64_w, i32_w]
    rfl
  refine pure_ (i := 20) (N := some 106) (v := undef) (a' := ?_) #[true, true, true, true, true, true, true, true, true, true, true, true, true, true, true, true, true, true, true, true, true, false, false, false, false, false] rfl rfl (any_of HT_.out (by kernel_rfl)) (fun _ _ _ h => h) (Or.inr ⟨by rfl, rfl⟩) ?_ ?_
  rotate_left
  · simp only [Act.put, List.setIfInBounds_toArray, List.set_cons_zero, List.set_cons_succ, i64_w, i32_w]
    rfl
  refine pure_ (i := 21) (N := some 107) (v := undef) (a' := ?_) #[true, true, true, true, true, true, true, true, true, true, true, true, true, true, true, true, true, true, true, true, true, true, false, false, false, false] rfl rfl (any_of HT_.out (by kernel_rfl)) (fun _ _ _ h => h) (Or.inr ⟨by rfl, rfl⟩) ?_ ?_
  rotate_left
  · simp only [Act.put, List.setIfInBounds_toArray, List.set_cons_zero, List.set_cons_succ, i64_w, i32_w]
    rfl
  refine pure_ (i := 22) (N := some 108) (v := undef) (a' := ?_) #[true, true, true, true, true, true, true, true, true, true, true, true, true, true, true, true, true, true, true, true, true, true, true, false, false, false] rfl rfl (any_of HT_.out (by kernel_rfl)) (fun _ _ _ h => h) (Or.inr ⟨by rfl, rfl⟩) ?_ ?_
  rotate_left
  · simp only [Act.put, List.setIfInBounds_toArray, List.set_cons_zero, List.set_cons_succ, i64_w, i32_w]
    rfl
  refine pure_ (i := 23) (N := some 109) (v := ?_) (a' := ?_) #[true, true, true, true, true, true, true, true, true, true, true, true, true, true, true, true, true, true, true, true, true, true, true, true, false, false] rfl rfl (any_of HT_.out (by kernel_rfl)) (fun _ _ _ h => h) (Or.inl ⟨by rfl, ?_⟩) ?_ ?_
  rotate_left
  · intro w'
    go_simp
    with_reducible rfl
  rotate_left
  · simp only [Act.put, List.setIfInBounds_toArray, List.set_cons_zero, List.set_cons_succ, i64_w, i32_w]
    rfl
  refine pure_ (i := 24) (N := some 110) (v := ?_) (a' := ?_) #[true, true, true, true, true, true, true, true, true, true, true, true, true, true, true, true, true, true, true, true, true, true, true, true, true, false] rfl rfl (any_of HT_.out (by kernel_rfl)) (fun _ _ _ h => h) (Or.inl ⟨by rfl, ?_⟩) ?_ ?_
  rotate_left
  · intro w'
    go_simp
    with_reducible rfl
  rotate_left
  · simp only [Act.put, List.setIfInBounds_toArray, List.set_cons_zero, List.set_cons_succ, i64_w, i32_w]
    rfl
  refine pure_ (i := 25) (N := some 10) (v := ?_) (a' := ?_) #[true, true, true, true, true, true, true, true, true, true, true, true, true, true, true, true, true, true, true, true, true, true, true, true, true, true] rfl rfl (any_of HT_.out (by kernel_rfl)) (fun _ _ _ h => h) (Or.inl ⟨by rfl, ?_⟩) ?_ ?_
  rotate_left
  · intro w'
    go_simp
    with_reducible rfl
  rotate_left
  · simp only [Act.put, List.setIfInBounds_toArray, List.set_cons_zero, List.set_cons_succ, i64_w, i32_w]
    rfl
  refine done_ (done_of HT_.out (by kernel_rfl)) ?_
  go_wp2
  go_ret
  exact ⟨rfl, below_then HB7.out HB7.out.size HB9.out⟩
set_option maxHeartbeats 4000000 in
set_option maxRecDepth 100000 in
theorem never_init2 (w : World) (V : Int) (An : Option Addr) (cn : Nat) (nodes : List Int) (As : Option Addr) (cs : Nat) (shards : List (List Ow)) (hP : Pl.PlAt w An cn nodes As cs shards) (sh n : Int) (need : R) (A : Option Addr) (c : Nat) (l : List Hv.Ser) (hl : Kd.C k71 w A l.length l) (hlc : l.length ≤ c) (hids : ∀ x ∈ l, x.f0.size ≤ maxLen) (hc : Pl.checkP V nodes shards = 0) (ho : Pl.ownsP shards sh n = true) (HSS : (Pl.findP shards sh n).1.f1 = 1) (hle : need.f0 < need.f1) :
    Calls Try.prog 4 #[.agg #[.int .i64 V, .slice An nodes.length cn, .slice As shards.length cs], .int .i64 sh, .int .i64 n, .agg #[.int .i64 need.f0, .int .i64 need.f1], .slice A l.length c] w fun e w' => e = .returned (.bool true) ∧ Below w.heap.size w w' := by
  have HLX := Lib.hid hle
  clear hle
  obtain ⟨⟨o, is⟩, hfe⟩ : ∃ q : Ow × Bool, Pl.findP shards sh n = q := ⟨_, rfl⟩
  have ho2 := ho
  unfold Pl.ownsP at ho2
  rw [hfe, Bool.and_eq_true] at ho2
  obtain ⟨his, hno⟩ := ho2
  dsimp only at his hno
  subst his
  obtain ⟨h0', h1, hlm, hol, hon⟩ := Pl.find_mem (shards := shards) (sh := sh) (n := n) (by rw [hfe])
  rw [hfe] at hol hon HSS
  dsimp only at hol hon HSS
  obtain ⟨ll, hll⟩ : ∃ ll, rd_L4 shards sh = ll := ⟨_, rfl⟩
  rw [hll] at hlm hol
  have hrf := Pl.check_right hc hlm
  have hlen := hrf.len
  have HWF := Lib.hid (fun lf (hlf : lf.length ≤ 1000000) pm => wf_nv hP hlm hol hlen n need lf hlf pm)
  have HC := Lib.hid hc
  have HO := Lib.hid ho
  have HLL := Lib.hid hll
  have HFE := Lib.hid hfe
  have HSX := Lib.hid HSS
  clear hc ho hfe hll hlm hrf hol hon hlen HSS
  have HP := Lib.hid hP
  have HL := Lib.hid hl
  have HLC := Lib.hid hlc
  have HIDS := Lib.hid hids
  clear hP hl hlc hids
  go_enter Try.func4, Try.ntmps4
  go_wp2_with (first
    | ((with_reducible refine gate_dst (N := 5) rfl ?_); refine box_event rfl (N := 5) rfl (cs := #[.int .i64 V, .slice An nodes.length cn, .slice As shards.length cs]) (t := 25) ?hr ?_; (case hr => first | (go_simp; done) | (go_simp; rfl)); intro g4 hg4 X hbox hbX; have HX := Lib.hid (And.intro hg4 (And.intro hbox hbX)); clear hg4 hbox hbX)
    | ((with_reducible refine gate_dst (N := 8) rfl ?_); refine box_event rfl (N := 8) rfl (cs := #[.int .i64 need.f0, .int .i64 need.f1]) (t := 29) ?hr ?_; (case hr => first | (go_simp; done) | (go_simp; rfl)); intro g7 hg7 Y hboy hbY; have HY := Lib.hid (And.intro hg7 (And.intro hboy hbY)); have HG4 := Lib.hid (blk_below HX.out.2.1 hbY); have HG7 := Lib.hid hboy; have y0 : Y.cell? ⟨g4, 0, none⟩ = some (.int .i64 V) := (blk_cell HG4.out 0).trans rfl; have y1 : Y.cell? ⟨g4, 1, none⟩ = some (.slice An nodes.length cn) := (blk_cell HG4.out 1).trans rfl; have y2 : Y.cell? ⟨g4, 2, none⟩ = some (.slice As shards.length cs) := (blk_cell HG4.out 2).trans rfl; have y3 : g4 < Y.heap.size := blk_lt HG4.out; have n3 : g7 < Y.heap.size := blk_lt HG7.out; clear hg7 hboy hbY))
  have HBY := Lib.hid (below_then HX.out.2.2 HX.out.2.2.size HY.out.2.2)
  have HAL := Lib.hid (below_alloc (Below.refl Y.heap.size Y) (.cells #[.int .i64 0, .int .i64 0, .int .i64 0, .int .i64 0, .int .i64 0, .slice A l.length c] 50))
  have HLQ := Lib.hid (lit_step Y A c l (Kd.C_below HL.out HBY.out) HLC.out)
  obtain ⟨gz, hgz⟩ : ∃ gz, gz = Y.heap.size := ⟨_, rfl⟩
  obtain ⟨Z, hZ⟩ : ∃ Z : World, Z = Y.alloc (.cells #[.int .i64 0, .int .i64 0, .int .i64 0, .int .i64 0, .int .i64 0, .slice A l.length c] 50) := ⟨_, rfl⟩
  rw [← hZ] at HAL HLQ
  rw [← hgz] at HLQ
  rw [← hZ, ← hgz]
  have HBZ := Lib.hid (below_then HBY.out HBY.out.size HAL.out)
  have HG4Z := Lib.hid (blk_below HG4.out HAL.out)
  have HG7Z := Lib.hid (blk_below HG7.out HAL.out)
  clear hZ hgz HAL y0 y1 y2 y3 n3 HG4 HG7 HX HY HBY
  obtain ⟨r, hr⟩ := large_any Z V An cn nodes As cs shards (HP.out.below HBZ.out)
  have HLG := Lib.hid hr
  clear hr
  with_reducible refine HLG.out.mono ?_
  rintro e w1 ⟨rfl, hb1⟩
  have HB1 := Lib.hid (below_then HBZ.out HBZ.out.size hb1)
  have HLQ1 := Lib.hid (Kd.C_below HLQ.out hb1)
  have HG41 := Lib.hid (blk_below HG4Z.out hb1)
  have HG71 := Lib.hid (blk_below HG7Z.out hb1)
  clear hb1 HLG HG4Z HG7Z HLQ
  cases r with
  | true =>
    go_wp2
    go_ret
    exact ⟨rfl, HB1.out⟩
  | false =>
  obtain ⟨r2, hr2, hr3⟩ := Hv.heavy_any w1 (some ⟨gz, 0, none⟩) 1 [⟨0, 0, 0, ⟨0, 0⟩, l⟩] HLQ1.out (Nat.le_refl _) (by simp) (by intro s hs; rw [List.mem_singleton.1 hs]; exact HL.out.2.1)
  have HHV := Lib.hid (show Calls Try.prog 13 #[.slice (some ⟨gz, 0, none⟩) 1 1] w1 (fun e w' => e = .returned (.bool r2) ∧ Below w1.heap.size w1 w') from hr3)
  have HHW := Lib.hid hr2
  clear hr2 hr3
  go_wp2_with fail
  with_reducible refine HHV.out.mono ?_
  rintro e w2 ⟨rfl, hb2⟩
  have HB2 := Lib.hid (below_then HB1.out HB1.out.size hb2)
  have HG42 := Lib.hid (blk_below HG41.out hb2)
  have HG72 := Lib.hid (blk_below HG71.out hb2)
  clear hb2 HHV HG41 HG71 HLQ1
  cases r2 with
  | true =>
    go_wp2
    go_ret
    exact ⟨rfl, HB2.out⟩
  | false =>
  have HSW := Lib.hid (show Hv.serW l ≤ 2048 by have := HHW.out rfl; rw [Hv.stepsW_cons] at this; simp only [List.length_singleton] at this; omega)
  clear HHW
  have y0 : w2.cell? ⟨g4, 0, none⟩ = some (.int .i64 V) := (blk_cell HG42.out 0).trans rfl
  have y1 : w2.cell? ⟨g4, 1, none⟩ = some (.slice An nodes.length cn) := (blk_cell HG42.out 1).trans rfl
  have y2 : w2.cell? ⟨g4, 2, none⟩ = some (.slice As shards.length cs) := (blk_cell HG42.out 2).trans rfl
  have n0 : w2.cell? ⟨g7, 0, none⟩ = some (.int .i64 need.f0) := (blk_cell HG72.out 0).trans rfl
  have n1 : w2.cell? ⟨g7, 1, none⟩ = some (.int .i64 need.f1) := (blk_cell HG72.out 1).trans rfl
  go_wp2_with fail
  have HNW := Lib.hid (new_ok w2 V An cn nodes As cs shards (HP.out.below HB2.out) sh n need HC.out HO.out)
  rw [HFE.out, HLL.out] at HNW
  with_reducible refine HNW.out.mono ?_
  rintro e w3 ⟨g, gm, gp, vO, vL, rfl, hIs, hb3⟩
  have HIS3 := Lib.hid (show Is w3 w2.heap.size g gm gp vO vL (nv o (othersL ll n) need (normR [need]) []) from hIs)
  have HB3 := Lib.hid hb3
  have HG43 := Lib.hid (blk_below HG42.out hb3)
  have HG73 := Lib.hid (blk_below HG72.out hb3)
  clear hIs hb3 HNW y0 y1 y2 n0 n1
  have y0 : w3.cell? ⟨g4, 0, none⟩ = some (.int .i64 V) := (blk_cell HG43.out 0).trans rfl
  have y1 : w3.cell? ⟨g4, 1, none⟩ = some (.slice An nodes.length cn) := (blk_cell HG43.out 1).trans rfl
  have y2 : w3.cell? ⟨g4, 2, none⟩ = some (.slice As shards.length cs) := (blk_cell HG43.out 2).trans rfl
  have n0 : w3.cell? ⟨g7, 0, none⟩ = some (.int .i64 need.f0) := (blk_cell HG73.out 0).trans rfl
  have n1 : w3.cell? ⟨g7, 1, none⟩ = some (.int .i64 need.f1) := (blk_cell HG73.out 1).trans rfl
  go_wp2_with fail
  have HRW := Lib.hid (rnew_ok w3 V An cn nodes As cs shards (HP.out.below (below_then HB2.out HB2.out.size HB3.out)) sh n need HC.out HO.out)
  with_reducible refine HRW.out.mono ?_
  rintro e w4 ⟨gr, vR, rfl, _, hb4⟩
  have HIS4 := Lib.hid (HIS3.out.below hb4)
  have HB4 := Lib.hid (below_then HB3.out HB3.out.size hb4)
  have HG44 := Lib.hid (blk_below HG43.out hb4)
  have HG74 := Lib.hid (blk_below HG73.out hb4)
  clear hb4 HRW y0 y1 y2 n0 n1 HIS3
  have y0 : w4.cell? ⟨g4, 0, none⟩ = some (.int .i64 V) := (blk_cell HG44.out 0).trans rfl
  have y1 : w4.cell? ⟨g4, 1, none⟩ = some (.slice An nodes.length cn) := (blk_cell HG44.out 1).trans rfl
  have y2 : w4.cell? ⟨g4, 2, none⟩ = some (.slice As shards.length cs) := (blk_cell HG44.out 2).trans rfl
  have n0 : w4.cell? ⟨g7, 0, none⟩ = some (.int .i64 need.f0) := (blk_cell HG74.out 0).trans rfl
  have n1 : w4.cell? ⟨g7, 1, none⟩ = some (.int .i64 need.f1) := (blk_cell HG74.out 1).trans rfl
  go_wp2_with fail
  have HFD := Lib.hid (Pl.rfind_calls w4 V An cn nodes As cs shards (HP.out.below (below_then HB2.out HB2.out.size HB4.out)) sh n)
  rw [HFE.out] at HFD
  with_reducible refine HFD.out.mono ?_
  rintro e w5 ⟨rfl, hb5⟩
  unfold Pl.aggO
  have HIS5 := Lib.hid (HIS4.out.below hb5)
  have HB5 := Lib.hid (below_then HB4.out HB4.out.size hb5)
  have HG75 := Lib.hid (blk_below HG74.out hb5)
  clear hb5 HFD y0 y1 y2 n0 n1 HIS4
  have HAZ := Lib.hid (below_alloc (Below.refl w5.heap.size w5) (.cells #[.int .i64 o.f0, .int .i64 o.f1, .int .i64 o.f2] 38))
  have HAB := Lib.hid (blk_new w5 (.cells #[.int .i64 o.f0, .int .i64 o.f1, .int .i64 o.f2] 38))
  have n0 : w5.cell? ⟨g7, 0, none⟩ = some (.int .i64 need.f0) := (blk_cell HG75.out 0).trans rfl
  have n1 : w5.cell? ⟨g7, 1, none⟩ = some (.int .i64 need.f1) := (blk_cell HG75.out 1).trans rfl
  have n3 : g7 < w5.heap.size := blk_lt HG75.out
  go_wp2_with fail
  obtain ⟨gb, hgb⟩ : ∃ gb, gb = w5.heap.size := ⟨_, rfl⟩
  obtain ⟨Z2, hZ2⟩ : ∃ Z2 : World, Z2 = w5.alloc (.cells #[.int .i64 o.f0, .int .i64 o.f1, .int .i64 o.f2] 38) := ⟨_, rfl⟩
  rw [← hZ2] at HAZ HAB
  rw [← hgb] at HAB
  rw [← hZ2, ← hgb]
  have HISZ := Lib.hid (HIS5.out.below HAZ.out)
  have HBZ2 := Lib.hid (below_then HB5.out HB5.out.size HAZ.out)
  have HG7Y := Lib.hid (blk_below HG75.out HAZ.out)
  clear hZ2 hgb HAZ HIS5 n0 n1 n3 HG74 HG75
  have HLO := Lib.hid (Hm.local_calls w2 Z2 g gm gp vO vL _ [] 0 HISZ.out (Hm.HM.nil HISZ.out.pts) HBZ2.out need A c l (Kd.C_below HL.out HB2.out) HIDS.out (by have := HSW.out; omega) (norm_short need))
  have HNB := Lib.hid (show gb ≠ gp from fun e => HISZ.out.pts.noCells HAB.out e.symm)
  have HN7 := Lib.hid (show g7 ≠ gp from fun e => HISZ.out.pts.noCells HG7Y.out e.symm)
  with_reducible refine HLO.out.mono ?_
  rintro e w6 ⟨rfl, h6, vL6, hM6, _, hI6, hB6, hK6⟩
  have HI6 := Lib.hid (show Is w6 w2.heap.size g gm gp vO vL6 (nv o (othersL ll n) need (Hm.leftL (nv o (othersL ll n) need (normR [need]) []) need) (Hm.pmOf h6)) from hI6)
  have HB6 := Lib.hid (below_then HB2.out HB2.out.size hB6)
  have HGB6 := Lib.hid (hK6 gb _ _ HAB.out HNB.out (by decide) (by decide))
  have HG76 := Lib.hid (hK6 g7 _ _ HG7Y.out HN7.out (by decide) (by decide))
  clear hM6 hI6 hB6 hK6 HLO HISZ HBZ2 HAB HG7Y
  have f1 : w6.cell? ⟨gb, 1, none⟩ = some (.int .i64 o.f1) := (blk_cell HGB6.out 1).trans rfl
  have HLF := Lib.hid (show Hm.leftL (nv o (othersL ll n) need (normR [need]) []) need = normR [need] by unfold Hm.leftL nv; rw [if_pos HSX.out])
  rw [HLF.out] at HI6
  have d2 : (o.f1 == 2) = false := by rw [HSX.out]; rfl
  have HWB := Lib.hid (HWF.out (normR [need]) (by have := norm_short need; omega) (Hm.pmOf h6))
  have HLE := Lib.hid (show leftOf (nv o (othersL ll n) need (normR [need]) (Hm.pmOf h6)) = normR [need] by unfold leftOf; exact if_neg (fun h => by have := h.2; rw [enough_nil _ rfl] at this; cases this))
  have HDD := Lib.hid (show decide (leftOf (nv o (othersL ll n) need (normR [need]) (Hm.pmOf h6)) = []) = false by rw [HLE.out, norm_one]; rw [if_neg (Int.not_le.2 HLX.out)]; rfl)
  go_wp2_with fail
  have HWN := Lib.hid (wants_calls w6 w2.heap.size g gm gp vO vL6 _ HI6.out HWB.out)
  with_reducible refine HWN.out.mono ?_
  rintro e w7 ⟨v7, rfl, hR7, hb7⟩
  have HI7 := Lib.hid (HI6.out.below hb7)
  have HB7 := Lib.hid (below_then HB6.out HB6.out.size hb7)
  have HDN := Lib.hid (fun W (hW : Below w7.heap.size w7 W) => done_calls W w2.heap.size g gm gp vO vL6 _ (HI7.out.below hW) HWB.out)
  rw [HDD.out] at HDN
  have m0 : w7.cell? ⟨g7, 0, none⟩ = some (.int .i64 need.f0) := (blk_cell (blk_below HG76.out hb7) 0).trans rfl
  have m1 : w7.cell? ⟨g7, 1, none⟩ = some (.int .i64 need.f1) := (blk_cell (blk_below HG76.out hb7) 1).trans rfl
  have m2 : w7.cell? ⟨gb, 2, none⟩ = some (.int .i64 o.f2) := (blk_cell (blk_below HGB6.out hb7) 2).trans rfl
  obtain ⟨tl, htl⟩ : ∃ tl, wantsOf (nv o (othersL ll n) need (normR [need]) (Hm.pmOf h6)) = o.f2 :: tl := wants_head _ (by rw [HLE.out, norm_one, if_neg (Int.not_le.2 HLX.out)]; simp) HSX.out rfl
  rw [htl] at hR7
  obtain ⟨A7, c7, rfl⟩ := Kd.R_slice hR7
  obtain ⟨adw, e7, hm7⟩ := Kd.at_int (Kd.R_reads' hR7).2.2 0 (by omega) (by simp only [List.length_cons]; omega)
  cases e7
  have m3 : w7.cell? adw = some (.int .i64 o.f2) := by rw [show adw.add (0 : Int).toNat = adw from add_z adw] at hm7; rw [hm7]; rfl
  obtain ⟨n7, hn7⟩ : ∃ n7, (o.f2 :: tl).length = n7 := ⟨_, rfl⟩
  have hn0 : 0 < n7 := by rw [← hn7]; simp
  rw [hn7]
  have dn : decide ((n7 : Int) ≥ 1) = true := decide_eq_true (by omega)
  clear hm7 hn7 htl
  have dl : decide (need.f1 ≤ need.f0) = false := decide_eq_false (Int.not_le.2 HLX.out)
  clear hb7 hR7 HWN HI6 f1 HLF HLE HDD d2
  go_wp2_with fail
  refine start_ (n := 26) (S := fun w' => w'.cell? ⟨g7, 0, none⟩ = some (.int .i64 need.f0) ∧ w'.cell? ⟨g7, 1, none⟩ = some (.int .i64 need.f1) ∧ w'.cell? ⟨gb, 2, none⟩ = some (.int .i64 o.f2) ∧ w'.cell? adw = some (.int .i64 o.f2)) (ds := []) #[false, false, false, false, false, false, false, false, false, false, false, false, false, false, false, false, false, false, false, false, false, false, false, false, false, false] (by kernel_rfl) rfl rfl ⟨m0, m1, m2, m3⟩ (fun hHeld => ?_)
  refine with_tabW Nv_F.tab13 Nv_F.bits13 (fun HT_ HW_ => ?_)
  refine pure_ (i := 0) (N := some 86) (v := ?_) (a' := ?_) #[true, false, false, false, false, false, false, false, false, false, false, false, false, false, false, false, false, false, false, false, false, false, false, false, false, false] rfl rfl (any_of HT_.out (by kernel_rfl)) (fun _ _ _ h => h) (Or.inl ⟨by rfl, ?_⟩) ?_ ?_
  rotate_left
  · intro w'
    go_simp
    with_reducible rfl
  rotate_left
  · simp only [Act.put, List.setIfInBounds_toArray, List.set_cons_zero, List.set_cons_succ, i64_w, i32_w]
    rfl
  refine pure_ (i := 2) (N := some 88) (v := ?_) (a' := ?_) #[true, false, true, false, false, false, false, false, false, false, false, false, false, false, false, false, false, false, false, false, false, false, false, false, false, false] rfl rfl (any_of HT_.out (by kernel_rfl)) (fun _ _ _ h => h) (Or.inl ⟨by rfl, ?_⟩) ?_ ?_
  rotate_left
  · intro w'
    go_simp
    with_reducible rfl
  rotate_left
  · simp only [Act.put, List.setIfInBounds_toArray, List.set_cons_zero, List.set_cons_succ, i64_w, i32_w]
    rfl
  refine pure_ (i := 4) (N := some 90) (v := ?_) (a' := ?_) #[true, false, true, false, true, false, false, false, false, false, false, false, false, false, false, false, false, false, false, false, false, false, false, false, false, false] rfl rfl (any_of HT_.out (by kernel_rfl)) (fun _ _ _ h => h) (Or.inl ⟨by rfl, ?_⟩) ?_ ?_
  rotate_left
  · intro w'
    go_simp
    with_reducible rfl
  rotate_left
  · simp only [Act.put, List.setIfInBounds_toArray, List.set_cons_zero, List.set_cons_succ, i64_w, i32_w]
    rfl
  refine take_ (i := 3) (N := some 89) (v := ?_) (a' := ?_) #[true, false, true, true, true, false, false, false, false, false, false, false, false, false, false, false, false, false, false, false, false, false, false, false, false, false] rfl rfl (take_ofW HT_.out HW_.out (by kernel_rfl)) (fun _ _ _ h => h) (Or.inl ⟨by rfl, ?_⟩) hHeld ?_ ?_
  rotate_left
  · rintro w' ⟨s0, s1, s2, s3⟩
    go_simp
    with_reducible rfl
  rotate_left
  · simp only [Act.put, List.setIfInBounds_toArray, List.set_cons_zero, List.set_cons_succ, i64_w, i32_w]
    rfl
  refine take_ (i := 5) (N := some 91) (v := ?_) (a' := ?_) #[true, false, true, true, true, true, false, false, false, false, false, false, false, false, false, false, false, false, false, false, false, false, false, false, false, false] rfl rfl (take_ofW HT_.out HW_.out (by kernel_rfl)) (fun _ _ _ h => h) (Or.inl ⟨by rfl, ?_⟩) hHeld ?_ ?_
  rotate_left
  · rintro w' ⟨s0, s1, s2, s3⟩
    go_simp
    with_reducible rfl
  rotate_left
  · simp only [Act.put, List.setIfInBounds_toArray, List.set_cons_zero, List.set_cons_succ, i64_w, i32_w]
    rfl
  refine pure_ (i := 6) (N := some 92) (v := ?_) (a' := ?_) #[true, false, true, true, true, true, true, false, false, false, false, false, false, false, false, false, false, false, false, false, false, false, false, false, false, false] rfl rfl (any_of HT_.out (by kernel_rfl)) (fun _ _ _ h => h) (Or.inl ⟨by rfl, ?_⟩) ?_ ?_
  rotate_left
  · intro w'
    go_simp
    with_reducible rfl
  rotate_left
  · simp only [Act.put, List.setIfInBounds_toArray, List.set_cons_zero, List.set_cons_succ, i64_w, i32_w]
    rfl
  refine one_ (i := 1) (N := some 87) #[true, true, true, true, true, true, true, false, false, false, false, false, false, false, false, false, false, false, false, false, false, false, false, false, false, false] rfl rfl (one_of HT_.out (by kernel_rfl)) (by decide) (fun K hK => ?_)
  refine goes_ Try.func12 (by kernel_rfl) rfl #[.pointer (some ⟨g, 0, none⟩)] (by rfl) rfl rfl (by simp only [List.map_toArray, List.map_cons, List.map_nil]; rfl) ?_
  with_reducible refine ((HDN.out _ (below_drew (Below.refl _ _)))).mono ?_
  rintro e w8 ⟨rfl, hb8⟩
  refine ⟨_, rfl, ?_⟩
  have HB8 := Lib.hid (show Below w7.heap.size w7 w8 from below_then (below_drew (Below.refl _ _)) (Nat.le_refl _) hb8)
  clear hb8
  refine hK.out _ _ ⟨(pw_cell_below HB8.out m0), (pw_cell_below HB8.out m1), (pw_cell_below HB8.out m2), (pw_cell_below HB8.out m3)⟩ (fun hHeld => ?_)
  clear hK K
  refine norm_ (a' := ?_) ?_ ?_
  rotate_left
  · show Act.put _ (some 87) _ = _
    simp only [Act.put, List.setIfInBounds_toArray, List.set_cons_zero, List.set_cons_succ, i64_w, i32_w]
    rfl
  refine pure_ (i := 7) (N := some 93) (v := ?_) (a' := ?_) #[true, true, true, true, true, true, true, true, false, false, false, false, false, false, false, false, false, false, false, false, false, false, false, false, false, false] rfl rfl (any_of HT_.out (by kernel_rfl)) (fun _ _ _ h => h) (Or.inl ⟨by rfl, ?_⟩) ?_ ?_
  rotate_left
  · intro w'
    go_simp
    with_reducible rfl
  rotate_left
  · simp only [Act.put, List.setIfInBounds_toArray, List.set_cons_zero, List.set_cons_succ, i64_w, i32_w]
    rfl
  refine pure_ (i := 8) (N := some 94) (v := ?_) (a' := ?_) #[true, true, true, true, true, true, true, true, true, false, false, false, false, false, false, false, false, false, false, false, false, false, false, false, false, false] rfl rfl (any_of HT_.out (by kernel_rfl)) (fun _ _ _ h => h) (Or.inl ⟨by rfl, ?_⟩) ?_ ?_
  rotate_left
  · intro w'
    go_simp
    with_reducible rfl
  rotate_left
  · simp only [Act.put, List.setIfInBounds_toArray, List.set_cons_zero, List.set_cons_succ, i64_w, i32_w]
    rfl
  refine pure_ (i := 9) (N := some 95) (v := ?_) (a' := ?_) #[true, true, true, true, true, true, true, true, true, true, false, false, false, false, false, false, false, false, false, false, false, false, false, false, false, false] rfl rfl (any_of HT_.out (by kernel_rfl)) (fun _ _ _ h => h) (Or.inl ⟨by rfl, ?_⟩) ?_ ?_
  rotate_left
  · intro w'
    go_simp
    with_reducible rfl
  rotate_left
  · simp only [Act.put, List.setIfInBounds_toArray, List.set_cons_zero, List.set_cons_succ, i64_w, i32_w]
    rfl
  refine one_ (i := 10) (N := some 96) #[true, true, true, true, true, true, true, true, true, true, true, false, false, false, false, false, false, false, false, false, false, false, false, false, false, false] rfl rfl (one_of HT_.out (by kernel_rfl)) (by decide) (fun K hK => ?_)
  refine goes_ Try.func12 (by kernel_rfl) rfl #[.pointer (some ⟨g, 0, none⟩)] (by rfl) rfl rfl (by simp only [List.map_toArray, List.map_cons, List.map_nil]; rfl) ?_
  with_reducible refine ((HDN.out _ HB8.out)).mono ?_
  rintro e w9 ⟨rfl, hb9⟩
  refine ⟨_, rfl, ?_⟩
  have HB9 := Lib.hid (below_then HB8.out HB8.out.size hb9)
  clear hb9
  refine hK.out _ _ ⟨(pw_cell_below HB9.out m0), (pw_cell_below HB9.out m1), (pw_cell_below HB9.out m2), (pw_cell_below HB9.out m3)⟩ (fun hHeld => ?_)
  clear hK K
  refine norm_ (a' := ?_) ?_ ?_
  rotate_left
  · show Act.put _ (some 96) _ = _
    simp only [Act.put, List.setIfInBounds_toArray, List.set_cons_zero, List.set_cons_succ, i64_w, i32_w]
    rfl
  refine pure_ (i := 11) (N := some 97) (v := ?_) (a' := ?_) #[true, true, true, true, true, true, true, true, true, true, true, true, false, false, false, false, false, false, false, false, false, false, false, false, false, false] rfl rfl (any_of HT_.out (by kernel_rfl)) (fun _ _ _ h => h) (Or.inl ⟨by rfl, ?_⟩) ?_ ?_
  rotate_left
  · intro w'
    go_simp
    with_reducible rfl
  rotate_left
  · simp only [Act.put, List.setIfInBounds_toArray, List.set_cons_zero, List.set_cons_succ, i64_w, i32_w]
    rfl
  refine pure_ (i := 12) (N := some 98) (v := ?_) (a' := ?_) #[true, true, true, true, true, true, true, true, true, true, true, true, true, false, false, false, false, false, false, false, false, false, false, false, false, false] rfl rfl (any_of HT_.out (by kernel_rfl)) (fun _ _ _ h => h) (Or.inl ⟨by rfl, ?_⟩) ?_ ?_
  rotate_left
  · intro w'
    go_simp
    with_reducible rfl
  rotate_left
  · simp only [Act.put, List.setIfInBounds_toArray, List.set_cons_zero, List.set_cons_succ, i64_w, i32_w]
    rfl
  refine pure_ (i := 13) (N := some 99) (v := ?_) (a' := ?_) #[true, true, true, true, true, true, true, true, true, true, true, true, true, true, false, false, false, false, false, false, false, false, false, false, false, false] rfl rfl (any_of HT_.out (by kernel_rfl)) (fun _ _ _ h => h) (Or.inl ⟨by rfl, ?_⟩) ?_ ?_
  rotate_left
  · intro w'
    go_simp
    with_reducible rfl
  rotate_left
  · simp only [Act.put, List.setIfInBounds_toArray, List.set_cons_zero, List.set_cons_succ, i64_w, i32_w]
    rfl
  refine pure_ (i := 14) (N := some 100) (v := ?_) (a' := ?_) #[true, true, true, true, true, true, true, true, true, true, true, true, true, true, true, false, false, false, false, false, false, false, false, false, false, false] rfl rfl (any_of HT_.out (by kernel_rfl)) (fun _ _ _ h => h) (Or.inl ⟨by rfl, ?_⟩) ?_ ?_
  rotate_left
  · intro w'
    go_simp
    with_reducible rfl
  rotate_left
  · simp only [Act.put, List.setIfInBounds_toArray, List.set_cons_zero, List.set_cons_succ, i64_w, i32_w]
    rfl
  refine pure_ (i := 15) (N := some 101) (v := ?_) (a' := ?_) #[true, true, true, true, true, true, true, true, true, true, true, true, true, true, true, true, false, false, false, false, false, false, false, false, false, false] rfl rfl (any_of HT_.out (by kernel_rfl)) (fun _ _ _ h => h) (Or.inl ⟨by rfl, ?_⟩) ?_ ?_
  rotate_left
  · intro w'
    go_simp
    with_reducible rfl
  rotate_left
  · simp only [Act.put, List.setIfInBounds_toArray, List.set_cons_zero, List.set_cons_succ, i64_w, i32_w]
    rfl
  refine pure_ (i := 16) (N := some 102) (v := ?_) (a' := ?_) #[true, true, true, true, true, true, true, true, true, true, true, true, true, true, true, true, true, false, false, false, false, false, false, false, false, false] rfl rfl (any_of HT_.out (by kernel_rfl)) (fun _ _ _ h => h) (Or.inl ⟨by rfl, ?_⟩) ?_ ?_
  rotate_left
  · intro w'
    go_simp
    with_reducible rfl
  rotate_left
  · simp only [Act.put, List.setIfInBounds_toArray, List.set_cons_zero, List.set_cons_succ, i64_w, i32_w]
    rfl
  refine pure_ (i := 17) (N := some 103) (v := ?_) (a' := ?_) #[true, true, true, true, true, true, true, true, true, true, true, true, true, true, true, true, true, true, false, false, false, false, false, false, false, false] rfl rfl (any_of HT_.out (by kernel_rfl)) (fun _ _ _ h => h) (Or.inl ⟨by rfl, ?_⟩) ?_ ?_
  rotate_left
  · intro w'
    go_simp
    with_reducible rfl
  rotate_left
  · simp only [Act.put, List.setIfInBounds_toArray, List.set_cons_zero, List.set_cons_succ, i64_w, i32_w]
    rfl
  refine pure_ (i := 19) (N := some 105) (v := ?_) (a' := ?_) #[true, true, true, true, true, true, true, true, true, true, true, true, true, true, true, true, true, true, false, true, false, false, false, false, false, false] rfl rfl (any_of HT_.out (by kernel_rfl)) (fun _ _ _ h => h) (Or.inl ⟨by rfl, ?_⟩) ?_ ?_
  rotate_left
  · intro w'
    go_simp
    with_reducible rfl
  rotate_left
  · simp only [Act.put, List.setIfInBounds_toArray, List.set_cons_zero, List.set_cons_succ, i64_w, i32_w]
    rfl
  refine take_ (i := 18) (N := some 104) (v := ?_) (a' := ?_) #[true, true, true, true, true, true, true, true, true, true, true, true, true, true, true, true, true, true, true, true, false, false, false, false, false, false] rfl rfl (take_ofW HT_.out HW_.out (by kernel_rfl)) (fun _ _ _ h => h) (Or.inl ⟨by rfl, ?_⟩) hHeld ?_ ?_
  rotate_left
  · rintro w' ⟨s0, s1, s2, s3⟩
    go_simp
    with_reducible rfl
  rotate_left
  · simp only [Act.put, List.setIfInBounds_toArray, List.set_cons_zero, List.set_cons_succ, i64_w, i32_w]
    rfl
  refine take_ (i := 20) (N := some 106) (v := ?_) (a' := ?_) #[true, true, true, true, true, true, true, true, true, true, true, true, true, true, true, true, true, true, true, true, true, false, false, false, false, false] rfl rfl (take_ofW HT_.out HW_.out (by kernel_rfl)) (fun _ _ _ h => h) (Or.inl ⟨by rfl, ?_⟩) hHeld ?_ ?_
  rotate_left
  · rintro w' ⟨s0, s1, s2, s3⟩
    go_simp
    with_reducible rfl
  rotate_left
  · simp only [Act.put, List.setIfInBounds_toArray, List.set_cons_zero, List.set_cons_succ, i64_w, i32_w]
    rfl
  refine pure_ (i := 21) (N := some 107) (v := ?_) (a' := ?_) #[true, true, true, true, true, true, true, true, true, true, true, true, true, true, true, true, true, true, true, true, true, true, false, false, false, false] rfl rfl (any_of HT_.out (by kernel_rfl)) (fun _ _ _ h => h) (Or.inl ⟨by rfl, ?_⟩) ?_ ?_
  rotate_left
  · intro w'
    go_simp
    with_reducible rfl
  rotate_left
  · simp only [Act.put, List.setIfInBounds_toArray, List.set_cons_zero, List.set_cons_succ, i64_w, i32_w]
    rfl
  refine pure_ (i := 22) (N := some 108) (v := ?_) (a' := ?_) #[true, true, true, true, true, true, true, true, true, true, true, true, true, true, true, true, true, true, true, true, true, true, true, false, false, false] rfl rfl (any_of HT_.out (by kernel_rfl)) (fun _ _ _ h => h) (Or.inl ⟨by rfl, ?_⟩) ?_ ?_
  rotate_left
  · intro w'
    go_simp
    with_reducible rfl
  rotate_left
  · simp only [Act.put, List.setIfInBounds_toArray, List.set_cons_zero, List.set_cons_succ, i64_w, i32_w]
    rfl
  refine pure_ (i := 23) (N := some 109) (v := ?_) (a' := ?_) #[true, true, true, true, true, true, true, true, true, true, true, true, true, true, true, true, true, true, true, true, true, true, true, true, false, false] rfl rfl (any_of HT_.out (by kernel_rfl)) (fun _ _ _ h => h) (Or.inl ⟨by rfl, ?_⟩) ?_ ?_
  rotate_left
  · intro w'
    go_simp
    with_reducible rfl
  rotate_left
  · simp only [Act.put, List.setIfInBounds_toArray, List.set_cons_zero, List.set_cons_succ, i64_w, i32_w]
    rfl
  refine pure_ (i := 24) (N := some 110) (v := ?_) (a' := ?_) #[true, true, true, true, true, true, true, true, true, true, true, true, true, true, true, true, true, true, true, true, true, true, true, true, true, false] rfl rfl (any_of HT_.out (by kernel_rfl)) (fun _ _ _ h => h) (Or.inl ⟨by rfl, ?_⟩) ?_ ?_
  rotate_left
  · intro w'
    go_simp
    with_reducible rfl
  rotate_left
  · simp only [Act.put, List.setIfInBounds_toArray, List.set_cons_zero, List.set_cons_succ, i64_w, i32_w]
    rfl
  refine pure_ (i := 25) (N := some 10) (v := ?_) (a' := ?_) #[true, true, true, true, true, true, true, true, true, true, true, true, true, true, true, true, true, true, true, true, true, true, true, true, true, true] rfl rfl (any_of HT_.out (by kernel_rfl)) (fun _ _ _ h => h) (Or.inl ⟨by rfl, ?_⟩) ?_ ?_
  rotate_left
  · intro w'
    go_simp
    with_reducible rfl
  rotate_left
  · simp only [Act.put, List.setIfInBounds_toArray, List.set_cons_zero, List.set_cons_succ, i64_w, i32_w]
    rfl
  refine done_ (done_of HT_.out (by kernel_rfl)) ?_
  go_wp2
  go_ret
  exact ⟨rfl, below_then HB7.out HB7.out.size HB9.out⟩
end Bt
end Go.Proofs.Ytiinmagnpkfbbaa
