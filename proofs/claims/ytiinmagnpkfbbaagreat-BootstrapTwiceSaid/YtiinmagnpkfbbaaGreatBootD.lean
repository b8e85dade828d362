/- bootstrap.New. -/
import Derived.Test.YtiinmagnpkfbbaaGreatRightF
set_option maxHeartbeats 4000000
set_option maxRecDepth 100000
namespace Go.Proofs.YtiinmagnpkfbbaaGreat
set_option linter.unusedVariables false
set_option linter.unusedSimpArgs false
open Go.RowKit Go.Proofs.YtiinmagnpkfbbaaGreatW.PrintWords Go.Proofs.YtiinmagnpkfbbaaGreatW.PrintLast Go.Proofs.YtiinmagnpkfbbaaGreatW.PrintMore Go.Proofs.YtiinmagnpkfbbaaGreat.QT
namespace Bt
open Rg (normR)
/-- Who else may give. -/
def othersL (l : List Ow) (n : Int) : List Int := (l.filter (fun o => o.f1 == 2 && o.f0 != n)).map (·.f0)
theorem others_step {l : List Ow} {n : Int} {i : Nat} (h : i < l.length) : othersL (l.take (i + 1)) n = othersL (l.take i) n ++ (if (l[i].f1 == 2 && l[i].f0 != n) = true then [l[i].f0] else []) := by
 unfold othersL; rw [List.take_succ_eq_append_getElem h, List.filter_append, List.map_append]
 congr 1
 rw [List.filter_cons]
 split <;> rfl
theorem rdO {l : List Ow} {i : Nat} (h : i < l.length) : rd_T57 l (i : Int) = l[i] := by unfold rd_T57; rw [Int.toNat_natCast, List.getD_eq_getElem?_getD, List.getElem?_eq_getElem h]; rfl
theorem R_one29 (W : World) (x : R) (B gl : Nat) (hB : B ≤ W.heap.size) (hg : gl = W.heap.size) : Kd.R k27 27 (W.alloc (.cells #[.int .i64 x.f0, .int .i64 x.f1] 27)) B (fun _ => True) (.slice (some ⟨gl, 0, none⟩) 1 1) [x] := by
 subst hg; refine ⟨fun _ _ => trivial, [.int .i64 x.f0, .int .i64 x.f1], World.ownsRow_lit (base := B) (e := 27) (size := 2) W #[.int .i64 x.f0, .int .i64 x.f1] 1 hB (by decide) rfl, rfl, fun j p hj => ?_⟩
 cases j with
 | zero => cases hj; exact k27_mkM _ _ _ x
 | succ j => cases hj
structure G6 (X w' : World) (gm gp : Nat) (v : Value) (need : R) : Prop where
 m : IM w' gm []
 p : PM w' gp []
 r : Kd.R k27 27 w' X.heap.size (fun _ => True) v (normR [need])
 ne : gm ≠ gp
 b : Below X.heap.size X w'
 bm : X.heap.size ≤ gm
 bp : X.heap.size ≤ gp
theorem Is.left_grown {w w' : World} {B g gm gp : Nat} {vO vL : Value} {b : Bo} (h : Is w B g gm gp vO vL b) (hg : w.grownBy w' vO.ownBlock) : Kd.R k27 27 w' B (fun _ => True) vL b.left :=
 Kd.R_mono (Kd.R_grown (Kd.R_tight rfl h.left) hg (fun k hk e => by
  obtain ⟨_, _, _, q, hq, cells, hc⟩ := (Kd.R_bound h.oth).1 k e.symm; obtain ⟨_, _, _, q', hq', cells', hc'⟩ := (Kd.R_bound h.left).1 k hk.symm; rw [hc] at hc'; cases hc'; rw [List.mem_singleton.1 hq] at hq'
  exact absurd (List.mem_singleton.1 hq') (by decide))) (fun _ _ => trivial)
/-- What is appended to the others, is stored. -/
theorem Is.appended {w w1 : World} {B g gm gp : Nat} {vO vL v1 : Value} {b : Bo} {oth : List Int} (h : Is w B g gm gp vO vL b) (hg : w.grownBy w1 vO.ownBlock) (hR : Kd.R kI 3 w1 B (fun _ => True) v1 oth) :
  Is (w1.setCell ⟨g, 3, none⟩ v1) B g gm gp v1 vL { b with oth := oth } := by
 have hb1 : w1.heap[g]? = some (.cells (bcells b.own b.need gm gp vO vL) 65 (0, 0)) := (hg.block g (blk_lt h.blk) (Kd.R_ne h.oth h.blk (by decide))).trans h.blk; have hl := h.left_grown hg; have hm := XM.MapIs.kept h.gv hg (row_map h.oth h.gv); have hp := XM.MapIs.kept h.pts hg (row_map h.oth h.pts); refine ⟨blk_set hb1 3 v1, ?_, ?_, XM.MapIs.setCell hm (XM.MapIs.noCells hm hb1) v1, XM.MapIs.setCell hp (XM.MapIs.noCells hp hb1) v1, h.bg, h.bm, h.bp, h.ne⟩
 ·
  exact Kd.R_mono (Kd.R_far (Kd.R_tight rfl hR) (fun k hk e => Kd.R_ne hR hb1 (by decide) (by rw [show g = k from e.symm]; exact hk)) v1) (fun _ _ => trivial)
 ·
  exact Kd.R_mono (Kd.R_far (Kd.R_tight rfl hl) (fun k hk e => Kd.R_ne hl hb1 (by decide) (by rw [show g = k from e.symm]; exact hk)) v1) (fun _ _ => trivial)
theorem new_form (w : World) (V : Int) (An : Option Addr) (cn : Nat) (nodes : List Int) (As : Option Addr) (cs : Nat) (shards : List (List Ow)) (hP : Pl.PlAt w An cn nodes As cs shards) (sh n : Int) (need : R) (hc : Pl.checkP V nodes shards ≠ 0) :
  Calls Tryz.prog 7 #[.agg #[.int .i64 V, .slice An nodes.length cn, .slice As shards.length cs], .int .i64 sh, .int .i64 n, .agg #[.int .i64 need.f0, .int .i64 need.f1]] w fun e w' => e = .returned (.tuple #[.pointer none, .int .i64 50]) ∧ Below w.heap.size w w' := by
 obtain ⟨⟨o, is⟩, hfe⟩ : ∃ q : Ow × Bool, Pl.findP shards sh n = q := ⟨_, rfl⟩
 obtain ⟨ck, hce⟩ : ∃ ck, Pl.checkP V nodes shards = ck := ⟨_, rfl⟩
 have HFE := Lib.hid hfe; have HCE := Lib.hid hce; have HP := Lib.hid hP; clear hP; rw [hce] at hc; have d1 : (ck != 0) = true := bne_iff_ne.2 hc; clear hc hfe hce; go_enter Tryz.func7, Tryz.ntmps7
 go_wp2_with (first
  | ((with_reducible refine gate_dst (N := 4) rfl ?_); refine box_event rfl (N := 4) rfl (cs := #[.int .i64 V, .slice An nodes.length cn, .slice As shards.length cs]) (t := 25) ?hr ?_; (case hr => go_simp; done); intro g4 hg4 X hbox hbX; have HX := Lib.hid (And.intro hg4 (And.intro hbox hbX)); clear hg4 hbox hbX)
  | ((with_reducible refine gate_dst (N := 7) rfl ?_); refine box_event rfl (N := 7) rfl (cs := #[.int .i64 need.f0, .int .i64 need.f1]) (t := 27) ?hr ?_; (case hr => go_simp; done); intro g7 hg7 Y hboy hbY; have HY := Lib.hid (And.intro hg7 (And.intro hboy hbY)); have HG4 := Lib.hid (blk_below HX.out.2.1 hbY); have y0 : Y.cell? ⟨g4, 0, none⟩ = some (.int .i64 V) := (blk_cell HG4.out 0).trans rfl; have y1 : Y.cell? ⟨g4, 1, none⟩ = some (.slice An nodes.length cn) := (blk_cell HG4.out 1).trans rfl; have y2 : Y.cell? ⟨g4, 2, none⟩ = some (.slice As shards.length cs) := (blk_cell HG4.out 2).trans rfl; clear hg7 hboy hbY))
 have HBY := Lib.hid (below_then HX.out.2.2 HX.out.2.2.size HY.out.2.2); have HFD := Lib.hid (Pl.find_calls Y V An cn nodes As cs shards (HP.out.below HBY.out) sh n); rw [HFE.out] at HFD; with_reducible refine HFD.out.mono ?_
 rintro e w1 ⟨rfl, hb1⟩; have HB1 := Lib.hid (below_then HBY.out HBY.out.size hb1); have HG41 := Lib.hid (blk_below HG4.out hb1); have HG71 := Lib.hid (blk_below HY.out.2.1 hb1); clear hb1 y0 y1 y2; unfold Pl.aggO; have y0 : w1.cell? ⟨g4, 0, none⟩ = some (.int .i64 V) := (blk_cell HG41.out 0).trans rfl; have y1 : w1.cell? ⟨g4, 1, none⟩ = some (.slice An nodes.length cn) := (blk_cell HG41.out 1).trans rfl; have y2 : w1.cell? ⟨g4, 2, none⟩ = some (.slice As shards.length cs) := (blk_cell HG41.out 2).trans rfl; have y3 : g4 < w1.heap.size := blk_lt HG41.out; go_wp2_with fail
 obtain ⟨gb, hgb⟩ : ∃ gb, gb = w1.heap.size := ⟨_, rfl⟩
 obtain ⟨Z1, hZ1⟩ : ∃ Z1 : World, Z1 = w1.alloc (.cells #[.int .i64 o.f0, .int .i64 o.f1, .int .i64 o.f2] 57) := ⟨_, rfl⟩
 have hbz1 : Below w1.heap.size w1 Z1 := by rw [hZ1]; exact below_alloc (Below.refl _ _) _
 have HQ := Lib.hid (show Z1.heap[gb]? = some (.cells #[.int .i64 o.f0, .int .i64 o.f1, .int .i64 o.f2] 57 (0, 0)) by rw [hZ1, hgb]; exact blk_new _ _); rw [← hZ1, ← hgb]; have HBZ1 := Lib.hid (below_then HB1.out HB1.out.size hbz1); have HG7Z := Lib.hid (blk_below HG71.out hbz1); clear hgb hZ1 hbz1; have HCK := Lib.hid (Pl.check_calls Z1 V An cn nodes As cs shards (HP.out.below HBZ1.out)); rw [HCE.out] at HCK; with_reducible refine HCK.out.mono ?_
 rintro e w2 ⟨rfl, hb2⟩; have HBW2 := Lib.hid (below_then HBZ1.out HBZ1.out.size hb2); have HG7W := Lib.hid (blk_below HG7Z.out hb2); have HGB := Lib.hid (blk_below HQ.out hb2); clear hb2 y0 y1 y2 y3 HCK HFD HG7Z HG41 HG71 HQ; go_wp2; go_ret2; exact ⟨rfl, HBW2.out⟩
theorem new_nodes (w : World) (V : Int) (An : Option Addr) (cn : Nat) (nodes : List Int) (As : Option Addr) (cs : Nat) (shards : List (List Ow)) (hP : Pl.PlAt w An cn nodes As cs shards) (sh n : Int) (need : R) (hc : Pl.checkP V nodes shards = 0) (ho : Pl.ownsP shards sh n = false) :
  Calls Tryz.prog 7 #[.agg #[.int .i64 V, .slice An nodes.length cn, .slice As shards.length cs], .int .i64 sh, .int .i64 n, .agg #[.int .i64 need.f0, .int .i64 need.f1]] w fun e w' => e = .returned (.tuple #[.pointer none, .int .i64 140]) ∧ Below w.heap.size w w' := by
 obtain ⟨⟨o, is⟩, hfe⟩ : ∃ q : Ow × Bool, Pl.findP shards sh n = q := ⟨_, rfl⟩
 obtain ⟨ck, hce⟩ : ∃ ck, Pl.checkP V nodes shards = ck := ⟨_, rfl⟩
 have HFE := Lib.hid hfe; have HCE := Lib.hid hce; have HP := Lib.hid hP; clear hP; rw [hce] at hc; have d1 : (ck != 0) = false := by rw [hc]; rfl
 unfold Pl.ownsP at ho; rw [hfe] at ho; clear hc hfe hce
 cases is with
 | false =>
  clear ho; go_enter Tryz.func7, Tryz.ntmps7
  go_wp2_with (first
   | ((with_reducible refine gate_dst (N := 4) rfl ?_); refine box_event rfl (N := 4) rfl (cs := #[.int .i64 V, .slice An nodes.length cn, .slice As shards.length cs]) (t := 25) ?hr ?_; (case hr => go_simp; done); intro g4 hg4 X hbox hbX; have HX := Lib.hid (And.intro hg4 (And.intro hbox hbX)); clear hg4 hbox hbX)
   | ((with_reducible refine gate_dst (N := 7) rfl ?_); refine box_event rfl (N := 7) rfl (cs := #[.int .i64 need.f0, .int .i64 need.f1]) (t := 27) ?hr ?_; (case hr => go_simp; done); intro g7 hg7 Y hboy hbY; have HY := Lib.hid (And.intro hg7 (And.intro hboy hbY)); have HG4 := Lib.hid (blk_below HX.out.2.1 hbY); have y0 : Y.cell? ⟨g4, 0, none⟩ = some (.int .i64 V) := (blk_cell HG4.out 0).trans rfl; have y1 : Y.cell? ⟨g4, 1, none⟩ = some (.slice An nodes.length cn) := (blk_cell HG4.out 1).trans rfl; have y2 : Y.cell? ⟨g4, 2, none⟩ = some (.slice As shards.length cs) := (blk_cell HG4.out 2).trans rfl; clear hg7 hboy hbY))
  have HBY := Lib.hid (below_then HX.out.2.2 HX.out.2.2.size HY.out.2.2); have HFD := Lib.hid (Pl.find_calls Y V An cn nodes As cs shards (HP.out.below HBY.out) sh n); rw [HFE.out] at HFD; with_reducible refine HFD.out.mono ?_
  rintro e w1 ⟨rfl, hb1⟩; have HB1 := Lib.hid (below_then HBY.out HBY.out.size hb1); have HG41 := Lib.hid (blk_below HG4.out hb1); have HG71 := Lib.hid (blk_below HY.out.2.1 hb1); clear hb1 y0 y1 y2; unfold Pl.aggO; have y0 : w1.cell? ⟨g4, 0, none⟩ = some (.int .i64 V) := (blk_cell HG41.out 0).trans rfl; have y1 : w1.cell? ⟨g4, 1, none⟩ = some (.slice An nodes.length cn) := (blk_cell HG41.out 1).trans rfl; have y2 : w1.cell? ⟨g4, 2, none⟩ = some (.slice As shards.length cs) := (blk_cell HG41.out 2).trans rfl; have y3 : g4 < w1.heap.size := blk_lt HG41.out; go_wp2_with fail
  obtain ⟨gb, hgb⟩ : ∃ gb, gb = w1.heap.size := ⟨_, rfl⟩
  obtain ⟨Z1, hZ1⟩ : ∃ Z1 : World, Z1 = w1.alloc (.cells #[.int .i64 o.f0, .int .i64 o.f1, .int .i64 o.f2] 57) := ⟨_, rfl⟩
  have hbz1 : Below w1.heap.size w1 Z1 := by rw [hZ1]; exact below_alloc (Below.refl _ _) _
  have HQ := Lib.hid (show Z1.heap[gb]? = some (.cells #[.int .i64 o.f0, .int .i64 o.f1, .int .i64 o.f2] 57 (0, 0)) by rw [hZ1, hgb]; exact blk_new _ _); rw [← hZ1, ← hgb]; have HBZ1 := Lib.hid (below_then HB1.out HB1.out.size hbz1); have HG7Z := Lib.hid (blk_below HG71.out hbz1); clear hgb hZ1 hbz1; have HCK := Lib.hid (Pl.check_calls Z1 V An cn nodes As cs shards (HP.out.below HBZ1.out)); rw [HCE.out] at HCK; with_reducible refine HCK.out.mono ?_
  rintro e w2 ⟨rfl, hb2⟩; have HBW2 := Lib.hid (below_then HBZ1.out HBZ1.out.size hb2); have HG7W := Lib.hid (blk_below HG7Z.out hb2); have HGB := Lib.hid (blk_below HQ.out hb2); clear hb2 y0 y1 y2 y3 HCK HFD HG7Z HG41 HG71 HQ; have t1 : w2.cell? ⟨gb, 1, none⟩ = some (.int .i64 o.f1) := (blk_cell HGB.out 1).trans rfl; go_wp2; go_ret2
  exact ⟨rfl, HBW2.out⟩
 | true =>
  have d2 : (o.f1 == 3) = true := by
   rw [Bool.true_and] at ho; rw [beq_iff_eq]; have := bne_eq_false_iff_eq.1 ho; exact this
  clear ho; go_enter Tryz.func7, Tryz.ntmps7
  go_wp2_with (first
   | ((with_reducible refine gate_dst (N := 4) rfl ?_); refine box_event rfl (N := 4) rfl (cs := #[.int .i64 V, .slice An nodes.length cn, .slice As shards.length cs]) (t := 25) ?hr ?_; (case hr => go_simp; done); intro g4 hg4 X hbox hbX; have HX := Lib.hid (And.intro hg4 (And.intro hbox hbX)); clear hg4 hbox hbX)
   | ((with_reducible refine gate_dst (N := 7) rfl ?_); refine box_event rfl (N := 7) rfl (cs := #[.int .i64 need.f0, .int .i64 need.f1]) (t := 27) ?hr ?_; (case hr => go_simp; done); intro g7 hg7 Y hboy hbY; have HY := Lib.hid (And.intro hg7 (And.intro hboy hbY)); have HG4 := Lib.hid (blk_below HX.out.2.1 hbY); have y0 : Y.cell? ⟨g4, 0, none⟩ = some (.int .i64 V) := (blk_cell HG4.out 0).trans rfl; have y1 : Y.cell? ⟨g4, 1, none⟩ = some (.slice An nodes.length cn) := (blk_cell HG4.out 1).trans rfl; have y2 : Y.cell? ⟨g4, 2, none⟩ = some (.slice As shards.length cs) := (blk_cell HG4.out 2).trans rfl; clear hg7 hboy hbY))
  have HBY := Lib.hid (below_then HX.out.2.2 HX.out.2.2.size HY.out.2.2); have HFD := Lib.hid (Pl.find_calls Y V An cn nodes As cs shards (HP.out.below HBY.out) sh n); rw [HFE.out] at HFD; with_reducible refine HFD.out.mono ?_
  rintro e w1 ⟨rfl, hb1⟩; have HB1 := Lib.hid (below_then HBY.out HBY.out.size hb1); have HG41 := Lib.hid (blk_below HG4.out hb1); have HG71 := Lib.hid (blk_below HY.out.2.1 hb1); clear hb1 y0 y1 y2; unfold Pl.aggO; have y0 : w1.cell? ⟨g4, 0, none⟩ = some (.int .i64 V) := (blk_cell HG41.out 0).trans rfl; have y1 : w1.cell? ⟨g4, 1, none⟩ = some (.slice An nodes.length cn) := (blk_cell HG41.out 1).trans rfl; have y2 : w1.cell? ⟨g4, 2, none⟩ = some (.slice As shards.length cs) := (blk_cell HG41.out 2).trans rfl; have y3 : g4 < w1.heap.size := blk_lt HG41.out; go_wp2_with fail
  obtain ⟨gb, hgb⟩ : ∃ gb, gb = w1.heap.size := ⟨_, rfl⟩
  obtain ⟨Z1, hZ1⟩ : ∃ Z1 : World, Z1 = w1.alloc (.cells #[.int .i64 o.f0, .int .i64 o.f1, .int .i64 o.f2] 57) := ⟨_, rfl⟩
  have hbz1 : Below w1.heap.size w1 Z1 := by rw [hZ1]; exact below_alloc (Below.refl _ _) _
  have HQ := Lib.hid (show Z1.heap[gb]? = some (.cells #[.int .i64 o.f0, .int .i64 o.f1, .int .i64 o.f2] 57 (0, 0)) by rw [hZ1, hgb]; exact blk_new _ _); rw [← hZ1, ← hgb]; have HBZ1 := Lib.hid (below_then HB1.out HB1.out.size hbz1); have HG7Z := Lib.hid (blk_below HG71.out hbz1); clear hgb hZ1 hbz1; have HCK := Lib.hid (Pl.check_calls Z1 V An cn nodes As cs shards (HP.out.below HBZ1.out)); rw [HCE.out] at HCK; with_reducible refine HCK.out.mono ?_
  rintro e w2 ⟨rfl, hb2⟩; have HBW2 := Lib.hid (below_then HBZ1.out HBZ1.out.size hb2); have HG7W := Lib.hid (blk_below HG7Z.out hb2); have HGB := Lib.hid (blk_below HQ.out hb2); clear hb2 y0 y1 y2 y3 HCK HFD HG7Z HG41 HG71 HQ; have t1 : w2.cell? ⟨gb, 1, none⟩ = some (.int .i64 o.f1) := (blk_cell HGB.out 1).trans rfl; go_wp2; go_ret2; exact ⟨rfl, HBW2.out⟩
def New.T6 : Bool × List (List Nat × List Nat) := (true, [([], []), ([], []), ([], []), ([], []), ([3], [3]), ([4], [4]), ([], []), ([0, 1, 2, 5, 6], [0, 1, 2, 5, 6]), ([7], [7]), ([8, 5, 0, 1, 2, 3, 4, 5, 6, 7, 8], [8])])
def New.B6 : List Nat := [0, 0, 0, 0, 8, 24, 0, 127, 255, 511]
theorem New.tab6 : rtab .any (opsOf Tryz.f7 6) = New.T6 := by kernel_rfl
theorem New.bits6 : waitsOk New.T6.2 New.B6 = true := by kernel_rfl
def New.T11 : Bool × List (List Nat × List Nat) := (true, [([], []), ([], []), ([1], [1]), ([2], [2]), ([3], [3]), ([], []), ([5], [5]), ([6], [6]), ([4, 7], [4, 7]), ([0, 0, 1, 2, 3, 4, 5, 6, 7, 8], [0]), ([9, 0, 1, 2, 3, 4, 5, 6, 7, 8], [9]), ([10, 8, 8, 0, 1, 2, 3, 4, 5, 6, 7, 8], [8, 10])])
def New.B11 : List Nat := [0, 0, 2, 6, 14, 0, 32, 96, 254, 511, 1023, 2047]
theorem New.tab11 : rtab .any (opsOf Tryz.f7 11) = New.T11 := by kernel_rfl
theorem New.bits11 : waitsOk New.T11.2 New.B11 = true := by kernel_rfl
theorem new_ok (w : World) (V : Int) (An : Option Addr) (cn : Nat) (nodes : List Int) (As : Option Addr) (cs : Nat) (shards : List (List Ow)) (hP : Pl.PlAt w An cn nodes As cs shards) (sh n : Int) (need : R) (hc : Pl.checkP V nodes shards = 0) (ho : Pl.ownsP shards sh n = true) :
  Calls Tryz.prog 7 #[.agg #[.int .i64 V, .slice An nodes.length cn, .slice As shards.length cs], .int .i64 sh, .int .i64 n, .agg #[.int .i64 need.f0, .int .i64 need.f1]] w fun e w' => ∃ g gm gp vO vL, e = .returned (.tuple #[.pointer (some ⟨g, 0, none⟩), .int .i64 0]) ∧ Is w' w.heap.size g gm gp vO vL ⟨(Pl.findP shards sh n).1, othersL (rd_L4 shards sh) n, [], need, normR [need], []⟩ ∧ Below w.heap.size w w' := by
 have hrf := fun (l : List Ow) (hl : l ∈ shards) => (Pl.check_right hc hl).len
 obtain ⟨⟨o, is⟩, hfe⟩ : ∃ q : Ow × Bool, Pl.findP shards sh n = q := ⟨_, rfl⟩
 obtain ⟨ck, hce⟩ : ∃ ck, Pl.checkP V nodes shards = ck := ⟨_, rfl⟩
 have HFE := Lib.hid hfe; have HCE := Lib.hid hce; have HP := Lib.hid hP; clear hP; rw [hce] at hc; have d1 : (ck != 0) = false := by rw [hc]; rfl
 unfold Pl.ownsP at ho; rw [hfe] at ho ⊢; rw [Bool.and_eq_true] at ho; obtain ⟨ho1, ho2⟩ := ho
 dsimp only at ho1 ho2 ⊢
 subst ho1; have d2 : (o.f1 == 3) = false := beq_eq_false_iff_ne.2 (bne_iff_ne.1 ho2)
 have hin : 0 ≤ sh ∧ sh < (shards.length : Int) := by
  by_cases hh : 0 ≤ sh ∧ sh < (shards.length : Int)
  ·
   exact hh
  ·
   unfold Pl.findP at hfe; rw [if_neg hh] at hfe; cases hfe
 obtain ⟨h0', h1⟩ := hin
 obtain ⟨l, hl⟩ : ∃ l, rd_L4 shards sh = l := ⟨_, rfl⟩
 have hlm : l ∈ shards := by
  rw [← hl]; have : sh.toNat < shards.length := by omega
  unfold rd_L4; rw [List.getD_eq_getElem?_getD, List.getElem?_eq_getElem this]; exact List.getElem_mem this
 have hlen : l.length ≤ 8 := hrf l hlm; rw [hl]; obtain ⟨ad, A1, c1, ead, q0, hc1, hC1⟩ := at_L4 HP.out.hs sh h0' h1; rw [hl] at q0 hC1; cases ead; have HQ0 := Lib.hid q0; have HC1 := Lib.hid hC1; clear q0 hC1 hc1 hlm hl ho2 hc hfe hce hrf; go_enter Tryz.func7, Tryz.ntmps7
 go_wp2_with (first
  | ((with_reducible refine gate_dst (N := 4) rfl ?_); refine box_event rfl (N := 4) rfl (cs := #[.int .i64 V, .slice An nodes.length cn, .slice (some ad) shards.length cs]) (t := 25) ?hr ?_; (case hr => go_simp; done); intro g4 hg4 X hbox hbX; have HX := Lib.hid (And.intro hg4 (And.intro hbox hbX)); clear hg4 hbox hbX)
  | ((with_reducible refine gate_dst (N := 7) rfl ?_); refine box_event rfl (N := 7) rfl (cs := #[.int .i64 need.f0, .int .i64 need.f1]) (t := 27) ?hr ?_; (case hr => go_simp; done); intro g7 hg7 Y hboy hbY; have HY := Lib.hid (And.intro hg7 (And.intro hboy hbY)); have HG4 := Lib.hid (blk_below HX.out.2.1 hbY); have y0 : Y.cell? ⟨g4, 0, none⟩ = some (.int .i64 V) := (blk_cell HG4.out 0).trans rfl; have y1 : Y.cell? ⟨g4, 1, none⟩ = some (.slice An nodes.length cn) := (blk_cell HG4.out 1).trans rfl; have y2 : Y.cell? ⟨g4, 2, none⟩ = some (.slice (some ad) shards.length cs) := (blk_cell HG4.out 2).trans rfl; clear hg7 hboy hbY))
 have HBY := Lib.hid (below_then HX.out.2.2 HX.out.2.2.size HY.out.2.2); have HFD := Lib.hid (Pl.find_calls Y V An cn nodes (some ad) cs shards (HP.out.below HBY.out) sh n); rw [HFE.out] at HFD; with_reducible refine HFD.out.mono ?_
 rintro e w1 ⟨rfl, hb1⟩; have HB1 := Lib.hid (below_then HBY.out HBY.out.size hb1); have HG41 := Lib.hid (blk_below HG4.out hb1); have HG71 := Lib.hid (blk_below HY.out.2.1 hb1); clear hb1 y0 y1 y2; unfold Pl.aggO; have y0 : w1.cell? ⟨g4, 0, none⟩ = some (.int .i64 V) := (blk_cell HG41.out 0).trans rfl; have y1 : w1.cell? ⟨g4, 1, none⟩ = some (.slice An nodes.length cn) := (blk_cell HG41.out 1).trans rfl; have y2 : w1.cell? ⟨g4, 2, none⟩ = some (.slice (some ad) shards.length cs) := (blk_cell HG41.out 2).trans rfl; have y3 : g4 < w1.heap.size := blk_lt HG41.out; go_wp2_with fail
 obtain ⟨gb, hgb⟩ : ∃ gb, gb = w1.heap.size := ⟨_, rfl⟩
 obtain ⟨Z1, hZ1⟩ : ∃ Z1 : World, Z1 = w1.alloc (.cells #[.int .i64 o.f0, .int .i64 o.f1, .int .i64 o.f2] 57) := ⟨_, rfl⟩
 have hbz1 : Below w1.heap.size w1 Z1 := by rw [hZ1]; exact below_alloc (Below.refl _ _) _
 have HQ := Lib.hid (show Z1.heap[gb]? = some (.cells #[.int .i64 o.f0, .int .i64 o.f1, .int .i64 o.f2] 57 (0, 0)) by rw [hZ1, hgb]; exact blk_new _ _); rw [← hZ1, ← hgb]; have HBZ1 := Lib.hid (below_then HB1.out HB1.out.size hbz1); have HG4Z := Lib.hid (blk_below HG41.out hbz1); have HG7Z := Lib.hid (blk_below HG71.out hbz1); clear hgb hZ1 hbz1; have HCK := Lib.hid (Pl.check_calls Z1 V An cn nodes (some ad) cs shards (HP.out.below HBZ1.out)); rw [HCE.out] at HCK; with_reducible refine HCK.out.mono ?_
 rintro e w2 ⟨rfl, hb2⟩; have HBW2 := Lib.hid (below_then HBZ1.out HBZ1.out.size hb2); have HG4W := Lib.hid (blk_below HG4Z.out hb2); have HG7W := Lib.hid (blk_below HG7Z.out hb2); have HGB := Lib.hid (blk_below HQ.out hb2); clear hb2 y0 y1 y2 y3 HCK HFD HG4Z HG7Z HG41 HG71 HQ; have t0 : w2.cell? ⟨gb, 0, none⟩ = some (.int .i64 o.f0) := (blk_cell HGB.out 0).trans rfl; have t1 : w2.cell? ⟨gb, 1, none⟩ = some (.int .i64 o.f1) := (blk_cell HGB.out 1).trans rfl; have t2 : w2.cell? ⟨gb, 2, none⟩ = some (.int .i64 o.f2) := (blk_cell HGB.out 2).trans rfl; have z0 : w2.cell? ⟨g7, 0, none⟩ = some (.int .i64 need.f0) := (blk_cell HG7W.out 0).trans rfl; have z1 : w2.cell? ⟨g7, 1, none⟩ = some (.int .i64 need.f1) := (blk_cell HG7W.out 1).trans rfl; go_wp2_with fail
 refine start_ (n := 10) (S := fun w' => w'.cell? ⟨gb, 0, none⟩ = some (.int .i64 o.f0) ∧ w'.cell? ⟨gb, 1, none⟩ = some (.int .i64 o.f1) ∧ w'.cell? ⟨gb, 2, none⟩ = some (.int .i64 o.f2) ∧ w'.cell? ⟨g7, 0, none⟩ = some (.int .i64 need.f0) ∧ w'.cell? ⟨g7, 1, none⟩ = some (.int .i64 need.f1)) (ds := [8]) (bs 10 0) (by kernel_rfl) rfl rfl ⟨t0, t1, t2, z0, z1⟩ (fun hHeld => ?_); refine with_tabW New.tab6 New.bits6 (fun HT_ HW_ => ?_); apply tb 0 34 (bs 10 1) HT_ HW_ hHeld; rfl; rfl; kernel_rfl; exact qq; rfl; rintro w' ⟨s0, s1, s2, s3, s4⟩; go_simp; with_reducible rfl; simp only [zz]; rfl
 apply tb 2 36 (bs 10 5) HT_ HW_ hHeld; rfl; rfl; kernel_rfl; exact qq; rfl; rintro w' ⟨s0, s1, s2, s3, s4⟩; go_simp; with_reducible rfl; simp only [zz]; rfl
 apply tb 3 37 (bs 10 13) HT_ HW_ hHeld; rfl; rfl; kernel_rfl; exact qq; rfl; rintro w' ⟨s0, s1, s2, s3, s4⟩; go_simp; with_reducible rfl; simp only [zz]; rfl
 refine join_ (σ := Nat × Nat × Value × Value) 3 (bs 10 127) (fun s => [(35, .map (some s.1)), (38, s.2.2.1), (39, s.2.2.2), (40, .map (some s.2.1))]) (fun s w' => G6 w2 w' s.1 s.2.1 s.2.2.2 need) ?_ ?_; rotate_left
 ·
  intro hCont; refine three_ (i := 1) (j := 4) (k := 6) (Ni := some 35) (Nj := some 38) (Nk := some 40) (bs 10 15) (bs 10 29) (bs 10 77) rfl rfl rfl rfl rfl rfl (three_of HT_.out (by kernel_rfl)) (by decide) (by decide) (by decide) (fun K hK => ?_) (fun K hK => ?_) (fun K hK => ?_)
  ·
   skip
   refine value_ (w1 := (w2.drew).alloc (.map #[] 0)) (v := .map (some (w2.drew).heap.size)) (by rfl) rfl (by rfl) ?_
   obtain ⟨W1, hA⟩ : ∃ W1 : World, W1 = w2.drew.alloc (.map #[] 0) := ⟨_, rfl⟩
   obtain ⟨gm, hG⟩ : ∃ gm, gm = w2.drew.heap.size := ⟨_, rfl⟩
   have hbb : Below w2.heap.size w2 W1 := by rw [hA]; exact below_alloc (below_drew (Below.refl _ _)) _
   have hge : w2.heap.size ≤ w2.heap.size := Nat.le_refl _; have hnew : IM W1 gm [] := by rw [hA, hG]; exact XM.MapIs.made Tryz.prog 3 ekI evU _
   rw [← hA, ← hG]; have HM := Lib.hid hnew; have HMG := Lib.hid (show w2.heap.size ≤ gm from Nat.le_of_eq hG.symm); have HB6 := Lib.hid hbb; clear hnew hbb hge hA hG; refine hK.out _ _ ⟨pw_cell_below HB6.out t0, pw_cell_below HB6.out t1, pw_cell_below HB6.out t2, pw_cell_below HB6.out z0, pw_cell_below HB6.out z1⟩ (fun hHeld => ?_); clear hK K; refine norm_ (a' := ?_) ?_ ?_; rotate_left
   ·
    show Act.put _ (some 35) _ = _; simp only [Act.put, List.setIfInBounds_toArray, List.set_cons_zero, List.set_cons_succ, i64_w, i32_w]; rfl
   refine two_ (i := 4) (j := 6) (Ni := some 38) (Nj := some 40) (bs 10 31) (bs 10 79) rfl rfl rfl rfl (two_of HT_.out (by kernel_rfl)) (by decide) (by decide) (fun K hK => ?_) (fun K hK => ?_)
   ·
    skip
    refine value_ (w1 := ?_) (v := ?_) (by rfl) rfl ?_ ?_; rotate_left 2
    ·
     go_simp
     constructor
     ·
      rfl
     ·
      rfl
    obtain ⟨W2, hA⟩ : ∃ W2 : World, W2 = W1.alloc (.cells #[.int .i64 need.f0, .int .i64 need.f1] 27) := ⟨_, rfl⟩
    obtain ⟨gl, hG⟩ : ∃ gl, gl = W1.heap.size := ⟨_, rfl⟩
    have hbb : Below W1.heap.size W1 W2 := by rw [hA]; exact below_alloc (Below.refl _ _) _
    have hge : w2.heap.size ≤ W1.heap.size := HB6.out.size; have hnew : Kd.R k27 27 W2 w2.heap.size (fun _ => True) (.slice (some ⟨gl, 0, none⟩) 1 1) [need] := by rw [hA]; exact R_one29 W1 need w2.heap.size gl hge hG
    rw [← hA, ← hG]; have HM := Lib.hid (XM.MapIs.below HM.out hbb); have HL := Lib.hid hnew; have HB6 := Lib.hid (below_then HB6.out HB6.out.size hbb); clear hnew hbb hge hA hG; refine hK.out _ _ ⟨pw_cell_below HB6.out t0, pw_cell_below HB6.out t1, pw_cell_below HB6.out t2, pw_cell_below HB6.out z0, pw_cell_below HB6.out z1⟩ (fun hHeld => ?_); clear hK K; refine norm_ (a' := ?_) ?_ ?_; rotate_left
    ·
     show Act.put _ (some 38) _ = _; simp only [Act.put, List.setIfInBounds_toArray, List.set_cons_zero, List.set_cons_succ, i64_w, i32_w]; rfl
    refine two_ (i := 5) (j := 6) (Ni := some 39) (Nj := some 40) (bs 10 63) (bs 10 95) rfl rfl rfl rfl (two_of HT_.out (by kernel_rfl)) (by decide) (by decide) (fun K hK => ?_) (fun K hK => ?_)
    ·
     skip
     have HNM := Lib.hid (show Calls Tryz.prog 26 #[.slice (some ⟨gl, 0, none⟩) 1 1] W2 _ from Rg.normal_calls W2 (some ⟨gl, 0, none⟩) 1 [need] (Kd.R_reads' HL.out).2.2 (Nat.le_refl _) (by simp)); have hge : w2.heap.size ≤ W2.heap.size := HB6.out.size; refine goes_ Tryz.func26 (by kernel_rfl) rfl #[.slice (some ⟨gl, 0, none⟩) 1 1] (by rfl) rfl rfl (by simp only [List.map_toArray, List.map_cons, List.map_nil]; rfl) ?_; with_reducible refine (HNM.out).mono ?_
     rintro e W3 ⟨v5, rfl, hR5, hbb⟩; refine ⟨_, rfl, ?_⟩; have HM := Lib.hid (XM.MapIs.below HM.out hbb); have HL := Lib.hid (Kd.R_below HL.out hbb); have HR := Lib.hid (Kd.R_lower hR5 hge); have HB6 := Lib.hid (below_then HB6.out HB6.out.size hbb); clear hR5 hbb HNM hge; refine hK.out _ _ ⟨pw_cell_below HB6.out t0, pw_cell_below HB6.out t1, pw_cell_below HB6.out t2, pw_cell_below HB6.out z0, pw_cell_below HB6.out z1⟩ (fun hHeld => ?_); clear hK K; refine norm_ (a' := ?_) ?_ ?_; rotate_left
     ·
      show Act.put _ (some 39) _ = _; simp only [Act.put, List.setIfInBounds_toArray, List.set_cons_zero, List.set_cons_succ, i64_w, i32_w]; rfl
     refine one_ (i := 6) (N := some 40) (bs 10 127) rfl rfl (one_of HT_.out (by kernel_rfl)) (by decide) (fun K hK => ?_); refine value_ (w1 := (W3).alloc (.map #[] 0)) (v := .map (some (W3).heap.size)) (by rfl) rfl (by rfl) ?_
     obtain ⟨W4, hA⟩ : ∃ W4 : World, W4 = W3.alloc (.map #[] 0) := ⟨_, rfl⟩
     obtain ⟨gp, hG⟩ : ∃ gp, gp = W3.heap.size := ⟨_, rfl⟩
     have hbb : Below W3.heap.size W3 W4 := by rw [hA]; exact below_alloc (Below.refl _ _) _
     have hge : w2.heap.size ≤ W3.heap.size := HB6.out.size; have hnew : PM W4 gp [] := by rw [hA, hG]; exact XM.MapIs.made Tryz.prog 9 ekS evV _
     have HNE := Lib.hid (show gm ≠ gp from by have h1 := XM.MapIs.lt HM.out; omega); rw [← hA, ← hG]; have HM := Lib.hid (XM.MapIs.below HM.out hbb); have HL := Lib.hid (Kd.R_below HL.out hbb); have HR := Lib.hid (Kd.R_below HR.out hbb); have HPm := Lib.hid hnew; have HPG := Lib.hid (show w2.heap.size ≤ gp from by omega); have HB6 := Lib.hid (below_then HB6.out HB6.out.size hbb); clear hnew hbb hge hA hG; refine hK.out _ _ ⟨pw_cell_below HB6.out t0, pw_cell_below HB6.out t1, pw_cell_below HB6.out t2, pw_cell_below HB6.out z0, pw_cell_below HB6.out z1⟩ (fun hHeld => ?_); clear hK K; refine norm_ (a' := ?_) ?_ ?_; rotate_left
     ·
      show Act.put _ (some 40) _ = _; simp only [Act.put, List.setIfInBounds_toArray, List.set_cons_zero, List.set_cons_succ, i64_w, i32_w]; rfl
     exact norm_ (by simp only [putAll, Act.put, List.setIfInBounds_toArray, List.set_cons_zero, List.set_cons_succ]) (hCont (gm, gp, .slice (some ⟨gl, 0, none⟩) 1 1, v5) _ ⟨HM.out, HPm.out, HR.out, HNE.out, HB6.out, HMG.out, HPG.out⟩)
    ·
     skip
     refine value_ (w1 := (W2).alloc (.map #[] 0)) (v := .map (some (W2).heap.size)) (by rfl) rfl (by rfl) ?_
     obtain ⟨W3, hA⟩ : ∃ W3 : World, W3 = W2.alloc (.map #[] 0) := ⟨_, rfl⟩
     obtain ⟨gp, hG⟩ : ∃ gp, gp = W2.heap.size := ⟨_, rfl⟩
     have hbb : Below W2.heap.size W2 W3 := by rw [hA]; exact below_alloc (Below.refl _ _) _
     have hge : w2.heap.size ≤ W2.heap.size := HB6.out.size; have hnew : PM W3 gp [] := by rw [hA, hG]; exact XM.MapIs.made Tryz.prog 9 ekS evV _
     have HNE := Lib.hid (show gm ≠ gp from by have h1 := XM.MapIs.lt HM.out; omega); rw [← hA, ← hG]; have HM := Lib.hid (XM.MapIs.below HM.out hbb); have HL := Lib.hid (Kd.R_below HL.out hbb); have HPm := Lib.hid hnew; have HPG := Lib.hid (show w2.heap.size ≤ gp from by omega); have HB6 := Lib.hid (below_then HB6.out HB6.out.size hbb); clear hnew hbb hge hA hG; refine hK.out _ _ ⟨pw_cell_below HB6.out t0, pw_cell_below HB6.out t1, pw_cell_below HB6.out t2, pw_cell_below HB6.out z0, pw_cell_below HB6.out z1⟩ (fun hHeld => ?_); clear hK K; refine norm_ (a' := ?_) ?_ ?_; rotate_left
     ·
      show Act.put _ (some 40) _ = _; simp only [Act.put, List.setIfInBounds_toArray, List.set_cons_zero, List.set_cons_succ, i64_w, i32_w]; rfl
     refine one_ (i := 5) (N := some 39) (bs 10 127) rfl rfl (one_of HT_.out (by kernel_rfl)) (by decide) (fun K hK => ?_); have HNM := Lib.hid (show Calls Tryz.prog 26 #[.slice (some ⟨gl, 0, none⟩) 1 1] W3 _ from Rg.normal_calls W3 (some ⟨gl, 0, none⟩) 1 [need] (Kd.R_reads' HL.out).2.2 (Nat.le_refl _) (by simp)); have hge : w2.heap.size ≤ W3.heap.size := HB6.out.size; refine goes_ Tryz.func26 (by kernel_rfl) rfl #[.slice (some ⟨gl, 0, none⟩) 1 1] (by rfl) rfl rfl (by simp only [List.map_toArray, List.map_cons, List.map_nil]; rfl) ?_; with_reducible refine (HNM.out).mono ?_
     rintro e W4 ⟨v5, rfl, hR5, hbb⟩; refine ⟨_, rfl, ?_⟩; have HM := Lib.hid (XM.MapIs.below HM.out hbb); have HPm := Lib.hid (XM.MapIs.below HPm.out hbb); have HL := Lib.hid (Kd.R_below HL.out hbb); have HR := Lib.hid (Kd.R_lower hR5 hge); have HB6 := Lib.hid (below_then HB6.out HB6.out.size hbb); clear hR5 hbb HNM hge; refine hK.out _ _ ⟨pw_cell_below HB6.out t0, pw_cell_below HB6.out t1, pw_cell_below HB6.out t2, pw_cell_below HB6.out z0, pw_cell_below HB6.out z1⟩ (fun hHeld => ?_); clear hK K; refine norm_ (a' := ?_) ?_ ?_; rotate_left
     ·
      show Act.put _ (some 39) _ = _; simp only [Act.put, List.setIfInBounds_toArray, List.set_cons_zero, List.set_cons_succ, i64_w, i32_w]; rfl
     exact norm_ (by simp only [putAll, Act.put, List.setIfInBounds_toArray, List.set_cons_zero, List.set_cons_succ]) (hCont (gm, gp, .slice (some ⟨gl, 0, none⟩) 1 1, v5) _ ⟨HM.out, HPm.out, HR.out, HNE.out, HB6.out, HMG.out, HPG.out⟩)
   ·
    skip
    refine value_ (w1 := (W1).alloc (.map #[] 0)) (v := .map (some (W1).heap.size)) (by rfl) rfl (by rfl) ?_
    obtain ⟨W2, hA⟩ : ∃ W2 : World, W2 = W1.alloc (.map #[] 0) := ⟨_, rfl⟩
    obtain ⟨gp, hG⟩ : ∃ gp, gp = W1.heap.size := ⟨_, rfl⟩
    have hbb : Below W1.heap.size W1 W2 := by rw [hA]; exact below_alloc (Below.refl _ _) _
    have hge : w2.heap.size ≤ W1.heap.size := HB6.out.size; have hnew : PM W2 gp [] := by rw [hA, hG]; exact XM.MapIs.made Tryz.prog 9 ekS evV _
    have HNE := Lib.hid (show gm ≠ gp from by have h1 := XM.MapIs.lt HM.out; omega); rw [← hA, ← hG]; have HM := Lib.hid (XM.MapIs.below HM.out hbb); have HPm := Lib.hid hnew; have HPG := Lib.hid (show w2.heap.size ≤ gp from by omega); have HB6 := Lib.hid (below_then HB6.out HB6.out.size hbb); clear hnew hbb hge hA hG; refine hK.out _ _ ⟨pw_cell_below HB6.out t0, pw_cell_below HB6.out t1, pw_cell_below HB6.out t2, pw_cell_below HB6.out z0, pw_cell_below HB6.out z1⟩ (fun hHeld => ?_); clear hK K; refine norm_ (a' := ?_) ?_ ?_; rotate_left
    ·
     show Act.put _ (some 40) _ = _; simp only [Act.put, List.setIfInBounds_toArray, List.set_cons_zero, List.set_cons_succ, i64_w, i32_w]; rfl
    refine one_ (i := 4) (N := some 38) (bs 10 95) rfl rfl (one_of HT_.out (by kernel_rfl)) (by decide) (fun K hK => ?_); refine value_ (w1 := ?_) (v := ?_) (by rfl) rfl ?_ ?_; rotate_left 2
    ·
     go_simp
     constructor
     ·
      rfl
     ·
      rfl
    obtain ⟨W3, hA⟩ : ∃ W3 : World, W3 = W2.alloc (.cells #[.int .i64 need.f0, .int .i64 need.f1] 27) := ⟨_, rfl⟩
    obtain ⟨gl, hG⟩ : ∃ gl, gl = W2.heap.size := ⟨_, rfl⟩
    have hbb : Below W2.heap.size W2 W3 := by rw [hA]; exact below_alloc (Below.refl _ _) _
    have hge : w2.heap.size ≤ W2.heap.size := HB6.out.size; have hnew : Kd.R k27 27 W3 w2.heap.size (fun _ => True) (.slice (some ⟨gl, 0, none⟩) 1 1) [need] := by rw [hA]; exact R_one29 W2 need w2.heap.size gl hge hG
    rw [← hA, ← hG]; have HM := Lib.hid (XM.MapIs.below HM.out hbb); have HPm := Lib.hid (XM.MapIs.below HPm.out hbb); have HL := Lib.hid hnew; have HB6 := Lib.hid (below_then HB6.out HB6.out.size hbb); clear hnew hbb hge hA hG; refine hK.out _ _ ⟨pw_cell_below HB6.out t0, pw_cell_below HB6.out t1, pw_cell_below HB6.out t2, pw_cell_below HB6.out z0, pw_cell_below HB6.out z1⟩ (fun hHeld => ?_); clear hK K; refine norm_ (a' := ?_) ?_ ?_; rotate_left
    ·
     show Act.put _ (some 38) _ = _; simp only [Act.put, List.setIfInBounds_toArray, List.set_cons_zero, List.set_cons_succ, i64_w, i32_w]; rfl
    refine one_ (i := 5) (N := some 39) (bs 10 127) rfl rfl (one_of HT_.out (by kernel_rfl)) (by decide) (fun K hK => ?_); have HNM := Lib.hid (show Calls Tryz.prog 26 #[.slice (some ⟨gl, 0, none⟩) 1 1] W3 _ from Rg.normal_calls W3 (some ⟨gl, 0, none⟩) 1 [need] (Kd.R_reads' HL.out).2.2 (Nat.le_refl _) (by simp)); have hge : w2.heap.size ≤ W3.heap.size := HB6.out.size; refine goes_ Tryz.func26 (by kernel_rfl) rfl #[.slice (some ⟨gl, 0, none⟩) 1 1] (by rfl) rfl rfl (by simp only [List.map_toArray, List.map_cons, List.map_nil]; rfl) ?_; with_reducible refine (HNM.out).mono ?_
    rintro e W4 ⟨v5, rfl, hR5, hbb⟩; refine ⟨_, rfl, ?_⟩; have HM := Lib.hid (XM.MapIs.below HM.out hbb); have HPm := Lib.hid (XM.MapIs.below HPm.out hbb); have HL := Lib.hid (Kd.R_below HL.out hbb); have HR := Lib.hid (Kd.R_lower hR5 hge); have HB6 := Lib.hid (below_then HB6.out HB6.out.size hbb); clear hR5 hbb HNM hge; refine hK.out _ _ ⟨pw_cell_below HB6.out t0, pw_cell_below HB6.out t1, pw_cell_below HB6.out t2, pw_cell_below HB6.out z0, pw_cell_below HB6.out z1⟩ (fun hHeld => ?_); clear hK K; refine norm_ (a' := ?_) ?_ ?_; rotate_left
    ·
     show Act.put _ (some 39) _ = _; simp only [Act.put, List.setIfInBounds_toArray, List.set_cons_zero, List.set_cons_succ, i64_w, i32_w]; rfl
    exact norm_ (by simp only [putAll, Act.put, List.setIfInBounds_toArray, List.set_cons_zero, List.set_cons_succ]) (hCont (gm, gp, .slice (some ⟨gl, 0, none⟩) 1 1, v5) _ ⟨HM.out, HPm.out, HR.out, HNE.out, HB6.out, HMG.out, HPG.out⟩)
  ·
   skip
   refine value_ (w1 := ?_) (v := ?_) (by rfl) rfl ?_ ?_; rotate_left 2
   ·
    go_simp
    constructor
    ·
     rfl
    ·
     rfl
   obtain ⟨W1, hA⟩ : ∃ W1 : World, W1 = (w2.alloc (.cells #[.int .i64 need.f0, .int .i64 need.f1] 27)).drew := ⟨_, rfl⟩
   obtain ⟨gl, hG⟩ : ∃ gl, gl = w2.heap.size := ⟨_, rfl⟩
   have hbb : Below w2.heap.size w2 W1 := by rw [hA]; exact below_drew (below_alloc (Below.refl _ _) _)
   have hge : w2.heap.size ≤ w2.heap.size := Nat.le_refl _; have hnew : Kd.R k27 27 W1 w2.heap.size (fun _ => True) (.slice (some ⟨gl, 0, none⟩) 1 1) [need] := by rw [hA]; exact Kd.R_drew (R_one29 w2 need w2.heap.size gl hge hG)
   rw [← hA, ← hG]; have HL := Lib.hid hnew; have HB6 := Lib.hid hbb; clear hnew hbb hge hA hG; refine hK.out _ _ ⟨pw_cell_below HB6.out t0, pw_cell_below HB6.out t1, pw_cell_below HB6.out t2, pw_cell_below HB6.out z0, pw_cell_below HB6.out z1⟩ (fun hHeld => ?_); clear hK K; refine norm_ (a' := ?_) ?_ ?_; rotate_left
   ·
    show Act.put _ (some 38) _ = _; simp only [Act.put, List.setIfInBounds_toArray, List.set_cons_zero, List.set_cons_succ, i64_w, i32_w]; rfl
   refine three_ (i := 1) (j := 5) (k := 6) (Ni := some 35) (Nj := some 39) (Nk := some 40) (bs 10 31) (bs 10 61) (bs 10 93) rfl rfl rfl rfl rfl rfl (three_of HT_.out (by kernel_rfl)) (by decide) (by decide) (by decide) (fun K hK => ?_) (fun K hK => ?_) (fun K hK => ?_)
   ·
    skip
    refine value_ (w1 := (W1).alloc (.map #[] 0)) (v := .map (some (W1).heap.size)) (by rfl) rfl (by rfl) ?_
    obtain ⟨W2, hA⟩ : ∃ W2 : World, W2 = W1.alloc (.map #[] 0) := ⟨_, rfl⟩
    obtain ⟨gm, hG⟩ : ∃ gm, gm = W1.heap.size := ⟨_, rfl⟩
    have hbb : Below W1.heap.size W1 W2 := by rw [hA]; exact below_alloc (Below.refl _ _) _
    have hge : w2.heap.size ≤ W1.heap.size := HB6.out.size; have hnew : IM W2 gm [] := by rw [hA, hG]; exact XM.MapIs.made Tryz.prog 3 ekI evU _
    rw [← hA, ← hG]; have HL := Lib.hid (Kd.R_below HL.out hbb); have HM := Lib.hid hnew; have HMG := Lib.hid (show w2.heap.size ≤ gm from by omega); have HB6 := Lib.hid (below_then HB6.out HB6.out.size hbb); clear hnew hbb hge hA hG; refine hK.out _ _ ⟨pw_cell_below HB6.out t0, pw_cell_below HB6.out t1, pw_cell_below HB6.out t2, pw_cell_below HB6.out z0, pw_cell_below HB6.out z1⟩ (fun hHeld => ?_); clear hK K; refine norm_ (a' := ?_) ?_ ?_; rotate_left
    ·
     show Act.put _ (some 35) _ = _; simp only [Act.put, List.setIfInBounds_toArray, List.set_cons_zero, List.set_cons_succ, i64_w, i32_w]; rfl
    refine two_ (i := 5) (j := 6) (Ni := some 39) (Nj := some 40) (bs 10 63) (bs 10 95) rfl rfl rfl rfl (two_of HT_.out (by kernel_rfl)) (by decide) (by decide) (fun K hK => ?_) (fun K hK => ?_)
    ·
     skip
     have HNM := Lib.hid (show Calls Tryz.prog 26 #[.slice (some ⟨gl, 0, none⟩) 1 1] W2 _ from Rg.normal_calls W2 (some ⟨gl, 0, none⟩) 1 [need] (Kd.R_reads' HL.out).2.2 (Nat.le_refl _) (by simp)); have hge : w2.heap.size ≤ W2.heap.size := HB6.out.size; refine goes_ Tryz.func26 (by kernel_rfl) rfl #[.slice (some ⟨gl, 0, none⟩) 1 1] (by rfl) rfl rfl (by simp only [List.map_toArray, List.map_cons, List.map_nil]; rfl) ?_; with_reducible refine (HNM.out).mono ?_
     rintro e W3 ⟨v5, rfl, hR5, hbb⟩; refine ⟨_, rfl, ?_⟩; have HM := Lib.hid (XM.MapIs.below HM.out hbb); have HL := Lib.hid (Kd.R_below HL.out hbb); have HR := Lib.hid (Kd.R_lower hR5 hge); have HB6 := Lib.hid (below_then HB6.out HB6.out.size hbb); clear hR5 hbb HNM hge; refine hK.out _ _ ⟨pw_cell_below HB6.out t0, pw_cell_below HB6.out t1, pw_cell_below HB6.out t2, pw_cell_below HB6.out z0, pw_cell_below HB6.out z1⟩ (fun hHeld => ?_); clear hK K; refine norm_ (a' := ?_) ?_ ?_; rotate_left
     ·
      show Act.put _ (some 39) _ = _; simp only [Act.put, List.setIfInBounds_toArray, List.set_cons_zero, List.set_cons_succ, i64_w, i32_w]; rfl
     refine one_ (i := 6) (N := some 40) (bs 10 127) rfl rfl (one_of HT_.out (by kernel_rfl)) (by decide) (fun K hK => ?_); refine value_ (w1 := (W3).alloc (.map #[] 0)) (v := .map (some (W3).heap.size)) (by rfl) rfl (by rfl) ?_
     obtain ⟨W4, hA⟩ : ∃ W4 : World, W4 = W3.alloc (.map #[] 0) := ⟨_, rfl⟩
     obtain ⟨gp, hG⟩ : ∃ gp, gp = W3.heap.size := ⟨_, rfl⟩
     have hbb : Below W3.heap.size W3 W4 := by rw [hA]; exact below_alloc (Below.refl _ _) _
     have hge : w2.heap.size ≤ W3.heap.size := HB6.out.size; have hnew : PM W4 gp [] := by rw [hA, hG]; exact XM.MapIs.made Tryz.prog 9 ekS evV _
     have HNE := Lib.hid (show gm ≠ gp from by have h1 := XM.MapIs.lt HM.out; omega); rw [← hA, ← hG]; have HM := Lib.hid (XM.MapIs.below HM.out hbb); have HL := Lib.hid (Kd.R_below HL.out hbb); have HR := Lib.hid (Kd.R_below HR.out hbb); have HPm := Lib.hid hnew; have HPG := Lib.hid (show w2.heap.size ≤ gp from by omega); have HB6 := Lib.hid (below_then HB6.out HB6.out.size hbb); clear hnew hbb hge hA hG; refine hK.out _ _ ⟨pw_cell_below HB6.out t0, pw_cell_below HB6.out t1, pw_cell_below HB6.out t2, pw_cell_below HB6.out z0, pw_cell_below HB6.out z1⟩ (fun hHeld => ?_); clear hK K; refine norm_ (a' := ?_) ?_ ?_; rotate_left
     ·
      show Act.put _ (some 40) _ = _; simp only [Act.put, List.setIfInBounds_toArray, List.set_cons_zero, List.set_cons_succ, i64_w, i32_w]; rfl
     exact norm_ (by simp only [putAll, Act.put, List.setIfInBounds_toArray, List.set_cons_zero, List.set_cons_succ]) (hCont (gm, gp, .slice (some ⟨gl, 0, none⟩) 1 1, v5) _ ⟨HM.out, HPm.out, HR.out, HNE.out, HB6.out, HMG.out, HPG.out⟩)
    ·
     skip
     refine value_ (w1 := (W2).alloc (.map #[] 0)) (v := .map (some (W2).heap.size)) (by rfl) rfl (by rfl) ?_
     obtain ⟨W3, hA⟩ : ∃ W3 : World, W3 = W2.alloc (.map #[] 0) := ⟨_, rfl⟩
     obtain ⟨gp, hG⟩ : ∃ gp, gp = W2.heap.size := ⟨_, rfl⟩
     have hbb : Below W2.heap.size W2 W3 := by rw [hA]; exact below_alloc (Below.refl _ _) _
     have hge : w2.heap.size ≤ W2.heap.size := HB6.out.size; have hnew : PM W3 gp [] := by rw [hA, hG]; exact XM.MapIs.made Tryz.prog 9 ekS evV _
     have HNE := Lib.hid (show gm ≠ gp from by have h1 := XM.MapIs.lt HM.out; omega); rw [← hA, ← hG]; have HM := Lib.hid (XM.MapIs.below HM.out hbb); have HL := Lib.hid (Kd.R_below HL.out hbb); have HPm := Lib.hid hnew; have HPG := Lib.hid (show w2.heap.size ≤ gp from by omega); have HB6 := Lib.hid (below_then HB6.out HB6.out.size hbb); clear hnew hbb hge hA hG; refine hK.out _ _ ⟨pw_cell_below HB6.out t0, pw_cell_below HB6.out t1, pw_cell_below HB6.out t2, pw_cell_below HB6.out z0, pw_cell_below HB6.out z1⟩ (fun hHeld => ?_); clear hK K; refine norm_ (a' := ?_) ?_ ?_; rotate_left
     ·
      show Act.put _ (some 40) _ = _; simp only [Act.put, List.setIfInBounds_toArray, List.set_cons_zero, List.set_cons_succ, i64_w, i32_w]; rfl
     refine one_ (i := 5) (N := some 39) (bs 10 127) rfl rfl (one_of HT_.out (by kernel_rfl)) (by decide) (fun K hK => ?_); have HNM := Lib.hid (show Calls Tryz.prog 26 #[.slice (some ⟨gl, 0, none⟩) 1 1] W3 _ from Rg.normal_calls W3 (some ⟨gl, 0, none⟩) 1 [need] (Kd.R_reads' HL.out).2.2 (Nat.le_refl _) (by simp)); have hge : w2.heap.size ≤ W3.heap.size := HB6.out.size; refine goes_ Tryz.func26 (by kernel_rfl) rfl #[.slice (some ⟨gl, 0, none⟩) 1 1] (by rfl) rfl rfl (by simp only [List.map_toArray, List.map_cons, List.map_nil]; rfl) ?_; with_reducible refine (HNM.out).mono ?_
     rintro e W4 ⟨v5, rfl, hR5, hbb⟩; refine ⟨_, rfl, ?_⟩; have HM := Lib.hid (XM.MapIs.below HM.out hbb); have HPm := Lib.hid (XM.MapIs.below HPm.out hbb); have HL := Lib.hid (Kd.R_below HL.out hbb); have HR := Lib.hid (Kd.R_lower hR5 hge); have HB6 := Lib.hid (below_then HB6.out HB6.out.size hbb); clear hR5 hbb HNM hge; refine hK.out _ _ ⟨pw_cell_below HB6.out t0, pw_cell_below HB6.out t1, pw_cell_below HB6.out t2, pw_cell_below HB6.out z0, pw_cell_below HB6.out z1⟩ (fun hHeld => ?_); clear hK K; refine norm_ (a' := ?_) ?_ ?_; rotate_left
     ·
      show Act.put _ (some 39) _ = _; simp only [Act.put, List.setIfInBounds_toArray, List.set_cons_zero, List.set_cons_succ, i64_w, i32_w]; rfl
     exact norm_ (by simp only [putAll, Act.put, List.setIfInBounds_toArray, List.set_cons_zero, List.set_cons_succ]) (hCont (gm, gp, .slice (some ⟨gl, 0, none⟩) 1 1, v5) _ ⟨HM.out, HPm.out, HR.out, HNE.out, HB6.out, HMG.out, HPG.out⟩)
   ·
    skip
    have HNM := Lib.hid (show Calls Tryz.prog 26 #[.slice (some ⟨gl, 0, none⟩) 1 1] W1 _ from Rg.normal_calls W1 (some ⟨gl, 0, none⟩) 1 [need] (Kd.R_reads' HL.out).2.2 (Nat.le_refl _) (by simp)); have hge : w2.heap.size ≤ W1.heap.size := HB6.out.size; refine goes_ Tryz.func26 (by kernel_rfl) rfl #[.slice (some ⟨gl, 0, none⟩) 1 1] (by rfl) rfl rfl (by simp only [List.map_toArray, List.map_cons, List.map_nil]; rfl) ?_; with_reducible refine (HNM.out).mono ?_
    rintro e W2 ⟨v5, rfl, hR5, hbb⟩; refine ⟨_, rfl, ?_⟩; have HL := Lib.hid (Kd.R_below HL.out hbb); have HR := Lib.hid (Kd.R_lower hR5 hge); have HB6 := Lib.hid (below_then HB6.out HB6.out.size hbb); clear hR5 hbb HNM hge; refine hK.out _ _ ⟨pw_cell_below HB6.out t0, pw_cell_below HB6.out t1, pw_cell_below HB6.out t2, pw_cell_below HB6.out z0, pw_cell_below HB6.out z1⟩ (fun hHeld => ?_); clear hK K; refine norm_ (a' := ?_) ?_ ?_; rotate_left
    ·
     show Act.put _ (some 39) _ = _; simp only [Act.put, List.setIfInBounds_toArray, List.set_cons_zero, List.set_cons_succ, i64_w, i32_w]; rfl
    refine two_ (i := 1) (j := 6) (Ni := some 35) (Nj := some 40) (bs 10 63) (bs 10 125) rfl rfl rfl rfl (two_of HT_.out (by kernel_rfl)) (by decide) (by decide) (fun K hK => ?_) (fun K hK => ?_)
    ·
     skip
     refine value_ (w1 := (W2).alloc (.map #[] 0)) (v := .map (some (W2).heap.size)) (by rfl) rfl (by rfl) ?_
     obtain ⟨W3, hA⟩ : ∃ W3 : World, W3 = W2.alloc (.map #[] 0) := ⟨_, rfl⟩
     obtain ⟨gm, hG⟩ : ∃ gm, gm = W2.heap.size := ⟨_, rfl⟩
     have hbb : Below W2.heap.size W2 W3 := by rw [hA]; exact below_alloc (Below.refl _ _) _
     have hge : w2.heap.size ≤ W2.heap.size := HB6.out.size; have hnew : IM W3 gm [] := by rw [hA, hG]; exact XM.MapIs.made Tryz.prog 3 ekI evU _
     rw [← hA, ← hG]; have HL := Lib.hid (Kd.R_below HL.out hbb); have HR := Lib.hid (Kd.R_below HR.out hbb); have HM := Lib.hid hnew; have HMG := Lib.hid (show w2.heap.size ≤ gm from by omega); have HB6 := Lib.hid (below_then HB6.out HB6.out.size hbb); clear hnew hbb hge hA hG; refine hK.out _ _ ⟨pw_cell_below HB6.out t0, pw_cell_below HB6.out t1, pw_cell_below HB6.out t2, pw_cell_below HB6.out z0, pw_cell_below HB6.out z1⟩ (fun hHeld => ?_); clear hK K; refine norm_ (a' := ?_) ?_ ?_; rotate_left
     ·
      show Act.put _ (some 35) _ = _; simp only [Act.put, List.setIfInBounds_toArray, List.set_cons_zero, List.set_cons_succ, i64_w, i32_w]; rfl
     refine one_ (i := 6) (N := some 40) (bs 10 127) rfl rfl (one_of HT_.out (by kernel_rfl)) (by decide) (fun K hK => ?_); refine value_ (w1 := (W3).alloc (.map #[] 0)) (v := .map (some (W3).heap.size)) (by rfl) rfl (by rfl) ?_
     obtain ⟨W4, hA⟩ : ∃ W4 : World, W4 = W3.alloc (.map #[] 0) := ⟨_, rfl⟩
     obtain ⟨gp, hG⟩ : ∃ gp, gp = W3.heap.size := ⟨_, rfl⟩
     have hbb : Below W3.heap.size W3 W4 := by rw [hA]; exact below_alloc (Below.refl _ _) _
     have hge : w2.heap.size ≤ W3.heap.size := HB6.out.size; have hnew : PM W4 gp [] := by rw [hA, hG]; exact XM.MapIs.made Tryz.prog 9 ekS evV _
     have HNE := Lib.hid (show gm ≠ gp from by have h1 := XM.MapIs.lt HM.out; omega); rw [← hA, ← hG]; have HM := Lib.hid (XM.MapIs.below HM.out hbb); have HL := Lib.hid (Kd.R_below HL.out hbb); have HR := Lib.hid (Kd.R_below HR.out hbb); have HPm := Lib.hid hnew; have HPG := Lib.hid (show w2.heap.size ≤ gp from by omega); have HB6 := Lib.hid (below_then HB6.out HB6.out.size hbb); clear hnew hbb hge hA hG; refine hK.out _ _ ⟨pw_cell_below HB6.out t0, pw_cell_below HB6.out t1, pw_cell_below HB6.out t2, pw_cell_below HB6.out z0, pw_cell_below HB6.out z1⟩ (fun hHeld => ?_); clear hK K; refine norm_ (a' := ?_) ?_ ?_; rotate_left
     ·
      show Act.put _ (some 40) _ = _; simp only [Act.put, List.setIfInBounds_toArray, List.set_cons_zero, List.set_cons_succ, i64_w, i32_w]; rfl
     exact norm_ (by simp only [putAll, Act.put, List.setIfInBounds_toArray, List.set_cons_zero, List.set_cons_succ]) (hCont (gm, gp, .slice (some ⟨gl, 0, none⟩) 1 1, v5) _ ⟨HM.out, HPm.out, HR.out, HNE.out, HB6.out, HMG.out, HPG.out⟩)
    ·
     skip
     refine value_ (w1 := (W2).alloc (.map #[] 0)) (v := .map (some (W2).heap.size)) (by rfl) rfl (by rfl) ?_
     obtain ⟨W3, hA⟩ : ∃ W3 : World, W3 = W2.alloc (.map #[] 0) := ⟨_, rfl⟩
     obtain ⟨gp, hG⟩ : ∃ gp, gp = W2.heap.size := ⟨_, rfl⟩
     have hbb : Below W2.heap.size W2 W3 := by rw [hA]; exact below_alloc (Below.refl _ _) _
     have hge : w2.heap.size ≤ W2.heap.size := HB6.out.size; have hnew : PM W3 gp [] := by rw [hA, hG]; exact XM.MapIs.made Tryz.prog 9 ekS evV _
     rw [← hA, ← hG]; have HL := Lib.hid (Kd.R_below HL.out hbb); have HR := Lib.hid (Kd.R_below HR.out hbb); have HPm := Lib.hid hnew; have HPG := Lib.hid (show w2.heap.size ≤ gp from by omega); have HB6 := Lib.hid (below_then HB6.out HB6.out.size hbb); clear hnew hbb hge hA hG; refine hK.out _ _ ⟨pw_cell_below HB6.out t0, pw_cell_below HB6.out t1, pw_cell_below HB6.out t2, pw_cell_below HB6.out z0, pw_cell_below HB6.out z1⟩ (fun hHeld => ?_); clear hK K; refine norm_ (a' := ?_) ?_ ?_; rotate_left
     ·
      show Act.put _ (some 40) _ = _; simp only [Act.put, List.setIfInBounds_toArray, List.set_cons_zero, List.set_cons_succ, i64_w, i32_w]; rfl
     refine one_ (i := 1) (N := some 35) (bs 10 127) rfl rfl (one_of HT_.out (by kernel_rfl)) (by decide) (fun K hK => ?_); refine value_ (w1 := (W3).alloc (.map #[] 0)) (v := .map (some (W3).heap.size)) (by rfl) rfl (by rfl) ?_
     obtain ⟨W4, hA⟩ : ∃ W4 : World, W4 = W3.alloc (.map #[] 0) := ⟨_, rfl⟩
     obtain ⟨gm, hG⟩ : ∃ gm, gm = W3.heap.size := ⟨_, rfl⟩
     have hbb : Below W3.heap.size W3 W4 := by rw [hA]; exact below_alloc (Below.refl _ _) _
     have hge : w2.heap.size ≤ W3.heap.size := HB6.out.size; have hnew : IM W4 gm [] := by rw [hA, hG]; exact XM.MapIs.made Tryz.prog 3 ekI evU _
     have HNE := Lib.hid (show gm ≠ gp from by have h1 := XM.MapIs.lt HPm.out; omega); rw [← hA, ← hG]; have HPm := Lib.hid (XM.MapIs.below HPm.out hbb); have HL := Lib.hid (Kd.R_below HL.out hbb); have HR := Lib.hid (Kd.R_below HR.out hbb); have HM := Lib.hid hnew; have HMG := Lib.hid (show w2.heap.size ≤ gm from by omega); have HB6 := Lib.hid (below_then HB6.out HB6.out.size hbb); clear hnew hbb hge hA hG; refine hK.out _ _ ⟨pw_cell_below HB6.out t0, pw_cell_below HB6.out t1, pw_cell_below HB6.out t2, pw_cell_below HB6.out z0, pw_cell_below HB6.out z1⟩ (fun hHeld => ?_); clear hK K; refine norm_ (a' := ?_) ?_ ?_; rotate_left
     ·
      show Act.put _ (some 35) _ = _; simp only [Act.put, List.setIfInBounds_toArray, List.set_cons_zero, List.set_cons_succ, i64_w, i32_w]; rfl
     exact norm_ (by simp only [putAll, Act.put, List.setIfInBounds_toArray, List.set_cons_zero, List.set_cons_succ]) (hCont (gm, gp, .slice (some ⟨gl, 0, none⟩) 1 1, v5) _ ⟨HM.out, HPm.out, HR.out, HNE.out, HB6.out, HMG.out, HPG.out⟩)
   ·
    skip
    refine value_ (w1 := (W1).alloc (.map #[] 0)) (v := .map (some (W1).heap.size)) (by rfl) rfl (by rfl) ?_
    obtain ⟨W2, hA⟩ : ∃ W2 : World, W2 = W1.alloc (.map #[] 0) := ⟨_, rfl⟩
    obtain ⟨gp, hG⟩ : ∃ gp, gp = W1.heap.size := ⟨_, rfl⟩
    have hbb : Below W1.heap.size W1 W2 := by rw [hA]; exact below_alloc (Below.refl _ _) _
    have hge : w2.heap.size ≤ W1.heap.size := HB6.out.size; have hnew : PM W2 gp [] := by rw [hA, hG]; exact XM.MapIs.made Tryz.prog 9 ekS evV _
    rw [← hA, ← hG]; have HL := Lib.hid (Kd.R_below HL.out hbb); have HPm := Lib.hid hnew; have HPG := Lib.hid (show w2.heap.size ≤ gp from by omega); have HB6 := Lib.hid (below_then HB6.out HB6.out.size hbb); clear hnew hbb hge hA hG; refine hK.out _ _ ⟨pw_cell_below HB6.out t0, pw_cell_below HB6.out t1, pw_cell_below HB6.out t2, pw_cell_below HB6.out z0, pw_cell_below HB6.out z1⟩ (fun hHeld => ?_); clear hK K; refine norm_ (a' := ?_) ?_ ?_; rotate_left
    ·
     show Act.put _ (some 40) _ = _; simp only [Act.put, List.setIfInBounds_toArray, List.set_cons_zero, List.set_cons_succ, i64_w, i32_w]; rfl
    refine two_ (i := 1) (j := 5) (Ni := some 35) (Nj := some 39) (bs 10 95) (bs 10 125) rfl rfl rfl rfl (two_of HT_.out (by kernel_rfl)) (by decide) (by decide) (fun K hK => ?_) (fun K hK => ?_)
    ·
     skip
     refine value_ (w1 := (W2).alloc (.map #[] 0)) (v := .map (some (W2).heap.size)) (by rfl) rfl (by rfl) ?_
     obtain ⟨W3, hA⟩ : ∃ W3 : World, W3 = W2.alloc (.map #[] 0) := ⟨_, rfl⟩
     obtain ⟨gm, hG⟩ : ∃ gm, gm = W2.heap.size := ⟨_, rfl⟩
     have hbb : Below W2.heap.size W2 W3 := by rw [hA]; exact below_alloc (Below.refl _ _) _
     have hge : w2.heap.size ≤ W2.heap.size := HB6.out.size; have hnew : IM W3 gm [] := by rw [hA, hG]; exact XM.MapIs.made Tryz.prog 3 ekI evU _
     have HNE := Lib.hid (show gm ≠ gp from by have h1 := XM.MapIs.lt HPm.out; omega); rw [← hA, ← hG]; have HPm := Lib.hid (XM.MapIs.below HPm.out hbb); have HL := Lib.hid (Kd.R_below HL.out hbb); have HM := Lib.hid hnew; have HMG := Lib.hid (show w2.heap.size ≤ gm from by omega); have HB6 := Lib.hid (below_then HB6.out HB6.out.size hbb); clear hnew hbb hge hA hG; refine hK.out _ _ ⟨pw_cell_below HB6.out t0, pw_cell_below HB6.out t1, pw_cell_below HB6.out t2, pw_cell_below HB6.out z0, pw_cell_below HB6.out z1⟩ (fun hHeld => ?_); clear hK K; refine norm_ (a' := ?_) ?_ ?_; rotate_left
     ·
      show Act.put _ (some 35) _ = _; simp only [Act.put, List.setIfInBounds_toArray, List.set_cons_zero, List.set_cons_succ, i64_w, i32_w]; rfl
     refine one_ (i := 5) (N := some 39) (bs 10 127) rfl rfl (one_of HT_.out (by kernel_rfl)) (by decide) (fun K hK => ?_); have HNM := Lib.hid (show Calls Tryz.prog 26 #[.slice (some ⟨gl, 0, none⟩) 1 1] W3 _ from Rg.normal_calls W3 (some ⟨gl, 0, none⟩) 1 [need] (Kd.R_reads' HL.out).2.2 (Nat.le_refl _) (by simp)); have hge : w2.heap.size ≤ W3.heap.size := HB6.out.size; refine goes_ Tryz.func26 (by kernel_rfl) rfl #[.slice (some ⟨gl, 0, none⟩) 1 1] (by rfl) rfl rfl (by simp only [List.map_toArray, List.map_cons, List.map_nil]; rfl) ?_; with_reducible refine (HNM.out).mono ?_
     rintro e W4 ⟨v5, rfl, hR5, hbb⟩; refine ⟨_, rfl, ?_⟩; have HM := Lib.hid (XM.MapIs.below HM.out hbb); have HPm := Lib.hid (XM.MapIs.below HPm.out hbb); have HL := Lib.hid (Kd.R_below HL.out hbb); have HR := Lib.hid (Kd.R_lower hR5 hge); have HB6 := Lib.hid (below_then HB6.out HB6.out.size hbb); clear hR5 hbb HNM hge; refine hK.out _ _ ⟨pw_cell_below HB6.out t0, pw_cell_below HB6.out t1, pw_cell_below HB6.out t2, pw_cell_below HB6.out z0, pw_cell_below HB6.out z1⟩ (fun hHeld => ?_); clear hK K; refine norm_ (a' := ?_) ?_ ?_; rotate_left
     ·
      show Act.put _ (some 39) _ = _; simp only [Act.put, List.setIfInBounds_toArray, List.set_cons_zero, List.set_cons_succ, i64_w, i32_w]; rfl
     exact norm_ (by simp only [putAll, Act.put, List.setIfInBounds_toArray, List.set_cons_zero, List.set_cons_succ]) (hCont (gm, gp, .slice (some ⟨gl, 0, none⟩) 1 1, v5) _ ⟨HM.out, HPm.out, HR.out, HNE.out, HB6.out, HMG.out, HPG.out⟩)
    ·
     skip
     have HNM := Lib.hid (show Calls Tryz.prog 26 #[.slice (some ⟨gl, 0, none⟩) 1 1] W2 _ from Rg.normal_calls W2 (some ⟨gl, 0, none⟩) 1 [need] (Kd.R_reads' HL.out).2.2 (Nat.le_refl _) (by simp)); have hge : w2.heap.size ≤ W2.heap.size := HB6.out.size; refine goes_ Tryz.func26 (by kernel_rfl) rfl #[.slice (some ⟨gl, 0, none⟩) 1 1] (by rfl) rfl rfl (by simp only [List.map_toArray, List.map_cons, List.map_nil]; rfl) ?_; with_reducible refine (HNM.out).mono ?_
     rintro e W3 ⟨v5, rfl, hR5, hbb⟩; refine ⟨_, rfl, ?_⟩; have HPm := Lib.hid (XM.MapIs.below HPm.out hbb); have HL := Lib.hid (Kd.R_below HL.out hbb); have HR := Lib.hid (Kd.R_lower hR5 hge); have HB6 := Lib.hid (below_then HB6.out HB6.out.size hbb); clear hR5 hbb HNM hge; refine hK.out _ _ ⟨pw_cell_below HB6.out t0, pw_cell_below HB6.out t1, pw_cell_below HB6.out t2, pw_cell_below HB6.out z0, pw_cell_below HB6.out z1⟩ (fun hHeld => ?_); clear hK K; refine norm_ (a' := ?_) ?_ ?_; rotate_left
     ·
      show Act.put _ (some 39) _ = _; simp only [Act.put, List.setIfInBounds_toArray, List.set_cons_zero, List.set_cons_succ, i64_w, i32_w]; rfl
     refine one_ (i := 1) (N := some 35) (bs 10 127) rfl rfl (one_of HT_.out (by kernel_rfl)) (by decide) (fun K hK => ?_); refine value_ (w1 := (W3).alloc (.map #[] 0)) (v := .map (some (W3).heap.size)) (by rfl) rfl (by rfl) ?_
     obtain ⟨W4, hA⟩ : ∃ W4 : World, W4 = W3.alloc (.map #[] 0) := ⟨_, rfl⟩
     obtain ⟨gm, hG⟩ : ∃ gm, gm = W3.heap.size := ⟨_, rfl⟩
     have hbb : Below W3.heap.size W3 W4 := by rw [hA]; exact below_alloc (Below.refl _ _) _
     have hge : w2.heap.size ≤ W3.heap.size := HB6.out.size; have hnew : IM W4 gm [] := by rw [hA, hG]; exact XM.MapIs.made Tryz.prog 3 ekI evU _
     have HNE := Lib.hid (show gm ≠ gp from by have h1 := XM.MapIs.lt HPm.out; omega); rw [← hA, ← hG]; have HPm := Lib.hid (XM.MapIs.below HPm.out hbb); have HL := Lib.hid (Kd.R_below HL.out hbb); have HR := Lib.hid (Kd.R_below HR.out hbb); have HM := Lib.hid hnew; have HMG := Lib.hid (show w2.heap.size ≤ gm from by omega); have HB6 := Lib.hid (below_then HB6.out HB6.out.size hbb); clear hnew hbb hge hA hG; refine hK.out _ _ ⟨pw_cell_below HB6.out t0, pw_cell_below HB6.out t1, pw_cell_below HB6.out t2, pw_cell_below HB6.out z0, pw_cell_below HB6.out z1⟩ (fun hHeld => ?_); clear hK K; refine norm_ (a' := ?_) ?_ ?_; rotate_left
     ·
      show Act.put _ (some 35) _ = _; simp only [Act.put, List.setIfInBounds_toArray, List.set_cons_zero, List.set_cons_succ, i64_w, i32_w]; rfl
     exact norm_ (by simp only [putAll, Act.put, List.setIfInBounds_toArray, List.set_cons_zero, List.set_cons_succ]) (hCont (gm, gp, .slice (some ⟨gl, 0, none⟩) 1 1, v5) _ ⟨HM.out, HPm.out, HR.out, HNE.out, HB6.out, HMG.out, HPG.out⟩)
  ·
   skip
   refine value_ (w1 := (w2.drew).alloc (.map #[] 0)) (v := .map (some (w2.drew).heap.size)) (by rfl) rfl (by rfl) ?_
   obtain ⟨W1, hA⟩ : ∃ W1 : World, W1 = w2.drew.alloc (.map #[] 0) := ⟨_, rfl⟩
   obtain ⟨gp, hG⟩ : ∃ gp, gp = w2.drew.heap.size := ⟨_, rfl⟩
   have hbb : Below w2.heap.size w2 W1 := by rw [hA]; exact below_alloc (below_drew (Below.refl _ _)) _
   have hge : w2.heap.size ≤ w2.heap.size := Nat.le_refl _; have hnew : PM W1 gp [] := by rw [hA, hG]; exact XM.MapIs.made Tryz.prog 9 ekS evV _
   rw [← hA, ← hG]; have HPm := Lib.hid hnew; have HPG := Lib.hid (show w2.heap.size ≤ gp from Nat.le_of_eq hG.symm); have HB6 := Lib.hid hbb; clear hnew hbb hge hA hG; refine hK.out _ _ ⟨pw_cell_below HB6.out t0, pw_cell_below HB6.out t1, pw_cell_below HB6.out t2, pw_cell_below HB6.out z0, pw_cell_below HB6.out z1⟩ (fun hHeld => ?_); clear hK K; refine norm_ (a' := ?_) ?_ ?_; rotate_left
   ·
    show Act.put _ (some 40) _ = _; simp only [Act.put, List.setIfInBounds_toArray, List.set_cons_zero, List.set_cons_succ, i64_w, i32_w]; rfl
   refine two_ (i := 1) (j := 4) (Ni := some 35) (Nj := some 38) (bs 10 79) (bs 10 93) rfl rfl rfl rfl (two_of HT_.out (by kernel_rfl)) (by decide) (by decide) (fun K hK => ?_) (fun K hK => ?_)
   ·
    skip
    refine value_ (w1 := (W1).alloc (.map #[] 0)) (v := .map (some (W1).heap.size)) (by rfl) rfl (by rfl) ?_
    obtain ⟨W2, hA⟩ : ∃ W2 : World, W2 = W1.alloc (.map #[] 0) := ⟨_, rfl⟩
    obtain ⟨gm, hG⟩ : ∃ gm, gm = W1.heap.size := ⟨_, rfl⟩
    have hbb : Below W1.heap.size W1 W2 := by rw [hA]; exact below_alloc (Below.refl _ _) _
    have hge : w2.heap.size ≤ W1.heap.size := HB6.out.size; have hnew : IM W2 gm [] := by rw [hA, hG]; exact XM.MapIs.made Tryz.prog 3 ekI evU _
    have HNE := Lib.hid (show gm ≠ gp from by have h1 := XM.MapIs.lt HPm.out; omega); rw [← hA, ← hG]; have HPm := Lib.hid (XM.MapIs.below HPm.out hbb); have HM := Lib.hid hnew; have HMG := Lib.hid (show w2.heap.size ≤ gm from by omega); have HB6 := Lib.hid (below_then HB6.out HB6.out.size hbb); clear hnew hbb hge hA hG; refine hK.out _ _ ⟨pw_cell_below HB6.out t0, pw_cell_below HB6.out t1, pw_cell_below HB6.out t2, pw_cell_below HB6.out z0, pw_cell_below HB6.out z1⟩ (fun hHeld => ?_); clear hK K; refine norm_ (a' := ?_) ?_ ?_; rotate_left
    ·
     show Act.put _ (some 35) _ = _; simp only [Act.put, List.setIfInBounds_toArray, List.set_cons_zero, List.set_cons_succ, i64_w, i32_w]; rfl
    refine one_ (i := 4) (N := some 38) (bs 10 95) rfl rfl (one_of HT_.out (by kernel_rfl)) (by decide) (fun K hK => ?_); refine value_ (w1 := ?_) (v := ?_) (by rfl) rfl ?_ ?_; rotate_left 2
    ·
     go_simp
     constructor
     ·
      rfl
     ·
      rfl
    obtain ⟨W3, hA⟩ : ∃ W3 : World, W3 = W2.alloc (.cells #[.int .i64 need.f0, .int .i64 need.f1] 27) := ⟨_, rfl⟩
    obtain ⟨gl, hG⟩ : ∃ gl, gl = W2.heap.size := ⟨_, rfl⟩
    have hbb : Below W2.heap.size W2 W3 := by rw [hA]; exact below_alloc (Below.refl _ _) _
    have hge : w2.heap.size ≤ W2.heap.size := HB6.out.size; have hnew : Kd.R k27 27 W3 w2.heap.size (fun _ => True) (.slice (some ⟨gl, 0, none⟩) 1 1) [need] := by rw [hA]; exact R_one29 W2 need w2.heap.size gl hge hG
    rw [← hA, ← hG]; have HM := Lib.hid (XM.MapIs.below HM.out hbb); have HPm := Lib.hid (XM.MapIs.below HPm.out hbb); have HL := Lib.hid hnew; have HB6 := Lib.hid (below_then HB6.out HB6.out.size hbb); clear hnew hbb hge hA hG; refine hK.out _ _ ⟨pw_cell_below HB6.out t0, pw_cell_below HB6.out t1, pw_cell_below HB6.out t2, pw_cell_below HB6.out z0, pw_cell_below HB6.out z1⟩ (fun hHeld => ?_); clear hK K; refine norm_ (a' := ?_) ?_ ?_; rotate_left
    ·
     show Act.put _ (some 38) _ = _; simp only [Act.put, List.setIfInBounds_toArray, List.set_cons_zero, List.set_cons_succ, i64_w, i32_w]; rfl
    refine one_ (i := 5) (N := some 39) (bs 10 127) rfl rfl (one_of HT_.out (by kernel_rfl)) (by decide) (fun K hK => ?_); have HNM := Lib.hid (show Calls Tryz.prog 26 #[.slice (some ⟨gl, 0, none⟩) 1 1] W3 _ from Rg.normal_calls W3 (some ⟨gl, 0, none⟩) 1 [need] (Kd.R_reads' HL.out).2.2 (Nat.le_refl _) (by simp)); have hge : w2.heap.size ≤ W3.heap.size := HB6.out.size; refine goes_ Tryz.func26 (by kernel_rfl) rfl #[.slice (some ⟨gl, 0, none⟩) 1 1] (by rfl) rfl rfl (by simp only [List.map_toArray, List.map_cons, List.map_nil]; rfl) ?_; with_reducible refine (HNM.out).mono ?_
    rintro e W4 ⟨v5, rfl, hR5, hbb⟩; refine ⟨_, rfl, ?_⟩; have HM := Lib.hid (XM.MapIs.below HM.out hbb); have HPm := Lib.hid (XM.MapIs.below HPm.out hbb); have HL := Lib.hid (Kd.R_below HL.out hbb); have HR := Lib.hid (Kd.R_lower hR5 hge); have HB6 := Lib.hid (below_then HB6.out HB6.out.size hbb); clear hR5 hbb HNM hge; refine hK.out _ _ ⟨pw_cell_below HB6.out t0, pw_cell_below HB6.out t1, pw_cell_below HB6.out t2, pw_cell_below HB6.out z0, pw_cell_below HB6.out z1⟩ (fun hHeld => ?_); clear hK K; refine norm_ (a' := ?_) ?_ ?_; rotate_left
    ·
     show Act.put _ (some 39) _ = _; simp only [Act.put, List.setIfInBounds_toArray, List.set_cons_zero, List.set_cons_succ, i64_w, i32_w]; rfl
    exact norm_ (by simp only [putAll, Act.put, List.setIfInBounds_toArray, List.set_cons_zero, List.set_cons_succ]) (hCont (gm, gp, .slice (some ⟨gl, 0, none⟩) 1 1, v5) _ ⟨HM.out, HPm.out, HR.out, HNE.out, HB6.out, HMG.out, HPG.out⟩)
   ·
    skip
    refine value_ (w1 := ?_) (v := ?_) (by rfl) rfl ?_ ?_; rotate_left 2
    ·
     go_simp
     constructor
     ·
      rfl
     ·
      rfl
    obtain ⟨W2, hA⟩ : ∃ W2 : World, W2 = W1.alloc (.cells #[.int .i64 need.f0, .int .i64 need.f1] 27) := ⟨_, rfl⟩
    obtain ⟨gl, hG⟩ : ∃ gl, gl = W1.heap.size := ⟨_, rfl⟩
    have hbb : Below W1.heap.size W1 W2 := by rw [hA]; exact below_alloc (Below.refl _ _) _
    have hge : w2.heap.size ≤ W1.heap.size := HB6.out.size; have hnew : Kd.R k27 27 W2 w2.heap.size (fun _ => True) (.slice (some ⟨gl, 0, none⟩) 1 1) [need] := by rw [hA]; exact R_one29 W1 need w2.heap.size gl hge hG
    rw [← hA, ← hG]; have HPm := Lib.hid (XM.MapIs.below HPm.out hbb); have HL := Lib.hid hnew; have HB6 := Lib.hid (below_then HB6.out HB6.out.size hbb); clear hnew hbb hge hA hG; refine hK.out _ _ ⟨pw_cell_below HB6.out t0, pw_cell_below HB6.out t1, pw_cell_below HB6.out t2, pw_cell_below HB6.out z0, pw_cell_below HB6.out z1⟩ (fun hHeld => ?_); clear hK K; refine norm_ (a' := ?_) ?_ ?_; rotate_left
    ·
     show Act.put _ (some 38) _ = _; simp only [Act.put, List.setIfInBounds_toArray, List.set_cons_zero, List.set_cons_succ, i64_w, i32_w]; rfl
    refine two_ (i := 1) (j := 5) (Ni := some 35) (Nj := some 39) (bs 10 95) (bs 10 125) rfl rfl rfl rfl (two_of HT_.out (by kernel_rfl)) (by decide) (by decide) (fun K hK => ?_) (fun K hK => ?_)
    ·
     skip
     refine value_ (w1 := (W2).alloc (.map #[] 0)) (v := .map (some (W2).heap.size)) (by rfl) rfl (by rfl) ?_
     obtain ⟨W3, hA⟩ : ∃ W3 : World, W3 = W2.alloc (.map #[] 0) := ⟨_, rfl⟩
     obtain ⟨gm, hG⟩ : ∃ gm, gm = W2.heap.size := ⟨_, rfl⟩
     have hbb : Below W2.heap.size W2 W3 := by rw [hA]; exact below_alloc (Below.refl _ _) _
     have hge : w2.heap.size ≤ W2.heap.size := HB6.out.size; have hnew : IM W3 gm [] := by rw [hA, hG]; exact XM.MapIs.made Tryz.prog 3 ekI evU _
     have HNE := Lib.hid (show gm ≠ gp from by have h1 := XM.MapIs.lt HPm.out; omega); rw [← hA, ← hG]; have HPm := Lib.hid (XM.MapIs.below HPm.out hbb); have HL := Lib.hid (Kd.R_below HL.out hbb); have HM := Lib.hid hnew; have HMG := Lib.hid (show w2.heap.size ≤ gm from by omega); have HB6 := Lib.hid (below_then HB6.out HB6.out.size hbb); clear hnew hbb hge hA hG; refine hK.out _ _ ⟨pw_cell_below HB6.out t0, pw_cell_below HB6.out t1, pw_cell_below HB6.out t2, pw_cell_below HB6.out z0, pw_cell_below HB6.out z1⟩ (fun hHeld => ?_); clear hK K; refine norm_ (a' := ?_) ?_ ?_; rotate_left
     ·
      show Act.put _ (some 35) _ = _; simp only [Act.put, List.setIfInBounds_toArray, List.set_cons_zero, List.set_cons_succ, i64_w, i32_w]; rfl
     refine one_ (i := 5) (N := some 39) (bs 10 127) rfl rfl (one_of HT_.out (by kernel_rfl)) (by decide) (fun K hK => ?_); have HNM := Lib.hid (show Calls Tryz.prog 26 #[.slice (some ⟨gl, 0, none⟩) 1 1] W3 _ from Rg.normal_calls W3 (some ⟨gl, 0, none⟩) 1 [need] (Kd.R_reads' HL.out).2.2 (Nat.le_refl _) (by simp)); have hge : w2.heap.size ≤ W3.heap.size := HB6.out.size; refine goes_ Tryz.func26 (by kernel_rfl) rfl #[.slice (some ⟨gl, 0, none⟩) 1 1] (by rfl) rfl rfl (by simp only [List.map_toArray, List.map_cons, List.map_nil]; rfl) ?_; with_reducible refine (HNM.out).mono ?_
     rintro e W4 ⟨v5, rfl, hR5, hbb⟩; refine ⟨_, rfl, ?_⟩; have HM := Lib.hid (XM.MapIs.below HM.out hbb); have HPm := Lib.hid (XM.MapIs.below HPm.out hbb); have HL := Lib.hid (Kd.R_below HL.out hbb); have HR := Lib.hid (Kd.R_lower hR5 hge); have HB6 := Lib.hid (below_then HB6.out HB6.out.size hbb); clear hR5 hbb HNM hge; refine hK.out _ _ ⟨pw_cell_below HB6.out t0, pw_cell_below HB6.out t1, pw_cell_below HB6.out t2, pw_cell_below HB6.out z0, pw_cell_below HB6.out z1⟩ (fun hHeld => ?_); clear hK K; refine norm_ (a' := ?_) ?_ ?_; rotate_left
     ·
      show Act.put _ (some 39) _ = _; simp only [Act.put, List.setIfInBounds_toArray, List.set_cons_zero, List.set_cons_succ, i64_w, i32_w]; rfl
     exact norm_ (by simp only [putAll, Act.put, List.setIfInBounds_toArray, List.set_cons_zero, List.set_cons_succ]) (hCont (gm, gp, .slice (some ⟨gl, 0, none⟩) 1 1, v5) _ ⟨HM.out, HPm.out, HR.out, HNE.out, HB6.out, HMG.out, HPG.out⟩)
    ·
     skip
     have HNM := Lib.hid (show Calls Tryz.prog 26 #[.slice (some ⟨gl, 0, none⟩) 1 1] W2 _ from Rg.normal_calls W2 (some ⟨gl, 0, none⟩) 1 [need] (Kd.R_reads' HL.out).2.2 (Nat.le_refl _) (by simp)); have hge : w2.heap.size ≤ W2.heap.size := HB6.out.size; refine goes_ Tryz.func26 (by kernel_rfl) rfl #[.slice (some ⟨gl, 0, none⟩) 1 1] (by rfl) rfl rfl (by simp only [List.map_toArray, List.map_cons, List.map_nil]; rfl) ?_; with_reducible refine (HNM.out).mono ?_
     rintro e W3 ⟨v5, rfl, hR5, hbb⟩; refine ⟨_, rfl, ?_⟩; have HPm := Lib.hid (XM.MapIs.below HPm.out hbb); have HL := Lib.hid (Kd.R_below HL.out hbb); have HR := Lib.hid (Kd.R_lower hR5 hge); have HB6 := Lib.hid (below_then HB6.out HB6.out.size hbb); clear hR5 hbb HNM hge; refine hK.out _ _ ⟨pw_cell_below HB6.out t0, pw_cell_below HB6.out t1, pw_cell_below HB6.out t2, pw_cell_below HB6.out z0, pw_cell_below HB6.out z1⟩ (fun hHeld => ?_); clear hK K; refine norm_ (a' := ?_) ?_ ?_; rotate_left
     ·
      show Act.put _ (some 39) _ = _; simp only [Act.put, List.setIfInBounds_toArray, List.set_cons_zero, List.set_cons_succ, i64_w, i32_w]; rfl
     refine one_ (i := 1) (N := some 35) (bs 10 127) rfl rfl (one_of HT_.out (by kernel_rfl)) (by decide) (fun K hK => ?_); refine value_ (w1 := (W3).alloc (.map #[] 0)) (v := .map (some (W3).heap.size)) (by rfl) rfl (by rfl) ?_
     obtain ⟨W4, hA⟩ : ∃ W4 : World, W4 = W3.alloc (.map #[] 0) := ⟨_, rfl⟩
     obtain ⟨gm, hG⟩ : ∃ gm, gm = W3.heap.size := ⟨_, rfl⟩
     have hbb : Below W3.heap.size W3 W4 := by rw [hA]; exact below_alloc (Below.refl _ _) _
     have hge : w2.heap.size ≤ W3.heap.size := HB6.out.size; have hnew : IM W4 gm [] := by rw [hA, hG]; exact XM.MapIs.made Tryz.prog 3 ekI evU _
     have HNE := Lib.hid (show gm ≠ gp from by have h1 := XM.MapIs.lt HPm.out; omega); rw [← hA, ← hG]; have HPm := Lib.hid (XM.MapIs.below HPm.out hbb); have HL := Lib.hid (Kd.R_below HL.out hbb); have HR := Lib.hid (Kd.R_below HR.out hbb); have HM := Lib.hid hnew; have HMG := Lib.hid (show w2.heap.size ≤ gm from by omega); have HB6 := Lib.hid (below_then HB6.out HB6.out.size hbb); clear hnew hbb hge hA hG; refine hK.out _ _ ⟨pw_cell_below HB6.out t0, pw_cell_below HB6.out t1, pw_cell_below HB6.out t2, pw_cell_below HB6.out z0, pw_cell_below HB6.out z1⟩ (fun hHeld => ?_); clear hK K; refine norm_ (a' := ?_) ?_ ?_; rotate_left
     ·
      show Act.put _ (some 35) _ = _; simp only [Act.put, List.setIfInBounds_toArray, List.set_cons_zero, List.set_cons_succ, i64_w, i32_w]; rfl
     exact norm_ (by simp only [putAll, Act.put, List.setIfInBounds_toArray, List.set_cons_zero, List.set_cons_succ]) (hCont (gm, gp, .slice (some ⟨gl, 0, none⟩) 1 1, v5) _ ⟨HM.out, HPm.out, HR.out, HNE.out, HB6.out, HMG.out, HPG.out⟩)
 rintro ⟨gm, gp, v38, v39⟩ w6 hG; obtain ⟨A9, nL, c9, rfl⟩ : ∃ A n c, v39 = .slice A n c := by obtain ⟨A, c, e⟩ := Kd.R_slice hG.r; exact ⟨A, _, c, e⟩
 have HG6 := Lib.hid hG; clear hG
 have hHeld : (w6.cell? ⟨gb, 0, none⟩ = some (.int .i64 o.f0)) ∧ (w6.cell? ⟨gb, 1, none⟩ = some (.int .i64 o.f1)) ∧ (w6.cell? ⟨gb, 2, none⟩ = some (.int .i64 o.f2)) ∧ (w6.cell? ⟨g7, 0, none⟩ = some (.int .i64 need.f0)) ∧ (w6.cell? ⟨g7, 1, none⟩ = some (.int .i64 need.f1)) := ⟨pw_cell_below HG6.out.b t0, pw_cell_below HG6.out.b t1, pw_cell_below HG6.out.b t2, pw_cell_below HG6.out.b z0, pw_cell_below HG6.out.b z1⟩
 refine norm_ (a' := ?_) ?_ ?_; rotate_left
 ·
  simp only [putAll, Act.put, List.setIfInBounds_toArray, List.set_cons_zero, List.set_cons_succ]; rfl
 apply pv 7 41 (bs 10 255) HT_; rfl; rfl; kernel_rfl; exact qq; rfl; intro w'; go_simp; with_reducible rfl; simp only [zz]; rfl
 refine last_ (i := 8) (N := some 42) (bs 10 511) rfl rfl (one_of HT_.out (by kernel_rfl)) (by decide) (fun K hK => ?_); refine value_ (w1 := ?_) (v := ?_) (by rfl) rfl ?_ ?_; rotate_left 2
 ·
  go_simp
  constructor
  ·
   rfl
  ·
   rfl
 obtain ⟨Z, hZ⟩ : ∃ Z : World, Z = w6.alloc (.cells #[.int .i64 o.f0, .int .i64 o.f1, .int .i64 o.f2, .slice none 0 0, .map (some gm), .int .i64 need.f0, .int .i64 need.f1, (.slice A9 nL c9), .map (some gp)] 65) := ⟨_, rfl⟩
 obtain ⟨g, hg⟩ : ∃ g, g = w6.heap.size := ⟨_, rfl⟩
 have hbz : Below w6.heap.size w6 Z := by rw [hZ]; exact below_alloc (Below.refl _ _) _
 have hblk : Z.heap[g]? = some (.cells (bcells o need gm gp (.slice none 0 0) (.slice A9 nL c9)) 65 (0, 0)) := by rw [hZ, hg]; exact blk_new _ _
 rw [← hZ, ← hg]; have hsz := HBW2.out.size; have hsz6 := HG6.out.b.size; have HIS := Lib.hid (show Is Z w.heap.size g gm gp (.slice none 0 0) (.slice A9 nL c9) ⟨o, [], [], need, normR [need], []⟩ from ⟨hblk, Kd.R_nil _ _ _ _ _, Kd.R_lower (Kd.R_below HG6.out.r hbz) hsz, XM.MapIs.below HG6.out.m hbz, XM.MapIs.below HG6.out.p hbz, by omega, Nat.le_trans hsz HG6.out.bm, Nat.le_trans hsz HG6.out.bp, HG6.out.ne⟩); have HBZ2 := Lib.hid (below_then HG6.out.b hsz6 hbz); have HBZ := Lib.hid (below_then HBW2.out hsz HBZ2.out); clear hblk hbz hZ hg hsz hsz6 HG6; refine hK.out _ _ ?_; clear hK K; refine norm_ (a' := ?_) ?_ ?_; rotate_left
 ·
  show Act.put _ (some 42) _ = _; simp only [Act.put, List.setIfInBounds_toArray, List.set_cons_zero, List.set_cons_succ, i64_w, i32_w]; rfl
 apply pv 9 12 (bs 10 1023) HT_; rfl; rfl; kernel_rfl; exact qq; rfl; intro w'; go_simp; with_reducible rfl; simp only [zz]; rfl
 refine done_ (done_of HT_.out (by kernel_rfl)) ?_; have s2 : Z.cell? ⟨g4, 2, none⟩ = some (.slice (some ad) shards.length cs) := (blk_cell (blk_below HG4W.out (show Below w2.heap.size w2 Z from HBZ2.out)) 2).trans rfl; have q2 : Z.cell? (ad.add sh.toNat) = some (.slice A1 l.length c1) := pw_cell_below HBZ.out HQ0.out; clear t0 t1 t2 z0 z1; go_wp2_with fail
 go_loopg [49] l.length (fun gn v49 wr => ∃ (i : Nat), v49 = .int .i64 (i : Int) ∧ Aside0 (gn = l.length - i) ∧ Aside0 (i ≤ l.length) ∧ Aside0 (∃ vO, Is wr w.heap.size g gm gp vO (.slice A9 nL c9) ⟨o, othersL (l.take i) n, [], need, normR [need], []⟩) ∧ Aside0 (Below w.heap.size w wr))
 case atStart => exact ⟨0, rfl, ⟨rfl⟩, ⟨Nat.zero_le _⟩, ⟨_, HIS.out⟩, ⟨HBZ.out⟩⟩
 case round =>
  obtain ⟨i, rfl, HN, HI, HSX, HB⟩ := hrel; obtain ⟨vO, hs⟩ := HSX.out; have HSI := Lib.hid hs; clear hs HSX HIS s2 q2
  by_cases hi : i < l.length
  ·
   have hi0 : (i : Int) < (l.length : Int) := by omega
   have hwi : wrap64 ((i : Int) + 1) = (i : Int) + 1 := by unfold wrap64; omega
   obtain ⟨ad2, ead2, r0, r1, r2⟩ := at_T57 (Kd.C_below HC1.out HB.out) (i : Int) (by omega) hi0; cases ead2; rw [Int.toNat_natCast] at r0 r1 r2
   obtain ⟨x, hx⟩ : ∃ x, rd_T57 l (i : Int) = x := ⟨_, rfl⟩
   rw [hx] at r0 r1 r2; have hst := others_step (n := n) hi; rw [show l[i] = x from by rw [← hx, rdO hi]] at hst; have HST := Lib.hid hst
   have HLO := Lib.hid (show (othersL (l.take i) n).length ≤ 1000000 by
    unfold othersL; rw [List.length_map]; have h1 := List.length_filter_le (fun o : Ow => o.f1 == 2 && o.f0 != n) (l.take i); rw [List.length_take] at h1
    omega)
   clear hx hst; have HI9' := Lib.hid (fun X9 (h : X9 = wr.alloc (.cells #[.int .i64 x.f0, .int .i64 x.f1, .int .i64 x.f2] 57)) => (show Below wr.heap.size wr X9 by rw [h]; exact below_alloc (Below.refl _ _) _)); have HQX := Lib.hid (blk_new wr (.cells #[.int .i64 x.f0, .int .i64 x.f1, .int .i64 x.f2] 57))
   cases d5 : (x.f1 == 2) with
   | false =>
    have HEQ := Lib.hid (show othersL (l.take (i + 1)) n = othersL (l.take i) n by rw [HST.out, d5, Bool.false_and]; simp); go_wp2_with fail
    obtain ⟨X9, hX9⟩ : ∃ X9 : World, X9 = wr.alloc (.cells #[.int .i64 x.f0, .int .i64 x.f1, .int .i64 x.f2] 57) := ⟨_, rfl⟩
    obtain ⟨gx, hgx⟩ : ∃ gx, gx = wr.heap.size := ⟨_, rfl⟩
    have hb9 := HI9'.out X9 hX9; have hq9 := HQX.out; rw [← hX9, ← hgx] at hq9; have x90 : X9.cell? ⟨gx, 0, none⟩ = some (.int .i64 x.f0) := (blk_cell hq9 0).trans rfl; have HI9 := Lib.hid (HSI.out.below hb9); have HB9 := Lib.hid (below_then HB.out HB.out.size hb9); rw [← hX9, ← hgx]; clear hb9 hq9 hX9 hgx r0 r1 r2; go_wp2_with fail
    go_roundg (l.length - (i + 1))
    case measure => have := HN.out; omega
    case rel => exact ⟨i + 1, by rfl, ⟨rfl⟩, ⟨hi⟩, ⟨vO, by rw [HEQ.out]; exact HI9.out⟩, ⟨HB9.out⟩⟩
   | true =>
    cases d6 : (x.f0 != n) with
    | false =>
     have HEQ := Lib.hid (show othersL (l.take (i + 1)) n = othersL (l.take i) n by rw [HST.out, d5, d6, Bool.and_false]; simp); go_wp2_with fail
     obtain ⟨X9, hX9⟩ : ∃ X9 : World, X9 = wr.alloc (.cells #[.int .i64 x.f0, .int .i64 x.f1, .int .i64 x.f2] 57) := ⟨_, rfl⟩
     obtain ⟨gx, hgx⟩ : ∃ gx, gx = wr.heap.size := ⟨_, rfl⟩
     have hb9 := HI9'.out X9 hX9; have hq9 := HQX.out; rw [← hX9, ← hgx] at hq9; have x90 : X9.cell? ⟨gx, 0, none⟩ = some (.int .i64 x.f0) := (blk_cell hq9 0).trans rfl; have HI9 := Lib.hid (HSI.out.below hb9); have HB9 := Lib.hid (below_then HB.out HB.out.size hb9); rw [← hX9, ← hgx]; clear hb9 hq9 hX9 hgx r0 r1 r2; go_wp2_with fail
     go_roundg (l.length - (i + 1))
     case measure => have := HN.out; omega
     case rel => exact ⟨i + 1, by rfl, ⟨rfl⟩, ⟨hi⟩, ⟨vO, by rw [HEQ.out]; exact HI9.out⟩, ⟨HB9.out⟩⟩
    | true =>
     have HEQ := Lib.hid (show othersL (l.take (i + 1)) n = othersL (l.take i) n ++ [x.f0] by rw [HST.out, d5, d6]; rfl); go_wp2_with fail
     obtain ⟨X9, hX9⟩ : ∃ X9 : World, X9 = wr.alloc (.cells #[.int .i64 x.f0, .int .i64 x.f1, .int .i64 x.f2] 57) := ⟨_, rfl⟩
     obtain ⟨gx, hgx⟩ : ∃ gx, gx = wr.heap.size := ⟨_, rfl⟩
     have hb9 := HI9'.out X9 hX9; have hq9 := HQX.out; rw [← hX9, ← hgx] at hq9; have x90 : X9.cell? ⟨gx, 0, none⟩ = some (.int .i64 x.f0) := (blk_cell hq9 0).trans rfl; have HI9 := Lib.hid (HSI.out.below hb9); have HB9 := Lib.hid (below_then HB.out HB.out.size hb9); rw [← hX9, ← hgx]; clear hb9 hq9 hX9 hgx r0 r1 r2; have x9o : X9.cell? ⟨g, 3, none⟩ = some vO := (blk_cell HI9.out.blk 3).trans rfl; go_wp2_with fail
     refine start_ (n := 12) (S := fun w' => w'.cell? ⟨g, 3, none⟩ = some vO ∧ w'.cell? ⟨gx, 0, none⟩ = some (.int .i64 x.f0)) (ds := [8, 11]) (bs 12 0) (by kernel_rfl) rfl rfl ⟨x9o, x90⟩ (fun hHeld => ?_); refine with_tabW New.tab11 New.bits11 (fun HT_ HW_ => ?_); apply pv 0 62 (bs 12 1) HT_; rfl; rfl; kernel_rfl; exact qq; rfl; intro w'; go_simp; with_reducible rfl; simp only [zz]; rfl
     apply pv 1 63 (bs 12 3) HT_; rfl; rfl; kernel_rfl; exact qq; rfl; intro w'; go_simp; with_reducible rfl; simp only [zz]; rfl
     apply pv 2 64 (bs 12 7) HT_; rfl; rfl; kernel_rfl; exact qq; rfl; intro w'; go_simp; with_reducible rfl; simp only [zz]; rfl
     apply pv 3 65 (bs 12 15) HT_; rfl; rfl; kernel_rfl; exact qq; rfl; intro w'; go_simp; with_reducible rfl; simp only [zz]; rfl
     apply pv 5 67 (bs 12 47) HT_; rfl; rfl; kernel_rfl; exact qq; rfl; intro w'; go_simp; with_reducible rfl; simp only [zz]; rfl
     apply tb 4 66 (bs 12 63) HT_ HW_ hHeld; rfl; rfl; kernel_rfl; exact qq; rfl; rintro w' ⟨s0, s1⟩; go_simp; with_reducible rfl; simp only [zz]; rfl
     apply tb 6 68 (bs 12 127) HT_ HW_ hHeld; rfl; rfl; kernel_rfl; exact qq; rfl; rintro w' ⟨s0, s1⟩; go_simp; with_reducible rfl; simp only [zz]; rfl
     refine one_ (i := 7) (N := some 69) (bs 12 255) rfl rfl (one_of HT_.out (by kernel_rfl)) (by decide) (fun K hK => ?_); refine value_ (w1 := ?_) (v := ?_) (by rfl) rfl ?_ ?_; rotate_left 2
     ·
      go_simp
      constructor
      ·
       rfl
      ·
       rfl
     have hBX := below_drew (below_alloc (Below.refl X9.heap.size X9) (.cells #[.int .i64 x.f0] 3))
     obtain ⟨gl, hgl⟩ : ∃ gl, gl = X9.heap.size := ⟨_, rfl⟩
     have hRL := Kd.R_drew (R_single X9 x.f0 w.heap.size gl HB9.out.size hgl)
     obtain ⟨X1, hX1⟩ : ∃ X1 : World, X1 = (X9.alloc (.cells #[.int .i64 x.f0] 3)).drew := ⟨_, rfl⟩
     rw [← hX1] at hRL hBX; rw [← hX1, ← hgl]; have HI1 := Lib.hid (HI9.out.below hBX); have HB1 := Lib.hid (below_then HB9.out HB9.out.size hBX); have hx0 : X1.cell? ⟨gx, 0, none⟩ = some (.int .i64 x.f0) := pw_cell_below hBX x90; have HRL := Lib.hid hRL; clear hRL hBX hX1 hgl; refine hK.out _ _ ⟨((blk_cell HI1.out.blk 3).trans rfl), hx0⟩ (fun hHeld => ?_); clear hK K; refine norm_ (a' := ?_) ?_ ?_; rotate_left
     ·
      show Act.put _ (some 69) _ = _; simp only [Act.put, List.setIfInBounds_toArray, List.set_cons_zero, List.set_cons_succ, i64_w, i32_w]; rfl
     refine last_ (i := 8) (N := some 70) (bs 12 511) rfl rfl (one_of HT_.out (by kernel_rfl)) (by decide) (fun K hK => ?_); refine Kd.R_append_rows_step kI (Rr := fun x cs => cs = [.int .i64 x]) (w0 := w) w.heap.size (by rfl) (.tmp 66) (.tmp 69) 22 3 (.int .i64 0) 8 (by rfl) Tryz.underlying22 info3 (by rfl) (by decide) (by decide) vO (othersL (l.take i) n) [x.f0] (some ⟨gl, 0, none⟩) 1 1 (fun _ => True) (fun _ => False) (by rfl) (by rfl) HI1.out.oth (Kd.R_reads' HRL.out).2.2 (fun _ _ h => h) (fun _ h => h.elim) (fun _ _ => trivial) HB1.out HB1.out.size (by have := HLO.out; omega) ?_; intro v5 X2 hR5 hB5 hg5 hat5; obtain ⟨A5, n5, c5, rfl⟩ : ∃ A n c, v5 = .slice A n c := by obtain ⟨A, c, e⟩ := Kd.R_slice hR5; exact ⟨A, _, c, e⟩
     have HAPP := Lib.hid (HI1.out.appended hg5 hR5); have HGG := Lib.hid HI1.out.bg; have HB5 := Lib.hid hB5; have e3 : X2.cell? ⟨g, 3, none⟩ = some vO := (blk_cell ((hg5.block g (blk_lt HI1.out.blk) (Kd.R_ne HI1.out.oth HI1.out.blk (by decide))).trans HI1.out.blk) 3).trans rfl; have e4 : X2.frozen? ⟨g, 3, none⟩ = false := blk_frozen ((hg5.block g (blk_lt HI1.out.blk) (Kd.R_ne HI1.out.oth HI1.out.blk (by decide))).trans HI1.out.blk) 3; clear hR5 hB5 hg5 hat5; refine hK.out _ _ ?_; clear hK K; refine norm_ (a' := ?_) ?_ ?_; rotate_left
     ·
      show Act.put _ (some 70) _ = _; simp only [Act.put, List.setIfInBounds_toArray, List.set_cons_zero, List.set_cons_succ, i64_w, i32_w]; rfl
     apply pv 9 71 (bs 12 1023) HT_; rfl; rfl; kernel_rfl; exact qq; rfl; intro w'; go_simp; with_reducible rfl; simp only [zz]; rfl
     apply pv 10 72 (bs 12 2047) HT_; rfl; rfl; kernel_rfl; exact qq; rfl; intro w'; go_simp; with_reducible rfl; simp only [zz]; rfl
     refine last_ (i := 11) (N := none) (bs 12 4095) rfl rfl (one_of HT_.out (by kernel_rfl)) (by decide) (fun K hK => ?_); refine skip_ (w1 := ?_) (by rfl) rfl ?_ ?_; rotate_left
     ·
      go_simp; rfl
     refine hK.out _ _ ?_; clear hK K; refine done_ (done_of HT_.out (by kernel_rfl)) ?_; go_wp2_with fail
     go_roundg (l.length - (i + 1))
     case measure => have := HN.out; omega
     case rel => exact ⟨i + 1, by rfl, ⟨rfl⟩, ⟨hi⟩, ⟨.slice A5 n5 c5, by rw [HEQ.out]; exact HAPP.out⟩, ⟨HB5.out.setCell HGG.out _⟩⟩
  ·
   have hge : ¬ (i : Int) < (l.length : Int) := by omega
   have hie : i = l.length := by have := HI.out; omega
   have HSF := HSI.out; rw [hie, List.take_length] at HSF; have HSF := Lib.hid HSF; clear hie HSI; go_wp2; go_ret2; exact ⟨g, rfl, ⟨gm, gp, vO, _, HSF.out⟩, HB.out⟩
end Bt
end Go.Proofs.YtiinmagnpkfbbaaGreat
