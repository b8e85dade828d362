/- heavy (of layer 18): what it tells. -/
import Derived.Test.YtiinmagnpkfbbaaGreatBootD
section
set_option maxHeartbeats 4000000
set_option maxRecDepth 100000
namespace Go.Proofs.YtiinmagnpkfbbaaGreat
set_option linter.unusedVariables false
set_option linter.unusedSimpArgs false
open Go.RowKit Go.Proofs.YtiinmagnpkfbbaaGreatW.PrintWords Go.Proofs.YtiinmagnpkfbbaaGreatW.PrintLast Go.Proofs.YtiinmagnpkfbbaaGreatW.PrintMore Go.Proofs.YtiinmagnpkfbbaaGreat.QT
namespace Bt
/-- The document's boot. -/
structure Rb where
 own : Ow
 oth : List Int
 giv : List Int
 need : R
 fil : List R
def rcells (o : Ow) (n : R) (vO vG vF vS : Value) : Array Value := #[.int .i64 o.f0, .int .i64 o.f1, .int .i64 o.f2, vO, vG, .int .i64 n.f0, .int .i64 n.f1, vF, vS]
structure Rs (w : World) (B g : Nat) (vO vG vF vS : Value) (b : Rb) : Prop where
 blk : w.heap[g]? = some (.cells (rcells b.own b.need vO vG vF vS) 68 (0, 0))
 oth : Kd.R kI 3 w B (fun _ => True) vO b.oth
 giv : Kd.R kI 3 w B (fun _ => True) vG b.giv
 fil : Kd.R k27 27 w B (fun _ => True) vF b.fil
 ap : ∀ k, vO.ownBlock = some k → vG.ownBlock ≠ some k
 bg : B ≤ g
theorem Rs.below {w w' : World} {B g : Nat} {vO vG vF vS : Value} {b : Rb} (h : Rs w B g vO vG vF vS b) (hb : Below w.heap.size w w') : Rs w' B g vO vG vF vS b :=
 ⟨blk_below h.blk hb, Kd.R_below h.oth hb, Kd.R_below h.giv hb, Kd.R_below h.fil hb, h.ap, h.bg⟩
/-- A row of Ranges is kept where a row of numbers grows. -/
theorem R29_row {α : Type} {d : Kd α} {w w' : World} {B B' : Nat} {vF v : Value} {xs : List R} {ys : List α} {e : Nat} (he : e ≠ 27) (hE : d.E = []) (h : Kd.R k27 27 w B (fun _ => True) vF xs) (hv : d.R e w B' (fun _ => True) v ys) (hg : w.grownBy w' v.ownBlock) : Kd.R k27 27 w' B (fun _ => True) vF xs :=
 Kd.R_mono (Kd.R_grown (Kd.R_tight rfl h) hg (fun k hk e_ => by
  obtain ⟨_, _, _, q, hq, cells, hc⟩ := (Kd.R_bound hv).1 k e_.symm; obtain ⟨_, _, _, q', hq', cells', hc'⟩ := (Kd.R_bound h).1 k hk.symm; rw [hc] at hc'; cases hc'; rw [hE] at hq; rw [List.mem_singleton.1 hq] at hq'
  exact he (List.mem_singleton.1 hq'))) (fun _ _ => trivial)
theorem Rs.appended {w w1 : World} {B g : Nat} {vO vG vF vS v1 : Value} {b : Rb} {oth : List Int} (h : Rs w B g vO vG vF vS b) (hg : w.grownBy w1 vO.ownBlock) (hat : v1.ownBlock = vO.ownBlock ∨ ∃ k, v1.ownBlock = some k ∧ w.heap.size ≤ k) (hR : Kd.R kI 3 w1 B (fun _ => True) v1 oth) :
  Rs (w1.setCell ⟨g, 3, none⟩ v1) B g v1 vG vF vS { b with oth := oth } := by
 have hb1 : w1.heap[g]? = some (.cells (rcells b.own b.need vO vG vF vS) 68 (0, 0)) := (hg.block g (blk_lt h.blk) (Kd.R_ne h.oth h.blk (by decide))).trans h.blk; have hl := R29_row (by decide) rfl h.fil h.oth hg; have hgv : Kd.R kI 3 w1 B (fun _ => True) vG b.giv := Kd.R_mono (Kd.R_grown (Kd.R_tight rfl h.giv) hg (fun k hk e_ => h.ap k e_.symm hk.symm)) (fun _ _ => trivial)
 have far : ∀ {α : Type} {d : Kd α} {e : Nat} {v : Value} {xs : List α}, d.E = [] → e ≠ 68 → d.R e w1 B (fun _ => True) v xs → d.R e (w1.setCell ⟨g, 3, none⟩ v1) B (fun _ => True) v xs := fun hE he hR =>
  Kd.R_mono (Kd.R_far (Kd.R_tight hE hR) (fun k hk e => Kd.R_ne hR hb1 he (by rw [show g = k from e.symm]; exact hk)) v1) (fun _ _ => trivial)
 refine ⟨blk_set hb1 3 v1, far rfl (by decide) hR, far rfl (by decide) hgv, far rfl (by decide) hl, ?_, h.bg⟩; intro k hk hk'; rcases hat with e | ⟨j, e, hj⟩
 ·
  exact h.ap k (e.symm.trans hk) hk'
 ·
  have := Kd.R_lt h.giv k hk'; rw [e] at hk; cases hk; omega
theorem rnew_form (w : World) (V : Int) (An : Option Addr) (cn : Nat) (nodes : List Int) (As : Option Addr) (cs : Nat) (shards : List (List Ow)) (hP : Pl.PlAt w An cn nodes As cs shards) (sh n : Int) (need : R) (hc : Pl.checkP V nodes shards ≠ 0) :
  Calls Tryz.prog 8 #[.agg #[.int .i64 V, .slice An nodes.length cn, .slice As shards.length cs], .int .i64 sh, .int .i64 n, .agg #[.int .i64 need.f0, .int .i64 need.f1]] w fun e w' => e = .returned (.tuple #[.pointer none, .int .i64 50]) ∧ Below w.heap.size w w' := by
 obtain ⟨ck, hce⟩ : ∃ ck, Pl.checkP V nodes shards = ck := ⟨_, rfl⟩
 have HCE := Lib.hid hce; have HP := Lib.hid hP; clear hP; rw [hce] at hc; have d1 : (ck != 0) = true := bne_iff_ne.2 hc; clear hc hce; go_enter Tryz.func8, Tryz.ntmps8
 go_wp2_with (first
  | ((with_reducible refine gate_dst (N := 4) rfl ?_); refine box_event rfl (N := 4) rfl (cs := #[.int .i64 V, .slice An nodes.length cn, .slice As shards.length cs]) (t := 25) ?hr ?_; (case hr => go_simp; done); intro g4 hg4 X hbox hbX; have HX := Lib.hid (And.intro hg4 (And.intro hbox hbX)); clear hg4 hbox hbX)
  | ((with_reducible refine gate_dst (N := 7) rfl ?_); refine box_event rfl (N := 7) rfl (cs := #[.int .i64 need.f0, .int .i64 need.f1]) (t := 27) ?hr ?_; (case hr => go_simp; done); intro g7 hg7 Y hboy hbY; have HY := Lib.hid (And.intro hg7 (And.intro hboy hbY)); have HG4 := Lib.hid (blk_below HX.out.2.1 hbY); have y0 : Y.cell? ⟨g4, 0, none⟩ = some (.int .i64 V) := (blk_cell HG4.out 0).trans rfl; have y1 : Y.cell? ⟨g4, 1, none⟩ = some (.slice An nodes.length cn) := (blk_cell HG4.out 1).trans rfl; have y2 : Y.cell? ⟨g4, 2, none⟩ = some (.slice As shards.length cs) := (blk_cell HG4.out 2).trans rfl; clear hg7 hboy hbY))
 have HBY := Lib.hid (below_then HX.out.2.2 HX.out.2.2.size HY.out.2.2); have HCK := Lib.hid (Pl.rcheck_calls Y V An cn nodes As cs shards (HP.out.below HBY.out)); rw [HCE.out] at HCK; with_reducible refine HCK.out.mono ?_
 rintro e w1 ⟨rfl, hb1⟩; have HB1 := Lib.hid (below_then HBY.out HBY.out.size hb1); have HG41 := Lib.hid (blk_below HG4.out hb1); clear hb1 y0 y1 y2 HCK; have y0 : w1.cell? ⟨g4, 0, none⟩ = some (.int .i64 V) := (blk_cell HG41.out 0).trans rfl; have y1 : w1.cell? ⟨g4, 1, none⟩ = some (.slice An nodes.length cn) := (blk_cell HG41.out 1).trans rfl; have y2 : w1.cell? ⟨g4, 2, none⟩ = some (.slice As shards.length cs) := (blk_cell HG41.out 2).trans rfl; go_wp2; go_ret2; exact ⟨rfl, HB1.out⟩
theorem rnew_nodes (w : World) (V : Int) (An : Option Addr) (cn : Nat) (nodes : List Int) (As : Option Addr) (cs : Nat) (shards : List (List Ow)) (hP : Pl.PlAt w An cn nodes As cs shards) (sh n : Int) (need : R) (hc : Pl.checkP V nodes shards = 0) (ho : Pl.ownsP shards sh n = false) :
  Calls Tryz.prog 8 #[.agg #[.int .i64 V, .slice An nodes.length cn, .slice As shards.length cs], .int .i64 sh, .int .i64 n, .agg #[.int .i64 need.f0, .int .i64 need.f1]] w fun e w' => e = .returned (.tuple #[.pointer none, .int .i64 140]) ∧ Below w.heap.size w w' := by
 obtain ⟨ck, hce⟩ : ∃ ck, Pl.checkP V nodes shards = ck := ⟨_, rfl⟩
 have HCE := Lib.hid hce; have HP := Lib.hid hP; clear hP; rw [hce] at hc; have d1 : (ck != 0) = false := by rw [hc]; rfl
 have HOE := Lib.hid ho; clear hc hce ho; go_enter Tryz.func8, Tryz.ntmps8
 go_wp2_with (first
  | ((with_reducible refine gate_dst (N := 4) rfl ?_); refine box_event rfl (N := 4) rfl (cs := #[.int .i64 V, .slice An nodes.length cn, .slice As shards.length cs]) (t := 25) ?hr ?_; (case hr => go_simp; done); intro g4 hg4 X hbox hbX; have HX := Lib.hid (And.intro hg4 (And.intro hbox hbX)); clear hg4 hbox hbX)
  | ((with_reducible refine gate_dst (N := 7) rfl ?_); refine box_event rfl (N := 7) rfl (cs := #[.int .i64 need.f0, .int .i64 need.f1]) (t := 27) ?hr ?_; (case hr => go_simp; done); intro g7 hg7 Y hboy hbY; have HY := Lib.hid (And.intro hg7 (And.intro hboy hbY)); have HG4 := Lib.hid (blk_below HX.out.2.1 hbY); have y0 : Y.cell? ⟨g4, 0, none⟩ = some (.int .i64 V) := (blk_cell HG4.out 0).trans rfl; have y1 : Y.cell? ⟨g4, 1, none⟩ = some (.slice An nodes.length cn) := (blk_cell HG4.out 1).trans rfl; have y2 : Y.cell? ⟨g4, 2, none⟩ = some (.slice As shards.length cs) := (blk_cell HG4.out 2).trans rfl; clear hg7 hboy hbY))
 have HBY := Lib.hid (below_then HX.out.2.2 HX.out.2.2.size HY.out.2.2); have HCK := Lib.hid (Pl.rcheck_calls Y V An cn nodes As cs shards (HP.out.below HBY.out)); rw [HCE.out] at HCK; with_reducible refine HCK.out.mono ?_
 rintro e w1 ⟨rfl, hb1⟩; have HB1 := Lib.hid (below_then HBY.out HBY.out.size hb1); have HG41 := Lib.hid (blk_below HG4.out hb1); have HG71 := Lib.hid (blk_below HY.out.2.1 hb1); clear hb1 y0 y1 y2 HCK; have y0 : w1.cell? ⟨g4, 0, none⟩ = some (.int .i64 V) := (blk_cell HG41.out 0).trans rfl; have y1 : w1.cell? ⟨g4, 1, none⟩ = some (.slice An nodes.length cn) := (blk_cell HG41.out 1).trans rfl; have y2 : w1.cell? ⟨g4, 2, none⟩ = some (.slice As shards.length cs) := (blk_cell HG41.out 2).trans rfl; go_wp2_with fail
 have HOW := Lib.hid (Pl.rowns_calls w1 V An cn nodes As cs shards (HP.out.below HB1.out) sh n); rw [HOE.out] at HOW; with_reducible refine HOW.out.mono ?_
 rintro e w2 ⟨rfl, hb2⟩; have HBW2 := Lib.hid (below_then HB1.out HB1.out.size hb2); clear hb2 y0 y1 y2 HG41 HG71 HOW; go_wp2; go_ret2; exact ⟨rfl, HBW2.out⟩
def RNew.T12 : Bool × List (List Nat × List Nat) := (true, [([], []), ([], []), ([1], [1]), ([2], [2]), ([3], [3]), ([], []), ([5], [5]), ([6], [6]), ([4, 7], [4, 7]), ([0, 0, 1, 2, 3, 4, 5, 6, 7, 8], [0]), ([9, 0, 1, 2, 3, 4, 5, 6, 7, 8], [9]), ([10, 8, 8, 0, 1, 2, 3, 4, 5, 6, 7, 8], [8, 10])])
def RNew.B12 : List Nat := [0, 0, 2, 6, 14, 0, 32, 96, 254, 511, 1023, 2047]
theorem RNew.tab12 : rtab .any (opsOf Tryz.f8 12) = RNew.T12 := by kernel_rfl
theorem RNew.bits12 : waitsOk RNew.T12.2 RNew.B12 = true := by kernel_rfl
theorem rnew_ok (w : World) (V : Int) (An : Option Addr) (cn : Nat) (nodes : List Int) (As : Option Addr) (cs : Nat) (shards : List (List Ow)) (hP : Pl.PlAt w An cn nodes As cs shards) (sh n : Int) (need : R) (hc : Pl.checkP V nodes shards = 0) (ho : Pl.ownsP shards sh n = true) :
  Calls Tryz.prog 8 #[.agg #[.int .i64 V, .slice An nodes.length cn, .slice As shards.length cs], .int .i64 sh, .int .i64 n, .agg #[.int .i64 need.f0, .int .i64 need.f1]] w fun e w' => ∃ g vO, e = .returned (.tuple #[.pointer (some ⟨g, 0, none⟩), .int .i64 0]) ∧ Rs w' w.heap.size g vO (.slice none 0 0) (.slice none 0 0) (.slice none 0 0) ⟨(Pl.findP shards sh n).1, othersL (rd_L4 shards sh) n, [], need, []⟩ ∧ Below w.heap.size w w' := by
 have hrf := fun (l : List Ow) (hl : l ∈ shards) => (Pl.check_right hc hl).len
 obtain ⟨ck, hce⟩ : ∃ ck, Pl.checkP V nodes shards = ck := ⟨_, rfl⟩
 have HCE := Lib.hid hce; have HP := Lib.hid hP; clear hP; rw [hce] at hc; have d1 : (ck != 0) = false := by rw [hc]; rfl
 have HOE := Lib.hid ho
 obtain ⟨⟨o, is⟩, hfe⟩ : ∃ q : Ow × Bool, Pl.findP shards sh n = q := ⟨_, rfl⟩
 have HFE := Lib.hid hfe; unfold Pl.ownsP at ho; rw [hfe] at ho ⊢; rw [Bool.and_eq_true] at ho; obtain ⟨ho1, ho2⟩ := ho
 dsimp only at ho1 ho2 ⊢
 subst ho1
 have hin : 0 ≤ sh ∧ sh < (shards.length : Int) := by
  by_cases hh : 0 ≤ sh ∧ sh < (shards.length : Int)
  ·
   exact hh
  ·
   unfold Pl.findP at hfe; rw [if_neg hh] at hfe; cases hfe
 obtain ⟨h0', h1⟩ := hin
 obtain ⟨l, hl⟩ : ∃ l, rd_L4 shards sh = l := ⟨_, rfl⟩
 have hlm : l ∈ shards := by
  rw [← hl]; have : sh.toNat < shards.length := by omega
  unfold rd_L4; rw [List.getD_eq_getElem?_getD, List.getElem?_eq_getElem this]; exact List.getElem_mem this
 have hlen : l.length ≤ 8 := hrf l hlm; rw [hl]; obtain ⟨ad, A1, c1, ead, q0, hc1, hC1⟩ := at_L4 HP.out.hs sh h0' h1; rw [hl] at q0 hC1; cases ead; have HQ0 := Lib.hid q0; have HC1 := Lib.hid hC1; clear q0 hC1 hc1 hlm hl ho2 hc hfe hce hrf; go_enter Tryz.func8, Tryz.ntmps8
 go_wp2_with (first
  | ((with_reducible refine gate_dst (N := 4) rfl ?_); refine box_event rfl (N := 4) rfl (cs := #[.int .i64 V, .slice An nodes.length cn, .slice (some ad) shards.length cs]) (t := 25) ?hr ?_; (case hr => go_simp; done); intro g4 hg4 X hbox hbX; have HX := Lib.hid (And.intro hg4 (And.intro hbox hbX)); clear hg4 hbox hbX)
  | ((with_reducible refine gate_dst (N := 7) rfl ?_); refine box_event rfl (N := 7) rfl (cs := #[.int .i64 need.f0, .int .i64 need.f1]) (t := 27) ?hr ?_; (case hr => go_simp; done); intro g7 hg7 Y hboy hbY; have HY := Lib.hid (And.intro hg7 (And.intro hboy hbY)); have HG4 := Lib.hid (blk_below HX.out.2.1 hbY); have y0 : Y.cell? ⟨g4, 0, none⟩ = some (.int .i64 V) := (blk_cell HG4.out 0).trans rfl; have y1 : Y.cell? ⟨g4, 1, none⟩ = some (.slice An nodes.length cn) := (blk_cell HG4.out 1).trans rfl; have y2 : Y.cell? ⟨g4, 2, none⟩ = some (.slice (some ad) shards.length cs) := (blk_cell HG4.out 2).trans rfl; clear hg7 hboy hbY))
 have HBY := Lib.hid (below_then HX.out.2.2 HX.out.2.2.size HY.out.2.2); have HCK := Lib.hid (Pl.rcheck_calls Y V An cn nodes (some ad) cs shards (HP.out.below HBY.out)); rw [HCE.out] at HCK; with_reducible refine HCK.out.mono ?_
 rintro e w1 ⟨rfl, hb1⟩; have HB1 := Lib.hid (below_then HBY.out HBY.out.size hb1); have HG41 := Lib.hid (blk_below HG4.out hb1); have HG71 := Lib.hid (blk_below HY.out.2.1 hb1); clear hb1 y0 y1 y2 HCK; have y0 : w1.cell? ⟨g4, 0, none⟩ = some (.int .i64 V) := (blk_cell HG41.out 0).trans rfl; have y1 : w1.cell? ⟨g4, 1, none⟩ = some (.slice An nodes.length cn) := (blk_cell HG41.out 1).trans rfl; have y2 : w1.cell? ⟨g4, 2, none⟩ = some (.slice (some ad) shards.length cs) := (blk_cell HG41.out 2).trans rfl; go_wp2_with fail
 have HOW := Lib.hid (Pl.rowns_calls w1 V An cn nodes (some ad) cs shards (HP.out.below HB1.out) sh n); rw [HOE.out] at HOW; with_reducible refine HOW.out.mono ?_
 rintro e w2 ⟨rfl, hb2⟩; have HBW2 := Lib.hid (below_then HB1.out HB1.out.size hb2); have HG4W := Lib.hid (blk_below HG41.out hb2); have HG7W := Lib.hid (blk_below HG71.out hb2); clear hb2 y0 y1 y2 HG41 HG71 HOW; have HBOX := Lib.hid (fun X (h : X = w2.alloc (.cells #[.int .i64 0, .int .i64 0, .int .i64 0, .slice none 0 0, .slice none 0 0, .int .i64 need.f0, .int .i64 need.f1, .slice none 0 0, .slice none 0 0] 68)) => (show Below w2.heap.size w2 X ∧ X.heap[w2.heap.size]? = some (.cells (rcells ⟨0, 0, 0⟩ need (.slice none 0 0) (.slice none 0 0) (.slice none 0 0) (.slice none 0 0)) 68 (0, 0)) by rw [h]; exact ⟨below_alloc (Below.refl _ _) _, blk_new _ _⟩)); have y0 : w2.cell? ⟨g4, 0, none⟩ = some (.int .i64 V) := (blk_cell HG4W.out 0).trans rfl; have y1 : w2.cell? ⟨g4, 1, none⟩ = some (.slice An nodes.length cn) := (blk_cell HG4W.out 1).trans rfl; have y2 : w2.cell? ⟨g4, 2, none⟩ = some (.slice (some ad) shards.length cs) := (blk_cell HG4W.out 2).trans rfl; have y3 : g4 < w2.heap.size := blk_lt HG4W.out; have z0 : w2.cell? ⟨g7, 0, none⟩ = some (.int .i64 need.f0) := (blk_cell HG7W.out 0).trans rfl; have z1 : w2.cell? ⟨g7, 1, none⟩ = some (.int .i64 need.f1) := (blk_cell HG7W.out 1).trans rfl; go_wp2_with fail
 obtain ⟨g, hg⟩ : ∃ g, g = w2.heap.size := ⟨_, rfl⟩
 obtain ⟨X3, hX3⟩ : ∃ X3 : World, X3 = w2.alloc (.cells #[.int .i64 0, .int .i64 0, .int .i64 0, .slice none 0 0, .slice none 0 0, .int .i64 need.f0, .int .i64 need.f1, .slice none 0 0, .slice none 0 0] 68) := ⟨_, rfl⟩
 obtain ⟨hx3, hx4⟩ := HBOX.out X3 hX3; rw [← hg] at hx4; rw [← hX3, ← hg]; have HB3 := Lib.hid (below_then HBW2.out HBW2.out.size hx3); have HGG := Lib.hid (show w.heap.size ≤ g by rw [hg]; exact HBW2.out.size); have HK3 := Lib.hid hx4; have HG43 := Lib.hid (blk_below HG4W.out hx3); clear hX3 hg hx3 hx4 HBOX y0 y1 y2 y3 z0 z1; have HFD := Lib.hid (Pl.rfind_calls X3 V An cn nodes (some ad) cs shards (HP.out.below HB3.out) sh n); rw [HFE.out] at HFD; with_reducible refine HFD.out.mono ?_
 rintro e w4 ⟨rfl, hb4⟩; unfold Pl.aggO; have HB4 := Lib.hid (below_then HB3.out HB3.out.size hb4); have hk4 := blk_below HK3.out hb4; have HG44 := Lib.hid (blk_below HG43.out hb4); have hg4g : g4 ≠ g := fun e => by have h1 := HK3.out; have h2 := HG43.out; rw [e, h1] at h2; cases h2
 have u0 : w4.cell? ⟨g, 0, none⟩ = some (.int .i64 0) := (blk_cell hk4 0).trans rfl; have u1 : w4.cell? ⟨g, 1, none⟩ = some (.int .i64 0) := (blk_cell hk4 1).trans rfl; have u2 : w4.cell? ⟨g, 2, none⟩ = some (.int .i64 0) := (blk_cell hk4 2).trans rfl; have f0 : w4.frozen? ⟨g, 0, none⟩ = false := blk_frozen hk4 0; have f1 : w4.frozen? ⟨g, 1, none⟩ = false := blk_frozen hk4 1; have f2 : w4.frozen? ⟨g, 2, none⟩ = false := blk_frozen hk4 2
 have HPUT := Lib.hid (fun X (h : X = Pl.put3 w4 g (.int .i64 o.f0) (.int .i64 o.f1) (.int .i64 o.f2)) => (show Below w.heap.size w X ∧ X.heap[g]? = some (.cells (rcells o need (.slice none 0 0) (.slice none 0 0) (.slice none 0 0) (.slice none 0 0)) 68 (0, 0)) by
  rw [h]; refine ⟨Pl.put3_below HB4.out HGG.out _ _ _, ?_⟩; have h0 := blk_set hk4 0 (.int .i64 o.f0); have h1 := blk_set h0 1 (.int .i64 o.f1); have h2 := blk_set h1 2 (.int .i64 o.f2); unfold Pl.put3
  exact h2))
 clear hb4 hk4 HFD; go_wp2_with fail
 obtain ⟨Z, hZ⟩ : ∃ Z : World, Z = Pl.put3 w4 g (.int .i64 o.f0) (.int .i64 o.f1) (.int .i64 o.f2) := ⟨_, rfl⟩
 have hz := HPUT.out Z hZ
 have HG4Z := Lib.hid (show Z.heap[g4]? = some (.cells #[.int .i64 V, .slice An nodes.length cn, .slice (some ad) shards.length cs] 25 (0, 0)) from by
  rw [hZ]; unfold Pl.put3; rw [Below.heap_setCell _ _ _ _ hg4g, Below.heap_setCell _ _ _ _ hg4g, Below.heap_setCell _ _ _ _ hg4g]
  exact HG44.out)
 unfold Pl.put3 at hZ; rw [← hZ]; have HRZ := Lib.hid (show Rs Z w.heap.size g (.slice none 0 0) (.slice none 0 0) (.slice none 0 0) (.slice none 0 0) ⟨o, [], [], need, []⟩ from ⟨hz.2, Kd.R_nil _ _ _ _ _, Kd.R_nil _ _ _ _ _, Kd.R_nil _ _ _ _ _, fun k hk => by simp [Value.ownBlock] at hk, HGG.out⟩); have HBZ := Lib.hid hz.1; clear hZ hz HPUT HG44 HK3 HG43 hg4g u0 u1 u2 f0 f1 f2; go_loopg [11] l.length (fun gn v11 wr => ∃ (i : Nat), v11 = .int .i64 (i : Int) ∧ Aside0 (gn = l.length - i) ∧ Aside0 (i ≤ l.length) ∧ Aside0 (∃ vO, Rs wr w.heap.size g vO (.slice none 0 0) (.slice none 0 0) (.slice none 0 0) ⟨o, othersL (l.take i) n, [], need, []⟩) ∧ Aside0 (Below w.heap.size w wr) ∧ Aside0 (wr.heap[g4]? = some (.cells #[.int .i64 V, .slice An nodes.length cn, .slice (some ad) shards.length cs] 25 (0, 0))))
 case atStart => exact ⟨0, rfl, ⟨rfl⟩, ⟨Nat.zero_le _⟩, ⟨_, HRZ.out⟩, ⟨HBZ.out⟩, ⟨HG4Z.out⟩⟩
 case round =>
  obtain ⟨i, rfl, HN, HI, HSX, HB, HG4R⟩ := hrel; obtain ⟨vO, hs⟩ := HSX.out; have HSI := Lib.hid hs; have s2 : wr.cell? ⟨g4, 2, none⟩ = some (.slice (some ad) shards.length cs) := (blk_cell HG4R.out 2).trans rfl; have q2 : wr.cell? (ad.add sh.toNat) = some (.slice A1 l.length c1) := pw_cell_below HB.out HQ0.out; clear hs HSX HRZ HG4Z HBZ
  by_cases hi : i < l.length
  ·
   have hi0 : (i : Int) < (l.length : Int) := by omega
   have hwi : wrap64 ((i : Int) + 1) = (i : Int) + 1 := by unfold wrap64; omega
   obtain ⟨ad2, ead2, r0, r1, r2⟩ := at_T57 (Kd.C_below HC1.out HB.out) (i : Int) (by omega) hi0; cases ead2; rw [Int.toNat_natCast] at r0 r1 r2
   obtain ⟨x, hx⟩ : ∃ x, rd_T57 l (i : Int) = x := ⟨_, rfl⟩
   rw [hx] at r0 r1 r2; have hst := others_step (n := n) hi; rw [show l[i] = x from by rw [← hx, rdO hi]] at hst; have HST := Lib.hid hst
   have HLO := Lib.hid (show (othersL (l.take i) n).length ≤ 1000000 by
    unfold othersL; rw [List.length_map]; have h1 := List.length_filter_le (fun o : Ow => o.f1 == 2 && o.f0 != n) (l.take i); rw [List.length_take] at h1
    omega)
   clear hx hst; have HI9' := Lib.hid (fun X9 (h : X9 = wr.alloc (.cells #[.int .i64 x.f0, .int .i64 x.f1, .int .i64 x.f2] 57)) => (show Below wr.heap.size wr X9 by rw [h]; exact below_alloc (Below.refl _ _) _)); have HQX := Lib.hid (blk_new wr (.cells #[.int .i64 x.f0, .int .i64 x.f1, .int .i64 x.f2] 57))
   cases d6 : (x.f0 != n) with
   | false =>
    have HEQ := Lib.hid (show othersL (l.take (i + 1)) n = othersL (l.take i) n by rw [HST.out, d6, Bool.and_false]; simp); go_wp2_with fail
    obtain ⟨X9, hX9⟩ : ∃ X9 : World, X9 = wr.alloc (.cells #[.int .i64 x.f0, .int .i64 x.f1, .int .i64 x.f2] 57) := ⟨_, rfl⟩
    obtain ⟨gx, hgx⟩ : ∃ gx, gx = wr.heap.size := ⟨_, rfl⟩
    have hb9 := HI9'.out X9 hX9; have hq9 := HQX.out; rw [← hX9, ← hgx] at hq9; have x90 : X9.cell? ⟨gx, 0, none⟩ = some (.int .i64 x.f0) := (blk_cell hq9 0).trans rfl; have HI9 := Lib.hid (HSI.out.below hb9); have HB9 := Lib.hid (below_then HB.out HB.out.size hb9); have HG49 := Lib.hid (blk_below HG4R.out hb9); rw [← hX9, ← hgx]; clear hb9 hq9 hX9 hgx r0 r1 r2 s2 q2; go_wp2_with fail
    go_roundg (l.length - (i + 1))
    case measure => have := HN.out; omega
    case rel => exact ⟨i + 1, by rfl, ⟨rfl⟩, ⟨hi⟩, ⟨vO, by rw [HEQ.out]; exact HI9.out⟩, ⟨HB9.out⟩, ⟨HG49.out⟩⟩
   | true =>
    cases d5 : (x.f1 == 2) with
    | false =>
     have HEQ := Lib.hid (show othersL (l.take (i + 1)) n = othersL (l.take i) n by rw [HST.out, d5, Bool.false_and]; simp); go_wp2_with fail
     obtain ⟨X9, hX9⟩ : ∃ X9 : World, X9 = wr.alloc (.cells #[.int .i64 x.f0, .int .i64 x.f1, .int .i64 x.f2] 57) := ⟨_, rfl⟩
     obtain ⟨gx, hgx⟩ : ∃ gx, gx = wr.heap.size := ⟨_, rfl⟩
     have hb9 := HI9'.out X9 hX9; have hq9 := HQX.out; rw [← hX9, ← hgx] at hq9; have x90 : X9.cell? ⟨gx, 0, none⟩ = some (.int .i64 x.f0) := (blk_cell hq9 0).trans rfl; have HI9 := Lib.hid (HSI.out.below hb9); have HB9 := Lib.hid (below_then HB.out HB.out.size hb9); have HG49 := Lib.hid (blk_below HG4R.out hb9); rw [← hX9, ← hgx]; clear hb9 hq9 hX9 hgx r0 r1 r2 s2 q2; go_wp2_with fail
     go_roundg (l.length - (i + 1))
     case measure => have := HN.out; omega
     case rel => exact ⟨i + 1, by rfl, ⟨rfl⟩, ⟨hi⟩, ⟨vO, by rw [HEQ.out]; exact HI9.out⟩, ⟨HB9.out⟩, ⟨HG49.out⟩⟩
    | true =>
     have HEQ := Lib.hid (show othersL (l.take (i + 1)) n = othersL (l.take i) n ++ [x.f0] by rw [HST.out, d5, d6]; rfl); go_wp2_with fail
     obtain ⟨X9, hX9⟩ : ∃ X9 : World, X9 = wr.alloc (.cells #[.int .i64 x.f0, .int .i64 x.f1, .int .i64 x.f2] 57) := ⟨_, rfl⟩
     obtain ⟨gx, hgx⟩ : ∃ gx, gx = wr.heap.size := ⟨_, rfl⟩
     have hb9 := HI9'.out X9 hX9; have hq9 := HQX.out; rw [← hX9, ← hgx] at hq9; have x90 : X9.cell? ⟨gx, 0, none⟩ = some (.int .i64 x.f0) := (blk_cell hq9 0).trans rfl; have HI9 := Lib.hid (HSI.out.below hb9); have HB9 := Lib.hid (below_then HB.out HB.out.size hb9); have HG49 := Lib.hid (blk_below HG4R.out hb9); rw [← hX9, ← hgx]; clear hb9 hq9 hX9 hgx r0 r1 r2 s2 q2; have x9o : X9.cell? ⟨g, 3, none⟩ = some vO := (blk_cell HI9.out.blk 3).trans rfl; go_wp2_with fail
     refine start_ (n := 12) (S := fun w' => w'.cell? ⟨g, 3, none⟩ = some vO ∧ w'.cell? ⟨gx, 0, none⟩ = some (.int .i64 x.f0)) (ds := [8, 11]) (bs 12 0) (by kernel_rfl) rfl rfl ⟨x9o, x90⟩ (fun hHeld => ?_); refine with_tabW RNew.tab12 RNew.bits12 (fun HT_ HW_ => ?_); apply pv 0 61 (bs 12 1) HT_; rfl; rfl; kernel_rfl; exact qq; rfl; intro w'; go_simp; with_reducible rfl; simp only [zz]; rfl
     apply pv 1 62 (bs 12 3) HT_; rfl; rfl; kernel_rfl; exact qq; rfl; intro w'; go_simp; with_reducible rfl; simp only [zz]; rfl
     apply pv 2 63 (bs 12 7) HT_; rfl; rfl; kernel_rfl; exact qq; rfl; intro w'; go_simp; with_reducible rfl; simp only [zz]; rfl
     apply pv 3 64 (bs 12 15) HT_; rfl; rfl; kernel_rfl; exact qq; rfl; intro w'; go_simp; with_reducible rfl; simp only [zz]; rfl
     apply pv 5 66 (bs 12 47) HT_; rfl; rfl; kernel_rfl; exact qq; rfl; intro w'; go_simp; with_reducible rfl; simp only [zz]; rfl
     apply tb 4 65 (bs 12 63) HT_ HW_ hHeld; rfl; rfl; kernel_rfl; exact qq; rfl; rintro w' ⟨s0, s1⟩; go_simp; with_reducible rfl; simp only [zz]; rfl
     apply tb 6 67 (bs 12 127) HT_ HW_ hHeld; rfl; rfl; kernel_rfl; exact qq; rfl; rintro w' ⟨s0, s1⟩; go_simp; with_reducible rfl; simp only [zz]; rfl
     refine one_ (i := 7) (N := some 68) (bs 12 255) rfl rfl (one_of HT_.out (by kernel_rfl)) (by decide) (fun K hK => ?_); refine value_ (w1 := ?_) (v := ?_) (by rfl) rfl ?_ ?_; rotate_left 2
     ·
      go_simp
      constructor
      ·
       rfl
      ·
       rfl
     have hBX := below_drew (below_alloc (Below.refl X9.heap.size X9) (.cells #[.int .i64 x.f0] 3))
     obtain ⟨gl, hgl⟩ : ∃ gl, gl = X9.heap.size := ⟨_, rfl⟩
     have hRL := Kd.R_drew (R_single X9 x.f0 w.heap.size gl HB9.out.size hgl)
     obtain ⟨X1, hX1⟩ : ∃ X1 : World, X1 = (X9.alloc (.cells #[.int .i64 x.f0] 3)).drew := ⟨_, rfl⟩
     rw [← hX1] at hRL hBX; rw [← hX1, ← hgl]; have HBX1 := Lib.hid hBX; have HI1 := Lib.hid (HI9.out.below hBX); have HB1 := Lib.hid (below_then HB9.out HB9.out.size hBX); have hx0 : X1.cell? ⟨gx, 0, none⟩ = some (.int .i64 x.f0) := pw_cell_below hBX x90; have HRL := Lib.hid hRL; clear hRL hBX hX1 hgl; refine hK.out _ _ ⟨((blk_cell HI1.out.blk 3).trans rfl), hx0⟩ (fun hHeld => ?_); clear hK K; refine norm_ (a' := ?_) ?_ ?_; rotate_left
     ·
      show Act.put _ (some 68) _ = _; simp only [Act.put, List.setIfInBounds_toArray, List.set_cons_zero, List.set_cons_succ, i64_w, i32_w]; rfl
     refine last_ (i := 8) (N := some 69) (bs 12 511) rfl rfl (one_of HT_.out (by kernel_rfl)) (by decide) (fun K hK => ?_); refine Kd.R_append_rows_step kI (Rr := fun x cs => cs = [.int .i64 x]) (w0 := w) w.heap.size (by rfl) (.tmp 65) (.tmp 68) 22 3 (.int .i64 0) 8 (by rfl) Tryz.underlying22 info3 (by rfl) (by decide) (by decide) vO (othersL (l.take i) n) [x.f0] (some ⟨gl, 0, none⟩) 1 1 (fun _ => True) (fun _ => False) (by rfl) (by rfl) HI1.out.oth (Kd.R_reads' HRL.out).2.2 (fun _ _ h => h) (fun _ h => h.elim) (fun _ _ => trivial) HB1.out HB1.out.size (by have := HLO.out; omega) ?_; intro v5 X2 hR5 hB5 hg5 hat5; obtain ⟨A5, n5, c5, rfl⟩ : ∃ A n c, v5 = .slice A n c := by obtain ⟨A, c, e⟩ := Kd.R_slice hR5; exact ⟨A, _, c, e⟩
     have HG45 := Lib.hid ((hg5.block g4 (blk_lt (blk_below HG49.out HBX1.out)) (Kd.R_ne HI1.out.oth (blk_below HG49.out HBX1.out) (by decide))).trans (blk_below HG49.out HBX1.out)); have hg4g : g4 ≠ g := fun e => by have h1 := HI9.out.blk; have h2 := HG49.out; rw [e, h1] at h2; cases h2
     have HAPP := Lib.hid (HI1.out.appended hg5 hat5 hR5); have HGG := Lib.hid HI1.out.bg; have HB5 := Lib.hid hB5; have e3 : X2.cell? ⟨g, 3, none⟩ = some vO := (blk_cell ((hg5.block g (blk_lt HI1.out.blk) (Kd.R_ne HI1.out.oth HI1.out.blk (by decide))).trans HI1.out.blk) 3).trans rfl; have e4 : X2.frozen? ⟨g, 3, none⟩ = false := blk_frozen ((hg5.block g (blk_lt HI1.out.blk) (Kd.R_ne HI1.out.oth HI1.out.blk (by decide))).trans HI1.out.blk) 3; clear hR5 hB5 hg5 hat5; refine hK.out _ _ ?_; clear hK K; refine norm_ (a' := ?_) ?_ ?_; rotate_left
     ·
      show Act.put _ (some 69) _ = _; simp only [Act.put, List.setIfInBounds_toArray, List.set_cons_zero, List.set_cons_succ, i64_w, i32_w]; rfl
     apply pv 9 70 (bs 12 1023) HT_; rfl; rfl; kernel_rfl; exact qq; rfl; intro w'; go_simp; with_reducible rfl; simp only [zz]; rfl
     apply pv 10 71 (bs 12 2047) HT_; rfl; rfl; kernel_rfl; exact qq; rfl; intro w'; go_simp; with_reducible rfl; simp only [zz]; rfl
     refine last_ (i := 11) (N := none) (bs 12 4095) rfl rfl (one_of HT_.out (by kernel_rfl)) (by decide) (fun K hK => ?_); refine skip_ (w1 := ?_) (by rfl) rfl ?_ ?_; rotate_left
     ·
      go_simp; rfl
     refine hK.out _ _ ?_; clear hK K; refine done_ (done_of HT_.out (by kernel_rfl)) ?_; go_wp2_with fail
     go_roundg (l.length - (i + 1))
     case measure => have := HN.out; omega
     case rel => exact ⟨i + 1, by rfl, ⟨rfl⟩, ⟨hi⟩, ⟨.slice A5 n5 c5, by rw [HEQ.out]; exact HAPP.out⟩, ⟨HB5.out.setCell HGG.out _⟩, ⟨(Below.heap_setCell _ _ _ _ hg4g).trans HG45.out⟩⟩
  ·
   have hge : ¬ (i : Int) < (l.length : Int) := by omega
   have hie : i = l.length := by have := HI.out; omega
   have HSF := HSI.out; rw [hie, List.take_length] at HSF; have HSF := Lib.hid HSF; clear hie HSI; go_wp2; go_ret2; exact ⟨g, rfl, ⟨vO, HSF.out⟩, HB.out⟩
end Bt
end Go.Proofs.YtiinmagnpkfbbaaGreat
end
section
set_option maxHeartbeats 1000000
namespace Go.Proofs.YtiinmagnpkfbbaaGreat
set_option linter.unusedVariables false
set_option linter.unusedSimpArgs false
open Go.RowKit Go.Proofs.YtiinmagnpkfbbaaGreatW.PrintWords Go.Proofs.YtiinmagnpkfbbaaGreatW.PrintLast Go.Proofs.YtiinmagnpkfbbaaGreatW.PrintMore Go.Proofs.YtiinmagnpkfbbaaGreat.QT
namespace Bt
theorem got_not (w : World) (g : Nat) (st p : Int) (v : Value) (h : w.cell? ⟨g, 1, none⟩ = some (.int .i64 st)) (hst : st ≠ 1) :
  Calls Tryz.prog 10 #[.pointer (some ⟨g, 0, none⟩), .int .i64 p, v] w fun e w' => e = .returned (.bool false) ∧ Below w.heap.size w w' := by
 have HIN := Lib.hid (init_calls w g st h); rw [beq_eq_false_iff_ne.2 hst] at HIN; have H0 := Lib.hid (Below.refl w.heap.size w); clear h hst; go_enter Tryz.func10, Tryz.ntmps10
 go_wp2_with fail
 with_reducible refine HIN.out.mono ?_
 rintro e w1 ⟨rfl, rfl⟩; go_wp2; go_ret; exact ⟨rfl, H0.out⟩
end Bt
end Go.Proofs.YtiinmagnpkfbbaaGreat
end
section
namespace Go.Proofs.YtiinmagnpkfbbaaGreat
set_option linter.unusedVariables false
set_option linter.unusedSimpArgs false
open Go.RowKit Go.Proofs.YtiinmagnpkfbbaaGreatW.PrintWords Go.Proofs.YtiinmagnpkfbbaaGreatW.PrintLast Go.Proofs.YtiinmagnpkfbbaaGreatW.PrintMore Go.Proofs.YtiinmagnpkfbbaaGreat.QT
namespace Hv
abbrev Ser := S55
abbrev Stp := S40
def serW (l : List Ser) : Nat := (l.map (fun x => x.f0.size + x.f1.length)).sum
def stepsW (l : List Stp) : Nat := (l.map (fun s => s.f4.length + serW s.f4)).sum
theorem serW_cons (x : Ser) (l : List Ser) : serW (x :: l) = x.f0.size + x.f1.length + serW l := by unfold serW; rw [List.map_cons, List.sum_cons]
theorem stepsW_cons (x : Stp) (l : List Stp) : stepsW (x :: l) = x.f4.length + serW x.f4 + stepsW l := by unfold stepsW; rw [List.map_cons, List.sum_cons]
theorem rdStep {l : List Stp} {i : Nat} (h : i < l.length) : rd_T40 l (i : Int) = l[i] := by
 unfold rd_T40; rw [Int.toNat_natCast, List.getD_eq_getElem?_getD, List.getElem?_eq_getElem h]; rfl
theorem rdSer {l : List Ser} {i : Nat} (h : i < l.length) : rd_T55 l (i : Int) = l[i] := by
 unfold rd_T55; rw [Int.toNat_natCast, List.getD_eq_getElem?_getD, List.getElem?_eq_getElem h]; rfl
theorem mn_cap (a : Nat) : 0 ≤ mn (a : Int) 1048576 ∧ mn (a : Int) 1048576 ≤ 1048576 ∧ (mn (a : Int) 1048576 ≤ 2048 → mn (a : Int) 1048576 = a) := by
 unfold mn
 split <;> omega
theorem heavy_in (l : List Stp) (hl : l.length ≤ 9223372036854775807) (i : Nat) (hi : i < l.length) (hL : l[i].f4.length ≤ 9223372036854775807) (W : Nat)
  (K : ∀ x : Int, 0 ≤ x → ∃ r, Ev (fun k => thermographlaw18_heavy.l0 k l x ((i : Int) + 1)) r ∧ (r = false → x + (W : Int) ≤ 2048)) :
  ∀ (d j : Nat) (x : Int), j + d = l[i].f4.length → 0 ≤ x → x ≤ 2099200 → ∃ r, Ev (fun k => thermographlaw18_heavy.l1 k l x (i : Int) (j : Int)) r ∧ (r = false → x + (serW (l[i].f4.drop j) : Int) + (W : Int) ≤ 2048)
 | 0, j, x, hd, h0, h1 => by
  obtain ⟨r, hr, hh⟩ := K x h0; refine ⟨r, Ev.step (fun k => ?_) hr, fun h => ?_⟩
  ·
   rw [thermographlaw18_heavy.l1, rdStep hi, if_pos (by omega), if_pos (by omega), if_neg (by omega)]; have : wrap64 ((i : Int) + 1) = (i : Int) + 1 := by unfold wrap64; omega
   rw [this]
  ·
   have := hh h; rw [List.drop_eq_nil_of_le (by omega)]; show x + 0 + (W : Int) ≤ 2048
   omega
 | d + 1, j, x, hd, h0, h1 => by
  have hj : j < l[i].f4.length := by omega
  by_cases hx : x ≤ 2048
  ·
   obtain ⟨a0, a1, a2⟩ := mn_cap (l[i].f4[j].f0.size); obtain ⟨b0, b1, b2⟩ := mn_cap (l[i].f4[j].f1.length); obtain ⟨r, hr, hh⟩ := heavy_in l hl i hi hL W K d (j + 1) (x + (mn (l[i].f4[j].f0.size : Int) 1048576 + mn (l[i].f4[j].f1.length : Int) 1048576)) (by omega) (by omega) (by omega); refine ⟨r, Ev.step (fun k => ?_) hr, fun h => ?_⟩
   ·
    rw [thermographlaw18_heavy.l1, rdStep hi, rdSer hj, if_pos (by omega), if_pos (by omega), if_pos (by omega), if_pos hx, if_pos (by omega)]; generalize mn (l[i].f4[j].f0.size : Int) 1048576 = p at *; generalize mn (l[i].f4[j].f1.length : Int) 1048576 = q at *; have e1 : wrap64 (x + (p + q)) = x + (p + q) := by unfold wrap64; omega
    have e2 : wrap64 ((j : Int) + 1) = ((j + 1 : Nat) : Int) := by unfold wrap64; omega
    rw [e1, e2]
   ·
    have := hh h; rw [List.drop_eq_getElem_cons hj, serW_cons]; generalize mn (l[i].f4[j].f0.size : Int) 1048576 = p at *; generalize mn (l[i].f4[j].f1.length : Int) 1048576 = q at *; have := a2 (by omega); have := b2 (by omega)
    push_cast
    omega
  ·
   obtain ⟨r, hr, hh⟩ := K x h0; refine ⟨r, Ev.step (fun k => ?_) hr, fun h => ?_⟩
   ·
    rw [thermographlaw18_heavy.l1, rdStep hi, if_pos (by omega), if_pos (by omega), if_pos (by omega), if_neg hx]; have : wrap64 ((i : Int) + 1) = (i : Int) + 1 := by unfold wrap64; omega
    rw [this]
   ·
    have := hh h; omega
theorem heavy_out (l : List Stp) (hl : l.length ≤ 9223372036854775807) (hL : ∀ s ∈ l, s.f4.length ≤ 9223372036854775807) :
  ∀ (d i : Nat) (x : Int), i + d = l.length → 0 ≤ x → ∃ r, Ev (fun k => thermographlaw18_heavy.l0 k l x (i : Int)) r ∧ (r = false → x + (stepsW (l.drop i) : Int) ≤ 2048)
 | 0, i, x, hd, h0 => by
  refine ⟨decide (x > 2048), Ev.step (f := fun k => thermographlaw18_heavy.j1 k l x (i : Int) false) (fun k => by rw [thermographlaw18_heavy.l0, if_neg (by omega)]) (Ev.step (f := fun _ => some _) (fun k => by rw [thermographlaw18_heavy.j1, if_neg (by simp)]) (Ev.now _)), fun h => ?_⟩; have := of_decide_eq_false h; rw [List.drop_eq_nil_of_le (by omega)]; show x + 0 ≤ 2048
  omega
 | d + 1, i, x, hd, h0 => by
  have hi : i < l.length := by omega
  by_cases hx : x ≤ 2048
  ·
   obtain ⟨a0, a1, a2⟩ := mn_cap (l[i].f4.length)
   obtain ⟨r, hr, hh⟩ := heavy_in l hl i hi (hL _ (List.getElem_mem hi)) (stepsW (l.drop (i + 1))) (fun x hx0 => by
    have := heavy_out l hl hL d (i + 1) x (by omega) hx0
    rwa [show ((i + 1 : Nat) : Int) = (i : Int) + 1 by omega] at this) (l[i].f4.length) 0 (x + mn (l[i].f4.length : Int) 1048576) (by omega) (by omega) (by omega)
   refine ⟨r, Ev.step (f := fun k => thermographlaw18_heavy.j1 k l x (i : Int) true) (fun k => by rw [thermographlaw18_heavy.l0, if_pos (by omega), decide_eq_true hx]) (Ev.step (fun k => ?_) hr), fun h => ?_⟩
   ·
    rw [thermographlaw18_heavy.j1, if_pos rfl, if_pos (by omega), if_pos (by omega), rdStep hi]; generalize mn (l[i].f4.length : Int) 1048576 = p at *; have e1 : wrap64 (x + p) = x + p := by unfold wrap64; omega
    rw [e1]; rfl
   ·
    have := hh h; rw [List.drop_eq_getElem_cons hi, stepsW_cons]; rw [List.drop_zero] at this; generalize mn (l[i].f4.length : Int) 1048576 = p at *; have := a2 (by omega)
    push_cast
    omega
  ·
   refine ⟨true, Ev.step (f := fun k => thermographlaw18_heavy.j1 k l x (i : Int) false) (fun k => by rw [thermographlaw18_heavy.l0, if_pos (by omega), decide_eq_false hx]) (Ev.step (f := fun _ => some _) (fun k => by rw [thermographlaw18_heavy.j1, if_neg (by simp), decide_eq_true (by omega)]) (Ev.now _)), fun h => by cases h⟩
theorem heavy_any (w : World) (A : Option Addr) (c : Nat) (l : List Stp) (hC : Kd.C k40 w A l.length l) (hc : l.length ≤ c) (hl : l.length ≤ 9223372036854775807) (hL : ∀ s ∈ l, s.f4.length ≤ 9223372036854775807) :
  ∃ r : Bool, (r = false → l.length + stepsW l ≤ 2048) ∧ Calls Tryz.prog 6 #[.slice A l.length c] w fun e w' => e = .returned (.bool r) ∧ Below w.heap.size w w' := by
 obtain ⟨r, hr, hh⟩ := heavy_out l hl hL l.length 0 (l.length : Int) (by omega) (by omega); have hf : Ev (fun k => thermographlaw18_heavy.f k l) r := Ev.congr (fun k => by unfold thermographlaw18_heavy.f; rfl) hr; obtain ⟨k, hk⟩ := hf.rounds; exact ⟨r, fun h => by have := hh h; rw [List.drop_zero] at this; omega, thermographlaw18_heavy.calls k A c l r w hC hc hk⟩
end Hv
end Go.Proofs.YtiinmagnpkfbbaaGreat
end
