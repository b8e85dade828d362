/- The document's fetch: stream. -/
import Derived.Test.YtgagcimfkmegnaaPPage
import Derived.Test.YtgagcimfkmegnaaGrow
section
set_option maxHeartbeats 4000000
set_option maxRecDepth 100000
namespace Go.Proofs.Ytgagcimfkmegnaa
set_option linter.unusedVariables false
set_option linter.unusedSimpArgs false
open Go.RowKit Go.Proofs.YtgagcimfkmegnaaW.PrintWords Go.Proofs.YtgagcimfkmegnaaW.PrintLast Go.Proofs.YtgagcimfkmegnaaW.PrintMore Go.Proofs.Ytgagcimfkmegnaa.QT
namespace Ps
/-- A message's cells. -/
def mc (k s e p h : Int) (i : ByteArray) (b r0 r1 : Int) : Array Value := #[.int .i64 k, .int .i64 s, .int .i64 e, .int .i64 p, .int .i64 h, .string i, .int .i64 b, .int .i64 r0, .int .i64 r1, .int .i64 0, .int .u64 0, .int .u64 0, .int .i64 0, .bool false, .slice none 0 0, .slice none 0 0]
def mc0 : Array Value := mc 0 0 0 0 0 ⟨#[]⟩ 0 0 0
theorem next_none (w : World) (B g gm : Nat) (vM : Value) (x : Fx) (c : Me) (a : Fa) (h : FIs w B g gm vM x c a) (hl : a.live = false) :
  Calls Try.prog 10 #[.pointer (some ⟨g, 0, none⟩)] w fun e w' => e = .returned (.tuple #[.agg mc0, .bool false]) ∧ Below w.heap.size w w' := by
 have c24 : w.cell? ⟨g, 24, none⟩ = some .nilFunc := by
  have := (blk_cell h.blk 24).trans (show _ = some (hv g a) from rfl); unfold hv at this
  rwa [if_neg (by rw [hl]; simp)] at this
 have HL := Lib.hid (blk_lt h.blk); clear h hl; have q2 := nil_eq; go_enter Try.func10, Try.ntmps10
 go_wp2_with (first
  | ((with_reducible refine gate_dst (N := 2) rfl ?_); refine box_event rfl (N := 2) rfl (cs := mc0) (t := 46) ?hr ?_; (case hr => go_simp; rfl); intro gb hgb Y hboy hbY; have HY := Lib.hid (And.intro hgb (And.intro hboy hbY)); have c24' := pw_cell_below hbY c24; clear hgb hboy hbY c24)
  | (refine store_blk (t := 46) (p := .tmp 2) (v := .tmp 10) (g := gb) (off := 0) (cur := mc0) (cur' := mc0) (e := 46) (u := .agg mc0) rfl rfl rfl rfl rfl HY.out.2.1 (by kernel_rfl) (by decide) (by decide +kernel) (by rfl) ?_; intro Y2 hy2 hg2 hs2; have HY2 := Lib.hid (And.intro hy2 (And.intro hg2 hs2)); clear hy2 hg2 hs2))
 refine bodyPost_ret (results_ct rfl _ _ gb 46 mc0 (0, 0) _ rfl HY2.out.1 Try.underlying46 rfl (by kernel_rfl)) rfl ?_; exact ⟨rfl, HY.out.2.2.grown HY2.out.2.1 HY.out.2.2.size (fun k hk => by cases hk; exact Nat.le_of_eq HY.out.1.symm)⟩
theorem next_page (w : World) (B g gm : Nat) (vM : Value) (x : Fx) (c : Me) (a : Fa) (h : FIs w B g gm vM x c a) (hl : a.live = true) (hp : a.pg = false) :
  Calls Try.prog 10 #[.pointer (some ⟨g, 0, none⟩)] w fun e w' => e = .returned (.tuple #[.agg (mc 5 a.seq x.ep x.sp x.sh a.id a.blk x.rg.f0 x.rg.f1), .bool true]) ∧ Below w.heap.size w w' := by
 obtain ⟨fc, hfc⟩ : ∃ fc, fc = fcells x a.seq c vM a.er gm (hf g 29) 5 := ⟨_, rfl⟩
 have hb : w.heap[g]? = some (.cells fc 77 (0, 0)) := by
  have h1 := h.blk; unfold hv Fa.kd at h1; rw [hl, hp] at h1; rw [hfc]; exact h1
 rw [← h.cb, ← h.ci]; have HFC := Lib.hid hfc; have HL := Lib.hid (blk_lt hb); have HB := Lib.hid hb; have c24 : w.cell? ⟨g, 24, none⟩ = some (.func (.func 29) #[.pointer (some ⟨g, 0, none⟩)] #[]) := (blk_cell hb 24).trans (by rw [hfc]; rfl); clear h hl hp hb hfc; have q1 := fn_eq; go_enter Try.func10, Try.ntmps10
 go_wp2_with (first
  | ((with_reducible refine gate_dst (N := 2) rfl ?_); refine box_event rfl (N := 2) rfl (cs := mc0) (t := 46) ?hr ?_; (case hr => go_simp; rfl); intro gb hgb Y hboy hbY; have HY := Lib.hid (And.intro hgb (And.intro hboy hbY)); have HBY := Lib.hid (blk_below HB.out hbY); have y0 : Y.cell? ⟨g, 0, none⟩ = some (.int .i64 0) := (blk_cell HBY.out 0).trans (by rw [HFC.out]; rfl); have y1 : Y.cell? ⟨g, 1, none⟩ = some (.int .i64 a.seq) := (blk_cell HBY.out 1).trans (by rw [HFC.out]; rfl); have y2 : Y.cell? ⟨g, 2, none⟩ = some (.int .i64 x.ep) := (blk_cell HBY.out 2).trans (by rw [HFC.out]; rfl); have y3 : Y.cell? ⟨g, 3, none⟩ = some (.int .i64 x.sp) := (blk_cell HBY.out 3).trans (by rw [HFC.out]; rfl); have y4 : Y.cell? ⟨g, 4, none⟩ = some (.int .i64 x.sh) := (blk_cell HBY.out 4).trans (by rw [HFC.out]; rfl); have y5 : Y.cell? ⟨g, 5, none⟩ = some (.string ⟨#[]⟩) := (blk_cell HBY.out 5).trans (by rw [HFC.out]; rfl); have y6 : Y.cell? ⟨g, 6, none⟩ = some (.int .i64 0) := (blk_cell HBY.out 6).trans (by rw [HFC.out]; rfl); have y7 : Y.cell? ⟨g, 7, none⟩ = some (.int .i64 x.rg.f0) := (blk_cell HBY.out 7).trans (by rw [HFC.out]; rfl); have y8 : Y.cell? ⟨g, 8, none⟩ = some (.int .i64 x.rg.f1) := (blk_cell HBY.out 8).trans (by rw [HFC.out]; rfl); have y9 : Y.cell? ⟨g, 9, none⟩ = some (.int .i64 0) := (blk_cell HBY.out 9).trans (by rw [HFC.out]; rfl); have y10 : Y.cell? ⟨g, 10, none⟩ = some (.int .u64 0) := (blk_cell HBY.out 10).trans (by rw [HFC.out]; rfl); have y11 : Y.cell? ⟨g, 11, none⟩ = some (.int .u64 0) := (blk_cell HBY.out 11).trans (by rw [HFC.out]; rfl); have y12 : Y.cell? ⟨g, 12, none⟩ = some (.int .i64 0) := (blk_cell HBY.out 12).trans (by rw [HFC.out]; rfl); have y13 : Y.cell? ⟨g, 13, none⟩ = some (.bool false) := (blk_cell HBY.out 13).trans (by rw [HFC.out]; rfl); have y14 : Y.cell? ⟨g, 14, none⟩ = some (.slice none 0 0) := (blk_cell HBY.out 14).trans (by rw [HFC.out]; rfl); have y15 : Y.cell? ⟨g, 15, none⟩ = some (.slice none 0 0) := (blk_cell HBY.out 15).trans (by rw [HFC.out]; rfl); have y24 : Y.cell? ⟨g, 24, none⟩ = some (.func (.func 29) #[.pointer (some ⟨g, 0, none⟩)] #[]) := (blk_cell HBY.out 24).trans (by rw [HFC.out]; rfl); clear hgb hboy hbY c24)
  | ((with_reducible refine gate_dst (N := 4) rfl ?_); refine box_event rfl (N := 4) rfl (cs := mc0) (t := 46) ?hr ?_; (case hr => go_simp; rfl); intro gz hgz Z hboz hbZ; have HZ := Lib.hid (And.intro hgz (And.intro hboz hbZ)); have HNE := Lib.hid (show g ≠ gz from fun e => by have h1 := blk_lt HBY.out; omega); have HBZ := Lib.hid (blk_below HBY.out hbZ); clear hgz hboz hbZ y0 y1 y2 y3 y4 y5 y6 y7 y8 y9 y10 y11 y12 y13 y14 y15 y24)
  | (refine store_blk (t := 46) (p := .tmp 4) (v := .tmp 14) (g := gz) (off := 0) (cur := mc0) (cur' := (mc 0 a.seq x.ep x.sp x.sh ⟨#[]⟩ 0 x.rg.f0 x.rg.f1)) (e := 46) (u := .agg (mc 0 a.seq x.ep x.sp x.sh ⟨#[]⟩ 0 x.rg.f0 x.rg.f1)) rfl rfl rfl rfl rfl HZ.out.2.1 (by kernel_rfl) (by exact Nat.le_refl _) (by rfl) (by rfl) ?_; intro Z2 hz2 hg2 hs2; have HZ2 := Lib.hid (And.intro hz2 (And.intro hg2 hs2)); have HB2 := Lib.hid (blk_other HBZ.out hg2 HNE.out); have a25 : Z2.cell? ⟨g, 25, none⟩ = some (.int .i64 5) := (blk_cell HB2.out 25).trans (by rw [HFC.out]; rfl); clear hz2 hg2 hs2)
  | (refine store_blk (t := 3) (p := .tmp 19) (v := .tmp 18) (g := gz) (off := 0) (cur := (mc 0 a.seq x.ep x.sp x.sh ⟨#[]⟩ 0 x.rg.f0 x.rg.f1)) (cur' := (mc 5 a.seq x.ep x.sp x.sh ⟨#[]⟩ 0 x.rg.f0 x.rg.f1)) (e := 46) (u := .int .i64 5) rfl rfl rfl rfl rfl HZ2.out.1 (by kernel_rfl) (Nat.le_of_ble_eq_true rfl) (by rfl) (by rfl) ?_; intro Z3 hz3 hg3 hs3; have HZ3 := Lib.hid (And.intro hz3 (And.intro hg3 hs3)); have HB3 := Lib.hid (blk_other HB2.out hg3 HNE.out); have b16 : Z3.cell? ⟨g, 16, none⟩ = some (.string c.f0) := (blk_cell HB3.out 16).trans (by rw [HFC.out]; rfl); have b17 : Z3.cell? ⟨g, 17, none⟩ = some (.int .i64 c.f1) := (blk_cell HB3.out 17).trans (by rw [HFC.out]; rfl); have b25 : Z3.cell? ⟨g, 25, none⟩ = some (.int .i64 5) := (blk_cell HB3.out 25).trans (by rw [HFC.out]; rfl); have z6 : Z3.cell? ⟨gz, 6, none⟩ = some (.int .i64 0) := (blk_cell hz3 6).trans rfl; have z5 : Z3.cell? ⟨gz, 5, none⟩ = some (.string ⟨#[]⟩) := (blk_cell hz3 5).trans rfl; have z6' : Z3.frozen? ⟨gz, 6, none⟩ = false := blk_frozen hz3 _; have z5' : Z3.frozen? ⟨gz, 5, none⟩ = false := blk_frozen hz3 _; have hne := HNE.out; clear hz3 hg3 hs3 a25))
 go_region
 obtain ⟨Z4, hZ4, hz4, hg4, hs4⟩ := set2 (i := 6) (j := 5) HZ3.out.1 (.int .i64 c.f1) (.string c.f0); rw [← hZ4]; have hz4 : Z4.heap[gz]? = some (.cells (mc 5 a.seq x.ep x.sp x.sh c.f0 c.f1 x.rg.f0 x.rg.f1) 46 (0, 0)) := hz4; have HZ4 := Lib.hid (And.intro hz4 (And.intro hg4 hs4)); have HB4 := Lib.hid (blk_other HB3.out hg4 HNE.out); have hne2 : gb ≠ gz := fun e => by have h1 := HY.out; have h2 := HZ.out; have h3 := blk_lt h1.2.1; omega
 have HR4 := Lib.hid (blk_other (blk_other (blk_other (blk_below HY.out.2.1 HZ.out.2.2) HZ2.out.2.1 hne2) HZ3.out.2.1 hne2) hg4 hne2); have e25 : Z4.cell? ⟨g, 25, none⟩ = some (.int .i64 5) := (blk_cell HB4.out 25).trans (by rw [HFC.out]; rfl); have d0 : Z4.cell? ⟨gz, 0, none⟩ = some (.int .i64 5) := (blk_cell hz4 0).trans rfl; have d1 : Z4.cell? ⟨gz, 1, none⟩ = some (.int .i64 a.seq) := (blk_cell hz4 1).trans rfl; have d2 : Z4.cell? ⟨gz, 2, none⟩ = some (.int .i64 x.ep) := (blk_cell hz4 2).trans rfl; have d3 : Z4.cell? ⟨gz, 3, none⟩ = some (.int .i64 x.sp) := (blk_cell hz4 3).trans rfl; have d4 : Z4.cell? ⟨gz, 4, none⟩ = some (.int .i64 x.sh) := (blk_cell hz4 4).trans rfl; have d5 : Z4.cell? ⟨gz, 5, none⟩ = some (.string c.f0) := (blk_cell hz4 5).trans rfl; have d6 : Z4.cell? ⟨gz, 6, none⟩ = some (.int .i64 c.f1) := (blk_cell hz4 6).trans rfl; have d7 : Z4.cell? ⟨gz, 7, none⟩ = some (.int .i64 x.rg.f0) := (blk_cell hz4 7).trans rfl; have d8 : Z4.cell? ⟨gz, 8, none⟩ = some (.int .i64 x.rg.f1) := (blk_cell hz4 8).trans rfl; have d9 : Z4.cell? ⟨gz, 9, none⟩ = some (.int .i64 0) := (blk_cell hz4 9).trans rfl; have d10 : Z4.cell? ⟨gz, 10, none⟩ = some (.int .u64 0) := (blk_cell hz4 10).trans rfl; have d11 : Z4.cell? ⟨gz, 11, none⟩ = some (.int .u64 0) := (blk_cell hz4 11).trans rfl; have d12 : Z4.cell? ⟨gz, 12, none⟩ = some (.int .i64 0) := (blk_cell hz4 12).trans rfl; have d13 : Z4.cell? ⟨gz, 13, none⟩ = some (.bool false) := (blk_cell hz4 13).trans rfl; have d14 : Z4.cell? ⟨gz, 14, none⟩ = some (.slice none 0 0) := (blk_cell hz4 14).trans rfl; have d15 : Z4.cell? ⟨gz, 15, none⟩ = some (.slice none 0 0) := (blk_cell hz4 15).trans rfl; clear hZ4 hz4 hg4 hs4 hne2 hne z6 z5 z6' z5' b16 b17 b25
 go_wp2_with (first
  | (refine store_blk (t := 46) (p := .tmp 2) (v := .tmp 55) (g := gb) (off := 0) (cur := mc0) (cur' := (mc 5 a.seq x.ep x.sp x.sh c.f0 c.f1 x.rg.f0 x.rg.f1)) (e := 46) (u := .agg (mc 5 a.seq x.ep x.sp x.sh c.f0 c.f1 x.rg.f0 x.rg.f1)) rfl rfl rfl rfl rfl HR4.out (by kernel_rfl) (Nat.le_of_ble_eq_true rfl) (by rfl) (by rfl) ?_; intro Z5 hz5 hg5 hs5; have HZ5 := Lib.hid (And.intro hz5 (And.intro hg5 hs5)); clear hz5 hg5 hs5 d0 d1 d2 d3 d4 d5 d6 d7 d8 d9 d10 d11 d12 d13 d14 d15))
 refine bodyPost_ret (results_ct rfl _ _ gb 46 (mc 5 a.seq x.ep x.sp x.sh c.f0 c.f1 x.rg.f0 x.rg.f1) (0, 0) _ rfl HZ5.out.1 Try.underlying46 rfl (by kernel_rfl)) rfl ?_; refine ⟨rfl, ?_⟩; have h1 := HY.out; have h2 := HZ.out; have hgb : w.heap.size ≤ gb := Nat.le_of_eq h1.1.symm; have hgz : w.heap.size ≤ gz := by have := h1.2.2.size; omega
 exact below_grow (below_grow (below_grow (below_grow (below_then h1.2.2 h1.2.2.size h2.2.2) HZ2.out.2.1 hgz) HZ3.out.2.1 hgz) HZ4.out.2.1 hgz) HZ5.out.2.1 hgb
theorem next_block (w : World) (B g gm : Nat) (vM : Value) (x : Fx) (c : Me) (a : Fa) (h : FIs w B g gm vM x c a) (hl : a.live = true) (hp : a.pg = true) (hn : a.n < a.L.length) :
  Calls Try.prog 10 #[.pointer (some ⟨g, 0, none⟩)] w fun e w' => e = .returned (.tuple #[.agg (mc 7 a.seq x.ep x.sp x.sh (rd_T25 a.L a.n).f0 (rd_T25 a.L a.n).f1 0 0), .bool true]) ∧ Below w.heap.size w w' := by
 obtain ⟨fc, hfc⟩ : ∃ fc, fc = fcells x a.seq c vM a.er gm (hf g 44) 7 := ⟨_, rfl⟩
 have hb : w.heap[g]? = some (.cells fc 77 (0, 0)) := by
  have h1 := h.blk; unfold hv Fa.kd at h1; rw [hl, hp] at h1; rw [hfc]; exact h1
 have hD : (a.L.drop a.n).length = a.L.length - a.n := List.length_drop; obtain ⟨gq, oq, cq, hvm, _⟩ := Kd.Q_form h.met (by omega)
 have hrd : rd_T25 a.L a.n = rd_T25 (a.L.drop a.n) 0 := by
  unfold rd_T25; rw [List.getD_eq_getElem?_getD, List.getD_eq_getElem?_getD, List.getElem?_drop]; simp
 rw [hrd]
 obtain ⟨D, hDe⟩ : ∃ D, a.L.drop a.n = D := ⟨_, rfl⟩
 have hm := h.met; rw [hDe] at hm hvm hD; rw [hDe]; rw [hvm] at hm hfc; have HQ := Lib.hid hm; have hd0 : (0 : Int) < (D.length : Int) := by omega
 have HD0 := Lib.hid hd0; clear hm hrd hDe hD hvm; have HFC := Lib.hid hfc; have HL := Lib.hid (blk_lt hb); have HB := Lib.hid hb; have c24 : w.cell? ⟨g, 24, none⟩ = some (.func (.func 44) #[.pointer (some ⟨g, 0, none⟩)] #[]) := (blk_cell hb 24).trans (by rw [hfc]; rfl); clear h hl hp hb hfc hn hd0; have q1 := fn_eq; go_enter Try.func10, Try.ntmps10
 go_wp2_with (first
  | ((with_reducible refine gate_dst (N := 2) rfl ?_); refine box_event rfl (N := 2) rfl (cs := mc0) (t := 46) ?hr ?_; (case hr => go_simp; rfl); intro gb hgb Y hboy hbY; have HY := Lib.hid (And.intro hgb (And.intro hboy hbY)); have HBY := Lib.hid (blk_below HB.out hbY); have y0 : Y.cell? ⟨g, 0, none⟩ = some (.int .i64 0) := (blk_cell HBY.out 0).trans (by rw [HFC.out]; rfl); have y1 : Y.cell? ⟨g, 1, none⟩ = some (.int .i64 a.seq) := (blk_cell HBY.out 1).trans (by rw [HFC.out]; rfl); have y2 : Y.cell? ⟨g, 2, none⟩ = some (.int .i64 x.ep) := (blk_cell HBY.out 2).trans (by rw [HFC.out]; rfl); have y3 : Y.cell? ⟨g, 3, none⟩ = some (.int .i64 x.sp) := (blk_cell HBY.out 3).trans (by rw [HFC.out]; rfl); have y4 : Y.cell? ⟨g, 4, none⟩ = some (.int .i64 x.sh) := (blk_cell HBY.out 4).trans (by rw [HFC.out]; rfl); have y5 : Y.cell? ⟨g, 5, none⟩ = some (.string ⟨#[]⟩) := (blk_cell HBY.out 5).trans (by rw [HFC.out]; rfl); have y6 : Y.cell? ⟨g, 6, none⟩ = some (.int .i64 0) := (blk_cell HBY.out 6).trans (by rw [HFC.out]; rfl); have y7 : Y.cell? ⟨g, 7, none⟩ = some (.int .i64 x.rg.f0) := (blk_cell HBY.out 7).trans (by rw [HFC.out]; rfl); have y8 : Y.cell? ⟨g, 8, none⟩ = some (.int .i64 x.rg.f1) := (blk_cell HBY.out 8).trans (by rw [HFC.out]; rfl); have y9 : Y.cell? ⟨g, 9, none⟩ = some (.int .i64 0) := (blk_cell HBY.out 9).trans (by rw [HFC.out]; rfl); have y10 : Y.cell? ⟨g, 10, none⟩ = some (.int .u64 0) := (blk_cell HBY.out 10).trans (by rw [HFC.out]; rfl); have y11 : Y.cell? ⟨g, 11, none⟩ = some (.int .u64 0) := (blk_cell HBY.out 11).trans (by rw [HFC.out]; rfl); have y12 : Y.cell? ⟨g, 12, none⟩ = some (.int .i64 0) := (blk_cell HBY.out 12).trans (by rw [HFC.out]; rfl); have y13 : Y.cell? ⟨g, 13, none⟩ = some (.bool false) := (blk_cell HBY.out 13).trans (by rw [HFC.out]; rfl); have y14 : Y.cell? ⟨g, 14, none⟩ = some (.slice none 0 0) := (blk_cell HBY.out 14).trans (by rw [HFC.out]; rfl); have y15 : Y.cell? ⟨g, 15, none⟩ = some (.slice none 0 0) := (blk_cell HBY.out 15).trans (by rw [HFC.out]; rfl); have y24 : Y.cell? ⟨g, 24, none⟩ = some (.func (.func 44) #[.pointer (some ⟨g, 0, none⟩)] #[]) := (blk_cell HBY.out 24).trans (by rw [HFC.out]; rfl); clear hgb hboy hbY c24)
  | ((with_reducible refine gate_dst (N := 4) rfl ?_); refine box_event rfl (N := 4) rfl (cs := mc0) (t := 46) ?hr ?_; (case hr => go_simp; rfl); intro gz hgz Z hboz hbZ; have HZ := Lib.hid (And.intro hgz (And.intro hboz hbZ)); have HNE := Lib.hid (show g ≠ gz from fun e => by have h1 := blk_lt HBY.out; omega); have HBZ := Lib.hid (blk_below HBY.out hbZ); clear hgz hboz hbZ y0 y1 y2 y3 y4 y5 y6 y7 y8 y9 y10 y11 y12 y13 y14 y15 y24)
  | (refine store_blk (t := 46) (p := .tmp 4) (v := .tmp 14) (g := gz) (off := 0) (cur := mc0) (cur' := (mc 0 a.seq x.ep x.sp x.sh ⟨#[]⟩ 0 x.rg.f0 x.rg.f1)) (e := 46) (u := .agg (mc 0 a.seq x.ep x.sp x.sh ⟨#[]⟩ 0 x.rg.f0 x.rg.f1)) rfl rfl rfl rfl rfl HZ.out.2.1 (by kernel_rfl) (by exact Nat.le_refl _) (by rfl) (by rfl) ?_; intro Z2 hz2 hg2 hs2; have HZ2 := Lib.hid (And.intro hz2 (And.intro hg2 hs2)); have HB2 := Lib.hid (blk_other HBZ.out hg2 HNE.out); have a25 : Z2.cell? ⟨g, 25, none⟩ = some (.int .i64 7) := (blk_cell HB2.out 25).trans (by rw [HFC.out]; rfl); clear hz2 hg2 hs2)
  | (refine store_blk (t := 3) (p := .tmp 19) (v := .tmp 18) (g := gz) (off := 0) (cur := (mc 0 a.seq x.ep x.sp x.sh ⟨#[]⟩ 0 x.rg.f0 x.rg.f1)) (cur' := (mc 7 a.seq x.ep x.sp x.sh ⟨#[]⟩ 0 x.rg.f0 x.rg.f1)) (e := 46) (u := .int .i64 7) rfl rfl rfl rfl rfl HZ2.out.1 (by kernel_rfl) (Nat.le_of_ble_eq_true rfl) (by rfl) (by rfl) ?_; intro Z3 hz3 hg3 hs3; have HZ3 := Lib.hid (And.intro hz3 (And.intro hg3 hs3)); have HB3 := Lib.hid (blk_other HB2.out hg3 HNE.out); have b16 : Z3.cell? ⟨g, 16, none⟩ = some (.string c.f0) := (blk_cell HB3.out 16).trans (by rw [HFC.out]; rfl); have b17 : Z3.cell? ⟨g, 17, none⟩ = some (.int .i64 c.f1) := (blk_cell HB3.out 17).trans (by rw [HFC.out]; rfl); have b25 : Z3.cell? ⟨g, 25, none⟩ = some (.int .i64 7) := (blk_cell HB3.out 25).trans (by rw [HFC.out]; rfl); have z6 : Z3.cell? ⟨gz, 6, none⟩ = some (.int .i64 0) := (blk_cell hz3 6).trans rfl; have z5 : Z3.cell? ⟨gz, 5, none⟩ = some (.string ⟨#[]⟩) := (blk_cell hz3 5).trans rfl; have z6' : Z3.frozen? ⟨gz, 6, none⟩ = false := blk_frozen hz3 _; have z5' : Z3.frozen? ⟨gz, 5, none⟩ = false := blk_frozen hz3 _; have hne := HNE.out; clear hz3 hg3 hs3 a25))
 go_region
 obtain ⟨Z4, hZ4, hz4, hg4, hs4⟩ := set2 (i := 6) (j := 5) HZ3.out.1 (.int .i64 c.f1) (.string c.f0); rw [← hZ4]; have hz4 : Z4.heap[gz]? = some (.cells (mc 7 a.seq x.ep x.sp x.sh c.f0 c.f1 x.rg.f0 x.rg.f1) 46 (0, 0)) := hz4; have HZ4 := Lib.hid (And.intro hz4 (And.intro hg4 hs4)); have HB4 := Lib.hid (blk_other HB3.out hg4 HNE.out); have hne2 : gb ≠ gz := fun e => by have h1 := HY.out; have h2 := HZ.out; have h3 := blk_lt h1.2.1; omega
 have HR4 := Lib.hid (blk_other (blk_other (blk_other (blk_below HY.out.2.1 HZ.out.2.2) HZ2.out.2.1 hne2) HZ3.out.2.1 hne2) hg4 hne2); have e25 : Z4.cell? ⟨g, 25, none⟩ = some (.int .i64 7) := (blk_cell HB4.out 25).trans (by rw [HFC.out]; rfl); clear hZ4 hz4 hg4 hs4 hne2 hne z6 z5 z6' z5' b16 b17 b25; have hq4 := Kd.Q_grown1 (Kd.Q_grown1 (Kd.Q_grown1 (Kd.Q_below (Kd.Q_below HQ.out HY.out.2.2) HZ.out.2.2) rfl HZ2.out.2.1 ?qa) rfl HZ3.out.2.1 ?qb) rfl HZ4.out.2.1 ?qc
 case qa => exact fun e => by have h1 := Kd.Q_lt HQ.out gz e.symm; have h2 := HZ.out.1; have h3 := HY.out.2.2.size; omega
 case qb => exact fun e => by have h1 := Kd.Q_lt HQ.out gz e.symm; have h2 := HZ.out.1; have h3 := HY.out.2.2.size; omega
 case qc => exact fun e => by have h1 := Kd.Q_lt HQ.out gz e.symm; have h2 := HZ.out.1; have h3 := HY.out.2.2.size; omega
 have HQ4 := Lib.hid hq4; clear hq4
 go_wp2_with (first
  | (refine store_blk (t := 30) (p := .tmp 38) (v := .tmp 37) (g := gz) (off := 7) (cur := (mc 7 a.seq x.ep x.sp x.sh c.f0 c.f1 x.rg.f0 x.rg.f1)) (cur' := (mc 7 a.seq x.ep x.sp x.sh c.f0 c.f1 0 0)) (e := 46) (u := .agg #[.int .i64 0, .int .i64 0]) rfl rfl rfl rfl rfl HZ4.out.1 (by kernel_rfl) (Nat.le_of_ble_eq_true rfl) (by rfl) (by rfl) ?_; intro Z5 hz5 hg5 hs5; have HZ5 := Lib.hid (And.intro hz5 (And.intro hg5 hs5)); have HB5 := Lib.hid (blk_other HB4.out hg5 HNE.out); have HQ5 := Lib.hid (Kd.Q_grown1 HQ4.out rfl hg5 (fun e => by have h1 := Kd.Q_lt HQ.out gz e.symm; have h2 := HZ.out.1; have h3 := HY.out.2.2.size; omega)); clear hz5 hg5 hs5 e25))
 have f21 : Z5.cell? ⟨g, 21, none⟩ = some (.slice (some ⟨gq, oq, none⟩) D.length cq) := (blk_cell HB5.out 21).trans (by rw [HFC.out]; rfl); obtain ⟨ad, hA, p0, p1, p2, p3⟩ := at_T25 (Kd.Q_reads' HQ5.out).2.2 0 (by omega) HD0.out; cases hA; have hd0 := HD0.out; have p0 : Z5.cell? ⟨gq, oq, none⟩ = some (.string (rd_T25 D 0).f0) := by simpa [Addr.add] using p0
 have p1 : Z5.cell? ⟨gq, oq + 1, none⟩ = some (.int .i64 (rd_T25 D 0).f1) := by simpa [Addr.add] using p1
 clear p2 p3; have z6 : Z5.cell? ⟨gz, 6, none⟩ = some (.int .i64 c.f1) := (blk_cell HZ5.out.1 6).trans rfl; have z5 : Z5.cell? ⟨gz, 5, none⟩ = some (.string c.f0) := (blk_cell HZ5.out.1 5).trans rfl; have z6' : Z5.frozen? ⟨gz, 6, none⟩ = false := blk_frozen HZ5.out.1 _; have z5' : Z5.frozen? ⟨gz, 5, none⟩ = false := blk_frozen HZ5.out.1 _; have hne := HNE.out; have hnq : gq ≠ gz := fun e => by have h1 := Kd.Q_lt HQ.out gq rfl; have h2 := HZ.out.1; have h3 := HY.out.2.2.size; omega
 go_region
 obtain ⟨Z6, hZ6, hz6, hg6, hs6⟩ := set2 (i := 6) (j := 5) HZ5.out.1 (.int .i64 (rd_T25 D 0).f1) (.string (rd_T25 D 0).f0); rw [← hZ6]; have hz6 : Z6.heap[gz]? = some (.cells (mc 7 a.seq x.ep x.sp x.sh (rd_T25 D 0).f0 (rd_T25 D 0).f1 0 0) 46 (0, 0)) := hz6; have HZ6 := Lib.hid (And.intro hz6 (And.intro hg6 hs6)); have hne2 : gb ≠ gz := fun e => by have h1 := HY.out; have h2 := HZ.out; have h3 := blk_lt h1.2.1; omega
 have HR6 := Lib.hid (blk_other (blk_other HR4.out HZ5.out.2.1 hne2) hg6 hne2); have d0 : Z6.cell? ⟨gz, 0, none⟩ = some (.int .i64 7) := (blk_cell hz6 0).trans rfl; have d1 : Z6.cell? ⟨gz, 1, none⟩ = some (.int .i64 a.seq) := (blk_cell hz6 1).trans rfl; have d2 : Z6.cell? ⟨gz, 2, none⟩ = some (.int .i64 x.ep) := (blk_cell hz6 2).trans rfl; have d3 : Z6.cell? ⟨gz, 3, none⟩ = some (.int .i64 x.sp) := (blk_cell hz6 3).trans rfl; have d4 : Z6.cell? ⟨gz, 4, none⟩ = some (.int .i64 x.sh) := (blk_cell hz6 4).trans rfl; have d5 : Z6.cell? ⟨gz, 5, none⟩ = some (.string (rd_T25 D 0).f0) := (blk_cell hz6 5).trans rfl; have d6 : Z6.cell? ⟨gz, 6, none⟩ = some (.int .i64 (rd_T25 D 0).f1) := (blk_cell hz6 6).trans rfl; have d7 : Z6.cell? ⟨gz, 7, none⟩ = some (.int .i64 0) := (blk_cell hz6 7).trans rfl; have d8 : Z6.cell? ⟨gz, 8, none⟩ = some (.int .i64 0) := (blk_cell hz6 8).trans rfl; have d9 : Z6.cell? ⟨gz, 9, none⟩ = some (.int .i64 0) := (blk_cell hz6 9).trans rfl; have d10 : Z6.cell? ⟨gz, 10, none⟩ = some (.int .u64 0) := (blk_cell hz6 10).trans rfl; have d11 : Z6.cell? ⟨gz, 11, none⟩ = some (.int .u64 0) := (blk_cell hz6 11).trans rfl; have d12 : Z6.cell? ⟨gz, 12, none⟩ = some (.int .i64 0) := (blk_cell hz6 12).trans rfl; have d13 : Z6.cell? ⟨gz, 13, none⟩ = some (.bool false) := (blk_cell hz6 13).trans rfl; have d14 : Z6.cell? ⟨gz, 14, none⟩ = some (.slice none 0 0) := (blk_cell hz6 14).trans rfl; have d15 : Z6.cell? ⟨gz, 15, none⟩ = some (.slice none 0 0) := (blk_cell hz6 15).trans rfl; clear hZ6 hz6 hg6 hs6 hne2 hne hnq z6 z5 z6' z5' f21 p0 p1
 go_wp2_with (first
  | (refine store_blk (t := 46) (p := .tmp 2) (v := .tmp 55) (g := gb) (off := 0) (cur := mc0) (cur' := (mc 7 a.seq x.ep x.sp x.sh (rd_T25 D 0).f0 (rd_T25 D 0).f1 0 0)) (e := 46) (u := .agg (mc 7 a.seq x.ep x.sp x.sh (rd_T25 D 0).f0 (rd_T25 D 0).f1 0 0)) rfl rfl rfl rfl rfl HR6.out (by kernel_rfl) (Nat.le_of_ble_eq_true rfl) (by rfl) (by rfl) ?_; intro Z7 hz7 hg7 hs7; have HZ7 := Lib.hid (And.intro hz7 (And.intro hg7 hs7)); clear hz7 hg7 hs7 d0 d1 d2 d3 d4 d5 d6 d7 d8 d9 d10 d11 d12 d13 d14 d15))
 refine bodyPost_ret (results_ct rfl _ _ gb 46 (mc 7 a.seq x.ep x.sp x.sh (rd_T25 D 0).f0 (rd_T25 D 0).f1 0 0) (0, 0) _ rfl HZ7.out.1 Try.underlying46 rfl (by kernel_rfl)) rfl ?_; refine ⟨rfl, ?_⟩; have h1 := HY.out; have h2 := HZ.out; have hgb : w.heap.size ≤ gb := Nat.le_of_eq h1.1.symm; have hgz : w.heap.size ≤ gz := by have := h1.2.2.size; omega
 exact below_grow (below_grow (below_grow (below_grow (below_grow (below_grow (below_then h1.2.2 h1.2.2.size h2.2.2) HZ2.out.2.1 hgz) HZ3.out.2.1 hgz) HZ4.out.2.1 hgz) HZ5.out.2.1 hgz) HZ6.out.2.1 hgz) HZ7.out.2.1 hgb
/-- What Next asks. -/
def qmsg (x : Fx) (a : Fa) : Array Value := if a.live = true then (if a.pg = true then mc 7 a.seq x.ep x.sp x.sh (rd_T25 a.L a.n).f0 (rd_T25 a.L a.n).f1 0 0 else mc 5 a.seq x.ep x.sp x.sh a.id a.blk x.rg.f0 x.rg.f1) else mc0
theorem next_calls (w : World) (B g gm : Nat) (vM : Value) (x : Fx) (c : Me) (a : Fa) (h : FIs w B g gm vM x c a) :
  Calls Try.prog 10 #[.pointer (some ⟨g, 0, none⟩)] w fun e w' => e = .returned (.tuple #[.agg (qmsg x a), .bool a.live]) ∧ Below w.heap.size w w' := by
 unfold qmsg
 cases hl : a.live with
 | false => rw [if_neg (by simp)]; exact next_none w B g gm vM x c a h hl
 | true =>
  rw [if_pos rfl]
  cases hp : a.pg with
  | false => rw [if_neg (by simp)]; exact next_page w B g gm vM x c a h hl hp
  | true =>
   rw [if_pos rfl]; refine next_block w B g gm vM x c a h hl hp ?_; have h1 := h.le; unfold Fa.live Fa.fin at hl; rw [hp] at hl; rcases Nat.lt_or_ge a.n a.L.length with h2 | h2
   ·
    exact h2
   ·
    rw [show a.n = a.L.length from by omega] at hl; simp at hl
end Ps
end Go.Proofs.Ytgagcimfkmegnaa
end
section
namespace Go.Proofs.Ytgagcimfkmegnaa
set_option linter.unusedVariables false
set_option linter.unusedSimpArgs false
open Go.RowKit Go.Proofs.YtgagcimfkmegnaaW.PrintWords Go.Proofs.YtgagcimfkmegnaaW.PrintLast Go.Proofs.YtgagcimfkmegnaaW.PrintMore Go.Proofs.Ytgagcimfkmegnaa.QT
namespace Ps
def rcells (x : Fx) (seq blk : Int) (id : ByteArray) (vL : Value) (n : Int) (pg : Bool) (er : Int) (vS : Value) : Array Value :=
 #[.int .i64 x.sp, .int .i64 x.sh, .int .i64 x.sz, .int .i64 x.rg.f0, .int .i64 x.rg.f1, .int .i64 x.ep, .int .i64 seq, .int .i64 blk, .string id, vL, .int .i64 n, .bool pg, .int .i64 er, vS]
structure RIs (w : World) (B g : Nat) (vL vS : Value) (x : Fx) (a : Fa) : Prop where
 blk : w.heap[g]? = some (.cells (rcells x a.seq a.blk a.id vL a.n a.pg a.er vS) 60 (0, 0))
 met : Kd.R k25 25 w B (fun _ => True) vL a.L
 bg : B ≤ g
 le : a.n ≤ a.L.length
 pn : a.pg = false → a.n = 0
theorem RIs.below {w w' : World} {B g : Nat} {vL vS : Value} {x : Fx} {a : Fa} (h : RIs w B g vL vS x a) (hb : Below w.heap.size w w') : RIs w' B g vL vS x a :=
 ⟨blk_below h.blk hb, Kd.R_below h.met hb, h.bg, h.le, h.pn⟩
end Ps
end Go.Proofs.Ytgagcimfkmegnaa
end
section
namespace Go.Proofs.Ytgagcimfkmegnaa
set_option linter.unusedVariables false
set_option linter.unusedSimpArgs false
open Go.RowKit Go.Proofs.YtgagcimfkmegnaaW.PrintWords Go.Proofs.YtgagcimfkmegnaaW.PrintLast Go.Proofs.YtgagcimfkmegnaaW.PrintMore Go.Proofs.Ytgagcimfkmegnaa.QT
namespace Ra
abbrev Pt := S42
abbrev Sr := S65
def best (q p : Pt) : Pt := if winsP q p = true then q else p
def addP (p : Pt) : List Pt → List Pt
 | [] => [p]
 | q :: r => if q.f0 < p.f0 then q :: addP p r else if q.f0 = p.f0 then best q p :: r else p :: q :: r
theorem addP_len (p : Pt) : ∀ l : List Pt, (addP p l).length ≤ l.length + 1
 | [] => by simp [addP]
 | q :: r => by
  unfold addP
  split
  ·
   have := addP_len p r; simp only [List.length_cons]; omega
  ·
   split <;> simp
theorem w1 (n : Nat) (h : n ≤ 1099511627776) : wrap64 ((n : Int) + 1) = ((n + 1 : Nat) : Int) := by unfold wrap64; omega
theorem rd_mid (P S : List Pt) (x : Pt) (i : Int) (hi : i = P.length) : rd_T42 (P ++ x :: S) i = x := by subst hi; unfold rd_T42; simp
theorem rwins (a b : Pt) : thermographref06_Wins.f a.f0 a.f1 a.f2 b.f0 b.f1 b.f2 = some (winsP a b) := by
 unfold thermographref06_Wins.f winsP
 by_cases h1 : a.f2 > b.f2
 ·
  rw [if_pos h1, decide_eq_true h1]; rfl
 ·
  rw [if_neg h1, decide_eq_false h1, Bool.false_or]
  by_cases h2 : a.f2 = b.f2
  ·
   rw [if_pos h2, h2]; simp
  ·
   rw [if_neg h2, beq_eq_false_iff_ne.2 h2]; rfl
def ltN (a b : ByteArray) : Bool := Op.bytesLess a.toList b.toList
def insS (n : ByteArray) (p : Pt) : List Sr → List Sr
 | [] => [⟨n, [p]⟩]
 | s :: r => if ltN s.f0 n = true then s :: insS n p r else if s.f0 = n then ⟨n, addP p s.f1⟩ :: r else ⟨n, [p]⟩ :: s :: r
theorem insS_len (n : ByteArray) (p : Pt) : ∀ l : List Sr, (insS n p l).length ≤ l.length + 1
 | [] => by simp [insS]
 | s :: r => by
  unfold insS
  split
  ·
   have := insS_len n p r; simp only [List.length_cons]; omega
  ·
   split <;> simp
theorem insS_lens (n : ByteArray) (p : Pt) (K : Nat) : ∀ l : List Sr, (∀ s ∈ l, s.f1.length ≤ K) → ∀ s ∈ insS n p l, s.f1.length ≤ K + 1
 | [], _, s, hs => by
  rw [List.mem_singleton.1 hs]; simp
 | q :: r, h, s, hs => by
  unfold insS at hs
  split at hs
  ·
   rcases List.mem_cons.1 hs with rfl | hs
   ·
    have := h _ List.mem_cons_self; omega
   ·
    exact insS_lens n p K r (fun x hx => h x (List.mem_cons_of_mem _ hx)) s hs
  ·
   split at hs
   ·
    rcases List.mem_cons.1 hs with rfl | hs
    ·
     have h1 := h q List.mem_cons_self; have h2 := addP_len p q.f1; show (addP p q.f1).length ≤ K + 1; omega
    ·
     have := h s (List.mem_cons_of_mem _ hs); omega
   ·
    rcases List.mem_cons.1 hs with rfl | hs
    ·
     simp
    ·
     have := h s hs; omega
end Ra
end Go.Proofs.Ytgagcimfkmegnaa
end
section
namespace Go.Proofs.Ytgagcimfkmegnaa
set_option linter.unusedVariables false
set_option linter.unusedSimpArgs false
open Go.RowKit Go.Proofs.YtgagcimfkmegnaaW.PrintWords Go.Proofs.YtgagcimfkmegnaaW.PrintLast Go.Proofs.YtgagcimfkmegnaaW.PrintMore Go.Proofs.Ytgagcimfkmegnaa.QT
namespace Ps
def add1 (rg : S30) (n : ByteArray) (S : List S65) (p : Pt) : List S65 := if rg.f0 ≤ p.f0 ∧ p.f0 < rg.f1 then Ra.insS n p S else S
def addP (rg : S30) (n : ByteArray) (S : List S65) (P : List Pt) : List S65 := P.foldl (add1 rg n) S
def Lens (S : List S65) (T : Nat) : Prop := S.length ≤ T ∧ ∀ s ∈ S, s.f1.length ≤ T
theorem Lens.more {S : List S65} {T T' : Nat} (h : Lens S T) (hT : T ≤ T') : Lens S T' := ⟨Nat.le_trans h.1 hT, fun s hs => Nat.le_trans (h.2 s hs) hT⟩
theorem Lens.ins {S : List S65} {T : Nat} (h : Lens S T) (n : ByteArray) (p : Pt) : Lens (Ra.insS n p S) (T + 1) :=
 ⟨Nat.le_trans (Ra.insS_len n p S) (Nat.succ_le_succ h.1), Ra.insS_lens n p T S h.2⟩
/-- The memory of the document's fetch while a block's points are read. -/
structure RS (w0 w wr : World) (g gx gz : Nat) (x : Fx) (seq b n : Int) (i : ByteArray) (vL : Value) (pg : Bool) (bv : Array Value) (m : Me) (er : Int) (v1 : Value) (S1 : List S65) (Q : Nat → Prop) (T1 : Nat) : Prop where
 blk : wr.heap[g]? = some (.cells (rcells x seq b i vL n pg er v1) 60 (0, 0))
 bx : wr.heap[gx]? = some (.cells bv 49 (0, 0))
 bz : wr.heap[gz]? = some (.cells #[.string m.f0, .int .i64 m.f1, .int .i64 m.f2, .int .u32 m.f3] 25 (0, 0))
 V : Kd.V k65 65 wr 0 (fun k => Q k ∨ w.heap.size ≤ k) v1 S1
 len : Lens S1 T1
 bel : Below w0.heap.size w0 wr
 kept : Kept w wr (fun k => k = g)
section
variable {w0 w wr : World} {g gx gz : Nat} {x : Fx} {seq b n : Int} {i : ByteArray} {vL : Value} {pg : Bool} {bv : Array Value} {m : Me} {er : Int} {v1 : Value} {S1 : List S65} {Q : Nat → Prop} {T1 : Nat}
theorem RS.below (h : RS w0 w wr g gx gz x seq b n i vL pg bv m er v1 S1 Q T1) {W : World} (hb : Below wr.heap.size wr W) : RS w0 w W g gx gz x seq b n i vL pg bv m er v1 S1 Q T1 :=
 ⟨blk_below h.blk hb, blk_below h.bx hb, blk_below h.bz hb, Kd.V_below h.V hb, h.len, below_then h.bel h.bel.size hb, h.kept.below hb⟩
theorem RS.more (h : RS w0 w wr g gx gz x seq b n i vL pg bv m er v1 S1 Q T1) {T2 : Nat} (hT : T1 ≤ T2) : RS w0 w wr g gx gz x seq b n i vL pg bv m er v1 S1 Q T2 := ⟨h.blk, h.bx, h.bz, h.V, h.len.more hT, h.bel, h.kept⟩
theorem RS.nx (h : RS w0 w wr g gx gz x seq b n i vL pg bv m er v1 S1 Q T1) : gx ≠ g ∧ gz ≠ g := ⟨fun e => by
  have h1 := h.bx; rw [e, h.blk] at h1
  injection (Option.some.inj h1) with _ h2
  exact absurd h2 (by decide), fun e => by
  have h1 := h.bz; rw [e, h.blk] at h1
  injection (Option.some.inj h1) with _ h2
  exact absurd h2 (by decide)⟩
/-- The fetch's block is written; the series stand. -/
theorem RS.set (h : RS w0 w wr g gx gz x seq b n i vL pg bv m er v1 S1 Q T1) (hgl : g < w.heap.size) (hQ : ∀ k, Q k → k ≠ g) (hg0 : w0.heap.size ≤ g) {w1 : World} (hg : wr.grownBy w1 (some g)) {n' er' : Int} (hb : w1.heap[g]? = some (.cells (rcells x seq b i vL n' pg er' v1) 60 (0, 0))) : RS w0 w w1 g gx gz x seq b n' i vL pg bv m er' v1 S1 Q T1 :=
 ⟨hb, blk_other h.bx hg h.nx.1, blk_other h.bz hg h.nx.2, Kd.V_mono (Kd.V_grown (Kd.V_bound h.V) hg (fun k hk e => by
   have e : k = g := by cases e; rfl
   rcases hk.1 with h1 | h1
   ·
    exact hQ k h1 e
   ·
    rw [e] at h1; exact absurd hgl (by show ¬ g < w.heap.size; have : w.heap.size ≤ g := h1; omega))) (fun k hk => hk.1), h.len, below_grow h.bel hg hg0, Kept.of_grown hg h.kept (fun k hk => .inl (by cases hk; rfl))⟩
theorem RS.put (h : RS w0 w wr g gx gz x seq b n i vL pg bv m er v1 S1 Q T1) (hgl : g < w.heap.size) (hQ : ∀ k, Q k → k ≠ g) (hg0 : w0.heap.size ≤ g) {w5 : World} {v5 : Value} (nm : ByteArray) (p : Pt) (hb : Below wr.heap.size wr w5) (hN : Kd.N k65 65 w5 wr.heap.size (fun k => (Q k ∨ w.heap.size ≤ k) ∨ wr.heap.size ≤ k) v5 (Ra.insS nm p S1)) :
  RS w0 w (w5.setCell ⟨g, 13, none⟩ v5) g gx gz x seq b n i vL pg bv m er v5 (Ra.insS nm p S1) Q (T1 + 1) := by
 have hsz := h.kept.1; have h5 := h.below hb; refine ⟨blk_set h5.blk 13 v5, (Below.heap_setCell w5 ⟨g, 13, none⟩ v5 gx h5.nx.1).trans h5.bx, (Below.heap_setCell w5 ⟨g, 13, none⟩ v5 gz h5.nx.2).trans h5.bz, Kd.V_far (ok := fun k => Q k ∨ w.heap.size ≤ k) (Kd.V_mono (base := 0) (Kd.N_V (base' := 0) hN) ?_) ?_ v5, h.len.ins nm p, h5.bel.setCell hg0 _, h5.kept.setCell (.inl rfl) _⟩
 ·
  rintro k (h1 | h1)
  ·
   exact h1
  ·
   exact .inr (Nat.le_trans hsz h1)
 ·
  rintro k (h1 | h1)
  ·
   exact hQ k h1
  ·
   intro e; rw [e] at h1; exact absurd hgl (by show ¬ g < w.heap.size; have : w.heap.size ≤ g := h1; omega)
end
end Ps
end Go.Proofs.Ytgagcimfkmegnaa
end
