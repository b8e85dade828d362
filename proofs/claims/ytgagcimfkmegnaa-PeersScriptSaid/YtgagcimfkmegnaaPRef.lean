/- The document's fetch: its state; New, Done, Next. -/
import Derived.Test.YtgagcimfkmegnaaPNext
set_option maxHeartbeats 8000000
set_option maxRecDepth 100000
namespace Go.Proofs.Ytgagcimfkmegnaa
set_option linter.unusedVariables false
set_option linter.unusedSimpArgs false
open Go.RowKit Go.Proofs.YtgagcimfkmegnaaW.PrintWords Go.Proofs.YtgagcimfkmegnaaW.PrintLast Go.Proofs.YtgagcimfkmegnaaW.PrintMore Go.Proofs.Ytgagcimfkmegnaa.QT
namespace Ps
def rcells (x : Fx) (seq blk : Int) (id : ByteArray) (vL : Value) (n : Int) (pg : Bool) (er : Int) (vS : Value) : Array Value :=
 #[.int .i64 x.sp, .int .i64 x.sh, .int .i64 x.sz, .int .i64 x.rg.f0, .int .i64 x.rg.f1, .int .i64 x.ep, .int .i64 seq, .int .i64 blk, .string id, vL, .int .i64 n, .bool pg, .int .i64 er, vS]
structure RIs (w : World) (B g : Nat) (vL vS : Value) (x : Fx) (a : Fa) : Prop where
 blk : w.heap[g]? = some (.cells (rcells x a.seq a.blk a.id vL a.n a.pg a.er vS) 60 (0, 0))
 met : Kd.R k25 25 w B (fun _ => True) vL a.L
 bg : B ≤ g
 le : a.n ≤ a.L.length
 pn : a.pg = false → a.n = 0
theorem RIs.below {w w' : World} {B g : Nat} {vL vS : Value} {x : Fx} {a : Fa} (h : RIs w B g vL vS x a) (hb : Below w.heap.size w w') : RIs w' B g vL vS x a :=
 ⟨blk_below h.blk hb, Kd.R_below h.met hb, h.bg, h.le, h.pn⟩
theorem store_run {P : Program} {o : Oper} {a : Act} {W : World} {t : TypeId} {p v : Operand} (ho : o.op = .store t p v) {g off : Nat} {e : TypeId} {cur : Array Value} {u : Value}
  (hp : a.eval p = .pointer (some ⟨g, off, none⟩)) (hv : a.eval v = u) (hh : W.heap[g]? = some (.cells cur e (0, 0))) (ht : (P.info? t).map (·.size) = some u.cells.toList.length) (hfit : off + u.cells.toList.length ≤ cur.size) (h1 : u.cells.toList.all (·.oneCell') = true) : (execOp a.eval o).run P W = .ok .skip (W.setCells g off u.cells.toList) := by
 have hrun := run_store_run (P := P) t u u.cells.toList hh rfl ht hfit (fun q hq => List.all_eq_true.1 h1 q hq); unfold execOp; simp only [ho, hp, hv]; simp [hrun]
theorem cells_set {W : World} {g off : Nat} {e : TypeId} {cur cur' : Array Value} {vs : List Value} (hh : W.heap[g]? = some (.cells cur e (0, 0))) (hfit : off + vs.length ≤ cur.size) (hc : cur.toList.take off ++ vs ++ cur.toList.drop (off + vs.length) = cur'.toList) : ∃ X, X = W.setCells g off vs ∧ X.heap[g]? = some (.cells cur' e (0, 0)) ∧ W.grownBy X (some g) := by
 obtain ⟨c2, h2, h3, h4⟩ := setCells_row vs off W cur hh hfit; obtain ⟨s1, s2, s3, s4⟩ := setCells_same g vs off W; have h5 : c2 = cur' := Array.toList_inj.1 (by rw [h4, hc]); subst h5; exact ⟨_, rfl, h2, ⟨s1, s2, s3, by rw [s4]; exact Nat.le_refl _, fun k hk hne => setCells_far _ _ k (fun e => hne (by rw [e]))⟩⟩
def ra0 (seq : Int) : Fa := ⟨seq, 0, ⟨#[]⟩, [], 0, false, 0⟩
theorem rnew_calls (w0 w : World) (hB : Below w0.heap.size w0 w) (x : Fx) (seq : Int) :
  Calls Try.prog 9 #[.int .i64 x.sp, .int .i64 x.sh, .int .i64 x.sz, .agg #[.int .i64 x.rg.f0, .int .i64 x.rg.f1], .int .i64 x.ep, .int .i64 seq] w fun e w' => ∃ g : Nat, e = .returned (.pointer (some ⟨g, 0, none⟩)) ∧ RIs w' w0.heap.size g (.slice none 0 0) (.slice none 0 0) x (ra0 seq) ∧ Below w.heap.size w w' ∧ w.heap.size ≤ g := by
 have HB := Lib.hid hB; clear hB; go_enter Try.func9, Try.ntmps9
 go_wp2_with (first
  | ((with_reducible refine gate_dst (N := 9) rfl ?_); refine box_event rfl (N := 9) rfl (cs := #[.int .i64 x.rg.f0, .int .i64 x.rg.f1]) (t := 30) ?hr ?_; (case hr => go_simp; done); intro gr hgr Y hboy hbY; have HY := Lib.hid hbY; have y0 : Y.cell? ⟨gr, 0, none⟩ = some (.int .i64 x.rg.f0) := (blk_cell hboy 0).trans rfl; have y1 : Y.cell? ⟨gr, 1, none⟩ = some (.int .i64 x.rg.f1) := (blk_cell hboy 1).trans rfl; clear hgr hboy hbY)
  | ((with_reducible refine gate_dst (N := 20) rfl ?_); refine box_event rfl (N := 20) rfl (cs := rcells x seq 0 ⟨#[]⟩ (.slice none 0 0) 0 false 0 (.slice none 0 0)) (t := 60) ?hr ?_; (case hr => go_simp; rfl); intro g hg X hboX hbX; have HX := Lib.hid (And.intro hg (And.intro hboX hbX)); clear hg hboX hbX))
 go_ret; have hgg : w.heap.size ≤ g := by rw [HX.out.1]; exact HY.out.size
 exact ⟨g, rfl, ⟨HX.out.2.1, Kd.R_nil _ _ _ _ _, Nat.le_trans HB.out.size hgg, Nat.zero_le _, fun _ => rfl⟩, below_then HY.out HY.out.size HX.out.2.2, hgg⟩
theorem rdone_calls (w : World) (B g : Nat) (vL vS : Value) (x : Fx) (a : Fa) (h : RIs w B g vL vS x a) :
  Calls Try.prog 17 #[.pointer (some ⟨g, 0, none⟩)] w fun e w' => e = .returned (.bool (a.er == 0 && a.fin)) ∧ Below w.heap.size w w' := by
 obtain ⟨AL, cL, rfl⟩ := Kd.R_slice h.met; have c9 : w.cell? ⟨g, 9, none⟩ = some (.slice AL a.L.length cL) := (blk_cell h.blk 9).trans rfl; have c10 : w.cell? ⟨g, 10, none⟩ = some (.int .i64 a.n) := (blk_cell h.blk 10).trans rfl; have c11 : w.cell? ⟨g, 11, none⟩ = some (.bool a.pg) := (blk_cell h.blk 11).trans rfl; have c12 : w.cell? ⟨g, 12, none⟩ = some (.int .i64 a.er) := (blk_cell h.blk 12).trans rfl; unfold Fa.fin; clear h
 cases he : (a.er == 0) with
 | false =>
  rw [Bool.false_and]; go_enter Try.func17, Try.ntmps17
  go_wp2_with fail
  go_quiet (fail)
  go_wp2; go_ret
  exact ⟨rfl, below_drewN (Below.refl _ _) _⟩
 | true =>
  rw [Bool.true_and]
  cases hp : a.pg with
  | false =>
   rw [Bool.false_and]; rw [hp] at c11; go_enter Try.func17, Try.ntmps17
   go_wp2_with fail
   go_quiet (fail)
   go_wp2; go_ret
   exact ⟨rfl, below_drewN (Below.refl _ _) _⟩
  | true =>
   rw [Bool.true_and]; rw [hp] at c11
   have hq : (a.n == a.L.length) = ((a.n : Int) == (a.L.length : Int)) := by
    cases h1 : ((a.n : Int) == (a.L.length : Int)) with
    | true => rw [beq_iff_eq] at h1 ⊢; omega
    | false => rw [beq_eq_false_iff_ne] at h1 ⊢; omega
   rw [hq]; go_enter Try.func17, Try.ntmps17
   go_wp2_with fail
   go_quiet (fail)
   go_wp2; go_ret; exact ⟨rfl, below_drewN (Below.refl _ _) _⟩
def PRef3.T3 : Bool × List (List Nat × List Nat) := (true, [([], []), ([0], [0]), ([1], [1]), ([2], [2]), ([], []), ([4], [4]), ([5], [5]), ([6], [6]), ([], []), ([8], [8]), ([9], [9]), ([10], [10]), ([], []), ([12], [12]), ([13], [13]), ([14], [14]), ([], []), ([16], [16]), ([17], [17]), ([18], [18]), ([], []), ([20], [20]), ([21], [21]), ([22], [22]), ([], []), ([24], [24]), ([25], [25]), ([26], [26]), ([3, 7, 11, 15, 19, 23, 27], [3, 7, 11, 15, 19, 23, 27]), ([], []), ([29, 28, 0, 1, 2, 3, 4, 5, 6, 7, 8, 9, 10, 11, 12, 13, 14, 15, 16, 17, 18, 19, 20, 21, 22, 23, 24, 25, 26, 27, 28, 29], [28, 29])])
def PRef3.B3 : List Nat := [0, 1, 3, 7, 0, 16, 48, 112, 0, 256, 768, 1792, 0, 4096, 12288, 28672, 0, 65536, 196608, 458752, 0, 1048576, 3145728, 7340032, 0, 16777216, 50331648, 117440512, 268435455, 0, 1073741823]
theorem PRef3.tab3 : rtab .any (opsOf Try.f11 3) = PRef3.T3 := by kernel_rfl
theorem PRef3.bits3 : waitsOk PRef3.T3.2 PRef3.B3 = true := by kernel_rfl
theorem rnext_dead (w : World) (B g : Nat) (vL vS : Value) (x : Fx) (a : Fa) (h : RIs w B g vL vS x a) (hl : a.live = false) :
  Calls Try.prog 11 #[.pointer (some ⟨g, 0, none⟩)] w fun e w' => e = .returned (.tuple #[.agg mc0, .bool false]) ∧ Below w.heap.size w w' := by
 have HI := Lib.hid h; unfold Fa.live at hl; clear h
 cases he : (a.er == 0) with
 | false =>
  have d1 : (a.er != 0) = true := by rw [bne, he]; rfl
  clear he hl; go_enter Try.func11, Try.ntmps11
  go_wp2_with (first
   | ((with_reducible refine gate_dst (N := 2) rfl ?_); refine box_event rfl (N := 2) rfl (cs := mc0) (t := 49) ?hr ?_; (case hr => go_simp; rfl); intro gb hgb Y hboy hbY; have HY := Lib.hid (And.intro hgb (And.intro hboy hbY)); have c12 : Y.cell? ⟨g, 12, none⟩ = some (.int .i64 a.er) := (blk_cell (blk_below HI.out.blk hbY) 12).trans rfl; clear hgb hboy hbY)
   | (refine store_blk (t := 49) (p := .tmp 2) (v := .tmp 14) (g := gb) (off := 0) (cur := mc0) (cur' := mc0) (e := 49) (u := .agg mc0) rfl rfl rfl rfl rfl HY.out.2.1 (by kernel_rfl) (by decide) (by decide +kernel) (by rfl) ?_; intro Y2 hy2 hg2 hs2; have HY2 := Lib.hid (And.intro hy2 (And.intro hg2 hs2)); clear hy2 hg2 hs2))
  refine bodyPost_ret (results_ct rfl _ _ gb 49 mc0 (0, 0) _ rfl HY2.out.1 Try.underlying49 rfl (by kernel_rfl)) rfl ?_
  exact ⟨rfl, HY.out.2.2.grown HY2.out.2.1 HY.out.2.2.size (fun k hk => by cases hk; exact Nat.le_of_eq HY.out.1.symm)⟩
 | true =>
  have d1 : (a.er != 0) = false := by rw [bne, he]; rfl
  rw [he, Bool.true_and] at hl; have hf : (a.er == 0 && a.fin) = true := by rw [he]; cases hh : a.fin <;> rw [hh] at hl <;> simp_all
  have HD := Lib.hid (fun W (hW : Below w.heap.size w W) => (show Calls Try.prog 17 #[.pointer (some ⟨g, 0, none⟩)] W (fun e w' => e = .returned (.bool true) ∧ Below W.heap.size W w') from by have := rdone_calls W B g vL vS x a (HI.out.below hW); rwa [hf] at this)); clear he hl hf; go_enter Try.func11, Try.ntmps11
  go_wp2_with (first
   | ((with_reducible refine gate_dst (N := 2) rfl ?_); refine box_event rfl (N := 2) rfl (cs := mc0) (t := 49) ?hr ?_; (case hr => go_simp; rfl); intro gb hgb Y hboy hbY; have HY := Lib.hid (And.intro hgb (And.intro hboy hbY)); have c12 : Y.cell? ⟨g, 12, none⟩ = some (.int .i64 a.er) := (blk_cell (blk_below HI.out.blk hbY) 12).trans rfl; clear hgb hboy hbY))
  with_reducible refine (HD.out _ HY.out.2.2).mono ?_
  rintro e w1 ⟨rfl, hb1⟩; have HY1 := Lib.hid (blk_below HY.out.2.1 hb1); have HB1 := Lib.hid (below_then HY.out.2.2 HY.out.2.2.size hb1); clear hb1 c12
  go_wp2_with (first
   | (refine store_blk (t := 49) (p := .tmp 2) (v := .tmp 14) (g := gb) (off := 0) (cur := mc0) (cur' := mc0) (e := 49) (u := .agg mc0) rfl rfl rfl rfl rfl HY1.out (by kernel_rfl) (by decide) (by decide +kernel) (by rfl) ?_; intro Y2 hy2 hg2 hs2; have HY2 := Lib.hid (And.intro hy2 (And.intro hg2 hs2)); clear hy2 hg2 hs2))
  refine bodyPost_ret (results_ct rfl _ _ gb 49 mc0 (0, 0) _ rfl HY2.out.1 Try.underlying49 rfl (by kernel_rfl)) rfl ?_; exact ⟨rfl, HB1.out.grown HY2.out.2.1 HB1.out.size (fun k hk => by cases hk; exact Nat.le_of_eq HY.out.1.symm)⟩
theorem rnext_page (w : World) (B g : Nat) (vL vS : Value) (x : Fx) (a : Fa) (h : RIs w B g vL vS x a) (hl : a.live = true) (hp : a.pg = false) :
  Calls Try.prog 11 #[.pointer (some ⟨g, 0, none⟩)] w fun e w' => e = .returned (.tuple #[.agg (mc 5 a.seq x.ep x.sp x.sh a.id a.blk x.rg.f0 x.rg.f1), .bool true]) ∧ Below w.heap.size w w' := by
 obtain ⟨AL, cL, rfl⟩ := Kd.R_slice h.met
 obtain ⟨fc, hfc⟩ : ∃ fc, fc = rcells x a.seq a.blk a.id (.slice AL a.L.length cL) a.n a.pg a.er vS := ⟨_, rfl⟩
 have hfb : w.heap[g]? = some (.cells fc 60 (0, 0)) := by rw [hfc]; exact h.blk
 have HFC := Lib.hid hfc; have HFB := Lib.hid hfb; have HI := Lib.hid h; have HP := Lib.hid hp; unfold Fa.live at hl; rw [Bool.and_eq_true] at hl; have d1 : (a.er != 0) = false := by rw [bne, hl.1]; rfl
 have hf : (a.er == 0 && a.fin) = false := by rw [hl.1, Bool.true_and]; have := hl.2; cases hh : a.fin <;> rw [hh] at this <;> simp_all
 have HD := Lib.hid (fun W (hW : Below w.heap.size w W) => (show Calls Try.prog 17 #[.pointer (some ⟨g, 0, none⟩)] W (fun e w' => e = .returned (.bool false) ∧ Below W.heap.size W w') from by have := rdone_calls W B g _ vS x a (HI.out.below hW); rwa [hf] at this)); clear h hl hf hfc hfb hp; go_enter Try.func11, Try.ntmps11
 go_wp2_with (first
  | ((with_reducible refine gate_dst (N := 2) rfl ?_); refine box_event rfl (N := 2) rfl (cs := mc0) (t := 49) ?hr ?_; (case hr => go_simp; rfl); intro gb hgb Y hboy hbY; have HY := Lib.hid (And.intro hgb (And.intro hboy hbY)); have c12 : Y.cell? ⟨g, 12, none⟩ = some (.int .i64 a.er) := (blk_cell (blk_below HFB.out hbY) 12).trans (by rw [HFC.out]; rfl); clear hgb hboy hbY))
 with_reducible refine (HD.out _ HY.out.2.2).mono ?_
 rintro e W1 ⟨rfl, hb1⟩; have HY1 := Lib.hid (blk_below HY.out.2.1 hb1); have HB1 := Lib.hid (below_then HY.out.2.2 HY.out.2.2.size hb1); have HFW := Lib.hid (blk_below HFB.out HB1.out); clear hb1 c12; have r5 : W1.cell? ⟨g, 5, none⟩ = some (.int .i64 x.ep) := (blk_cell HFW.out 5).trans (by rw [HFC.out]; rfl); have r6 : W1.cell? ⟨g, 6, none⟩ = some (.int .i64 a.seq) := (blk_cell HFW.out 6).trans (by rw [HFC.out]; rfl); have r0 : W1.cell? ⟨g, 0, none⟩ = some (.int .i64 x.sp) := (blk_cell HFW.out 0).trans (by rw [HFC.out]; rfl); have r1 : W1.cell? ⟨g, 1, none⟩ = some (.int .i64 x.sh) := (blk_cell HFW.out 1).trans (by rw [HFC.out]; rfl); have r3 : W1.cell? ⟨g, 3, none⟩ = some (.int .i64 x.rg.f0) := (blk_cell HFW.out 3).trans (by rw [HFC.out]; rfl); have r4 : W1.cell? ⟨g, 4, none⟩ = some (.int .i64 x.rg.f1) := (blk_cell HFW.out 4).trans (by rw [HFC.out]; rfl); have r7 : W1.cell? ⟨g, 7, none⟩ = some (.int .i64 a.blk) := (blk_cell HFW.out 7).trans (by rw [HFC.out]; rfl); have r8 : W1.cell? ⟨g, 8, none⟩ = some (.string a.id) := (blk_cell HFW.out 8).trans (by rw [HFC.out]; rfl); go_wp2_with fail
 refine start_ (n := 31) (S := fun w' => w'.cell? ⟨g, 5, none⟩ = some (.int .i64 x.ep) ∧ w'.cell? ⟨g, 6, none⟩ = some (.int .i64 a.seq) ∧ w'.cell? ⟨g, 0, none⟩ = some (.int .i64 x.sp) ∧ w'.cell? ⟨g, 1, none⟩ = some (.int .i64 x.sh) ∧ w'.cell? ⟨g, 3, none⟩ = some (.int .i64 x.rg.f0) ∧ w'.cell? ⟨g, 4, none⟩ = some (.int .i64 x.rg.f1) ∧ w'.cell? ⟨g, 7, none⟩ = some (.int .i64 a.blk) ∧ w'.cell? ⟨g, 8, none⟩ = some (.string a.id)) (ds := [30]) (bs 31 0) (by kernel_rfl) rfl rfl ⟨r5, r6, r0, r1, r3, r4, r7, r8⟩ (fun hHeld => ?_); refine with_tabW PRef3.tab3 PRef3.bits3 (fun HT_ HW_ => ?_); apply pv 0 15 (bs 31 1) HT_; rfl; rfl; kernel_rfl; exact qq; rfl; intro w'; go_simp; with_reducible rfl; simp only [zz]; rfl
 apply pv 1 16 (bs 31 3) HT_; rfl; rfl; kernel_rfl; exact qq; rfl; intro w'; go_simp; with_reducible rfl; simp only [zz]; rfl
 apply pv 2 17 (bs 31 7) HT_; rfl; rfl; kernel_rfl; exact qq; rfl; intro w'; go_simp; with_reducible rfl; simp only [zz]; rfl
 apply pv 4 19 (bs 31 23) HT_; rfl; rfl; kernel_rfl; exact qq; rfl; intro w'; go_simp; with_reducible rfl; simp only [zz]; rfl
 apply pv 5 20 (bs 31 55) HT_; rfl; rfl; kernel_rfl; exact qq; rfl; intro w'; go_simp; with_reducible rfl; simp only [zz]; rfl
 apply pv 6 21 (bs 31 119) HT_; rfl; rfl; kernel_rfl; exact qq; rfl; intro w'; go_simp; with_reducible rfl; simp only [zz]; rfl
 apply pv 8 23 (bs 31 375) HT_; rfl; rfl; kernel_rfl; exact qq; rfl; intro w'; go_simp; with_reducible rfl; simp only [zz]; rfl
 apply pv 9 24 (bs 31 887) HT_; rfl; rfl; kernel_rfl; exact qq; rfl; intro w'; go_simp; with_reducible rfl; simp only [zz]; rfl
 apply pv 10 25 (bs 31 1911) HT_; rfl; rfl; kernel_rfl; exact qq; rfl; intro w'; go_simp; with_reducible rfl; simp only [zz]; rfl
 apply pv 12 27 (bs 31 6007) HT_; rfl; rfl; kernel_rfl; exact qq; rfl; intro w'; go_simp; with_reducible rfl; simp only [zz]; rfl
 apply pv 13 28 (bs 31 14199) HT_; rfl; rfl; kernel_rfl; exact qq; rfl; intro w'; go_simp; with_reducible rfl; simp only [zz]; rfl
 apply pv 14 29 (bs 31 30583) HT_; rfl; rfl; kernel_rfl; exact qq; rfl; intro w'; go_simp; with_reducible rfl; simp only [zz]; rfl
 apply pv 16 31 (bs 31 96119) HT_; rfl; rfl; kernel_rfl; exact qq; rfl; intro w'; go_simp; with_reducible rfl; simp only [zz]; rfl
 apply pv 17 32 (bs 31 227191) HT_; rfl; rfl; kernel_rfl; exact qq; rfl; intro w'; go_simp; with_reducible rfl; simp only [zz]; rfl
 apply pv 18 33 (bs 31 489335) HT_; rfl; rfl; kernel_rfl; exact qq; rfl; intro w'; go_simp; with_reducible rfl; simp only [zz]; rfl
 apply pv 20 35 (bs 31 1537911) HT_; rfl; rfl; kernel_rfl; exact qq; rfl; intro w'; go_simp; with_reducible rfl; simp only [zz]; rfl
 apply pv 21 36 (bs 31 3635063) HT_; rfl; rfl; kernel_rfl; exact qq; rfl; intro w'; go_simp; with_reducible rfl; simp only [zz]; rfl
 apply pv 22 37 (bs 31 7829367) HT_; rfl; rfl; kernel_rfl; exact qq; rfl; intro w'; go_simp; with_reducible rfl; simp only [zz]; rfl
 apply pv 24 39 (bs 31 24606583) HT_; rfl; rfl; kernel_rfl; exact qq; rfl; intro w'; go_simp; with_reducible rfl; simp only [zz]; rfl
 apply pv 25 40 (bs 31 58161015) HT_; rfl; rfl; kernel_rfl; exact qq; rfl; intro w'; go_simp; with_reducible rfl; simp only [zz]; rfl
 apply pv 26 41 (bs 31 125269879) HT_; rfl; rfl; kernel_rfl; exact qq; rfl; intro w'; go_simp; with_reducible rfl; simp only [zz]; rfl
 apply tb 3 18 (bs 31 125269887) HT_ HW_ hHeld; rfl; rfl; kernel_rfl; exact qq; rfl; rintro w' ⟨s0, s1, s2, s3, s4, s5, s6, s7⟩; go_simp; with_reducible rfl; simp only [zz]; rfl
 apply tb 7 22 (bs 31 125270015) HT_ HW_ hHeld; rfl; rfl; kernel_rfl; exact qq; rfl; rintro w' ⟨s0, s1, s2, s3, s4, s5, s6, s7⟩; go_simp; with_reducible rfl; simp only [zz]; rfl
 apply tb 11 26 (bs 31 125272063) HT_ HW_ hHeld; rfl; rfl; kernel_rfl; exact qq; rfl; rintro w' ⟨s0, s1, s2, s3, s4, s5, s6, s7⟩; go_simp; with_reducible rfl; simp only [zz]; rfl
 apply tb 15 30 (bs 31 125304831) HT_ HW_ hHeld; rfl; rfl; kernel_rfl; exact qq; rfl; rintro w' ⟨s0, s1, s2, s3, s4, s5, s6, s7⟩; go_simp; with_reducible rfl; simp only [zz]; rfl
 apply tb 19 34 (bs 31 125829119) HT_ HW_ hHeld; rfl; rfl; kernel_rfl; exact qq; rfl; rintro w' ⟨s0, s1, s2, s3, s4, s5, s6, s7⟩; go_simp; with_reducible rfl; simp only [zz]; rfl
 apply tb 23 38 (bs 31 134217727) HT_ HW_ hHeld; rfl; rfl; kernel_rfl; exact qq; rfl; rintro w' ⟨s0, s1, s2, s3, s4, s5, s6, s7⟩; go_simp; with_reducible rfl; simp only [zz]; rfl
 apply tb 27 42 (bs 31 268435455) HT_ HW_ hHeld; rfl; rfl; kernel_rfl; exact qq; rfl; rintro w' ⟨s0, s1, s2, s3, s4, s5, s6, s7⟩; go_simp; with_reducible rfl; simp only [zz]; rfl
 apply pv 28 43 (bs 31 536870911) HT_; rfl; rfl; kernel_rfl; exact qq; rfl; intro w'; go_simp; with_reducible rfl; simp only [zz]; rfl
 refine one_ (i := 29) (N := some 4) (bs 31 1073741823) rfl rfl (one_of HT_.out (by kernel_rfl)) (by decide) (fun K hK => ?_); refine value_ (w1 := ?_) (v := ?_) (by rfl) rfl ?_ ?_; rotate_left 2
 ·
  go_simp
  constructor
  ·
   rfl
  ·
   rfl
 obtain ⟨gz, hgz⟩ : ∃ gz, gz = W1.heap.size := ⟨_, rfl⟩
 have hbz : ((W1.alloc (.cells mc0 49)).drew).heap[gz]? = some (.cells mc0 49 (0, 0)) := by rw [hgz]; exact blk_new W1 _
 have hBX : Below W1.heap.size W1 ((W1.alloc (.cells mc0 49)).drew) := below_drew (below_alloc (Below.refl _ _) _)
 obtain ⟨Z, hZ⟩ : ∃ Z : World, Z = (W1.alloc (.cells mc0 49)).drew := ⟨_, rfl⟩
 rw [← hZ] at hbz hBX; rw [show (W1.alloc (.cells #[.int .i64 0, .int .i64 0, .int .i64 0, .int .i64 0, .int .i64 0, .string ⟨#[]⟩, .int .i64 0, .int .i64 0, .int .i64 0, .int .i64 0, .int .u64 0, .int .u64 0, .int .i64 0, .bool false, .slice none 0 0, .slice none 0 0] 49)).drew = Z from hZ.symm, ← hgz]; have HZ := Lib.hid (And.intro hgz (And.intro hbz hBX)); clear hbz hBX hZ hgz; refine hK.out _ _ ⟨((blk_cell (blk_below HFW.out HZ.out.2.2) 5).trans (by rw [HFC.out]; rfl)), ((blk_cell (blk_below HFW.out HZ.out.2.2) 6).trans (by rw [HFC.out]; rfl)), ((blk_cell (blk_below HFW.out HZ.out.2.2) 0).trans (by rw [HFC.out]; rfl)), ((blk_cell (blk_below HFW.out HZ.out.2.2) 1).trans (by rw [HFC.out]; rfl)), ((blk_cell (blk_below HFW.out HZ.out.2.2) 3).trans (by rw [HFC.out]; rfl)), ((blk_cell (blk_below HFW.out HZ.out.2.2) 4).trans (by rw [HFC.out]; rfl)), ((blk_cell (blk_below HFW.out HZ.out.2.2) 7).trans (by rw [HFC.out]; rfl)), ((blk_cell (blk_below HFW.out HZ.out.2.2) 8).trans (by rw [HFC.out]; rfl))⟩ (fun hHeld => ?_); clear hK K; refine norm_ (a' := ?_) ?_ ?_; rotate_left
 ·
  show Act.put _ (some 4) _ = _; simp only [Act.put, List.setIfInBounds_toArray, List.set_cons_zero, List.set_cons_succ, i64_w, i32_w]; rfl
 refine last_ (i := 30) (N := none) (bs 31 2147483647) rfl rfl (one_of HT_.out (by kernel_rfl)) (by decide) (fun K hK => ?_); refine skip_ (w1 := Z.setCells gz 0 (Value.agg (mc 5 a.seq x.ep x.sp x.sh a.id a.blk x.rg.f0 x.rg.f1)).cells.toList) (by rfl) rfl (store_run (t := 49) (p := .tmp 4) (v := .tmp 43) (g := gz) (off := 0) (cur := mc0) (e := 49) (u := .agg (mc 5 a.seq x.ep x.sp x.sh a.id a.blk x.rg.f0 x.rg.f1)) (by rfl) (by rfl) (by rfl) HZ.out.2.1 (by kernel_rfl) (Nat.le_of_ble_eq_true rfl) (by rfl)) ?_; refine hK.out _ _ ?_; clear hK K; refine done_ (done_of HT_.out (by kernel_rfl)) ?_; obtain ⟨X, hX, hx, hgx⟩ := cells_set (off := 0) (cur' := mc 5 a.seq x.ep x.sp x.sh a.id a.blk x.rg.f0 x.rg.f1) (vs := (Value.agg (mc 5 a.seq x.ep x.sp x.sh a.id a.blk x.rg.f0 x.rg.f1)).cells.toList) HZ.out.2.1 (Nat.le_of_ble_eq_true rfl) (by rfl); rw [← hX]; have hne : g ≠ gz := fun e => by have h1 := blk_lt HFW.out; have h2 := HZ.out.1; omega
 have hnb : gb ≠ gz := fun e => by have h1 := blk_lt HY1.out; have h2 := HZ.out.1; omega
 have HX := Lib.hid (And.intro hx hgx); have HFX := Lib.hid (blk_other (blk_below HFW.out HZ.out.2.2) hgx hne); have HGX := Lib.hid (blk_other (blk_below HY1.out HZ.out.2.2) hgx hnb); have HBX := Lib.hid (below_grow (below_then HB1.out HB1.out.size HZ.out.2.2) hgx (by have h1 := HZ.out.1; have h2 := HB1.out.size; omega)); clear hX hx hgx hne hnb r5 r6 r0 r1 r3 r4 r7 r8; have f11 : X.cell? ⟨g, 11, none⟩ = some (.bool false) := (blk_cell HFX.out 11).trans (by rw [HFC.out, ← HP.out]; rfl); have d0 : X.cell? ⟨gz, 0, none⟩ = some (.int .i64 5) := (blk_cell HX.out.1 0).trans rfl; have d1 : X.cell? ⟨gz, 1, none⟩ = some (.int .i64 a.seq) := (blk_cell HX.out.1 1).trans rfl; have d2 : X.cell? ⟨gz, 2, none⟩ = some (.int .i64 x.ep) := (blk_cell HX.out.1 2).trans rfl; have d3 : X.cell? ⟨gz, 3, none⟩ = some (.int .i64 x.sp) := (blk_cell HX.out.1 3).trans rfl; have d4 : X.cell? ⟨gz, 4, none⟩ = some (.int .i64 x.sh) := (blk_cell HX.out.1 4).trans rfl; have d5 : X.cell? ⟨gz, 5, none⟩ = some (.string a.id) := (blk_cell HX.out.1 5).trans rfl; have d6 : X.cell? ⟨gz, 6, none⟩ = some (.int .i64 a.blk) := (blk_cell HX.out.1 6).trans rfl; have d7 : X.cell? ⟨gz, 7, none⟩ = some (.int .i64 x.rg.f0) := (blk_cell HX.out.1 7).trans rfl; have d8 : X.cell? ⟨gz, 8, none⟩ = some (.int .i64 x.rg.f1) := (blk_cell HX.out.1 8).trans rfl; have d9 : X.cell? ⟨gz, 9, none⟩ = some (.int .i64 0) := (blk_cell HX.out.1 9).trans rfl; have d10 : X.cell? ⟨gz, 10, none⟩ = some (.int .u64 0) := (blk_cell HX.out.1 10).trans rfl; have d11 : X.cell? ⟨gz, 11, none⟩ = some (.int .u64 0) := (blk_cell HX.out.1 11).trans rfl; have d12 : X.cell? ⟨gz, 12, none⟩ = some (.int .i64 0) := (blk_cell HX.out.1 12).trans rfl; have d13 : X.cell? ⟨gz, 13, none⟩ = some (.bool false) := (blk_cell HX.out.1 13).trans rfl; have d14 : X.cell? ⟨gz, 14, none⟩ = some (.slice none 0 0) := (blk_cell HX.out.1 14).trans rfl; have d15 : X.cell? ⟨gz, 15, none⟩ = some (.slice none 0 0) := (blk_cell HX.out.1 15).trans rfl
 go_wp2_with (first
  | (refine store_blk (t := 49) (p := .tmp 2) (v := .tmp 75) (g := gb) (off := 0) (cur := mc0) (cur' := mc 5 a.seq x.ep x.sp x.sh a.id a.blk x.rg.f0 x.rg.f1) (e := 49) (u := .agg (mc 5 a.seq x.ep x.sp x.sh a.id a.blk x.rg.f0 x.rg.f1)) rfl rfl rfl rfl rfl HGX.out (by kernel_rfl) (Nat.le_of_ble_eq_true rfl) (by rfl) (by rfl) ?_; intro Z5 hz5 hg5 hs5; have HZ5 := Lib.hid (And.intro hz5 hg5); clear hz5 hg5 hs5))
 refine bodyPost_ret (results_ct rfl _ _ gb 49 (mc 5 a.seq x.ep x.sp x.sh a.id a.blk x.rg.f0 x.rg.f1) (0, 0) _ rfl HZ5.out.1 Try.underlying49 rfl (by kernel_rfl)) rfl ?_; exact ⟨rfl, below_grow HBX.out HZ5.out.2 (Nat.le_of_eq HY.out.1.symm)⟩
theorem rnext_block (w : World) (B g : Nat) (vL vS : Value) (x : Fx) (a : Fa) (h : RIs w B g vL vS x a) (hl : a.live = true) (hp : a.pg = true) (hn : a.n < a.L.length) :
  Calls Try.prog 11 #[.pointer (some ⟨g, 0, none⟩)] w fun e w' => e = .returned (.tuple #[.agg (mc 7 a.seq x.ep x.sp x.sh (rd_T25 a.L a.n).f0 (rd_T25 a.L a.n).f1 0 0), .bool true]) ∧ Below w.heap.size w w' := by
 obtain ⟨AL, cL, rfl⟩ := Kd.R_slice h.met
 obtain ⟨fc, hfc⟩ : ∃ fc, fc = rcells x a.seq a.blk a.id (.slice AL a.L.length cL) a.n a.pg a.er vS := ⟨_, rfl⟩
 have hfb : w.heap[g]? = some (.cells fc 60 (0, 0)) := by rw [hfc]; exact h.blk
 have HFC := Lib.hid hfc; have HFB := Lib.hid hfb; have HI := Lib.hid h; have HP := Lib.hid hp; unfold Fa.live at hl; rw [Bool.and_eq_true] at hl; have d1 : (a.er != 0) = false := by rw [bne, hl.1]; rfl
 have hf : (a.er == 0 && a.fin) = false := by rw [hl.1, Bool.true_and]; have := hl.2; cases hh : a.fin <;> rw [hh] at this <;> simp_all
 have HD := Lib.hid (fun W (hW : Below w.heap.size w W) => (show Calls Try.prog 17 #[.pointer (some ⟨g, 0, none⟩)] W (fun e w' => e = .returned (.bool false) ∧ Below W.heap.size W w') from by have := rdone_calls W B g _ vS x a (HI.out.below hW); rwa [hf] at this)); clear h hl hf hfc hfb hp; go_enter Try.func11, Try.ntmps11
 go_wp2_with (first
  | ((with_reducible refine gate_dst (N := 2) rfl ?_); refine box_event rfl (N := 2) rfl (cs := mc0) (t := 49) ?hr ?_; (case hr => go_simp; rfl); intro gb hgb Y hboy hbY; have HY := Lib.hid (And.intro hgb (And.intro hboy hbY)); have c12 : Y.cell? ⟨g, 12, none⟩ = some (.int .i64 a.er) := (blk_cell (blk_below HFB.out hbY) 12).trans (by rw [HFC.out]; rfl); clear hgb hboy hbY))
 with_reducible refine (HD.out _ HY.out.2.2).mono ?_
 rintro e W1 ⟨rfl, hb1⟩; have HY1 := Lib.hid (blk_below HY.out.2.1 hb1); have HB1 := Lib.hid (below_then HY.out.2.2 HY.out.2.2.size hb1); have HFW := Lib.hid (blk_below HFB.out HB1.out); clear hb1 c12; have r5 : W1.cell? ⟨g, 5, none⟩ = some (.int .i64 x.ep) := (blk_cell HFW.out 5).trans (by rw [HFC.out]; rfl); have r6 : W1.cell? ⟨g, 6, none⟩ = some (.int .i64 a.seq) := (blk_cell HFW.out 6).trans (by rw [HFC.out]; rfl); have r0 : W1.cell? ⟨g, 0, none⟩ = some (.int .i64 x.sp) := (blk_cell HFW.out 0).trans (by rw [HFC.out]; rfl); have r1 : W1.cell? ⟨g, 1, none⟩ = some (.int .i64 x.sh) := (blk_cell HFW.out 1).trans (by rw [HFC.out]; rfl); have r3 : W1.cell? ⟨g, 3, none⟩ = some (.int .i64 x.rg.f0) := (blk_cell HFW.out 3).trans (by rw [HFC.out]; rfl); have r4 : W1.cell? ⟨g, 4, none⟩ = some (.int .i64 x.rg.f1) := (blk_cell HFW.out 4).trans (by rw [HFC.out]; rfl); have r7 : W1.cell? ⟨g, 7, none⟩ = some (.int .i64 a.blk) := (blk_cell HFW.out 7).trans (by rw [HFC.out]; rfl); have r8 : W1.cell? ⟨g, 8, none⟩ = some (.string a.id) := (blk_cell HFW.out 8).trans (by rw [HFC.out]; rfl); go_wp2_with fail
 refine start_ (n := 31) (S := fun w' => w'.cell? ⟨g, 5, none⟩ = some (.int .i64 x.ep) ∧ w'.cell? ⟨g, 6, none⟩ = some (.int .i64 a.seq) ∧ w'.cell? ⟨g, 0, none⟩ = some (.int .i64 x.sp) ∧ w'.cell? ⟨g, 1, none⟩ = some (.int .i64 x.sh) ∧ w'.cell? ⟨g, 3, none⟩ = some (.int .i64 x.rg.f0) ∧ w'.cell? ⟨g, 4, none⟩ = some (.int .i64 x.rg.f1) ∧ w'.cell? ⟨g, 7, none⟩ = some (.int .i64 a.blk) ∧ w'.cell? ⟨g, 8, none⟩ = some (.string a.id)) (ds := [30]) (bs 31 0) (by kernel_rfl) rfl rfl ⟨r5, r6, r0, r1, r3, r4, r7, r8⟩ (fun hHeld => ?_); refine with_tabW PRef3.tab3 PRef3.bits3 (fun HT_ HW_ => ?_); apply pv 0 15 (bs 31 1) HT_; rfl; rfl; kernel_rfl; exact qq; rfl; intro w'; go_simp; with_reducible rfl; simp only [zz]; rfl
 apply pv 1 16 (bs 31 3) HT_; rfl; rfl; kernel_rfl; exact qq; rfl; intro w'; go_simp; with_reducible rfl; simp only [zz]; rfl
 apply pv 2 17 (bs 31 7) HT_; rfl; rfl; kernel_rfl; exact qq; rfl; intro w'; go_simp; with_reducible rfl; simp only [zz]; rfl
 apply pv 4 19 (bs 31 23) HT_; rfl; rfl; kernel_rfl; exact qq; rfl; intro w'; go_simp; with_reducible rfl; simp only [zz]; rfl
 apply pv 5 20 (bs 31 55) HT_; rfl; rfl; kernel_rfl; exact qq; rfl; intro w'; go_simp; with_reducible rfl; simp only [zz]; rfl
 apply pv 6 21 (bs 31 119) HT_; rfl; rfl; kernel_rfl; exact qq; rfl; intro w'; go_simp; with_reducible rfl; simp only [zz]; rfl
 apply pv 8 23 (bs 31 375) HT_; rfl; rfl; kernel_rfl; exact qq; rfl; intro w'; go_simp; with_reducible rfl; simp only [zz]; rfl
 apply pv 9 24 (bs 31 887) HT_; rfl; rfl; kernel_rfl; exact qq; rfl; intro w'; go_simp; with_reducible rfl; simp only [zz]; rfl
 apply pv 10 25 (bs 31 1911) HT_; rfl; rfl; kernel_rfl; exact qq; rfl; intro w'; go_simp; with_reducible rfl; simp only [zz]; rfl
 apply pv 12 27 (bs 31 6007) HT_; rfl; rfl; kernel_rfl; exact qq; rfl; intro w'; go_simp; with_reducible rfl; simp only [zz]; rfl
 apply pv 13 28 (bs 31 14199) HT_; rfl; rfl; kernel_rfl; exact qq; rfl; intro w'; go_simp; with_reducible rfl; simp only [zz]; rfl
 apply pv 14 29 (bs 31 30583) HT_; rfl; rfl; kernel_rfl; exact qq; rfl; intro w'; go_simp; with_reducible rfl; simp only [zz]; rfl
 apply pv 16 31 (bs 31 96119) HT_; rfl; rfl; kernel_rfl; exact qq; rfl; intro w'; go_simp; with_reducible rfl; simp only [zz]; rfl
 apply pv 17 32 (bs 31 227191) HT_; rfl; rfl; kernel_rfl; exact qq; rfl; intro w'; go_simp; with_reducible rfl; simp only [zz]; rfl
 apply pv 18 33 (bs 31 489335) HT_; rfl; rfl; kernel_rfl; exact qq; rfl; intro w'; go_simp; with_reducible rfl; simp only [zz]; rfl
 apply pv 20 35 (bs 31 1537911) HT_; rfl; rfl; kernel_rfl; exact qq; rfl; intro w'; go_simp; with_reducible rfl; simp only [zz]; rfl
 apply pv 21 36 (bs 31 3635063) HT_; rfl; rfl; kernel_rfl; exact qq; rfl; intro w'; go_simp; with_reducible rfl; simp only [zz]; rfl
 apply pv 22 37 (bs 31 7829367) HT_; rfl; rfl; kernel_rfl; exact qq; rfl; intro w'; go_simp; with_reducible rfl; simp only [zz]; rfl
 apply pv 24 39 (bs 31 24606583) HT_; rfl; rfl; kernel_rfl; exact qq; rfl; intro w'; go_simp; with_reducible rfl; simp only [zz]; rfl
 apply pv 25 40 (bs 31 58161015) HT_; rfl; rfl; kernel_rfl; exact qq; rfl; intro w'; go_simp; with_reducible rfl; simp only [zz]; rfl
 apply pv 26 41 (bs 31 125269879) HT_; rfl; rfl; kernel_rfl; exact qq; rfl; intro w'; go_simp; with_reducible rfl; simp only [zz]; rfl
 apply tb 3 18 (bs 31 125269887) HT_ HW_ hHeld; rfl; rfl; kernel_rfl; exact qq; rfl; rintro w' ⟨s0, s1, s2, s3, s4, s5, s6, s7⟩; go_simp; with_reducible rfl; simp only [zz]; rfl
 apply tb 7 22 (bs 31 125270015) HT_ HW_ hHeld; rfl; rfl; kernel_rfl; exact qq; rfl; rintro w' ⟨s0, s1, s2, s3, s4, s5, s6, s7⟩; go_simp; with_reducible rfl; simp only [zz]; rfl
 apply tb 11 26 (bs 31 125272063) HT_ HW_ hHeld; rfl; rfl; kernel_rfl; exact qq; rfl; rintro w' ⟨s0, s1, s2, s3, s4, s5, s6, s7⟩; go_simp; with_reducible rfl; simp only [zz]; rfl
 apply tb 15 30 (bs 31 125304831) HT_ HW_ hHeld; rfl; rfl; kernel_rfl; exact qq; rfl; rintro w' ⟨s0, s1, s2, s3, s4, s5, s6, s7⟩; go_simp; with_reducible rfl; simp only [zz]; rfl
 apply tb 19 34 (bs 31 125829119) HT_ HW_ hHeld; rfl; rfl; kernel_rfl; exact qq; rfl; rintro w' ⟨s0, s1, s2, s3, s4, s5, s6, s7⟩; go_simp; with_reducible rfl; simp only [zz]; rfl
 apply tb 23 38 (bs 31 134217727) HT_ HW_ hHeld; rfl; rfl; kernel_rfl; exact qq; rfl; rintro w' ⟨s0, s1, s2, s3, s4, s5, s6, s7⟩; go_simp; with_reducible rfl; simp only [zz]; rfl
 apply tb 27 42 (bs 31 268435455) HT_ HW_ hHeld; rfl; rfl; kernel_rfl; exact qq; rfl; rintro w' ⟨s0, s1, s2, s3, s4, s5, s6, s7⟩; go_simp; with_reducible rfl; simp only [zz]; rfl
 apply pv 28 43 (bs 31 536870911) HT_; rfl; rfl; kernel_rfl; exact qq; rfl; intro w'; go_simp; with_reducible rfl; simp only [zz]; rfl
 refine one_ (i := 29) (N := some 4) (bs 31 1073741823) rfl rfl (one_of HT_.out (by kernel_rfl)) (by decide) (fun K hK => ?_); refine value_ (w1 := ?_) (v := ?_) (by rfl) rfl ?_ ?_; rotate_left 2
 ·
  go_simp
  constructor
  ·
   rfl
  ·
   rfl
 obtain ⟨gz, hgz⟩ : ∃ gz, gz = W1.heap.size := ⟨_, rfl⟩
 have hbz : ((W1.alloc (.cells mc0 49)).drew).heap[gz]? = some (.cells mc0 49 (0, 0)) := by rw [hgz]; exact blk_new W1 _
 have hBX : Below W1.heap.size W1 ((W1.alloc (.cells mc0 49)).drew) := below_drew (below_alloc (Below.refl _ _) _)
 obtain ⟨Z, hZ⟩ : ∃ Z : World, Z = (W1.alloc (.cells mc0 49)).drew := ⟨_, rfl⟩
 rw [← hZ] at hbz hBX; rw [show (W1.alloc (.cells #[.int .i64 0, .int .i64 0, .int .i64 0, .int .i64 0, .int .i64 0, .string ⟨#[]⟩, .int .i64 0, .int .i64 0, .int .i64 0, .int .i64 0, .int .u64 0, .int .u64 0, .int .i64 0, .bool false, .slice none 0 0, .slice none 0 0] 49)).drew = Z from hZ.symm, ← hgz]; have HZ := Lib.hid (And.intro hgz (And.intro hbz hBX)); clear hbz hBX hZ hgz; refine hK.out _ _ ⟨((blk_cell (blk_below HFW.out HZ.out.2.2) 5).trans (by rw [HFC.out]; rfl)), ((blk_cell (blk_below HFW.out HZ.out.2.2) 6).trans (by rw [HFC.out]; rfl)), ((blk_cell (blk_below HFW.out HZ.out.2.2) 0).trans (by rw [HFC.out]; rfl)), ((blk_cell (blk_below HFW.out HZ.out.2.2) 1).trans (by rw [HFC.out]; rfl)), ((blk_cell (blk_below HFW.out HZ.out.2.2) 3).trans (by rw [HFC.out]; rfl)), ((blk_cell (blk_below HFW.out HZ.out.2.2) 4).trans (by rw [HFC.out]; rfl)), ((blk_cell (blk_below HFW.out HZ.out.2.2) 7).trans (by rw [HFC.out]; rfl)), ((blk_cell (blk_below HFW.out HZ.out.2.2) 8).trans (by rw [HFC.out]; rfl))⟩ (fun hHeld => ?_); clear hK K; refine norm_ (a' := ?_) ?_ ?_; rotate_left
 ·
  show Act.put _ (some 4) _ = _; simp only [Act.put, List.setIfInBounds_toArray, List.set_cons_zero, List.set_cons_succ, i64_w, i32_w]; rfl
 refine last_ (i := 30) (N := none) (bs 31 2147483647) rfl rfl (one_of HT_.out (by kernel_rfl)) (by decide) (fun K hK => ?_); refine skip_ (w1 := Z.setCells gz 0 (Value.agg (mc 5 a.seq x.ep x.sp x.sh a.id a.blk x.rg.f0 x.rg.f1)).cells.toList) (by rfl) rfl (store_run (t := 49) (p := .tmp 4) (v := .tmp 43) (g := gz) (off := 0) (cur := mc0) (e := 49) (u := .agg (mc 5 a.seq x.ep x.sp x.sh a.id a.blk x.rg.f0 x.rg.f1)) (by rfl) (by rfl) (by rfl) HZ.out.2.1 (by kernel_rfl) (Nat.le_of_ble_eq_true rfl) (by rfl)) ?_; refine hK.out _ _ ?_; clear hK K; refine done_ (done_of HT_.out (by kernel_rfl)) ?_; obtain ⟨X, hX, hx, hgx⟩ := cells_set (off := 0) (cur' := mc 5 a.seq x.ep x.sp x.sh a.id a.blk x.rg.f0 x.rg.f1) (vs := (Value.agg (mc 5 a.seq x.ep x.sp x.sh a.id a.blk x.rg.f0 x.rg.f1)).cells.toList) HZ.out.2.1 (Nat.le_of_ble_eq_true rfl) (by rfl); rw [← hX]; have hne : g ≠ gz := fun e => by have h1 := blk_lt HFW.out; have h2 := HZ.out.1; omega
 have hnb : gb ≠ gz := fun e => by have h1 := blk_lt HY1.out; have h2 := HZ.out.1; omega
 have HX := Lib.hid (And.intro hx hgx); have HFX := Lib.hid (blk_other (blk_below HFW.out HZ.out.2.2) hgx hne); have HGX := Lib.hid (blk_other (blk_below HY1.out HZ.out.2.2) hgx hnb); have HNE := Lib.hid (And.intro hne hnb); have HBX := Lib.hid (below_grow (below_then HB1.out HB1.out.size HZ.out.2.2) hgx (by have h1 := HZ.out.1; have h2 := HB1.out.size; omega)); clear hX hx hgx hne hnb r5 r6 r0 r1 r3 r4 r7 r8; have f11 : X.cell? ⟨g, 11, none⟩ = some (.bool true) := (blk_cell HFX.out 11).trans (by rw [HFC.out, ← HP.out]; rfl); have hz : (0 : Int) ≤ (a.n : Int) := by omega
 have hni : (a.n : Int) < (a.L.length : Int) := by omega
 have HMX := Lib.hid (Kd.R_grown1 (Kd.R_below (Kd.R_below HI.out.met HB1.out) HZ.out.2.2) rfl HX.out.2 (fun e => by have h1 := Kd.R_lt (Kd.R_below HI.out.met HB1.out) gz e.symm; have h2 := HZ.out.1; omega))
 go_wp2_with (first
  | (refine store_blk (t := 3) (p := .tmp 48) (v := .const (.int .i64 7)) (g := gz) (off := 0) (cur := mc 5 a.seq x.ep x.sp x.sh a.id a.blk x.rg.f0 x.rg.f1) (cur' := mc 7 a.seq x.ep x.sp x.sh a.id a.blk x.rg.f0 x.rg.f1) (e := 49) (u := .int .i64 7) rfl rfl rfl rfl rfl HX.out.1 (by kernel_rfl) (Nat.le_of_ble_eq_true rfl) (by rfl) (by rfl) ?_; intro Z5 hz5 hg5 hs5; have HZ5 := Lib.hid (And.intro hz5 hg5); clear hz5 hg5 hs5 f11)
  | (refine store_blk (t := 30) (p := .tmp 50) (v := .tmp 49) (g := gz) (off := 7) (cur := mc 7 a.seq x.ep x.sp x.sh a.id a.blk x.rg.f0 x.rg.f1) (cur' := mc 7 a.seq x.ep x.sp x.sh a.id a.blk 0 0) (e := 49) (u := .agg #[.int .i64 0, .int .i64 0]) rfl rfl rfl rfl rfl HZ5.out.1 (by kernel_rfl) (Nat.le_of_ble_eq_true rfl) (by rfl) (by rfl) ?_; intro Z6 hz6 hg6 hs6; have HZ6 := Lib.hid (And.intro hz6 (grown_trans HZ5.out.2 hg6)); clear hz6 hg6 hs6))
 have hown : some gz ≠ (Value.slice AL a.L.length cL).ownBlock := fun e => by have h1 := Kd.R_lt (Kd.R_below HI.out.met HB1.out) gz e.symm; have h2 := HZ.out.1; omega
 have HM6 := Lib.hid (Kd.R_grown1 HMX.out rfl HZ6.out.2 hown); have HF6 := Lib.hid (blk_other HFX.out HZ6.out.2 HNE.out.1); obtain ⟨ad, hA, p0, p1, p2, p3⟩ := at_T25 (Kd.R_reads' HM6.out).2.2 (a.n : Int) hz hni; cases hA; rw [Int.toNat_natCast] at p0 p1; have s9 : Z6.cell? ⟨g, 9, none⟩ = some (.slice (some ad) a.L.length cL) := (blk_cell HF6.out 9).trans (by rw [HFC.out]; rfl); have s10 : Z6.cell? ⟨g, 10, none⟩ = some (.int .i64 a.n) := (blk_cell HF6.out 10).trans (by rw [HFC.out]; rfl); have z6 : Z6.cell? ⟨gz, 6, none⟩ = some (.int .i64 a.blk) := (blk_cell HZ6.out.1 6).trans rfl; have z6' : Z6.frozen? ⟨gz, 6, none⟩ = false := blk_frozen HZ6.out.1 _; clear p2 p3; go_region
 obtain ⟨Z7, hZ7, hz7, hg7⟩ : ∃ Z7, Z7 = (Z6.setCell ⟨gz, 6, none⟩ (.int .i64 (rd_T25 a.L a.n).f1)).drew ∧ Z7.heap[gz]? = some (.cells (mc 7 a.seq x.ep x.sp x.sh a.id (rd_T25 a.L a.n).f1 0 0) 49 (0, 0)) ∧ Z6.grownBy Z7 (some gz) := ⟨_, rfl, blk_set HZ6.out.1 6 _, grown_drew (grown_set HZ6.out.1 6 _)⟩
 rw [← hZ7]; have HZ7 := Lib.hid (And.intro hz7 hg7); clear hZ7 hz7 hg7 s9 s10 z6 z6' p0 p1; have HM7 := Lib.hid (Kd.R_grown1 HM6.out rfl HZ7.out.2 hown); have HF7 := Lib.hid (blk_other HF6.out HZ7.out.2 HNE.out.1); obtain ⟨ad2, hA2, p0, p1, p2, p3⟩ := at_T25 (Kd.R_reads' HM7.out).2.2 (a.n : Int) hz hni; cases hA2; rw [Int.toNat_natCast] at p0; have s9 : Z7.cell? ⟨g, 9, none⟩ = some (.slice (some ad) a.L.length cL) := (blk_cell HF7.out 9).trans (by rw [HFC.out]; rfl); have s10 : Z7.cell? ⟨g, 10, none⟩ = some (.int .i64 a.n) := (blk_cell HF7.out 10).trans (by rw [HFC.out]; rfl); have z5 : Z7.cell? ⟨gz, 5, none⟩ = some (.string a.id) := (blk_cell HZ7.out.1 5).trans rfl; have z5' : Z7.frozen? ⟨gz, 5, none⟩ = false := blk_frozen HZ7.out.1 _; clear p1 p2 p3; go_wp2_with fail
 go_region
 obtain ⟨Z8, hZ8, hz8, hg8⟩ : ∃ Z8, Z8 = (Z7.setCell ⟨gz, 5, none⟩ (.string (rd_T25 a.L a.n).f0)).drew ∧ Z8.heap[gz]? = some (.cells (mc 7 a.seq x.ep x.sp x.sh (rd_T25 a.L a.n).f0 (rd_T25 a.L a.n).f1 0 0) 49 (0, 0)) ∧ Z7.grownBy Z8 (some gz) := ⟨_, rfl, blk_set HZ7.out.1 5 _, grown_drew (grown_set HZ7.out.1 5 _)⟩
 rw [← hZ8]; have HZ8 := Lib.hid (And.intro hz8 hg8); have HG8 := Lib.hid (blk_other (blk_other (blk_other HGX.out HZ6.out.2 HNE.out.2) HZ7.out.2 HNE.out.2) hg8 HNE.out.2); have d0 : Z8.cell? ⟨gz, 0, none⟩ = some (.int .i64 7) := (blk_cell hz8 0).trans rfl; have d1 : Z8.cell? ⟨gz, 1, none⟩ = some (.int .i64 a.seq) := (blk_cell hz8 1).trans rfl; have d2 : Z8.cell? ⟨gz, 2, none⟩ = some (.int .i64 x.ep) := (blk_cell hz8 2).trans rfl; have d3 : Z8.cell? ⟨gz, 3, none⟩ = some (.int .i64 x.sp) := (blk_cell hz8 3).trans rfl; have d4 : Z8.cell? ⟨gz, 4, none⟩ = some (.int .i64 x.sh) := (blk_cell hz8 4).trans rfl; have d5 : Z8.cell? ⟨gz, 5, none⟩ = some (.string (rd_T25 a.L a.n).f0) := (blk_cell hz8 5).trans rfl; have d6 : Z8.cell? ⟨gz, 6, none⟩ = some (.int .i64 (rd_T25 a.L a.n).f1) := (blk_cell hz8 6).trans rfl; have d7 : Z8.cell? ⟨gz, 7, none⟩ = some (.int .i64 0) := (blk_cell hz8 7).trans rfl; have d8 : Z8.cell? ⟨gz, 8, none⟩ = some (.int .i64 0) := (blk_cell hz8 8).trans rfl; have d9 : Z8.cell? ⟨gz, 9, none⟩ = some (.int .i64 0) := (blk_cell hz8 9).trans rfl; have d10 : Z8.cell? ⟨gz, 10, none⟩ = some (.int .u64 0) := (blk_cell hz8 10).trans rfl; have d11 : Z8.cell? ⟨gz, 11, none⟩ = some (.int .u64 0) := (blk_cell hz8 11).trans rfl; have d12 : Z8.cell? ⟨gz, 12, none⟩ = some (.int .i64 0) := (blk_cell hz8 12).trans rfl; have d13 : Z8.cell? ⟨gz, 13, none⟩ = some (.bool false) := (blk_cell hz8 13).trans rfl; have d14 : Z8.cell? ⟨gz, 14, none⟩ = some (.slice none 0 0) := (blk_cell hz8 14).trans rfl; have d15 : Z8.cell? ⟨gz, 15, none⟩ = some (.slice none 0 0) := (blk_cell hz8 15).trans rfl; clear hZ8 hz8 hg8 s9 s10 z5 z5' p0
 go_wp2_with (first
  | (refine store_blk (t := 49) (p := .tmp 2) (v := .tmp 75) (g := gb) (off := 0) (cur := mc0) (cur' := mc 7 a.seq x.ep x.sp x.sh (rd_T25 a.L a.n).f0 (rd_T25 a.L a.n).f1 0 0) (e := 49) (u := .agg (mc 7 a.seq x.ep x.sp x.sh (rd_T25 a.L a.n).f0 (rd_T25 a.L a.n).f1 0 0)) rfl rfl rfl rfl rfl HG8.out (by kernel_rfl) (Nat.le_of_ble_eq_true rfl) (by rfl) (by rfl) ?_; intro Z9 hz9 hg9 hs9; have HZ9 := Lib.hid (And.intro hz9 hg9); clear hz9 hg9 hs9))
 refine bodyPost_ret (results_ct rfl _ _ gb 49 (mc 7 a.seq x.ep x.sp x.sh (rd_T25 a.L a.n).f0 (rd_T25 a.L a.n).f1 0 0) (0, 0) _ rfl HZ9.out.1 Try.underlying49 rfl (by kernel_rfl)) rfl ?_; have hgz : w.heap.size ≤ gz := by have h1 := HZ.out.1; have h2 := HB1.out.size; omega
 exact ⟨rfl, below_grow (below_grow (below_grow (below_grow HBX.out HZ6.out.2 hgz) HZ7.out.2 hgz) HZ8.out.2 hgz) HZ9.out.2 (Nat.le_of_eq HY.out.1.symm)⟩
theorem rnext_calls (w : World) (B g : Nat) (vL vS : Value) (x : Fx) (a : Fa) (h : RIs w B g vL vS x a) :
  Calls Try.prog 11 #[.pointer (some ⟨g, 0, none⟩)] w fun e w' => e = .returned (.tuple #[.agg (qmsg x a), .bool a.live]) ∧ Below w.heap.size w w' := by
 unfold qmsg
 cases hl : a.live with
 | false => rw [if_neg (by simp)]; exact rnext_dead w B g vL vS x a h hl
 | true =>
  rw [if_pos rfl]
  cases hp : a.pg with
  | false => rw [if_neg (by simp)]; exact rnext_page w B g vL vS x a h hl hp
  | true =>
   rw [if_pos rfl]; refine rnext_block w B g vL vS x a h hl hp ?_; have h1 := h.le; unfold Fa.live Fa.fin at hl; rw [hp] at hl; rcases Nat.lt_or_ge a.n a.L.length with h2 | h2
   ·
    exact h2
   ·
    rw [show a.n = a.L.length from by omega] at hl; simp at hl
end Ps
end Go.Proofs.Ytgagcimfkmegnaa
