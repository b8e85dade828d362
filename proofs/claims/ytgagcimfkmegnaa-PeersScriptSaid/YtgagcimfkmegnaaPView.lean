/- What the printed forms of merge.Cut and of thermographref06's Cut, half, View answer. -/
import Derived.Test.YtgagcimfkmegnaaPStr
section
set_option maxHeartbeats 4000000
set_option maxRecDepth 100000
namespace Go.Proofs.Ytgagcimfkmegnaa
set_option linter.unusedVariables false
set_option linter.unusedSimpArgs false
open Go.RowKit Go.Proofs.YtgagcimfkmegnaaW.PrintWords Go.Proofs.YtgagcimfkmegnaaW.PrintLast Go.Proofs.YtgagcimfkmegnaaW.PrintMore Go.Proofs.Ytgagcimfkmegnaa.QT
namespace Ps
open Hm (Hp HM HMap cur put Sh Ft)
def a0 (seq : Int) : Fa := ⟨seq, 0, ⟨#[]⟩, [], 0, false, 0⟩
theorem new_calls (w0 w : World) (hB : Below w0.heap.size w0 w) (x : Fx) (seq : Int) :
  Calls Try.prog 8 #[.int .i64 x.sp, .int .i64 x.sh, .int .i64 x.sz, .agg #[.int .i64 x.rg.f0, .int .i64 x.rg.f1], .int .i64 x.ep, .int .i64 seq] w fun e w' => ∃ g gm : Nat, e = .returned (.pointer (some ⟨g, 0, none⟩)) ∧ FIs w' w0.heap.size g gm (.slice none 0 0) x z25 (a0 seq) ∧ HM w' gm w0.heap.size 0 [] ∧ Below w.heap.size w w' ∧ w.heap.size ≤ g ∧ w.heap.size ≤ gm := by
 have HB := Lib.hid hB; clear hB; have hmm := @run_makeMap Try.prog; go_enter Try.func8, Try.ntmps8
 go_wp2_with (first
  | ((with_reducible refine gate_dst (N := 9) rfl ?_); refine box_event rfl (N := 9) rfl (cs := #[.int .i64 x.rg.f0, .int .i64 x.rg.f1]) (t := 30) ?hr ?_; (case hr => go_simp; done); intro gr hgr Y hboy hbY; have HY := Lib.hid hbY; have y0 : Y.cell? ⟨gr, 0, none⟩ = some (.int .i64 x.rg.f0) := (blk_cell hboy 0).trans rfl; have y1 : Y.cell? ⟨gr, 1, none⟩ = some (.int .i64 x.rg.f1) := (blk_cell hboy 1).trans rfl; clear hgr hboy hbY)
  | ((with_reducible refine gate_dst (N := 23) rfl ?_); refine box_event rfl (N := 23) rfl (cs := fcells x seq z25 (.slice none 0 0) 0 Y.heap.size .nilFunc 5) (t := 77) ?hr ?_; (case hr => go_simp; rfl); intro g hg X hboX hbX; have HX := Lib.hid (And.intro hg (And.intro hboX hbX)); clear hg hboX hbX)
  | (refine store_blk (t := 75) (p := .tmp 28) (v := .tmp 26) (g := g) (off := 24) (cur := fcells x seq z25 (.slice none 0 0) 0 Y.heap.size .nilFunc 5) (cur' := fcells x seq z25 (.slice none 0 0) 0 Y.heap.size (hf g 29) 5) (e := 77) (u := hf g 29) rfl rfl rfl rfl rfl HX.out.2.1 (by kernel_rfl) (Nat.le_of_ble_eq_true rfl) (by rfl) (by rfl) ?_; intro Z hz hgz hsz; have HZ := Lib.hid (And.intro hz hgz); clear hz hgz hsz))
 go_ret; have hm := XM.MapIs.made Try.prog 9 Bt.ekS Hm.evH Y; have hbm : Below w.heap.size w (Y.alloc (.map #[] 0)) := below_alloc HY.out _; have hbx : Below w.heap.size w X := below_then hbm hbm.size HX.out.2.2; have hgg : w.heap.size ≤ g := by rw [HX.out.1]; exact hbm.size
 have hM : HM X Y.heap.size w0.heap.size 0 [] := ⟨XM.MapIs.below hm HX.out.2.2, by simp, by simp, by simp, Nat.le_refl _⟩
 refine ⟨g, Y.heap.size, rfl, ⟨HZ.out.1, Kd.Q_nil _ _ _ _ _, rfl, rfl, Nat.le_trans HB.out.size hgg, Nat.zero_le _, fun _ => rfl, fun _ => Kd.R_nil _ _ _ _ _⟩, hm_set hM HX.out.2.1 (by decide) HZ.out.2, below_grow hbx HZ.out.2 hgg, hgg, HY.out.size⟩
end Ps
end Go.Proofs.Ytgagcimfkmegnaa
end
section
set_option maxHeartbeats 4000000
set_option maxRecDepth 100000
namespace Go.Proofs.Ytgagcimfkmegnaa
set_option linter.unusedVariables false
set_option linter.unusedSimpArgs false
open Go.RowKit Go.Proofs.YtgagcimfkmegnaaW.PrintWords Go.Proofs.YtgagcimfkmegnaaW.PrintLast Go.Proofs.YtgagcimfkmegnaaW.PrintMore Go.Proofs.Ytgagcimfkmegnaa.QT
namespace Ps
open Hm (Hp HM HMap cur put Sh Ft leN keys_calls)
abbrev Sr := S65
/-- What Series tells of a name. -/
def one (rg : S30) (hm : Hp) (n : ByteArray) : List Sr := if 0 < (Hm.cut (Vw.view (cur hm n).2) rg.f0 rg.f1).length then [⟨n, Hm.cut (Vw.view (cur hm n).2) rg.f0 rg.f1⟩] else []
def serOf (rg : S30) (hm : Hp) (ns : List ByteArray) : List Sr := ns.flatMap (one rg hm)
theorem serOf_take {rg : S30} {hm : Hp} {ns : List ByteArray} {i : Nat} (h : i < ns.length) : serOf rg hm (ns.take (i + 1)) = serOf rg hm (ns.take i) ++ one rg hm ns[i] := by
 unfold serOf; rw [List.take_succ_eq_append_getElem h, List.flatMap_append]; simp
theorem serOf_len (rg : S30) (hm : Hp) : ∀ ns : List ByteArray, (serOf rg hm ns).length ≤ ns.length
 | [] => by simp [serOf]
 | n :: r => by
  have ih := serOf_len rg hm r; unfold serOf at ih ⊢; rw [List.flatMap_cons, List.length_append, List.length_cons]; have : (one rg hm n).length ≤ 1 := by unfold one; split <;> simp
  omega
theorem rdN {ns : List ByteArray} {i : Nat} (h : i < ns.length) : rdOf ByteArray.empty ns (i : Int) = ns[i] := by
 unfold rdOf; rw [Int.toNat_natCast, List.getD_eq_getElem?_getD, List.getElem?_eq_getElem h]; rfl
theorem info65' : (Try.prog.info? 65).map (fun i => (i.zero, i.size, i.bytes)) = some (some (.agg #[.string ⟨#[]⟩, .slice none 0 0]), 2, 40) := by kernel_rfl
theorem size_of_mem {w : World} {gp : Nat} {hm : Hp} (h : HMap w gp hm) {n : ByteArray} (hn : n ∈ hm.map (·.1)) : n.size ≤ maxLen := by
 obtain ⟨e, he, rfl⟩ := List.mem_map.1 hn; obtain ⟨kl, hk⟩ := XM.MapIs.isK h e he; have hk : keyOf Try.prog 9 (.string e.1) = some kl := hk; obtain ⟨x, h1, _, h3⟩ := Maps.keyOf_str Try.underlying9 hk; have h4 : Value.string e.1 = .string ⟨x.toArray⟩ := h1; have h5 : e.1 = ⟨x.toArray⟩ := by injection h4
 rw [h5]; exact h3
theorem keysW (w : World) (gp : Nat) : Calls Try.prog 34 #[.map (some gp)] w fun e w' => e = .returned (.func (.func 50) #[] #[.pointer (some ⟨w.heap.size, 0, none⟩)]) ∧ w' = w.alloc (.cells #[.map (some gp)] 74) := callsIn_wide.1 (Try.maps_Keys (some gp) w)
theorem own_ne {α : Type} {d : Kd α} {e B : Nat} {w : World} {v u : Value} {xs : List α} (h : d.R e w B (fun k => some k ≠ u.ownBlock) v xs) {k0 : Nat} (hu : u.ownBlock = some k0) : v.ownBlock ≠ u.ownBlock := fun e2 => h.1 k0 (e2.trans hu) hu.symm
theorem wrap_n (i n : Nat) (h : i < n) (hn : n ≤ 1000000) : wrap64 ((i : Int) + 1) = ((i + 1 : Nat) : Int) := by unfold wrap64; omega
def PSer5.T5 : Bool × List (List Nat × List Nat) := (true, [([], []), ([0], [0]), ([1], [1]), ([2], [2]), ([], []), ([3, 4], [3, 4]), ([5], [5]), ([6], [6]), ([], []), ([8], [8]), ([9], [9]), ([10], [10]), ([11], [11]), ([7, 12, 7], [7, 12]), ([13, 13, 0, 1, 2, 3, 4, 5, 6, 7, 8, 9, 10, 11, 12, 13], [13])])
def PSer5.B5 : List Nat := [0, 1, 3, 7, 0, 31, 63, 127, 0, 256, 768, 1792, 3840, 8191, 16383]
theorem PSer5.tab5 : rtab .any (opsOf Try.f20 5) = PSer5.T5 := by kernel_rfl
theorem PSer5.bits5 : waitsOk PSer5.T5.2 PSer5.B5 = true := by kernel_rfl
theorem series_calls (w : World) (B g gm : Nat) (vM : Value) (x : Fx) (c : Me) (a : Fa) (hm : Hp) (T : Nat) (hI : FIs w B g gm vM x c a) (hM : HM w gm B T hm) (hT : T ≤ 1000000) :
  Calls Try.prog 20 #[.pointer (some ⟨g, 0, none⟩)] w fun e w' => ∃ (v : Value) (ns : List ByteArray), e = .returned v ∧ ns.Perm (hm.map (·.1)) ∧ ns.Pairwise leN ∧ Kd.R k65 65 w' w.heap.size (fun _ => True) v (serOf x.rg hm ns) ∧ Below w.heap.size w w' := by
 obtain ⟨fc, hfc⟩ : ∃ fc, fc = fcells x a.seq c vM a.er gm (hv g a) a.kd := ⟨_, rfl⟩
 have hfb : w.heap[g]? = some (.cells fc 77 (0, 0)) := by rw [hfc]; exact hI.blk
 have HFB := Lib.hid hfb; have HFC := Lib.hid hfc; have HMM := Lib.hid hM; have HT := Lib.hid hT; have HKY := Lib.hid (fun W (hW : Below w.heap.size w W) => keys_calls W gm hm (hM.below hW).map (Nat.le_trans hM.cnt hT)); have c23 : w.cell? ⟨g, 23, none⟩ = some (.map (some gm)) := (blk_cell hfb 23).trans (by rw [hfc]; rfl); clear hI hM hT hfb hfc; go_enter Try.func20, Try.ntmps20
 go_wp2_with fail
 with_reducible refine (keysW w gm).mono ?_
 rintro e w1 ⟨rfl, rfl⟩; go_wp2_with fail
 with_reducible refine (HKY.out w (Below.refl _ _)).mono ?_
 rintro e w2 ⟨v2, ns, rfl, hperm, hpw, hR2, hb2⟩; obtain ⟨A2, c2, rfl⟩ := Kd.R_slice hR2; have HPM := Lib.hid hperm; have HPW := Lib.hid hpw; have HR2 := Lib.hid hR2; have HB2 := Lib.hid hb2; have HNM := Lib.hid (show ns.length ≤ 1000000 by have := hperm.length_eq; rw [List.length_map] at this; have h1 := HMM.out.cnt; have h2 := HT.out; omega); clear hperm hpw hR2 hb2 HKY c23; go_wp2_with fail
 go_loopg [3, 5, 14] ns.length (fun gn v3 v5 v14 wr => ∃ (i : Nat), v14 = .int .i64 (i : Int) ∧ Aside0 (gn = ns.length - i) ∧ Aside0 (i ≤ ns.length) ∧ Aside0 (Kd.R k65 65 wr w.heap.size (fun k => some k ≠ (Value.slice A2 ns.length c2).ownBlock) v3 (serOf x.rg hm (ns.take i))) ∧ Aside0 (Kd.R Kd.string 9 wr w.heap.size (fun _ => True) (.slice A2 ns.length c2) ns) ∧ Aside0 (Below w.heap.size w wr))
 case atStart => exact ⟨0, rfl, ⟨rfl⟩, ⟨Nat.zero_le _⟩, ⟨by rw [List.take_zero]; exact Kd.R_nil _ _ _ _ _⟩, ⟨HR2.out⟩, ⟨HB2.out⟩⟩
 case round =>
  clear HR2 HB2; obtain ⟨i, rfl, HN, HI2, HR, HNR, HB⟩ := hrel
  by_cases hi : i < ns.length
  ·
   have hi0 : (i : Int) < (ns.length : Int) := by omega
   have hwi : wrap64 ((i : Int) + 1) = ((i + 1 : Nat) : Int) := wrap_n i ns.length hi HNM.out; obtain ⟨ad, e1, r0⟩ := Kd.at_string (Kd.R_reads' HNR.out).2.2 (i : Int) (by omega) hi0; cases e1; rw [Int.toNat_natCast, rdN hi] at r0
   obtain ⟨n, hn⟩ : ∃ n, ns[i] = n := ⟨_, rfl⟩
   have hst := serOf_take (rg := x.rg) (hm := hm) hi; rw [hn] at r0 hst; have hnm : n ∈ hm.map (·.1) := HPM.out.mem_iff.1 (by rw [← hn]; exact List.getElem_mem hi); have hns := size_of_mem HMM.out.map hnm; have hcR := (HMM.out.below HB.out).cur_R n; have hcl := HMM.out.cur_len n; obtain ⟨A0, c0, hv0⟩ := Kd.R_slice hcR; have hlk : ∀ W, Below w.heap.size w W → (Instr.lookup 74 (.map (some gm)) (.string n) false).run Try.prog W = .ok (cur hm n).1 W := fun W hW => HMap.look (HMM.out.below hW).map n hns; rw [hv0] at hlk hcR
   obtain ⟨xs, hxs⟩ : ∃ xs, (cur hm n).2 = xs := ⟨_, rfl⟩
   have hone : one x.rg hm n = if 0 < (Hm.cut (Vw.view xs) x.rg.f0 x.rg.f1).length then [⟨n, Hm.cut (Vw.view xs) x.rg.f0 x.rg.f1⟩] else [] := by unfold one; rw [hxs]
   rw [hxs] at hlk hcR hcl; rw [hone] at hst; have HLK := Lib.hid hlk; have HCR := Lib.hid hcR; have HXL := Lib.hid (show xs.length ≤ 1000000 from Nat.le_trans hcl HT.out); have HST := Lib.hid hst; have HIN := Lib.hid (show ∀ k, k = ns.length - i → ns.length - (i + 1) < k by intro k hk; omega)
   have HLO := Lib.hid (show ((serOf x.rg hm (ns.take i)).length + 1) * 40 ≤ 140737488355328 by
    have h1 := serOf_len x.rg hm (ns.take i); rw [List.length_take] at h1; have := HNM.out
    omega)
   obtain ⟨P, hP⟩ : ∃ P, serOf x.rg hm (ns.take i) = P := ⟨_, rfl⟩
   have hRR := HR.out; rw [hP] at HST HLO hRR; obtain ⟨A6, c6, rfl⟩ := Kd.R_slice hRR; have HRR := Lib.hid hRR; have q23 : wr.cell? ⟨g, 23, none⟩ = some (.map (some gm)) := (blk_cell (blk_below HFB.out HB.out) 23).trans (by rw [HFC.out]; rfl); have q7 : wr.cell? ⟨g, 7, none⟩ = some (.int .i64 x.rg.f0) := (blk_cell (blk_below HFB.out HB.out) 7).trans (by rw [HFC.out]; rfl); have q8 : wr.cell? ⟨g, 8, none⟩ = some (.int .i64 x.rg.f1) := (blk_cell (blk_below HFB.out HB.out) 8).trans (by rw [HFC.out]; rfl); have ql := hlk _ (below_drew HB.out); clear hn hnm hns hcR hcl hv0 hxs hone hst hlk hP hRR HR; go_wp2_with fail
   refine start_ (n := 15) (S := fun w' => w'.cell? ⟨g, 23, none⟩ = some (.map (some gm)) ∧ w'.cell? ⟨g, 7, none⟩ = some (.int .i64 x.rg.f0) ∧ w'.cell? ⟨g, 8, none⟩ = some (.int .i64 x.rg.f1) ∧ (Instr.lookup 74 (.map (some gm)) (.string n) false).run Try.prog w' = .ok (.slice A0 xs.length c0) w') (ds := []) (bs 15 0) (by kernel_rfl) rfl rfl ⟨q23, q7, q8, ql⟩ (fun hHeld => ?_); refine with_tabW PSer5.tab5 PSer5.bits5 (fun HT_ HW_ => ?_); apply pv 0 18 (bs 15 1) HT_; rfl; rfl; kernel_rfl; exact qq; rfl; intro w'; go_simp; with_reducible rfl; simp only [zz]; rfl
   apply pv 1 19 (bs 15 3) HT_; rfl; rfl; kernel_rfl; exact qq; rfl; intro w'; go_simp; with_reducible rfl; simp only [zz]; rfl
   apply pv 2 20 (bs 15 7) HT_; rfl; rfl; kernel_rfl; exact qq; rfl; intro w'; go_simp; with_reducible rfl; simp only [zz]; rfl
   apply pv 4 22 (bs 15 23) HT_; rfl; rfl; kernel_rfl; exact qq; rfl; intro w'; go_simp; with_reducible rfl; simp only [zz]; rfl
   apply pv 8 26 (bs 15 279) HT_; rfl; rfl; kernel_rfl; exact qq; rfl; intro w'; go_simp; with_reducible rfl; simp only [zz]; rfl
   apply pv 9 27 (bs 15 791) HT_; rfl; rfl; kernel_rfl; exact qq; rfl; intro w'; go_simp; with_reducible rfl; simp only [zz]; rfl
   apply pv 10 28 (bs 15 1815) HT_; rfl; rfl; kernel_rfl; exact qq; rfl; intro w'; go_simp; with_reducible rfl; simp only [zz]; rfl
   apply pv 11 29 (bs 15 3863) HT_; rfl; rfl; kernel_rfl; exact qq; rfl; intro w'; go_simp; with_reducible rfl; simp only [zz]; rfl
   apply tb 3 21 (bs 15 3871) HT_ HW_ hHeld; rfl; rfl; kernel_rfl; exact qq; rfl; rintro w' ⟨s0, s1, s2, s3⟩; go_simp; with_reducible rfl; simp only [zz]; rfl
   apply tb 5 23 (bs 15 3903) HT_ HW_ hHeld; rfl; rfl; kernel_rfl; exact qq; rfl; rintro w' ⟨s0, s1, s2, s3⟩; go_simp; with_reducible rfl; simp only [zz]; rfl
   apply tb 12 30 (bs 15 7999) HT_ HW_ hHeld; rfl; rfl; kernel_rfl; exact qq; rfl; rintro w' ⟨s0, s1, s2, s3⟩; go_simp; with_reducible rfl; simp only [zz]; rfl
   refine one_ (i := 6) (N := some 24) (bs 15 8063) rfl rfl (one_of HT_.out (by kernel_rfl)) (by decide) (fun K hK => ?_); refine value_ (w1 := ?_) (v := ?_) (by rfl) rfl ?_ ?_; rotate_left 2
   ·
    go_simp
    constructor
    ·
     rfl
    ·
     rfl
   have hBX := below_drew (below_alloc (Below.refl wr.heap.size wr) (.cells #[.slice A0 xs.length c0] 44))
   obtain ⟨gl, hgl⟩ : ∃ gl, gl = wr.heap.size := ⟨_, rfl⟩
   have hbl : ((wr.alloc (.cells #[.slice A0 xs.length c0] 44)).drew).heap[gl]? = some (.cells #[.slice A0 xs.length c0] 44 (0, 0)) := by rw [hgl]; exact blk_new wr _
   obtain ⟨X1, hX1⟩ : ∃ X1 : World, X1 = (wr.alloc (.cells #[.slice A0 xs.length c0] 44)).drew := ⟨_, rfl⟩
   rw [← hX1] at hbl hBX; rw [← hX1, ← hgl]; have HX1 := Lib.hid (And.intro hbl hBX); have hl1 := HLK.out _ (below_then HB.out HB.out.size hBX); clear hbl hBX hX1 hgl; refine hK.out _ _ ⟨((blk_cell (blk_below HFB.out (below_then HB.out HB.out.size HX1.out.2)) 23).trans (by rw [HFC.out]; rfl)), ((blk_cell (blk_below HFB.out (below_then HB.out HB.out.size HX1.out.2)) 7).trans (by rw [HFC.out]; rfl)), ((blk_cell (blk_below HFB.out (below_then HB.out HB.out.size HX1.out.2)) 8).trans (by rw [HFC.out]; rfl)), hl1⟩ (fun hHeld => ?_); clear hK K; refine norm_ (a' := ?_) ?_ ?_; rotate_left
   ·
    show Act.put _ (some 24) _ = _; simp only [Act.put, List.setIfInBounds_toArray, List.set_cons_zero, List.set_cons_succ, i64_w, i32_w]; rfl
   refine one_ (i := 7) (N := some 25) (bs 15 8191) rfl rfl (one_of HT_.out (by kernel_rfl)) (by decide) (fun K hK => ?_); refine goes_ Try.func36 (by kernel_rfl) rfl #[.slice (some ⟨gl, 0, none⟩) 1 1] (by rfl) rfl rfl (by simp only [List.map_toArray, List.map_cons, List.map_nil]; rfl) ?_; with_reducible refine ((Mg.merge_one (Kd.R_below HCR.out HX1.out.2) HX1.out.1 (by have := HXL.out; omega))).mono ?_
   rintro e w5 ⟨v5, rfl, hR5, hb5⟩; refine ⟨_, rfl, ?_⟩; have HB5 := Lib.hid (show Below wr.heap.size wr w5 from below_then HX1.out.2 HX1.out.2.size hb5); have HR5 := Lib.hid hR5; have hl5 := HLK.out _ (below_then HB.out HB.out.size HB5.out); obtain ⟨A5, c5, rfl⟩ := Kd.R_slice hR5; clear hR5 hb5; refine hK.out _ _ ⟨((blk_cell (blk_below HFB.out (below_then HB.out HB.out.size HB5.out)) 23).trans (by rw [HFC.out]; rfl)), ((blk_cell (blk_below HFB.out (below_then HB.out HB.out.size HB5.out)) 7).trans (by rw [HFC.out]; rfl)), ((blk_cell (blk_below HFB.out (below_then HB.out HB.out.size HB5.out)) 8).trans (by rw [HFC.out]; rfl)), hl5⟩ (fun hHeld => ?_); clear hK K; refine norm_ (a' := ?_) ?_ ?_; rotate_left
   ·
    show Act.put _ (some 25) _ = _; simp only [Act.put, List.setIfInBounds_toArray, List.set_cons_zero, List.set_cons_succ, i64_w, i32_w]; rfl
   refine one_ (i := 13) (N := some 31) (bs 15 16383) rfl rfl (one_of HT_.out (by kernel_rfl)) (by decide) (fun K hK => ?_); refine goes_ Try.func35 (by kernel_rfl) rfl #[.slice A5 (Vw.view xs).length c5, .agg #[.int .i64 x.rg.f0, .int .i64 x.rg.f1]] (by rfl) rfl rfl (by simp only [List.map_toArray, List.map_cons, List.map_nil]; rfl) ?_; with_reducible refine ((Hm.cut_calls _ A5 c5 (Vw.view xs) x.rg.f0 x.rg.f1 (Kd.R_reads' HR5.out).2.2 (Bt.R_cap HR5.out) (Nat.le_trans (Vw.view_len xs) HXL.out))).mono ?_
   rintro e w6 ⟨v6, rfl, hR6, hb6⟩; refine ⟨_, rfl, ?_⟩; have HB6 := Lib.hid (show Below wr.heap.size wr w6 from below_then HB5.out HB5.out.size hb6); have HR6 := Lib.hid (Kd.R_lower hR6 HB5.out.size); have hl6 := HLK.out _ (below_then HB.out HB.out.size HB6.out); clear hR6 hb6; refine hK.out _ _ ⟨((blk_cell (blk_below HFB.out (below_then HB.out HB.out.size HB6.out)) 23).trans (by rw [HFC.out]; rfl)), ((blk_cell (blk_below HFB.out (below_then HB.out HB.out.size HB6.out)) 7).trans (by rw [HFC.out]; rfl)), ((blk_cell (blk_below HFB.out (below_then HB.out HB.out.size HB6.out)) 8).trans (by rw [HFC.out]; rfl)), hl6⟩ (fun hHeld => ?_); clear hK K; refine norm_ (a' := ?_) ?_ ?_; rotate_left
   ·
    show Act.put _ (some 31) _ = _; simp only [Act.put, List.setIfInBounds_toArray, List.set_cons_zero, List.set_cons_succ, i64_w, i32_w]; rfl
   apply pv 14 6 (bs 15 32767) HT_; rfl; rfl; kernel_rfl; exact qq; rfl; intro w'; go_simp; with_reducible rfl; simp only [zz]; rfl
   refine done_ (done_of HT_.out (by kernel_rfl)) ?_
   obtain ⟨Q, hQ⟩ : ∃ Q, Hm.cut (Vw.view xs) x.rg.f0 x.rg.f1 = Q := ⟨_, rfl⟩
   rw [hQ] at HST HR6; obtain ⟨A7, c7, rfl⟩ := Kd.R_slice HR6.out; have HBW := Lib.hid (below_then HB.out HB.out.size HB6.out); have HNR5 := Lib.hid (Kd.R_below HNR.out HB6.out); have HRR5 := Lib.hid (Kd.R_below HRR.out HB6.out); clear hQ q23 q7 q8 ql hl1 hl5 hl6 HR5 r0
   by_cases hq : 0 < Q.length
   ·
    have dq : decide ((Q.length : Int) > 0) = true := decide_eq_true (by omega)
    have HOK := Lib.hid (show ∀ k, (Value.slice A7 Q.length c7).ownBlock = some k → (some k ≠ (Value.slice (some ad) ns.length c2).ownBlock) ∧ some k ≠ (Value.slice A6 P.length c6).ownBlock from fun k hk => by
     have h1 := Kd.R_base HR6.out k hk
     exact ⟨fun e => by have := Kd.R_lt HNR.out k e.symm; omega, fun e => by have := Kd.R_lt HRR.out k e.symm; omega⟩)
    have HFR := Lib.hid (show ∀ k, w6.heap.size ≤ k → some k ≠ (Value.slice (some ad) ns.length c2).ownBlock from fun k hk e => by have := Kd.R_lt HNR5.out k e.symm; omega); have HP5 := Lib.hid (k65_mkM w6 w.heap.size (fun k => (Value.slice A7 Q.length c7).ownBlock = some k) ⟨n, Q⟩ (Hm.R97 (Kd.R_lower HR6.out HB.out.size) (ok' := fun k => (Value.slice A7 Q.length c7).ownBlock = some k) (fun k hk => hk))); rw [if_pos hq] at HST
    go_wp2_with (at_builtin; go_loud (refine (Kd.R_append k65 (w0 := w) w.heap.size rfl (.tmp 35) (.tmp 39) 58 65 (.agg #[.string ⟨#[]⟩, .slice none 0 0]) 40 rfl Try.underlying58 info65' rfl (by decide) (by omega) (.slice A6 P.length c6) P ⟨n, Q⟩ [.string n, .slice A7 Q.length c7] (fun k => some k ≠ (Value.slice (some ad) ns.length c2).ownBlock) (fun k => (Value.slice A7 Q.length c7).ownBlock = some k) rfl ?aX ?aP ?aK ?aF ?aO ?aB ?aS ?aL ?_)); go_loud (case aX => rfl); go_loud (case aP => exact HP5.out); go_loud (case aK => exact HOK.out); go_loud (case aF => exact HFR.out); go_loud (case aO => exact HRR5.out); go_loud (case aB => exact HBW.out); go_loud (case aS => exact HBW.out.size); go_loud (case aL => exact HLO.out); intro v6 w7 hR7 hB7 hg7 hat7; have HR7 := Lib.hid hR7; have HB7 := Lib.hid hB7; go_loud (have HNR7 := Lib.hid (Kd.R_grown1 HNR5.out rfl hg7 (own_ne HRR5.out rfl))); clear hR7 hB7 hg7 hat7)
    go_roundg (ns.length - (i + 1))
    case measure => go_light; exact HIN.out _ HN.out
    case rel => exact ⟨i + 1, by rfl, ⟨rfl⟩, ⟨hi⟩, ⟨by rw [HST.out]; exact HR7.out⟩, ⟨HNR7.out⟩, ⟨HB7.out⟩⟩
   ·
    rw [if_neg hq, List.append_nil] at HST; have hq0 : Q = [] := List.eq_nil_of_length_eq_zero (by omega); subst hq0; clear hq; go_wp2; go_roundg (ns.length - (i + 1))
    case measure => go_light; exact HIN.out _ HN.out
    case rel => exact ⟨i + 1, by (simp [hwi]; done), ⟨rfl⟩, ⟨hi⟩, ⟨by rw [HST.out]; exact HRR5.out⟩, ⟨HNR5.out⟩, ⟨HBW.out⟩⟩
  ·
   have hge : ¬ (i : Int) < (ns.length : Int) := by omega
   have hie : i = ns.length := by have := HI2.out; omega
   have hR9 := HR.out; rw [hie, List.take_length] at hR9; have HR9 := Lib.hid (Kd.R_mono hR9 (fun _ _ => trivial)); clear hie hR9 HR; go_wp2; go_ret; exact ⟨_, rfl, ns, HPM.out, HPW.out, HR9.out, HB.out⟩
end Ps
end Go.Proofs.Ytgagcimfkmegnaa
end
section
namespace Go.Proofs.Ytgagcimfkmegnaa
set_option linter.unusedVariables false
set_option linter.unusedSimpArgs false
open Go.RowKit Go.Proofs.YtgagcimfkmegnaaW.PrintWords Go.Proofs.Ytgagcimfkmegnaa.QT
namespace Vw
theorem rd_mid' (P S : List Pt) (x : Pt) (i : Int) (hi : i = P.length) : rd_T42 (P ++ x :: S) i = x := by subst hi; unfold rd_T42; simp
theorem w1 (n : Nat) (h : n ≤ 1099511627776) : wrap64 ((n : Int) + 1) = ((n + 1 : Nat) : Int) := by unfold wrap64; omega
def hf : List Pt → List Pt → List Pt
  | [], B => B
  | A, [] => A
  | a :: A, b :: B => if a.f0 < b.f0 then a :: hf A (b :: B) else if b.f0 < a.f0 then b :: hf (a :: A) B else (if winsP b a = true then b else a) :: hf A B
termination_by A B => A.length + B.length
theorem hf_nil (A : List Pt) : hf A [] = A := by cases A <;> simp [hf]
theorem rwins (a b : Pt) : thermographref06_Wins.f a.f0 a.f1 a.f2 b.f0 b.f1 b.f2 = some (winsP a b) := by
  unfold thermographref06_Wins.f winsP
  by_cases h1 : a.f2 > b.f2
  · rw [if_pos h1, decide_eq_true h1]; rfl
  · rw [if_neg h1, decide_eq_false h1]
    by_cases h2 : a.f2 = b.f2
    · rw [if_pos h2, h2]; simp
    · rw [if_neg h2]; simp [h2]
theorem half_ev0 (n : Nat) (hn : n ≤ 1099511627776) : ∀ (d : Nat) (A B A' B' acc x0 x1 : List Pt), A.length + B.length = d → x0 = A' ++ A → x1 = B' ++ B → acc.length + A.length + B.length ≤ n → x0.length + x1.length ≤ n →
    Ev (fun k => thermographref06_half.l0 k x0 x1 acc (A'.length : Int) (B'.length : Int)) (acc ++ hf A B) := by
  intro d
  induction d using Nat.strongRecOn with
  | _ d ih =>
    intro A B A' B' acc x0 x1 hd h0 h1 ha hl; have l0 : x0.length = A'.length + A.length := by rw [h0]; simp
    have l1 : x1.length = B'.length + B.length := by rw [h1]; simp
    match A, B with
    | [], [] =>
      simp only [List.length_nil, Nat.add_zero] at l0 l1; refine Ev.step (f := fun k => thermographref06_half.j1 k x0 x1 acc A'.length B'.length false) (fun k => ?_) (Ev.step (f := fun _ => some acc) (fun k => ?_) (by simpa [hf] using Ev.now acc))
      · rw [thermographref06_half.l0, if_neg (by omega), show decide ((B'.length : Int) < (x1.length : Int)) = false from decide_eq_false (by omega)]
      · rw [thermographref06_half.j1, if_neg (by simp)]
    | a :: A, [] =>
      simp only [List.length_cons, List.length_nil, Nat.add_zero] at l0 l1 ha hd; have e0 : rd_T42 x0 (A'.length : Int) = a := by rw [h0]; exact rd_mid' A' A a _ rfl
      have h2 := ih (A.length) (by omega) A [] (A' ++ [a]) B' (acc ++ [a]) x0 x1 (by simp) (by rw [h0]; simp) h1 (by simp; omega) hl; rw [hf_nil] at h2 ⊢; rw [show acc ++ a :: A = acc ++ [a] ++ A from by simp]; rw [List.length_append, List.length_singleton] at h2; refine Ev.step (f := fun k => thermographref06_half.j1 k x0 x1 acc A'.length B'.length true) (fun k => ?_) (Ev.step (f := fun k => thermographref06_half.j2 k x0 x1 acc A'.length B'.length true) (fun k => ?_) (Ev.step (fun k => ?_) h2))
      · rw [thermographref06_half.l0, if_pos (by omega)]
      · rw [thermographref06_half.j1, if_pos rfl, if_pos (by omega)]
      · rw [thermographref06_half.j2, if_pos rfl, if_pos (by omega), if_pos (by omega), if_pos (by omega), e0, w1 _ (by omega)]
    | [], b :: B =>
      simp only [List.length_cons, List.length_nil, Nat.add_zero, Nat.zero_add] at l0 l1 ha hd; have e1 : rd_T42 x1 (B'.length : Int) = b := by rw [h1]; exact rd_mid' B' B b _ rfl
      have h2 := ih (B.length) (by omega) [] B A' (B' ++ [b]) (acc ++ [b]) x0 x1 (by simp) h0 (by rw [h1]; simp) (by simp; omega) hl; rw [show hf [] B = B from by simp [hf]] at h2; rw [show hf [] (b :: B) = b :: B from by simp [hf], show acc ++ b :: B = acc ++ [b] ++ B from by simp]; rw [List.length_append, List.length_singleton] at h2; refine Ev.step (f := fun k => thermographref06_half.j1 k x0 x1 acc A'.length B'.length true) (fun k => ?_) (Ev.step (f := fun k => thermographref06_half.j2 k x0 x1 acc A'.length B'.length false) (fun k => ?_) (Ev.step (f := fun k => thermographref06_half.j3 k x0 x1 acc A'.length B'.length true) (fun k => ?_) (Ev.step (fun k => ?_) h2)))
      · rw [thermographref06_half.l0, if_neg (by omega), show decide ((B'.length : Int) < (x1.length : Int)) = true from decide_eq_true (by omega)]
      · rw [thermographref06_half.j1, if_pos rfl, if_neg (by omega), if_neg (by omega)]
      · rw [thermographref06_half.j2, if_neg (by simp), if_pos (by omega)]
      · rw [thermographref06_half.j3, if_pos rfl, if_pos (by omega), if_pos (by omega), if_pos (by omega), e1, w1 _ (by omega)]
    | a :: A, b :: B =>
      simp only [List.length_cons] at l0 l1 ha hd; have e0 : rd_T42 x0 (A'.length : Int) = a := by rw [h0]; exact rd_mid' A' A a _ rfl
      have e1 : rd_T42 x1 (B'.length : Int) = b := by rw [h1]; exact rd_mid' B' B b _ rfl
      have s1 : ∀ k, thermographref06_half.l0 (k + 1) x0 x1 acc A'.length B'.length = thermographref06_half.j1 k x0 x1 acc A'.length B'.length true := by
        intro k; rw [thermographref06_half.l0, if_pos (by omega)]
      have s2 : ∀ k, thermographref06_half.j1 (k + 1) x0 x1 acc A'.length B'.length true = thermographref06_half.j2 k x0 x1 acc A'.length B'.length (decide (a.f0 < b.f0)) := by
        intro k; rw [thermographref06_half.j1, if_pos rfl, if_neg (by omega), if_pos (by omega), if_pos (by omega), if_pos (by omega), if_pos (by omega), e0, e1]
      by_cases c1 : a.f0 < b.f0
      · have h2 := ih (A.length + (b :: B).length) (by simp; omega) A (b :: B) (A' ++ [a]) B' (acc ++ [a]) x0 x1 rfl (by rw [h0]; simp) h1 (by simp; omega) hl
        rw [List.length_append, List.length_singleton] at h2; rw [hf, if_pos c1, show acc ++ a :: hf A (b :: B) = acc ++ [a] ++ hf A (b :: B) from by simp]; rw [decide_eq_true c1] at s2; refine Ev.step s1 (Ev.step s2 (Ev.step (fun k => ?_) h2)); rw [thermographref06_half.j2, if_pos rfl, if_pos (by omega), if_pos (by omega), if_pos (by omega), e0, w1 _ (by omega)]
      · rw [decide_eq_false c1] at s2
        have s3 : ∀ k, thermographref06_half.j2 (k + 1) x0 x1 acc A'.length B'.length false = thermographref06_half.j3 k x0 x1 acc A'.length B'.length (decide (b.f0 < a.f0)) := by
          intro k; rw [thermographref06_half.j2, if_neg (by simp), if_neg (by omega), if_pos (by omega), if_pos (by omega), if_pos (by omega), if_pos (by omega), e0, e1]
        rw [hf, if_neg c1]
        by_cases c2 : b.f0 < a.f0
        · have h2 := ih ((a :: A).length + B.length) (by simp; omega) (a :: A) B A' (B' ++ [b]) (acc ++ [b]) x0 x1 rfl h0 (by rw [h1]; simp) (by simp; omega) hl
          rw [List.length_append, List.length_singleton] at h2; rw [if_pos c2, show acc ++ b :: hf (a :: A) B = acc ++ [b] ++ hf (a :: A) B from by simp]; rw [decide_eq_true c2] at s3; refine Ev.step s1 (Ev.step s2 (Ev.step s3 (Ev.step (fun k => ?_) h2))); rw [thermographref06_half.j3, if_pos rfl, if_pos (by omega), if_pos (by omega), if_pos (by omega), e1, w1 _ (by omega)]
        · rw [if_neg c2]
          rw [decide_eq_false c2] at s3; have h2 := fun x => ih (A.length + B.length) (by omega) A B (A' ++ [a]) (B' ++ [b]) (acc ++ [x]) x0 x1 rfl (by rw [h0]; simp) (by rw [h1]; simp) (by simp; omega) hl; simp only [List.length_append, List.length_singleton] at h2
          have s4 : ∀ k, thermographref06_half.j3 (k + 1) x0 x1 acc A'.length B'.length false = if winsP b a = true then thermographref06_half.l0 k x0 x1 (acc ++ [b]) ((A'.length + 1 : Nat) : Int) ((B'.length + 1 : Nat) : Int) else thermographref06_half.l0 k x0 x1 (acc ++ [a]) ((A'.length + 1 : Nat) : Int) ((B'.length + 1 : Nat) : Int) := by
            intro k; rw [thermographref06_half.j3, if_neg (by simp), if_pos (by omega), if_pos (by omega), if_pos (by omega), if_pos (by omega), e0, e1, rwins, w1 _ (by omega), w1 _ (by omega)]; have hq : acc.length < 5864062014805 := by omega
            simp only [Option.bind_some, hq, if_true]
          by_cases c3 : winsP b a = true
          · rw [if_pos c3, show acc ++ b :: hf A B = acc ++ [b] ++ hf A B from by simp]
            exact Ev.step s1 (Ev.step s2 (Ev.step s3 (Ev.step (fun k => by rw [s4 k, if_pos c3]) (h2 b))))
          · rw [if_neg c3, show acc ++ a :: hf A B = acc ++ [a] ++ hf A B from by simp]
            exact Ev.step s1 (Ev.step s2 (Ev.step s3 (Ev.step (fun k => by rw [s4 k, if_neg c3]) (h2 a))))
theorem half_ev (a b : List Pt) (hn : a.length + b.length ≤ 1099511627776) : Ev (fun k => thermographref06_half.f k a b) (hf a b) := half_ev0 _ hn _ a b [] [] [] a b rfl rfl rfl (by simp) (Nat.le_refl _)
theorem hf_is : ∀ (d : Nat) (A B : List Pt), A.length + B.length = d → Up A → Up B → Is (A ++ B) (hf A B) := by
  intro d
  induction d using Nat.strongRecOn with
  | _ d ih =>
    intro A B hd hA hB
    match A, B with
    | [], B => simpa [hf] using Is.self hB
    | a :: A, [] => rw [hf_nil]; simpa using Is.self hA
    | a :: A, b :: B =>
      simp only [List.length_cons] at hd; obtain ⟨a1, a2⟩ := List.pairwise_cons.1 hA; obtain ⟨b1, b2⟩ := List.pairwise_cons.1 hB; rw [hf]
      by_cases c1 : a.f0 < b.f0
      · rw [if_pos c1]
        have h2 := ih (A.length + (b :: B).length) (by simp; omega) A (b :: B) rfl a2 hB; refine ⟨List.pairwise_cons.2 ⟨fun z hz => ?_, h2.1⟩, ?_⟩
        · rcases List.mem_append.1 (h2.2.1 z hz) with h | h
          · exact a1 z h
          · rcases List.mem_cons.1 h with rfl | h
            · exact c1
            · have := b1 z h; omega
        · exact Dom.append (l := [a]) (c := [a]) (Dom.refl _) h2.2
      · rw [if_neg c1]
        by_cases c2 : b.f0 < a.f0
        · rw [if_pos c2]
          have h2 := ih ((a :: A).length + B.length) (by simp; omega) (a :: A) B rfl hA b2; refine ⟨List.pairwise_cons.2 ⟨fun z hz => ?_, h2.1⟩, ?_⟩
          · rcases List.mem_append.1 (h2.2.1 z hz) with h | h
            · rcases List.mem_cons.1 h with rfl | h
              · exact c2
              · have := a1 z h; omega
            · exact b1 z h
          · exact (Dom.perm List.perm_middle).trans (Dom.append (l := [b]) (c := [b]) (Dom.refl _) h2.2)
        · rw [if_neg c2]
          have he : a.f0 = b.f0 := by omega
          have h2 := ih (A.length + B.length) (by omega) A B rfl a2 b2
          have hd2 : Dom ([a, b]) [if winsP b a = true then b else a] := by
            refine ⟨fun p hp => ?_, fun q hq => ⟨_, List.mem_singleton.2 rfl, ?_⟩⟩
            · rw [List.mem_singleton] at hp
              subst hp
              split <;> simp
            · by_cases c3 : winsP b a = true
              · rw [if_pos c3]
                have hg : Ge b a := by rcases Ge.total b a with h | h; · exact h
                                       · exact absurd h ((wins_iff b a).1 c3)
                rcases List.mem_cons.1 hq with rfl | hq
                · exact ⟨he.symm, hg⟩
                · rw [List.mem_singleton] at hq; subst hq; exact ⟨rfl, Ge.refl _⟩
              · rw [if_neg c3]
                have hg : Ge a b := (wins_false b a).1 (by simpa using c3); rcases List.mem_cons.1 hq with rfl | hq
                · exact ⟨rfl, Ge.refl _⟩
                · rw [List.mem_singleton] at hq; subst hq; exact ⟨he, hg⟩
          refine ⟨List.pairwise_cons.2 ⟨fun z hz => ?_, h2.1⟩, ?_⟩
          · have hz0 : (if winsP b a = true then b else a).f0 = a.f0 := by split <;> omega
            rw [hz0]; rcases List.mem_append.1 (h2.2.1 z hz) with h | h
            · exact a1 z h
            · have := b1 z h; omega
          · have hp : (a :: A ++ b :: B).Perm ([a, b] ++ (A ++ B)) := by
              simp only [List.cons_append, List.nil_append]; exact (List.perm_middle).cons a
            exact (Dom.perm hp).trans (Dom.append hd2 h2.2)
theorem view_ev : ∀ (n : Nat) (l : List Pt), l.length = n → n ≤ 1099511627776 → Ev (fun k => thermographref06_View.f k l) (view l) := by
  intro n
  induction n using Nat.strongRecOn with
  | _ n ih =>
    intro l hl hn
    by_cases h1 : l.length ≤ 1
    · have hv : view l = l := by
        match l, h1 with
        | [], _ => rfl
        | [x], _ => rfl
      rw [hv]; refine Ev.step (f := fun _ => some l) (fun k => ?_) (Ev.now l); rw [thermographref06_View.f]; simp only [Option.bind_some]; rw [if_pos (by omega), if_pos (by simp; omega)]; rfl
    · have hw : wrap64 ((l.length : Int) / 2) = ((l.length / 2 : Nat) : Int) := by unfold wrap64; omega
      have e1 := ih (l.take (l.length / 2)).length (by simp; omega) _ rfl (by simp; omega); have e2 := ih (l.drop (l.length / 2)).length (by simp; omega) _ rfl (by simp; omega); have l1 := view_len (l.take (l.length / 2)); have l2 := view_len (l.drop (l.length / 2)); simp only [List.length_take, List.length_drop] at l1 l2; have e3 := half_ev (view (l.take (l.length / 2))) (view (l.drop (l.length / 2))) (by omega)
      have hv : view l = hf (view (l.take (l.length / 2))) (view (l.drop (l.length / 2))) := by
        refine view_eq (Is.of_dom ?_ (hf_is _ _ _ rfl (view_is _).1 (view_is _).1)); have := Dom.append (view_is (l.take (l.length / 2))).2 (view_is (l.drop (l.length / 2))).2
        rwa [List.take_append_drop] at this
      rw [hv]
      refine Ev.step (f := fun k => (thermographref06_View.f k (l.take (l.length / 2))).bind fun a => (thermographref06_View.f k (l.drop (l.length / 2))).bind fun b => (thermographref06_half.f k a b).bind fun c => some c) (fun k => ?_)
        (Ev.bind (f := fun k a => (thermographref06_View.f k (l.drop (l.length / 2))).bind fun b => (thermographref06_half.f k a b).bind fun c => some c) e1
          (Ev.bind (f := fun k b => (thermographref06_half.f k (view (l.take (l.length / 2))) b).bind fun c => some c) e2 (Ev.bind (f := fun _ c => some c) e3 (Ev.now _))))
      rw [thermographref06_View.f]; simp only [Option.bind_some]; rw [if_neg (by omega), hw, if_pos (by omega), if_pos (by omega), Int.toNat_natCast]
theorem view_ref (l : List Pt) (hn : l.length ≤ 1099511627776) : Ev (fun k => thermographref06_View.f k l) (view l) := view_ev _ l rfl hn
end Vw
end Go.Proofs.Ytgagcimfkmegnaa
end
