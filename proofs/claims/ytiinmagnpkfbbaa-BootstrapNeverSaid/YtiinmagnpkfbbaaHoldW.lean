/- The boots: hold. -/
import Derived.Test.YtiinmagnpkfbbaaHoldA
import Derived.Deep.Light
namespace Go.Proofs.Ytiinmagnpkfbbaa
set_option linter.unusedVariables false
set_option linter.unusedSimpArgs false
open Go.RowKit Go.Proofs.YtiinmagnpkfbbaaW.PrintWords Go.Proofs.YtiinmagnpkfbbaaW.PrintLast Go.Proofs.YtiinmagnpkfbbaaW.PrintMore Go.Proofs.Ytiinmagnpkfbbaa.QT
namespace Hm
def Hold1.T1 : Bool × List (List Nat × List Nat) := (true, [([], []), ([0], [0]), ([], []), ([2], [2]), ([3], [3]), ([4], [4]), ([1, 5], [1, 5]), ([6, 6, 0, 1, 2, 3, 4, 5, 6], [6])])
def Hold1.B1 : List Nat := [0, 1, 0, 4, 12, 28, 63, 127]
theorem Hold1.tab1 : rtab .any (opsOf Try.f41 1) = Hold1.T1 := by kernel_rfl
theorem Hold1.bits1 : waitsOk Hold1.T1.2 Hold1.B1 = true := by kernel_rfl
def Hold3.T3 : Bool × List (List Nat × List Nat) := (true, [([], []), ([0], [0]), ([1], [1]), ([2], [2]), ([], []), ([4], [4]), ([], []), ([6], [6]), ([7], [7]), ([8], [8]), ([], []), ([10], [10]), ([9, 11], [9, 11]), ([], []), ([12, 13], [12, 13]), ([3, 5, 14, 14, 0, 1, 2, 3, 4, 5, 6, 7, 8, 9, 10, 11, 12, 13, 14], [3, 5, 14])])
def Hold3.B3 : List Nat := [0, 1, 3, 7, 0, 16, 0, 64, 192, 448, 0, 1024, 4032, 0, 16320, 32767]
theorem Hold3.tab3 : rtab .any (opsOf Try.f41 3) = Hold3.T3 := by kernel_rfl
theorem Hold3.bits3 : waitsOk Hold3.T3.2 Hold3.B3 = true := by kernel_rfl
set_option maxHeartbeats 4000000 in
set_option maxRecDepth 100000 in
theorem hold1_calls (w0 w : World) (g gm gp gc : Nat) (vO vL : Value) (b : Bt.Bo) (hm : Hp) (T : Nat) (hI : Bt.Is w w0.heap.size g gm gp vO vL b) (hM : HM w gp w0.heap.size T hm) (hb : Below w0.heap.size w0 w)
    (hgc : w.heap[gc]? = some (.cells #[.pointer (some ⟨g, 0, none⟩)] 30 (0, 0))) (s : Hv.Ser) (A : Option Addr) (c : Nat) (hs : Kd.C k97 w0 A s.f1.length s.f1) (hc : s.f1.length ≤ c) (hid : s.f0.size ≤ maxLen) (hT : T + s.f1.length ≤ 1000000) :
    Calls Try.prog 41 #[.agg #[.string s.f0, .slice A s.f1.length c], .pointer (some ⟨gc, 0, none⟩)] w fun e w' => e = .returned (.tuple #[]) ∧
      ∃ hm', HM w' gp w0.heap.size (T + s.f1.length) hm' ∧ cont hm' = add1 b.need (cont hm) s ∧ Bt.Is w' w0.heap.size g gm gp vO vL { b with pts := pmOf hm' } ∧ Below w0.heap.size w0 w' ∧ Kp w w' gp := by
  obtain ⟨P, hP⟩ : ∃ P, cut s.f1 b.need.f0 b.need.f1 = P := ⟨_, rfl⟩
  have hPl : P.length ≤ s.f1.length := by rw [← hP]; exact cut_len _ _ _
  have HI := Lib.hid hI
  have HMM := Lib.hid hM
  have HBW := Lib.hid hb
  have HGC0 := Lib.hid hgc
  have HPL := Lib.hid hPl
  have HT := Lib.hid hT
  have HID := Lib.hid hid
  have HC := Lib.hid hs
  have hgcn : gc ≠ gp := fun e => hI.pts.noCells hgc e.symm
  have HNC := Lib.hid hgcn
  have HNG := Lib.hid (show g ≠ gp from fun e => hI.pts.noCells hI.blk e.symm)
  have HPE := Lib.hid hP
  clear hI hM hb hgc hs hT hid hPl hgcn hP
  by_cases h0 : 0 < P.length
  · have d0 : decide ((P.length : Int) > 0) = true := decide_eq_true (by omega)
    have HP0 := Lib.hid h0
    clear h0
    go_enter Try.func41, Try.ntmps41
    go_wp2_with ((with_reducible refine gate_dst (N := 2) rfl ?_); refine box_event rfl (N := 2) rfl (cs := #[.string s.f0, .slice A s.f1.length c]) (t := 71) ?hr ?_; (case hr => first | (go_simp; done) | (go_simp; rfl)); intro g2 hg2 X hbox hbX; have HX := Lib.hid hbX; have HG2 := Lib.hid hbox; have y1 : X.cell? ⟨g2, 1, none⟩ = some (.slice A s.f1.length c) := (blk_cell hbox 1).trans rfl; have yc : X.cell? ⟨gc, 0, none⟩ = some (.pointer (some ⟨g, 0, none⟩)) := (blk_cell (blk_below HGC0.out hbX) 0).trans rfl; have y5 : X.cell? ⟨g, 5, none⟩ = some (.int .i64 b.need.f0) := (blk_cell (blk_below HI.out.blk hbX) 5).trans rfl; have y6 : X.cell? ⟨g, 6, none⟩ = some (.int .i64 b.need.f1) := (blk_cell (blk_below HI.out.blk hbX) 6).trans rfl; have HCUT := Lib.hid (fun W (hW : Below X.heap.size X W) => cut_calls W A c s.f1 b.need.f0 b.need.f1 (Kd.C_below HC.out (below_then (below_then HBW.out HBW.out.size hbX) (below_then HBW.out HBW.out.size hbX).size hW)) hc (by have := HT.out; omega)); rw [HPE.out] at HCUT; clear hg2 hbox hbX)
    refine start_ (n := 8) (S := fun w' => w'.cell? ⟨g2, 1, none⟩ = some (.slice A s.f1.length c) ∧ w'.cell? ⟨gc, 0, none⟩ = some (.pointer (some ⟨g, 0, none⟩)) ∧ w'.cell? ⟨g, 5, none⟩ = some (.int .i64 b.need.f0) ∧ w'.cell? ⟨g, 6, none⟩ = some (.int .i64 b.need.f1)) (ds := []) #[false, false, false, false, false, false, false, false] (by kernel_rfl) rfl rfl ⟨y1, yc, y5, y6⟩ (fun hHeld => ?_)
    refine with_tabW Hold1.tab1 Hold1.bits1 (fun HT_ HW_ => ?_)
    refine pure_ (i := 0) (N := some 4) (v := ?_) (a' := ?_) #[true, false, false, false, false, false, false, false] rfl rfl (any_of HT_.out (by kernel_rfl)) (fun _ _ _ h => h) (Or.inl ⟨by rfl, ?_⟩) ?_ ?_
    rotate_left
    · intro w'
      go_simp
      with_reducible rfl
    rotate_left
    · simp only [Act.put, List.setIfInBounds_toArray, List.set_cons_zero, List.set_cons_succ, i64_w, i32_w]
      rfl
    refine take_ (i := 1) (N := some 5) (v := ?_) (a' := ?_) #[true, true, false, false, false, false, false, false] rfl rfl (take_ofW HT_.out HW_.out (by kernel_rfl)) (fun _ _ _ h => h) (Or.inl ⟨by rfl, ?_⟩) hHeld ?_ ?_
    rotate_left
    · rintro w' ⟨s0, s1, s2, s3⟩
      go_simp
      with_reducible rfl
    rotate_left
    · simp only [Act.put, List.setIfInBounds_toArray, List.set_cons_zero, List.set_cons_succ, i64_w, i32_w]
      rfl
    refine take_ (i := 2) (N := some 6) (v := ?_) (a' := ?_) #[true, true, true, false, false, false, false, false] rfl rfl (take_ofW HT_.out HW_.out (by kernel_rfl)) (fun _ _ _ h => h) (Or.inl ⟨by rfl, ?_⟩) hHeld ?_ ?_
    rotate_left
    · rintro w' ⟨s0, s1, s2, s3⟩
      go_simp
      with_reducible rfl
    rotate_left
    · simp only [Act.put, List.setIfInBounds_toArray, List.set_cons_zero, List.set_cons_succ, i64_w, i32_w]
      rfl
    refine pure_ (i := 3) (N := some 7) (v := ?_) (a' := ?_) #[true, true, true, true, false, false, false, false] rfl rfl (any_of HT_.out (by kernel_rfl)) (fun _ _ _ h => h) (Or.inl ⟨by rfl, ?_⟩) ?_ ?_
    rotate_left
    · intro w'
      go_simp
      with_reducible rfl
    rotate_left
    · simp only [Act.put, List.setIfInBounds_toArray, List.set_cons_zero, List.set_cons_succ, i64_w, i32_w]
      rfl
    refine pure_ (i := 4) (N := some 8) (v := ?_) (a' := ?_) #[true, true, true, true, true, false, false, false] rfl rfl (any_of HT_.out (by kernel_rfl)) (fun _ _ _ h => h) (Or.inl ⟨by rfl, ?_⟩) ?_ ?_
    rotate_left
    · intro w'
      go_simp
      with_reducible rfl
    rotate_left
    · simp only [Act.put, List.setIfInBounds_toArray, List.set_cons_zero, List.set_cons_succ, i64_w, i32_w]
      rfl
    refine take_ (i := 5) (N := some 9) (v := ?_) (a' := ?_) #[true, true, true, true, true, true, false, false] rfl rfl (take_ofW HT_.out HW_.out (by kernel_rfl)) (fun _ _ _ h => h) (Or.inl ⟨by rfl, ?_⟩) hHeld ?_ ?_
    rotate_left
    · rintro w' ⟨s0, s1, s2, s3⟩
      go_simp
      with_reducible rfl
    rotate_left
    · simp only [Act.put, List.setIfInBounds_toArray, List.set_cons_zero, List.set_cons_succ, i64_w, i32_w]
      rfl
    refine one_ (i := 6) (N := some 10) #[true, true, true, true, true, true, true, false] rfl rfl (one_of HT_.out (by kernel_rfl)) (by decide) (fun K hK => ?_)
    refine goes_ Try.func42 (by kernel_rfl) rfl #[.slice A s.f1.length c, .agg #[.int .i64 b.need.f0, .int .i64 b.need.f1]] (by rfl) rfl rfl (by simp only [List.map_toArray, List.map_cons, List.map_nil]; rfl) ?_
    with_reducible refine ((HCUT.out _ (below_drew (Below.refl _ _)))).mono ?_
    rintro e w1 ⟨v1, rfl, hR1, hb1⟩
    refine ⟨_, rfl, ?_⟩
    obtain ⟨A1, c1, rfl⟩ := Kd.R_slice hR1
    have HB1 := Lib.hid (below_then (below_drew (Below.refl _ _)) (Nat.le_refl _) hb1)
    have HR1 := Lib.hid hR1
    clear hR1 hb1
    refine hK.out _ _ ⟨(pw_cell_below HB1.out y1), (pw_cell_below HB1.out yc), (pw_cell_below HB1.out y5), (pw_cell_below HB1.out y6)⟩ (fun hHeld => ?_)
    clear hK K
    refine norm_ (a' := ?_) ?_ ?_
    rotate_left
    · show Act.put _ (some 10) _ = _
      simp only [Act.put, List.setIfInBounds_toArray, List.set_cons_zero, List.set_cons_succ, i64_w, i32_w]
      rfl
    refine pure_ (i := 7) (N := some 3) (v := ?_) (a' := ?_) #[true, true, true, true, true, true, true, true] rfl rfl (any_of HT_.out (by kernel_rfl)) (fun _ _ _ h => h) (Or.inl ⟨by rfl, ?_⟩) ?_ ?_
    rotate_left
    · intro w'
      go_simp
      with_reducible rfl
    rotate_left
    · simp only [Act.put, List.setIfInBounds_toArray, List.set_cons_zero, List.set_cons_succ, i64_w, i32_w]
      rfl
    refine done_ (done_of HT_.out (by kernel_rfl)) ?_
    have HG2W := Lib.hid (blk_below HG2.out HB1.out)
    have HBX1 := Lib.hid (below_then HX.out HX.out.size HB1.out)
    have HRP := Lib.hid (fun W (hW : Below w1.heap.size w1 W) => (show ReadsRow (k97.K w1) 3 W A1 P.length P from ReadsRow.imp_ (Kd.R_reads' HR1.out).2.2 hW (fun _ _ h => h)))
    have HHM := Lib.hid (fun W (hW : Below w1.heap.size w1 W) => ((HMM.out.below HBX1.out).below hW).cur_R s.f0)
    have HB1W := Lib.hid (fun W (hW : Below w1.heap.size w1 W) => below_then (below_then HBW.out HBW.out.size HBX1.out) (below_then HBW.out HBW.out.size HBX1.out).size hW)
    have HLP := Lib.hid (show ((cur hm s.f0).2.length + P.length) * 24 ≤ 140737488355328 by have h1 := HMM.out.cur_len s.f0; have h2 := HPL.out; have h3 := HT.out; omega)
    have HSTEP := Lib.hid (fun W (hW : Below w1.heap.size w1 W) v1 w2 hR hg hat => ((HMM.out.below HBX1.out).below hW).step (w1 := w2) (v1 := v1) (ps := P) (n := s.f1.length) s.f0 HID.out hR hg hat (by have := HT.out; omega) HPL.out (Nat.le_trans HP0.out HPL.out))
    have HGC := Lib.hid (blk_below HGC0.out HBX1.out)
    have HGB := Lib.hid (HI.out.below HBX1.out).blk
    have HG2 := HG2W
    have HN2 := Lib.hid (show g2 ≠ gp from fun e => (XM.MapIs.below HI.out.pts HBX1.out).noCells HG2.out e.symm)
    have HKP := Lib.hid (fun W (hW : Below w1.heap.size w1 W) w2 (hg : W.grownBy w2 (cur hm s.f0).1.ownBlock) => ((Kp.of_below (gp := gp) hW).then_ (Kp.of_row (gp := gp) (((HMM.out.below HBX1.out).below hW).cur_R s.f0) hg)))
    have HLKK := Lib.hid (fun W (hW : Below w1.heap.size w1 W) w2 (hg : W.grownBy w2 (cur hm s.f0).1.ownBlock) => HMap.look (w := w2) (XM.MapIs.kept ((HMM.out.below HBX1.out).below hW).map hg (fun e => by obtain ⟨cc, hc⟩ := R97_cells (((HMM.out.below HBX1.out).below hW).cur_R s.f0) gp e.symm; exact XM.MapIs.noCells ((HMM.out.below HBX1.out).below hW).map hc rfl)) s.f0 HID.out)
    have HGP := Lib.hid HI.out.bp
    have zc : w1.cell? ⟨gc, 0, none⟩ = some (.pointer (some ⟨g, 0, none⟩)) := (blk_cell HGC.out 0).trans rfl
    have z8 : w1.cell? ⟨g, 8, none⟩ = some (.map (some gp)) := (blk_cell HGB.out 8).trans rfl
    have z0 : w1.cell? ⟨g2, 0, none⟩ = some (.string s.f0) := (blk_cell HG2.out 0).trans rfl
    have zl := HMap.look ((HMM.out.below HBX1.out).below (below_drew (Below.refl _ _))).map s.f0 HID.out
    clear y1 yc y5 y6
    go_wp2_with fail
    refine start_ (n := 16) (S := fun w' => w'.cell? ⟨gc, 0, none⟩ = some (.pointer (some ⟨g, 0, none⟩)) ∧ w'.cell? ⟨g, 8, none⟩ = some (.map (some gp)) ∧ w'.cell? ⟨g2, 0, none⟩ = some (.string s.f0) ∧ (Instr.lookup 58 (.map (some gp)) (.string s.f0) false).run Try.prog w' = .ok (cur hm s.f0).1 w') (ds := [15]) #[false, false, false, false, false, false, false, false, false, false, false, false, false, false, false, false] (by kernel_rfl) rfl rfl ⟨zc, z8, z0, zl⟩ (fun hHeld => ?_)
    refine with_tabW Hold3.tab3 Hold3.bits3 (fun HT_ HW_ => ?_)
    refine pure_ (i := 4) (N := some 18) (v := ?_) (a' := ?_) #[false, false, false, false, true, false, false, false, false, false, false, false, false, false, false, false] rfl rfl (any_of HT_.out (by kernel_rfl)) (fun _ _ _ h => h) (Or.inl ⟨by rfl, ?_⟩) ?_ ?_
    rotate_left
    · intro w'
      go_simp
      with_reducible rfl
    rotate_left
    · simp only [Act.put, List.setIfInBounds_toArray, List.set_cons_zero, List.set_cons_succ, i64_w, i32_w]
      rfl
    refine pure_ (i := 10) (N := some 24) (v := ?_) (a' := ?_) #[false, false, false, false, true, false, false, false, false, false, true, false, false, false, false, false] rfl rfl (any_of HT_.out (by kernel_rfl)) (fun _ _ _ h => h) (Or.inl ⟨by rfl, ?_⟩) ?_ ?_
    rotate_left
    · intro w'
      go_simp
      with_reducible rfl
    rotate_left
    · simp only [Act.put, List.setIfInBounds_toArray, List.set_cons_zero, List.set_cons_succ, i64_w, i32_w]
      rfl
    refine pure_ (i := 13) (N := some 27) (v := ?_) (a' := ?_) #[false, false, false, false, true, false, false, false, false, false, true, false, false, true, false, false] rfl rfl (any_of HT_.out (by kernel_rfl)) (fun _ _ _ h => h) (Or.inl ⟨by rfl, ?_⟩) ?_ ?_
    rotate_left
    · intro w'
      go_simp
      with_reducible rfl
    rotate_left
    · simp only [Act.put, List.setIfInBounds_toArray, List.set_cons_zero, List.set_cons_succ, i64_w, i32_w]
      rfl
    refine take_ (i := 0) (N := some 14) (v := ?_) (a' := ?_) #[true, false, false, false, true, false, false, false, false, false, true, false, false, true, false, false] rfl rfl (take_ofW HT_.out HW_.out (by kernel_rfl)) (fun _ _ _ h => h) (Or.inl ⟨by rfl, ?_⟩) hHeld ?_ ?_
    rotate_left
    · rintro w' ⟨s0, s1, s2, s3⟩
      go_simp
      with_reducible rfl
    rotate_left
    · simp only [Act.put, List.setIfInBounds_toArray, List.set_cons_zero, List.set_cons_succ, i64_w, i32_w]
      rfl
    refine pure_ (i := 1) (N := some 15) (v := ?_) (a' := ?_) #[true, true, false, false, true, false, false, false, false, false, true, false, false, true, false, false] rfl rfl (any_of HT_.out (by kernel_rfl)) (fun _ _ _ h => h) (Or.inl ⟨by rfl, ?_⟩) ?_ ?_
    rotate_left
    · intro w'
      go_simp
      with_reducible rfl
    rotate_left
    · simp only [Act.put, List.setIfInBounds_toArray, List.set_cons_zero, List.set_cons_succ, i64_w, i32_w]
      rfl
    refine pure_ (i := 2) (N := some 16) (v := ?_) (a' := ?_) #[true, true, true, false, true, false, false, false, false, false, true, false, false, true, false, false] rfl rfl (any_of HT_.out (by kernel_rfl)) (fun _ _ _ h => h) (Or.inl ⟨by rfl, ?_⟩) ?_ ?_
    rotate_left
    · intro w'
      go_simp
      with_reducible rfl
    rotate_left
    · simp only [Act.put, List.setIfInBounds_toArray, List.set_cons_zero, List.set_cons_succ, i64_w, i32_w]
      rfl
    refine take_ (i := 3) (N := some 17) (v := ?_) (a' := ?_) #[true, true, true, true, true, false, false, false, false, false, true, false, false, true, false, false] rfl rfl (take_ofW HT_.out HW_.out (by kernel_rfl)) (fun _ _ _ h => h) (Or.inl ⟨by rfl, ?_⟩) hHeld ?_ ?_
    rotate_left
    · rintro w' ⟨s0, s1, s2, s3⟩
      go_simp
      with_reducible rfl
    rotate_left
    · simp only [Act.put, List.setIfInBounds_toArray, List.set_cons_zero, List.set_cons_succ, i64_w, i32_w]
      rfl
    refine take_ (i := 5) (N := some 19) (v := ?_) (a' := ?_) #[true, true, true, true, true, true, false, false, false, false, true, false, false, true, false, false] rfl rfl (take_ofW HT_.out HW_.out (by kernel_rfl)) (fun _ _ _ h => h) (Or.inl ⟨by rfl, ?_⟩) hHeld ?_ ?_
    rotate_left
    · rintro w' ⟨s0, s1, s2, s3⟩
      go_simp
      with_reducible rfl
    rotate_left
    · simp only [Act.put, List.setIfInBounds_toArray, List.set_cons_zero, List.set_cons_succ, i64_w, i32_w]
      rfl
    refine take_ (i := 6) (N := some 20) (v := ?_) (a' := ?_) #[true, true, true, true, true, true, true, false, false, false, true, false, false, true, false, false] rfl rfl (take_ofW HT_.out HW_.out (by kernel_rfl)) (fun _ _ _ h => h) (Or.inl ⟨by rfl, ?_⟩) hHeld ?_ ?_
    rotate_left
    · rintro w' ⟨s0, s1, s2, s3⟩
      go_simp
      with_reducible rfl
    rotate_left
    · simp only [Act.put, List.setIfInBounds_toArray, List.set_cons_zero, List.set_cons_succ, i64_w, i32_w]
      rfl
    refine pure_ (i := 7) (N := some 21) (v := ?_) (a' := ?_) #[true, true, true, true, true, true, true, true, false, false, true, false, false, true, false, false] rfl rfl (any_of HT_.out (by kernel_rfl)) (fun _ _ _ h => h) (Or.inl ⟨by rfl, ?_⟩) ?_ ?_
    rotate_left
    · intro w'
      go_simp
      with_reducible rfl
    rotate_left
    · simp only [Act.put, List.setIfInBounds_toArray, List.set_cons_zero, List.set_cons_succ, i64_w, i32_w]
      rfl
    refine pure_ (i := 8) (N := some 22) (v := ?_) (a' := ?_) #[true, true, true, true, true, true, true, true, true, false, true, false, false, true, false, false] rfl rfl (any_of HT_.out (by kernel_rfl)) (fun _ _ _ h => h) (Or.inl ⟨by rfl, ?_⟩) ?_ ?_
    rotate_left
    · intro w'
      go_simp
      with_reducible rfl
    rotate_left
    · simp only [Act.put, List.setIfInBounds_toArray, List.set_cons_zero, List.set_cons_succ, i64_w, i32_w]
      rfl
    refine take_ (i := 9) (N := some 23) (v := ?_) (a' := ?_) #[true, true, true, true, true, true, true, true, true, true, true, false, false, true, false, false] rfl rfl (take_ofW HT_.out HW_.out (by kernel_rfl)) (fun _ _ _ h => h) (Or.inl ⟨by rfl, ?_⟩) hHeld ?_ ?_
    rotate_left
    · rintro w' ⟨s0, s1, s2, s3⟩
      go_simp
      with_reducible rfl
    rotate_left
    · simp only [Act.put, List.setIfInBounds_toArray, List.set_cons_zero, List.set_cons_succ, i64_w, i32_w]
      rfl
    refine take_ (i := 11) (N := some 25) (v := ?_) (a' := ?_) #[true, true, true, true, true, true, true, true, true, true, true, true, false, true, false, false] rfl rfl (take_ofW HT_.out HW_.out (by kernel_rfl)) (fun _ _ _ h => h) (Or.inl ⟨by rfl, ?_⟩) hHeld ?_ ?_
    rotate_left
    · rintro w' ⟨s0, s1, s2, s3⟩
      go_simp
      with_reducible rfl
    rotate_left
    · simp only [Act.put, List.setIfInBounds_toArray, List.set_cons_zero, List.set_cons_succ, i64_w, i32_w]
      rfl
    refine take_ (i := 12) (N := some 26) (v := ?_) (a' := ?_) #[true, true, true, true, true, true, true, true, true, true, true, true, true, true, false, false] rfl rfl (take_ofW HT_.out HW_.out (by kernel_rfl)) (fun _ _ _ h => h) (Or.inl ⟨by rfl, ?_⟩) hHeld ?_ ?_
    rotate_left
    · rintro w' ⟨s0, s1, s2, s3⟩
      go_simp
      with_reducible rfl
    rotate_left
    · simp only [Act.put, List.setIfInBounds_toArray, List.set_cons_zero, List.set_cons_succ, i64_w, i32_w]
      rfl
    refine one_ (i := 14) (N := some 28) #[true, true, true, true, true, true, true, true, true, true, true, true, true, true, true, false] rfl rfl (one_of HT_.out (by kernel_rfl)) (by decide) (fun K hK => ?_)
    refine Kd.R_append_rows_step k97 (Rr := k97.K w1) (w0 := w0) w0.heap.size (by rfl) (.tmp 26) (.tmp 27) 69 97 (.agg #[.int .i64 0, .int .u64 0, .int .u64 0]) 24 (by rfl) Try.underlying69 info97 (by rfl) (by decide) (by decide) (cur hm s.f0).1 (cur hm s.f0).2 P A1 P.length c1 (fun _ => True) (fun _ => False) (by rfl) (by rfl) (HHM.out _ (below_drew (Below.refl _ _))) (HRP.out _ (below_drew (Below.refl _ _))) (fun x cs h => by obtain rfl := k97_open h; exact k97_mkM _ _ _ _) (fun _ h => h.elim) (fun _ _ => trivial) (HB1W.out _ (below_drew (Below.refl _ _))) (HB1W.out _ (below_drew (Below.refl _ _))).size HLP.out ?_
    intro v5 w2 hR5 hB5 hg5 hat5
    obtain ⟨X3, hrun, hHM3, hg3, hs3⟩ := HSTEP.out _ (below_drew (Below.refl _ _)) v5 w2 hR5 hg5 hat5
    have HK2 := Lib.hid (HKP.out _ (below_drew (Below.refl _ _)) w2 hg5)
    have HLK := Lib.hid (HLKK.out _ (below_drew (Below.refl _ _)) w2 hg5)
    have HB3 := Lib.hid (hB5.grown hg3 hB5.size (fun k hk => by cases hk; exact HGP.out))
    have HM3 := Lib.hid hHM3
    have HG3 := Lib.hid hg3
    clear hR5 hB5 hg5 hat5 hHM3 hg3 hs3
    refine hK.out _ _ ⟨((blk_cell (HK2.out.blk HGC.out HNC.out (by decide)) 0).trans rfl), ((blk_cell (HK2.out.blk HGB.out HNG.out (by decide)) 8).trans rfl), ((blk_cell (HK2.out.blk HG2.out HN2.out (by decide)) 0).trans rfl), HLK.out⟩ (fun hHeld => ?_)
    clear hK K
    refine norm_ (a' := ?_) ?_ ?_
    rotate_left
    · show Act.put _ (some 28) _ = _
      simp only [Act.put, List.setIfInBounds_toArray, List.set_cons_zero, List.set_cons_succ, i64_w, i32_w]
      rfl
    refine last_ (i := 15) (N := none) #[true, true, true, true, true, true, true, true, true, true, true, true, true, true, true, true] rfl rfl (one_of HT_.out (by kernel_rfl)) (by decide) (fun K hK => ?_)
    refine skip_ (w1 := ?_) (by rfl) rfl ?_ ?_
    rotate_left
    · go_simp
      rfl
    refine hK.out _ _ ?_
    clear hK K
    refine done_ (done_of HT_.out (by kernel_rfl)) ?_
    go_end0
    refine ⟨rfl, put hm s.f0 v5 P, HM3.out, by rw [← HPE.out]; exact cont_put hm b.need s v5 (by rw [HPE.out]; exact HP0.out), ?_, HB3.out, ?_⟩
    · exact Is_kp (HI.out.below HBX1.out) (HK2.out.then_ (Kp.of_grown HG3.out)) HM3.out.map.pm
    · exact (Kp.of_below HBX1.out).then_ (HK2.out.then_ (Kp.of_grown HG3.out))
  · have d0 : decide ((P.length : Int) > 0) = false := decide_eq_false (by omega)
    have HP0 := Lib.hid h0
    clear h0
    go_enter Try.func41, Try.ntmps41
    go_wp2_with ((with_reducible refine gate_dst (N := 2) rfl ?_); refine box_event rfl (N := 2) rfl (cs := #[.string s.f0, .slice A s.f1.length c]) (t := 71) ?hr ?_; (case hr => first | (go_simp; done) | (go_simp; rfl)); intro g2 hg2 X hbox hbX; have HX := Lib.hid hbX; have HG2 := Lib.hid hbox; have y1 : X.cell? ⟨g2, 1, none⟩ = some (.slice A s.f1.length c) := (blk_cell hbox 1).trans rfl; have yc : X.cell? ⟨gc, 0, none⟩ = some (.pointer (some ⟨g, 0, none⟩)) := (blk_cell (blk_below HGC0.out hbX) 0).trans rfl; have y5 : X.cell? ⟨g, 5, none⟩ = some (.int .i64 b.need.f0) := (blk_cell (blk_below HI.out.blk hbX) 5).trans rfl; have y6 : X.cell? ⟨g, 6, none⟩ = some (.int .i64 b.need.f1) := (blk_cell (blk_below HI.out.blk hbX) 6).trans rfl; have HCUT := Lib.hid (fun W (hW : Below X.heap.size X W) => cut_calls W A c s.f1 b.need.f0 b.need.f1 (Kd.C_below HC.out (below_then (below_then HBW.out HBW.out.size hbX) (below_then HBW.out HBW.out.size hbX).size hW)) hc (by have := HT.out; omega)); rw [HPE.out] at HCUT; clear hg2 hbox hbX)
    refine start_ (n := 8) (S := fun w' => w'.cell? ⟨g2, 1, none⟩ = some (.slice A s.f1.length c) ∧ w'.cell? ⟨gc, 0, none⟩ = some (.pointer (some ⟨g, 0, none⟩)) ∧ w'.cell? ⟨g, 5, none⟩ = some (.int .i64 b.need.f0) ∧ w'.cell? ⟨g, 6, none⟩ = some (.int .i64 b.need.f1)) (ds := []) #[false, false, false, false, false, false, false, false] (by kernel_rfl) rfl rfl ⟨y1, yc, y5, y6⟩ (fun hHeld => ?_)
    refine with_tabW Hold1.tab1 Hold1.bits1 (fun HT_ HW_ => ?_)
    refine pure_ (i := 0) (N := some 4) (v := ?_) (a' := ?_) #[true, false, false, false, false, false, false, false] rfl rfl (any_of HT_.out (by kernel_rfl)) (fun _ _ _ h => h) (Or.inl ⟨by rfl, ?_⟩) ?_ ?_
    rotate_left
    · intro w'
      go_simp
      with_reducible rfl
    rotate_left
    · simp only [Act.put, List.setIfInBounds_toArray, List.set_cons_zero, List.set_cons_succ, i64_w, i32_w]
      rfl
    refine take_ (i := 1) (N := some 5) (v := ?_) (a' := ?_) #[true, true, false, false, false, false, false, false] rfl rfl (take_ofW HT_.out HW_.out (by kernel_rfl)) (fun _ _ _ h => h) (Or.inl ⟨by rfl, ?_⟩) hHeld ?_ ?_
    rotate_left
    · rintro w' ⟨s0, s1, s2, s3⟩
      go_simp
      with_reducible rfl
    rotate_left
    · simp only [Act.put, List.setIfInBounds_toArray, List.set_cons_zero, List.set_cons_succ, i64_w, i32_w]
      rfl
    refine take_ (i := 2) (N := some 6) (v := ?_) (a' := ?_) #[true, true, true, false, false, false, false, false] rfl rfl (take_ofW HT_.out HW_.out (by kernel_rfl)) (fun _ _ _ h => h) (Or.inl ⟨by rfl, ?_⟩) hHeld ?_ ?_
    rotate_left
    · rintro w' ⟨s0, s1, s2, s3⟩
      go_simp
      with_reducible rfl
    rotate_left
    · simp only [Act.put, List.setIfInBounds_toArray, List.set_cons_zero, List.set_cons_succ, i64_w, i32_w]
      rfl
    refine pure_ (i := 3) (N := some 7) (v := ?_) (a' := ?_) #[true, true, true, true, false, false, false, false] rfl rfl (any_of HT_.out (by kernel_rfl)) (fun _ _ _ h => h) (Or.inl ⟨by rfl, ?_⟩) ?_ ?_
    rotate_left
    · intro w'
      go_simp
      with_reducible rfl
    rotate_left
    · simp only [Act.put, List.setIfInBounds_toArray, List.set_cons_zero, List.set_cons_succ, i64_w, i32_w]
      rfl
    refine pure_ (i := 4) (N := some 8) (v := ?_) (a' := ?_) #[true, true, true, true, true, false, false, false] rfl rfl (any_of HT_.out (by kernel_rfl)) (fun _ _ _ h => h) (Or.inl ⟨by rfl, ?_⟩) ?_ ?_
    rotate_left
    · intro w'
      go_simp
      with_reducible rfl
    rotate_left
    · simp only [Act.put, List.setIfInBounds_toArray, List.set_cons_zero, List.set_cons_succ, i64_w, i32_w]
      rfl
    refine take_ (i := 5) (N := some 9) (v := ?_) (a' := ?_) #[true, true, true, true, true, true, false, false] rfl rfl (take_ofW HT_.out HW_.out (by kernel_rfl)) (fun _ _ _ h => h) (Or.inl ⟨by rfl, ?_⟩) hHeld ?_ ?_
    rotate_left
    · rintro w' ⟨s0, s1, s2, s3⟩
      go_simp
      with_reducible rfl
    rotate_left
    · simp only [Act.put, List.setIfInBounds_toArray, List.set_cons_zero, List.set_cons_succ, i64_w, i32_w]
      rfl
    refine one_ (i := 6) (N := some 10) #[true, true, true, true, true, true, true, false] rfl rfl (one_of HT_.out (by kernel_rfl)) (by decide) (fun K hK => ?_)
    refine goes_ Try.func42 (by kernel_rfl) rfl #[.slice A s.f1.length c, .agg #[.int .i64 b.need.f0, .int .i64 b.need.f1]] (by rfl) rfl rfl (by simp only [List.map_toArray, List.map_cons, List.map_nil]; rfl) ?_
    with_reducible refine ((HCUT.out _ (below_drew (Below.refl _ _)))).mono ?_
    rintro e w1 ⟨v1, rfl, hR1, hb1⟩
    refine ⟨_, rfl, ?_⟩
    obtain ⟨A1, c1, rfl⟩ := Kd.R_slice hR1
    have HB1 := Lib.hid (below_then (below_drew (Below.refl _ _)) (Nat.le_refl _) hb1)
    have HR1 := Lib.hid hR1
    clear hR1 hb1
    refine hK.out _ _ ⟨(pw_cell_below HB1.out y1), (pw_cell_below HB1.out yc), (pw_cell_below HB1.out y5), (pw_cell_below HB1.out y6)⟩ (fun hHeld => ?_)
    clear hK K
    refine norm_ (a' := ?_) ?_ ?_
    rotate_left
    · show Act.put _ (some 10) _ = _
      simp only [Act.put, List.setIfInBounds_toArray, List.set_cons_zero, List.set_cons_succ, i64_w, i32_w]
      rfl
    refine pure_ (i := 7) (N := some 3) (v := ?_) (a' := ?_) #[true, true, true, true, true, true, true, true] rfl rfl (any_of HT_.out (by kernel_rfl)) (fun _ _ _ h => h) (Or.inl ⟨by rfl, ?_⟩) ?_ ?_
    rotate_left
    · intro w'
      go_simp
      with_reducible rfl
    rotate_left
    · simp only [Act.put, List.setIfInBounds_toArray, List.set_cons_zero, List.set_cons_succ, i64_w, i32_w]
      rfl
    refine done_ (done_of HT_.out (by kernel_rfl)) ?_
    have HBX1 := Lib.hid (below_then HX.out HX.out.size HB1.out)
    go_wp2
    go_end0
    exact ⟨rfl, hm, (HMM.out.below HBX1.out).more (Nat.le_add_right _ _), by unfold add1; rw [HPE.out, if_neg HP0.out], Is_kp HI.out (Kp.of_below HBX1.out) (HMM.out.below HBX1.out).map.pm, below_then HBW.out HBW.out.size HBX1.out, Kp.of_below HBX1.out⟩
end Hm
end Go.Proofs.Ytiinmagnpkfbbaa
