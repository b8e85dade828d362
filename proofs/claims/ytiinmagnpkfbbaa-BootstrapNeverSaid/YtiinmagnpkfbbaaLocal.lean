/- The boots: Local. -/
import Derived.Test.YtiinmagnpkfbbaaHold
import Derived.Test.YtiinmagnpkfbbaaSub
namespace Go.Proofs.Ytiinmagnpkfbbaa
set_option linter.unusedVariables false
set_option linter.unusedSimpArgs false
open Go.RowKit Go.Proofs.YtiinmagnpkfbbaaW.PrintWords Go.Proofs.YtiinmagnpkfbbaaW.PrintLast Go.Proofs.YtiinmagnpkfbbaaW.PrintMore Go.Proofs.Ytiinmagnpkfbbaa.QT
namespace Rg
end Rg
namespace Hm
open Bt
/-- What is left, is stored. -/
theorem Is_left {w : World} {B g gm gp : Nat} {vO vL v1 : Value} {b : Bo} {L : List Bt.R} (h : Is w B g gm gp vO vL b) (hR : Kd.R k29 29 w B (fun _ => True) v1 L) :
    Is (w.setCell ⟨g, 7, none⟩ v1) B g gm gp vO v1 { b with left := L } := by
  refine ⟨blk_set h.blk 7 v1, ?_, ?_, XM.MapIs.setCell h.gv (XM.MapIs.noCells h.gv h.blk) v1, XM.MapIs.setCell h.pts (XM.MapIs.noCells h.pts h.blk) v1, h.bg, h.bm, h.bp, h.ne⟩
  · exact Kd.R_mono (Kd.R_far (Kd.R_tight rfl h.oth) (fun k hk e => Kd.R_ne h.oth h.blk (by decide) (by rw [show g = k from e.symm]; exact hk)) v1) (fun _ _ => trivial)
  · exact Kd.R_mono (Kd.R_far (Kd.R_tight rfl hR) (fun k hk e => Kd.R_ne hR h.blk (by decide) (by rw [show g = k from e.symm]; exact hk)) v1) (fun _ _ => trivial)
theorem HM.set {w : World} {gp base T g t : Nat} {hm : Hp} (h : HM w gp base T hm) {cells : Array Value} (hb : w.heap[g]? = some (.cells cells t (0, 0))) (ht : 97 ≠ t) (j : Nat) (u : Value) : HM (w.setCell ⟨g, j, none⟩ u) gp base T hm :=
  ⟨XM.MapIs.setCell h.map (XM.MapIs.noCells h.map hb) u, fun e he => Kd.R_set (h.rows e he) hb (fun q hq => by rw [List.mem_singleton.1 hq]; exact ht) j u, h.apart, h.len, h.cnt⟩
/-- What is left behind a Local. -/
def leftL (b : Bo) (r : Bt.R) : List Bt.R := if b.own.f1 = 1 then b.left else Rg.subR b.left r
def Local3.T3 : Bool × List (List Nat × List Nat) := (true, [([], []), ([], []), ([1], [1]), ([2], [2]), ([3], [3]), ([], []), ([4, 5], [4, 5]), ([0, 0, 1, 2, 3, 4, 5, 6], [0]), ([7, 0, 1, 2, 3, 4, 5, 6], [7]), ([8, 6, 6, 0, 1, 2, 3, 4, 5, 6], [6, 8])])
def Local3.B3 : List Nat := [0, 0, 2, 6, 14, 0, 62, 127, 255, 511]
theorem Local3.tab3 : rtab .any (opsOf Try.f14 3) = Local3.T3 := by kernel_rfl
theorem Local3.bits3 : waitsOk Local3.T3.2 Local3.B3 = true := by kernel_rfl
set_option maxHeartbeats 4000000 in
set_option maxRecDepth 100000 in
theorem local_calls (w0 w : World) (g gm gp : Nat) (vO vL : Value) (b : Bo) (hm : Hp) (T : Nat) (hI : Is w w0.heap.size g gm gp vO vL b) (hM : HM w gp w0.heap.size T hm) (hb : Below w0.heap.size w0 w) (r : Bt.R)
    (A : Option Addr) (c : Nat) (l : List Hv.Ser) (hl : Kd.C k71 w0 A l.length l) (hids : ∀ x ∈ l, x.f0.size ≤ maxLen) (hT : T + Hv.serW l ≤ 1000000) (hlf : b.left.length ≤ 400000) :
    Calls Try.prog 14 #[.pointer (some ⟨g, 0, none⟩), .agg #[.int .i64 r.f0, .int .i64 r.f1], .slice A l.length c] w fun e w' => e = .returned (.tuple #[]) ∧
      ∃ hm' vL', HM w' gp w0.heap.size (T + Hv.serW l) hm' ∧ cont hm' = l.foldl (add1 b.need) (cont hm) ∧ Is w' w0.heap.size g gm gp vO vL' { b with pts := pmOf hm', left := leftL b r } ∧ Below w0.heap.size w0 w' ∧ ∀ (k : Nat) (cs : Array Value) (t : TypeId), w.heap[k]? = some (.cells cs t (0, 0)) → k ≠ gp → t ≠ 97 → t ≠ 60 → w'.heap[k]? = some (.cells cs t (0, 0)) := by
  obtain ⟨AL, cL, rfl⟩ := Kd.R_slice hI.left
  have HI := Lib.hid hI
  have HMM := Lib.hid hM
  have HBW := Lib.hid hb
  have HHO := Lib.hid (fun W (hW : Below w.heap.size w W) => hold_calls w0 W g gm gp vO _ b hm T (hI.below hW) (hM.below hW) (below_then hb hb.size hW) A c l hl hids hT)
  have HLF := Lib.hid hlf
  clear hI hM hb hl hids hT hlf
  go_enter Try.func14, Try.ntmps14
  go_wp2_with ((with_reducible refine gate_dst (N := 4) rfl ?_); refine box_event rfl (N := 4) rfl (cs := #[.int .i64 r.f0, .int .i64 r.f1]) (t := 29) ?hr ?_; (case hr => first | (go_simp; done) | (go_simp; rfl)); intro g4 hg4 X hbox hbX; have HX := Lib.hid hbX; have HG4 := Lib.hid hbox; clear hg4 hbox hbX)
  with_reducible refine (HHO.out X HX.out).mono ?_
  rintro e w2 ⟨rfl, h2, hM2, hc2, hI2, hB2, hK2⟩
  have HM2 := Lib.hid hM2
  have HC2 := Lib.hid hc2
  have HI2 := Lib.hid hI2
  have HB2 := Lib.hid hB2
  have HG42 := Lib.hid (hK2.blk HG4.out (fun e => (XM.MapIs.below HI.out.pts HX.out).noCells HG4.out e.symm) (by decide))
  have HK2 := Lib.hid ((Kp.of_below (gp := gp) HX.out).then_ hK2)
  clear hM2 hc2 hI2 hB2 hK2 HHO
  have HIN := Lib.hid (init_calls w2 g b.own.f1 ((blk_cell HI2.out.blk 1).trans rfl))
  go_wp2_with fail
  with_reducible refine HIN.out.mono ?_
  rintro e w3 ⟨rfl, rfl⟩
  cases hs : (b.own.f1 == 1) with
  | true =>
    have HLE := Lib.hid (show leftL b r = b.left by unfold leftL; rw [if_pos (eq_of_beq hs)])
    clear hs HIN
    go_wp2
    go_end0
    exact ⟨rfl, h2, _, HM2.out, HC2.out, by rw [HLE.out]; exact HI2.out, HB2.out, fun k cs t hk hne h97 _ => HK2.out.blk hk hne h97⟩
  | false =>
    have HLE := Lib.hid (show leftL b r = Rg.subR b.left r by unfold leftL; rw [if_neg (by simpa using hs)])
    have HSUB := Lib.hid (fun W (hW : Below w2.heap.size w2 W) => Rg.sub_calls W AL cL b.left r (Kd.R_reads' (HI2.out.below hW).left).2.2 (Kd.R_reads' HI2.out.left).2.1 HLF.out)
    have HSZ := Lib.hid HB2.out.size
    have z7 : w2.cell? ⟨g, 7, none⟩ = some (.slice AL b.left.length cL) := (blk_cell HI2.out.blk 7).trans rfl
    have z0 : w2.cell? ⟨g4, 0, none⟩ = some (.int .i64 r.f0) := (blk_cell HG42.out 0).trans rfl
    have z1 : w2.cell? ⟨g4, 1, none⟩ = some (.int .i64 r.f1) := (blk_cell HG42.out 1).trans rfl
    clear hs HIN
    go_wp2_with fail
    refine start_ (n := 10) (S := fun w' => w'.cell? ⟨g, 7, none⟩ = some (.slice AL b.left.length cL) ∧ w'.cell? ⟨g4, 0, none⟩ = some (.int .i64 r.f0) ∧ w'.cell? ⟨g4, 1, none⟩ = some (.int .i64 r.f1)) (ds := [9]) #[false, false, false, false, false, false, false, false, false, false] (by kernel_rfl) rfl rfl ⟨z7, z0, z1⟩ (fun hHeld => ?_)
    refine with_tabW Local3.tab3 Local3.bits3 (fun HT_ HW_ => ?_)
    refine pure_ (i := 0) (N := some 12) (v := ?_) (a' := ?_) #[true, false, false, false, false, false, false, false, false, false] rfl rfl (any_of HT_.out (by kernel_rfl)) (fun _ _ _ h => h) (Or.inl ⟨by rfl, ?_⟩) ?_ ?_
    rotate_left
    · intro w'
      go_simp
      with_reducible rfl
    rotate_left
    · simp only [Act.put, List.setIfInBounds_toArray, List.set_cons_zero, List.set_cons_succ, i64_w, i32_w]
      rfl
    refine pure_ (i := 1) (N := some 13) (v := ?_) (a' := ?_) #[true, true, false, false, false, false, false, false, false, false] rfl rfl (any_of HT_.out (by kernel_rfl)) (fun _ _ _ h => h) (Or.inl ⟨by rfl, ?_⟩) ?_ ?_
    rotate_left
    · intro w'
      go_simp
      with_reducible rfl
    rotate_left
    · simp only [Act.put, List.setIfInBounds_toArray, List.set_cons_zero, List.set_cons_succ, i64_w, i32_w]
      rfl
    refine pure_ (i := 2) (N := some 14) (v := ?_) (a' := ?_) #[true, true, true, false, false, false, false, false, false, false] rfl rfl (any_of HT_.out (by kernel_rfl)) (fun _ _ _ h => h) (Or.inl ⟨by rfl, ?_⟩) ?_ ?_
    rotate_left
    · intro w'
      go_simp
      with_reducible rfl
    rotate_left
    · simp only [Act.put, List.setIfInBounds_toArray, List.set_cons_zero, List.set_cons_succ, i64_w, i32_w]
      rfl
    refine pure_ (i := 3) (N := some 15) (v := ?_) (a' := ?_) #[true, true, true, true, false, false, false, false, false, false] rfl rfl (any_of HT_.out (by kernel_rfl)) (fun _ _ _ h => h) (Or.inl ⟨by rfl, ?_⟩) ?_ ?_
    rotate_left
    · intro w'
      go_simp
      with_reducible rfl
    rotate_left
    · simp only [Act.put, List.setIfInBounds_toArray, List.set_cons_zero, List.set_cons_succ, i64_w, i32_w]
      rfl
    refine take_ (i := 4) (N := some 16) (v := ?_) (a' := ?_) #[true, true, true, true, true, false, false, false, false, false] rfl rfl (take_ofW HT_.out HW_.out (by kernel_rfl)) (fun _ _ _ h => h) (Or.inl ⟨by rfl, ?_⟩) hHeld ?_ ?_
    rotate_left
    · rintro w' ⟨s0, s1, s2⟩
      go_simp
      with_reducible rfl
    rotate_left
    · simp only [Act.put, List.setIfInBounds_toArray, List.set_cons_zero, List.set_cons_succ, i64_w, i32_w]
      rfl
    refine take_ (i := 5) (N := some 17) (v := ?_) (a' := ?_) #[true, true, true, true, true, true, false, false, false, false] rfl rfl (take_ofW HT_.out HW_.out (by kernel_rfl)) (fun _ _ _ h => h) (Or.inl ⟨by rfl, ?_⟩) hHeld ?_ ?_
    rotate_left
    · rintro w' ⟨s0, s1, s2⟩
      go_simp
      with_reducible rfl
    rotate_left
    · simp only [Act.put, List.setIfInBounds_toArray, List.set_cons_zero, List.set_cons_succ, i64_w, i32_w]
      rfl
    refine one_ (i := 6) (N := some 18) #[true, true, true, true, true, true, true, false, false, false] rfl rfl (one_of HT_.out (by kernel_rfl)) (by decide) (fun K hK => ?_)
    refine goes_ Try.func26 (by kernel_rfl) rfl #[.slice AL b.left.length cL, .agg #[.int .i64 r.f0, .int .i64 r.f1]] (by rfl) rfl rfl (by simp only [List.map_toArray, List.map_cons, List.map_nil]; rfl) ?_
    with_reducible refine ((HSUB.out _ (below_drew (Below.refl _ _)))).mono ?_
    rintro e w6 ⟨v6, rfl, hR6, hb6⟩
    refine ⟨_, rfl, ?_⟩
    obtain ⟨A6, n6, c6, rfl⟩ : ∃ A n c, v6 = .slice A n c := by obtain ⟨A, c, e⟩ := Kd.R_slice hR6; exact ⟨A, _, c, e⟩
    have HB6 := Lib.hid (below_then (below_drew (Below.refl _ _)) (Nat.le_refl _) hb6)
    have HI6 := Lib.hid (HI2.out.below HB6.out)
    have HR6 := Lib.hid (Kd.R_lower hR6 HSZ.out)
    clear hR6 hb6
    have e7 : w6.cell? ⟨g, 7, none⟩ = some (.slice AL b.left.length cL) := (blk_cell HI6.out.blk 7).trans rfl
    have f7 : w6.frozen? ⟨g, 7, none⟩ = false := blk_frozen HI6.out.blk 7
    refine hK.out _ _ ⟨e7, (pw_cell_below HB6.out z0), (pw_cell_below HB6.out z1)⟩ (fun hHeld => ?_)
    clear hK K
    refine norm_ (a' := ?_) ?_ ?_
    rotate_left
    · show Act.put _ (some 18) _ = _
      simp only [Act.put, List.setIfInBounds_toArray, List.set_cons_zero, List.set_cons_succ, i64_w, i32_w]
      rfl
    refine pure_ (i := 7) (N := some 19) (v := ?_) (a' := ?_) #[true, true, true, true, true, true, true, true, false, false] rfl rfl (any_of HT_.out (by kernel_rfl)) (fun _ _ _ h => h) (Or.inl ⟨by rfl, ?_⟩) ?_ ?_
    rotate_left
    · intro w'
      go_simp
      with_reducible rfl
    rotate_left
    · simp only [Act.put, List.setIfInBounds_toArray, List.set_cons_zero, List.set_cons_succ, i64_w, i32_w]
      rfl
    refine pure_ (i := 8) (N := some 20) (v := ?_) (a' := ?_) #[true, true, true, true, true, true, true, true, true, false] rfl rfl (any_of HT_.out (by kernel_rfl)) (fun _ _ _ h => h) (Or.inl ⟨by rfl, ?_⟩) ?_ ?_
    rotate_left
    · intro w'
      go_simp
      with_reducible rfl
    rotate_left
    · simp only [Act.put, List.setIfInBounds_toArray, List.set_cons_zero, List.set_cons_succ, i64_w, i32_w]
      rfl
    refine last_ (i := 9) (N := none) #[true, true, true, true, true, true, true, true, true, true] rfl rfl (one_of HT_.out (by kernel_rfl)) (by decide) (fun K hK => ?_)
    refine skip_ (w1 := ?_) (by rfl) rfl ?_ ?_
    rotate_left
    · go_simp
      rfl
    refine hK.out _ _ ?_
    clear hK K
    refine done_ (done_of HT_.out (by kernel_rfl)) ?_
    go_end0
    refine ⟨rfl, h2, .slice A6 n6 c6, ?_, HC2.out, ?_, ?_, fun k cs t hk hne h97 h60 => ?_⟩
    · exact (HM2.out.below HB6.out).set HI6.out.blk (by decide) 7 _
    · rw [HLE.out]
      exact Is_left HI6.out HR6.out
    · exact (below_then HB2.out HB2.out.size HB6.out).setCell HI6.out.bg _
    · have h1 := blk_below (HK2.out.blk hk hne h97) HB6.out
      exact blk_far h1 (p := ⟨g, 7, none⟩) (fun e => by rw [show k = g from e] at h1; have h2 := h1.symm.trans HI6.out.blk; cases h2; exact h60 rfl) _
end Hm
end Go.Proofs.Ytiinmagnpkfbbaa
