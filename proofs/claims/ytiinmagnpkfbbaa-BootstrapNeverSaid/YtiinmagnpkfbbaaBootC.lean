/- The boots: Wants. -/
import Derived.Test.YtiinmagnpkfbbaaBootB
import Derived.Test.YtiinmagnpkfbbaaDelI
namespace Go.Proofs.Ytiinmagnpkfbbaa
set_option linter.unusedVariables false
set_option linter.unusedSimpArgs false
open Go.RowKit Go.Proofs.YtiinmagnpkfbbaaW.PrintWords Go.Proofs.YtiinmagnpkfbbaaW.PrintLast Go.Proofs.YtiinmagnpkfbbaaW.PrintMore Go.Proofs.Ytiinmagnpkfbbaa.QT
namespace Bt
theorem info3 : (Try.prog.info? 3).map (fun i => (i.zero, i.size, i.bytes)) = some (some (.int .i64 0), 1, 8) := by kernel_rfl
theorem R_single (W : World) (x : Int) (B gl : Nat) (hB : B ≤ W.heap.size) (hg : gl = W.heap.size) : Kd.R kI 3 (W.alloc (.cells #[.int .i64 x] 3)) B (fun _ => True) (.slice (some ⟨gl, 0, none⟩) 1 1) [x] := by
  subst hg
  refine ⟨fun _ _ => trivial, [.int .i64 x], World.ownsRow_lit (base := B) (e := 3) (size := 1) W #[.int .i64 x] 1 hB (by decide) rfl, rfl, fun j p hj => ?_⟩
  cases j with
  | zero => cases hj; rfl
  | succ j => cases hj
theorem enter22 : ∀ args w, (callFunc 22 args).run Try.prog w = .ok (.enter 22 args) w := fun args w => by kernel_rfl
def wantsOf (b : Bo) : List Int := if leftOf b = [] ∨ b.own.f1 ≠ 1 then [] else (b.own.f2 :: b.oth).filter (fun n => !gave b.gv n)
def Wants.T3 : Bool × List (List Nat × List Nat) := (true, [([], []), ([0], [0]), ([1], [1]), ([2], [2]), ([3], [3]), ([4], [4]), ([], []), ([6], [6]), ([7], [7]), ([8], [8]), ([5, 9], [5, 9]), ([], []), ([11], [11]), ([10, 12, 10], [10, 12]), ([13, 13, 0, 1, 2, 3, 4, 5, 6, 7, 8, 9, 10, 11, 12, 13], [13])])
def Wants.B3 : List Nat := [0, 1, 3, 7, 15, 31, 0, 64, 192, 448, 1023, 0, 2048, 8191, 16383]
theorem Wants.tab3 : rtab .any (opsOf Try.f9 3) = Wants.T3 := by kernel_rfl
theorem Wants.bits3 : waitsOk Wants.T3.2 Wants.B3 = true := by kernel_rfl
set_option maxHeartbeats 2000000 in
set_option maxRecDepth 100000 in
theorem wants_calls (w : World) (B g gm gp : Nat) (vO vL : Value) (b : Bo) (h : Is w B g gm gp vO vL b) (hw : Wf b) :
    Calls Try.prog 9 #[.pointer (some ⟨g, 0, none⟩)] w fun e w' => ∃ v : Value, e = .returned v ∧ Kd.R kI 3 w' w.heap.size (fun _ => True) v (wantsOf b) ∧ Below w.heap.size w w' := by
  obtain ⟨AO, cO, rfl⟩ := Kd.R_slice h.oth
  have HD := Lib.hid (done_calls w B g gm gp _ vL b h hw)
  have HI := Lib.hid h
  have HLO := Lib.hid hw.l1
  have HWF := Lib.hid (show ∀ x ∈ b.own.f2 :: b.oth, (Lit.int .i64 x).wf = true from fun x hx => by rcases List.mem_cons.1 hx with rfl | hx; exact hw.src; exact hw.oth x hx)
  clear h hw
  by_cases hl : leftOf b = []
  · rw [decide_eq_true hl] at HD
    have HE := Lib.hid (show wantsOf b = [] by unfold wantsOf; rw [if_pos (Or.inl hl)])
    clear hl
    go_enter Try.func9, Try.ntmps9
    go_wp2_with fail
    with_reducible refine HD.out.mono ?_
    rintro e w1 ⟨rfl, hb1⟩
    have HB1 := Lib.hid hb1
    clear hb1 HD
    go_wp2
    go_ret
    exact ⟨_, rfl, by rw [HE.out]; exact Kd.R_nil _ _ _ _ _, HB1.out⟩
  · rw [decide_eq_false hl] at HD
    have HL := Lib.hid hl
    clear hl
    go_enter Try.func9, Try.ntmps9
    go_wp2_with fail
    with_reducible refine HD.out.mono ?_
    rintro e w1 ⟨rfl, hb1⟩
    have HB1 := Lib.hid hb1
    have HI1 := Lib.hid (HI.out.below hb1)
    clear hb1 HD
    go_wp2_with fail
    with_reducible refine (init_calls _ g b.own.f1 ((blk_cell HI1.out.blk 1).trans rfl)).mono ?_
    rintro e w9 ⟨rfl, rfl⟩
    by_cases hst : b.own.f1 = 1
    · have d1 : (b.own.f1 == 1) = true := beq_iff_eq.2 hst
      have HE := Lib.hid (show wantsOf b = (b.own.f2 :: b.oth).filter (fun n => !gave b.gv n) by unfold wantsOf; rw [if_neg (fun h => h.elim HL.out (fun h => h hst))])
      have c2 : w1.cell? ⟨g, 2, none⟩ = some (.int .i64 b.own.f2) := (blk_cell HI1.out.blk 2).trans rfl
      have c3 : w1.cell? ⟨g, 3, none⟩ = some (.slice AO b.oth.length cO) := (blk_cell HI1.out.blk 3).trans rfl
      clear hst
      go_wp2_with fail
      refine start_ (n := 15) (S := fun w' => w'.cell? ⟨g, 2, none⟩ = some (.int .i64 b.own.f2) ∧ w'.cell? ⟨g, 3, none⟩ = some (.slice AO b.oth.length cO)) (ds := [10, 13]) #[false, false, false, false, false, false, false, false, false, false, false, false, false, false, false] (by kernel_rfl) rfl rfl ⟨c2, c3⟩ (fun hHeld => ?_)
      refine with_tabW Wants.tab3 Wants.bits3 (fun HT_ HW_ => ?_)
      refine pure_ (i := 0) (N := some 10) (v := ?_) (a' := ?_) #[true, false, false, false, false, false, false, false, false, false, false, false, false, false, false] rfl rfl (any_of HT_.out (by kernel_rfl)) (fun _ _ _ h => h) (Or.inl ⟨by rfl, ?_⟩) ?_ ?_
      rotate_left
      · intro w'
        go_simp
        with_reducible rfl
      rotate_left
      · simp only [Act.put, List.setIfInBounds_toArray, List.set_cons_zero, List.set_cons_succ, i64_w, i32_w]
        rfl
      refine pure_ (i := 1) (N := some 11) (v := ?_) (a' := ?_) #[true, true, false, false, false, false, false, false, false, false, false, false, false, false, false] rfl rfl (any_of HT_.out (by kernel_rfl)) (fun _ _ _ h => h) (Or.inl ⟨by rfl, ?_⟩) ?_ ?_
      rotate_left
      · intro w'
        go_simp
        with_reducible rfl
      rotate_left
      · simp only [Act.put, List.setIfInBounds_toArray, List.set_cons_zero, List.set_cons_succ, i64_w, i32_w]
        rfl
      refine pure_ (i := 2) (N := some 12) (v := ?_) (a' := ?_) #[true, true, true, false, false, false, false, false, false, false, false, false, false, false, false] rfl rfl (any_of HT_.out (by kernel_rfl)) (fun _ _ _ h => h) (Or.inl ⟨by rfl, ?_⟩) ?_ ?_
      rotate_left
      · intro w'
        go_simp
        with_reducible rfl
      rotate_left
      · simp only [Act.put, List.setIfInBounds_toArray, List.set_cons_zero, List.set_cons_succ, i64_w, i32_w]
        rfl
      refine pure_ (i := 3) (N := some 13) (v := ?_) (a' := ?_) #[true, true, true, true, false, false, false, false, false, false, false, false, false, false, false] rfl rfl (any_of HT_.out (by kernel_rfl)) (fun _ _ _ h => h) (Or.inl ⟨by rfl, ?_⟩) ?_ ?_
      rotate_left
      · intro w'
        go_simp
        with_reducible rfl
      rotate_left
      · simp only [Act.put, List.setIfInBounds_toArray, List.set_cons_zero, List.set_cons_succ, i64_w, i32_w]
        rfl
      refine pure_ (i := 6) (N := some 16) (v := ?_) (a' := ?_) #[true, true, true, true, false, false, true, false, false, false, false, false, false, false, false] rfl rfl (any_of HT_.out (by kernel_rfl)) (fun _ _ _ h => h) (Or.inl ⟨by rfl, ?_⟩) ?_ ?_
      rotate_left
      · intro w'
        go_simp
        with_reducible rfl
      rotate_left
      · simp only [Act.put, List.setIfInBounds_toArray, List.set_cons_zero, List.set_cons_succ, i64_w, i32_w]
        rfl
      refine pure_ (i := 7) (N := some 17) (v := ?_) (a' := ?_) #[true, true, true, true, false, false, true, true, false, false, false, false, false, false, false] rfl rfl (any_of HT_.out (by kernel_rfl)) (fun _ _ _ h => h) (Or.inl ⟨by rfl, ?_⟩) ?_ ?_
      rotate_left
      · intro w'
        go_simp
        with_reducible rfl
      rotate_left
      · simp only [Act.put, List.setIfInBounds_toArray, List.set_cons_zero, List.set_cons_succ, i64_w, i32_w]
        rfl
      refine pure_ (i := 8) (N := some 18) (v := ?_) (a' := ?_) #[true, true, true, true, false, false, true, true, true, false, false, false, false, false, false] rfl rfl (any_of HT_.out (by kernel_rfl)) (fun _ _ _ h => h) (Or.inl ⟨by rfl, ?_⟩) ?_ ?_
      rotate_left
      · intro w'
        go_simp
        with_reducible rfl
      rotate_left
      · simp only [Act.put, List.setIfInBounds_toArray, List.set_cons_zero, List.set_cons_succ, i64_w, i32_w]
        rfl
      refine pure_ (i := 11) (N := some 21) (v := ?_) (a' := ?_) #[true, true, true, true, false, false, true, true, true, false, false, true, false, false, false] rfl rfl (any_of HT_.out (by kernel_rfl)) (fun _ _ _ h => h) (Or.inl ⟨by rfl, ?_⟩) ?_ ?_
      rotate_left
      · intro w'
        go_simp
        with_reducible rfl
      rotate_left
      · simp only [Act.put, List.setIfInBounds_toArray, List.set_cons_zero, List.set_cons_succ, i64_w, i32_w]
        rfl
      refine pure_ (i := 12) (N := some 22) (v := ?_) (a' := ?_) #[true, true, true, true, false, false, true, true, true, false, false, true, true, false, false] rfl rfl (any_of HT_.out (by kernel_rfl)) (fun _ _ _ h => h) (Or.inl ⟨by rfl, ?_⟩) ?_ ?_
      rotate_left
      · intro w'
        go_simp
        with_reducible rfl
      rotate_left
      · simp only [Act.put, List.setIfInBounds_toArray, List.set_cons_zero, List.set_cons_succ, i64_w, i32_w]
        rfl
      refine take_ (i := 4) (N := some 14) (v := ?_) (a' := ?_) #[true, true, true, true, true, false, true, true, true, false, false, true, true, false, false] rfl rfl (take_ofW HT_.out HW_.out (by kernel_rfl)) (fun _ _ _ h => h) (Or.inl ⟨by rfl, ?_⟩) hHeld ?_ ?_
      rotate_left
      · rintro w' ⟨s0, s1⟩
        go_simp
        with_reducible rfl
      rotate_left
      · simp only [Act.put, List.setIfInBounds_toArray, List.set_cons_zero, List.set_cons_succ, i64_w, i32_w]
        rfl
      refine take_ (i := 9) (N := some 19) (v := ?_) (a' := ?_) #[true, true, true, true, true, false, true, true, true, true, false, true, true, false, false] rfl rfl (take_ofW HT_.out HW_.out (by kernel_rfl)) (fun _ _ _ h => h) (Or.inl ⟨by rfl, ?_⟩) hHeld ?_ ?_
      rotate_left
      · rintro w' ⟨s0, s1⟩
        go_simp
        with_reducible rfl
      rotate_left
      · simp only [Act.put, List.setIfInBounds_toArray, List.set_cons_zero, List.set_cons_succ, i64_w, i32_w]
        rfl
      refine one_ (i := 5) (N := some 15) #[true, true, true, true, true, true, true, true, true, true, false, true, true, false, false] rfl rfl (one_of HT_.out (by kernel_rfl)) (by decide) (fun K hK => ?_)
      refine value_ (w1 := ?_) (v := ?_) (by rfl) rfl ?_ ?_
      rotate_left 2
      · go_simp
        constructor
        · rfl
        · rfl
      have hBX := below_drew (below_alloc (Below.refl w1.heap.size w1) (.cells #[.int .i64 b.own.f2] 3))
      obtain ⟨gl, hgl⟩ : ∃ gl, gl = w1.heap.size := ⟨_, rfl⟩
      have hRL := Kd.R_drew (R_single w1 b.own.f2 w.heap.size gl HB1.out.size hgl)
      obtain ⟨X1, hX1⟩ : ∃ X1 : World, X1 = (w1.alloc (.cells #[.int .i64 b.own.f2] 3)).drew := ⟨_, rfl⟩
      rw [← hX1] at hRL hBX
      rw [← hX1, ← hgl]
      have HIX := Lib.hid (HI1.out.below hBX)
      have HBX := Lib.hid hBX
      have HRL := Lib.hid hRL
      have HGL := Lib.hid hgl
      clear hRL hBX hX1 hgl
      refine hK.out _ _ ⟨((blk_cell HIX.out.blk 2).trans rfl), ((blk_cell HIX.out.blk 3).trans rfl)⟩ (fun hHeld => ?_)
      clear hK K
      refine norm_ (a' := ?_) ?_ ?_
      rotate_left
      · show Act.put _ (some 15) _ = _
        simp only [Act.put, List.setIfInBounds_toArray, List.set_cons_zero, List.set_cons_succ, i64_w, i32_w]
        rfl
      refine last_ (i := 10) (N := some 20) #[true, true, true, true, true, true, true, true, true, true, true, true, true, false, false] rfl rfl (one_of HT_.out (by kernel_rfl)) (by decide) (fun K hK => ?_)
      refine Kd.R_append_rows_step kI (Rr := fun x cs => cs = [.int .i64 x]) (w0 := w) w.heap.size (by rfl) (.tmp 15) (.tmp 19) 22 3 (.int .i64 0) 8 (by rfl) Try.underlying22 info3 (by rfl) (by decide) (by decide) (.slice (some ⟨gl, 0, none⟩) 1 1) [b.own.f2] b.oth AO b.oth.length cO (fun _ => True) (fun _ => False) (by rfl) (by rfl) HRL.out (Kd.R_reads' HIX.out.oth).2.2 (fun _ _ h => h) (fun _ h => h.elim) (fun _ _ => trivial) (below_then HB1.out HB1.out.size HBX.out) (Nat.le_trans HB1.out.size HBX.out.size) (by have := HLO.out; simp only [List.length_singleton]; omega) ?_
      intro v5 X2 hR5 hB5 hg5 hat5
      have hB2 : Below w1.heap.size w1 X2 := HBX.out.grown hg5 HBX.out.size (fun k hk => Nat.le_of_eq (HGL.out.symm.trans (by simpa [Value.ownBlock] using hk)))
      have hown : ∀ k, v5.ownBlock = some k → w1.heap.size ≤ k := fun k hk => by
        rcases hat5 with h | ⟨q, h, hq⟩
        · rw [hk] at h; exact Nat.le_of_eq (HGL.out.symm.trans (by simpa [Value.ownBlock] using h.symm))
        · rw [hk] at h; cases h; have := HBX.out.size; omega
      obtain ⟨n5, c5, gb, rfl⟩ : ∃ n5 c5 gb, v5 = .slice (some ⟨gb, 0, none⟩) n5 c5 := by
        obtain ⟨inner, ho⟩ := Kd.R_own hR5
        rcases ho with ⟨_, ⟨_, h0⟩ | ⟨gb, cap, cur, e, _⟩⟩
        · simp at h0
        · exact ⟨_, _, gb, e⟩
      have HI2 := Lib.hid (HI1.out.below hB2)
      have HB2 := Lib.hid hB2
      have HGB := Lib.hid (hown gb rfl)
      have hdel := delete_int (fun n => gave b.gv n) 22 (.pointer (some ⟨g, 0, none⟩)) enter22 w.heap.size (fun _ => True) gb c5 n5 _ X2 hR5 (fun W hg x hx => gave_calls W g gm b.gv ((blk_cell ((hg.block g (blk_lt HI2.out.blk) (fun e => by have h1 := blk_lt HI1.out.blk; have h2 := HGB.out; cases e; omega)).trans HI2.out.blk) 4).trans rfl) (XM.MapIs.kept HI2.out.gv hg (fun e => by have h1 := XM.MapIs.lt HI1.out.gv; have h2 := HGB.out; cases e; omega)) x (HWF.out x hx))
      have HDE := Lib.hid hdel
      have HB5 := Lib.hid hB5
      clear hR5 hB5 hg5 hat5 hB2 hown hdel
      refine hK.out _ _ ?_
      clear hK K
      refine norm_ (a' := ?_) ?_ ?_
      rotate_left
      · show Act.put _ (some 20) _ = _
        simp only [Act.put, List.setIfInBounds_toArray, List.set_cons_zero, List.set_cons_succ, i64_w, i32_w]
        rfl
      refine last_ (i := 13) (N := some 23) #[true, true, true, true, true, true, true, true, true, true, true, true, true, true, false] rfl rfl (one_of HT_.out (by kernel_rfl)) (by decide) (fun K hK => ?_)
      refine goes_ Try.func21 (by kernel_rfl) rfl #[.slice (some ⟨gb, 0, none⟩) n5 c5, .func (.func 22) #[.pointer (some ⟨g, 0, none⟩)] #[]] (by rfl) rfl rfl (by simp only [List.map_toArray, List.map_cons, List.map_nil]; rfl) ?_
      with_reducible refine (HDE.out).mono ?_
      rintro e w9 ⟨rfl, hR9, hg9⟩
      refine ⟨_, rfl, ?_⟩
      have HR9 := Lib.hid hR9
      have HB9 := Lib.hid (HB5.out.grown hg9 HB5.out.size (fun k hk => by cases hk; have h1 := HGB.out; have h2 := HB1.out.size; omega))
      clear hR9 hg9
      refine hK.out _ _ ?_
      clear hK K
      refine norm_ (a' := ?_) ?_ ?_
      rotate_left
      · show Act.put _ (some 23) _ = _
        simp only [Act.put, List.setIfInBounds_toArray, List.set_cons_zero, List.set_cons_succ, i64_w, i32_w]
        rfl
      refine pure_ (i := 14) (N := some 2) (v := ?_) (a' := ?_) #[true, true, true, true, true, true, true, true, true, true, true, true, true, true, true] rfl rfl (any_of HT_.out (by kernel_rfl)) (fun _ _ _ h => h) (Or.inl ⟨by rfl, ?_⟩) ?_ ?_
      rotate_left
      · intro w'
        go_simp
        with_reducible rfl
      rotate_left
      · simp only [Act.put, List.setIfInBounds_toArray, List.set_cons_zero, List.set_cons_succ, i64_w, i32_w]
        rfl
      refine done_ (done_of HT_.out (by kernel_rfl)) ?_
      go_wp2
      go_ret
      exact ⟨_, rfl, by rw [HE.out]; exact HR9.out, HB9.out⟩
    · have d1 : (b.own.f1 == 1) = false := beq_eq_false_iff_ne.2 hst
      have HE := Lib.hid (show wantsOf b = [] by unfold wantsOf; rw [if_pos (Or.inr hst)])
      clear hst
      go_wp2
      go_ret
      exact ⟨_, rfl, by rw [HE.out]; exact Kd.R_nil _ _ _ _ _, HB1.out⟩
end Bt
end Go.Proofs.Ytiinmagnpkfbbaa
