-- Laid by wip/tools/myprint.py of this repo. Not trusted: Lean checks it.
import Derived.Test.YtcdpcgcfonjnfaaQT0
import Derived.Test.YtcdpcgcfonjnfaaQT1
import Derived.Test.YtcdpcgcfonjnfaaQT2
namespace Go.Proofs.Ytcdpcgcfonjnfaa.QT
open Go.RowKit Go.Proofs.YtcdpcgcfonjnfaaW.PrintWords Go.Proofs.YtcdpcgcfonjnfaaW.PrintLast Go.Proofs.YtcdpcgcfonjnfaaW.PrintMore
attribute [local go_sem] max2_int min2_int max_two min_two max_three min_three max_four min_four   -- for this text's walks alone
set_option linter.unusedVariables false
set_option linter.unusedSimpArgs false

attribute [local go_sem high] eqA38
/-! ### thermographref19_Diff: function 7 -/
mutual
def thermographref19_Diff.l0 : Nat → List (S56) → List (S56) → List (S38) → Int → Option ((List (S38)))
  | 0, _, _, _, _ => none
  | k + 1, x0, x1, x5, x6 => if x6 < (x1.length : Int) then (if 0 ≤ x6 then ((thermographref19_first.f k x1 ((rd_T56 x1 x6).f0) ((rd_T56 x1 x6).f1)).bind fun bt115 => ((thermographref19_first.f k x0 ((rd_T56 x1 x6).f0) ((rd_T56 x1 x6).f1)).bind fun bt121 => (if bt121.2.2.2.2 = true then (if bt115.2.2.1 = bt121.2.2.1 then (thermographref19_Diff.j1 k x0 x1 x5 x6 (bt115.2.2.2.1 == bt121.2.2.2.1) ((rd_T56 x1 x6).f0) ((rd_T56 x1 x6).f1)) else (thermographref19_Diff.j1 k x0 x1 x5 x6 false ((rd_T56 x1 x6).f0) ((rd_T56 x1 x6).f1))) else (thermographref19_Diff.j1 k x0 x1 x5 x6 false ((rd_T56 x1 x6).f0) ((rd_T56 x1 x6).f1))))) else (none)) else (some x5)
def thermographref19_Diff.j1 : Nat → List (S56) → List (S56) → List (S38) → Int → Bool → ByteArray → Int → Option ((List (S38)))
  | 0, _, _, _, _, _, _, _ => none
  | k + 1, x0, x1, x5, x6, x58, x115000, x115001 => if x58 = true then (thermographref19_Diff.l0 k x0 x1 x5 (wrap64 (x6 + 1))) else (thermographref19_Diff.l1 k x0 x1 x5 x6 0 x115000 x115001)
def thermographref19_Diff.l1 : Nat → List (S56) → List (S56) → List (S38) → Int → Int → ByteArray → Int → Option ((List (S38)))
  | 0, _, _, _, _, _, _, _ => none
  | k + 1, x0, x1, x5, x6, x12, x115000, x115001 => if x12 < (x5.length : Int) then (if 0 ≤ x12 then ((thermographref19_less.f ((rd_T38 x5 x12).f0) ((rd_T38 x5 x12).f1) x115000 x115001).bind fun t128 => (if t128 = true then (thermographref19_Diff.l1 k x0 x1 x5 x6 (wrap64 (x12 + 1)) x115000 x115001) else (if ((((rd_T38 x5 x12).f0).toList) == x115000.toList && (((rd_T38 x5 x12).f1) == x115001)) = true then (thermographref19_Diff.l0 k x0 x1 x5 (wrap64 (x6 + 1))) else ((some (([] : List (S38)) : List (S38))).bind fun y130 => (if x12 ≤ (x5.length : Int) then ((some (x5.take (x12 : Int).toNat : List (S38))).bind fun y133 => (if y130.length + y133.length < 5864062014805 then ((some (y130 ++ y133 : List (S38))).bind fun y137 => (if y137.length < 5864062014805 then ((some (y137 ++ [(⟨x115000, x115001⟩ : S38)] : List (S38))).bind fun y140 => ((some (x5.drop (x12 : Int).toNat : List (S38))).bind fun y143 => (if y140.length + y143.length < 5864062014805 then (thermographref19_Diff.l0 k x0 x1 (y140 ++ y143) (wrap64 (x6 + 1))) else (none)))) else (none))) else (none))) else (none)))))) else (none)) else ((some (([] : List (S38)) : List (S38))).bind fun y150 => (if 0 ≤ x12 then (if x12 ≤ (x5.length : Int) then ((some (x5.take (x12 : Int).toNat : List (S38))).bind fun y153 => (if y150.length + y153.length < 5864062014805 then ((some (y150 ++ y153 : List (S38))).bind fun y157 => (if y157.length < 5864062014805 then ((some (y157 ++ [(⟨x115000, x115001⟩ : S38)] : List (S38))).bind fun y160 => ((some (x5.drop (x12 : Int).toNat : List (S38))).bind fun y163 => (if y160.length + y163.length < 5864062014805 then (thermographref19_Diff.l0 k x0 x1 (y160 ++ y163) (wrap64 (x6 + 1))) else (none)))) else (none))) else (none))) else (none)) else (none)))
end
def thermographref19_Diff.f (k : Nat) (l0 : List (S56)) (l1 : List (S56)) : Option ((List (S38))) := thermographref19_Diff.l0 k l0 l1 (([] : List (S38))) 0
def thermographref19_Diff.T5 : Bool × List (List Nat × List Nat) := (true, [([], []), ([], []), ([0, 1], [0, 1]), ([2], [2]), ([3], [3]), ([], []), ([], []), ([5, 6], [5, 6]), ([7], [7]), ([8], [8]), ([4, 9], [4, 9]), ([], []), ([11, 10, 0, 1, 2, 3, 4, 5, 6, 7, 8, 9, 10, 11], [10, 11])])
def thermographref19_Diff.B5 : List Nat := [0, 0, 3, 7, 15, 0, 0, 96, 224, 480, 1023, 0, 4095]
theorem thermographref19_Diff.tab5 : rtab .any (opsOf Try.f7 5) = thermographref19_Diff.T5 := by kernel_rfl
theorem thermographref19_Diff.bits5 : waitsOk thermographref19_Diff.T5.2 thermographref19_Diff.B5 = true := by kernel_rfl
def thermographref19_Diff.T10 : Bool × List (List Nat × List Nat) := (true, [([], []), ([], []), ([1], [1]), ([0, 2], [0, 2]), ([3], [3]), ([4], [4]), ([4], [4]), ([5, 6, 4], [4, 5, 6]), ([7, 4], [4, 7]), ([4], [4]), ([8, 9, 4, 4], [4, 8, 9]), ([4, 10], [4, 10])])
def thermographref19_Diff.B10 : List Nat := [0, 0, 2, 7, 15, 31, 31, 127, 255, 31, 1023, 2047]
theorem thermographref19_Diff.tab10 : rtab .any (opsOf Try.f7 10) = thermographref19_Diff.T10 := by kernel_rfl
theorem thermographref19_Diff.bits10 : waitsOk thermographref19_Diff.T10.2 thermographref19_Diff.B10 = true := by kernel_rfl
def thermographref19_Diff.T12 : Bool × List (List Nat × List Nat) := (true, [([], []), ([], []), ([1], [1]), ([0, 2], [0, 2]), ([3], [3]), ([4], [4]), ([4], [4]), ([5, 6, 4], [4, 5, 6]), ([7, 4], [4, 7]), ([4], [4]), ([8, 9, 4], [4, 8, 9]), ([4, 10], [4, 10])])
def thermographref19_Diff.B12 : List Nat := [0, 0, 2, 7, 15, 31, 31, 127, 255, 31, 1023, 2047]
theorem thermographref19_Diff.tab12 : rtab .any (opsOf Try.f7 12) = thermographref19_Diff.T12 := by kernel_rfl
theorem thermographref19_Diff.bits12 : waitsOk thermographref19_Diff.T12.2 thermographref19_Diff.B12 = true := by kernel_rfl
set_option maxHeartbeats 8000000 in
set_option maxRecDepth 100000 in
theorem thermographref19_Diff.calls (k : Nat) (A0 : Option Addr) (c0 : Nat) (l0 : List (S56)) (A1 : Option Addr) (c1 : Nat) (l1 : List (S56)) (r : List (S38)) (w : World) (hr0 : Kd.C k56 w A0 l0.length l0) (hc0 : l0.length ≤ c0) (hr1 : Kd.C k56 w A1 l1.length l1) (hc1 : l1.length ≤ c1) (h : thermographref19_Diff.f k l0 l1 = some r) :
    Calls Try.prog 7 #[.slice A0 l0.length c0, .slice A1 l1.length c1] w fun e w' => ∃ v0_ : Value, e = .returned (v0_) ∧ Kd.R k38 38 w' w.heap.size (fun _ => True) v0_ r ∧ Below w.heap.size w w' := by
  have hu38 := Try.underlying38
  have hu56 := Try.underlying56
  have HR0 := Aside0.mk hr0
  have HC0 := Aside0.mk hc0
  clear hr0 hc0
  have HR1 := Aside0.mk hr1
  have HC1 := Aside0.mk hc1
  clear hr1 hc1
  have HB := Aside0.mk (Below.refl w.heap.size w)
  have H : (thermographref19_Diff.l0 k l0 l1 (([] : List (S38))) 0) = some r := h
  clear h
  obtain ⟨y109, hy109⟩ : ∃ y_ : List (S38), y_ = (([] : List (S38))) := ⟨_, rfl⟩
  replace H : (thermographref19_Diff.l0 k l0 l1 y109 0) = some r := by first | (rw [hy109]; with_reducible exact H) | (have H2_ := (Option.bind_some _ _).symm.trans H; rw [hy109]; with_reducible exact H2_) | (have H2_ := (Option.bind_some _ _).symm.trans H; with_reducible exact H2_) | with_reducible exact H | (rw [hy109]; exact H) | exact H
  have Ny109 := Aside0.mk hy109
  clear hy109
  have H' := Aside0.mk H
  clear H
  go_enter Try.func7, Try.ntmps7
  go_wp2_with (first | ((with_reducible refine gate_dst (N := 14) rfl ?_); refine Kd.R_lit k38 _ 38 ?hg (N := 14) ?hd (xs := ([] : List (S38))) (inner := []) (ok := fun _ => True) (okp := fun _ => True) ?hr ?hp (fun _ hk => hk) trivial (Below.refl _ _) (Nat.le_refl _) (by simp) ?_; (case hd => rfl); (case hg => rfl); (case hr => first | (go_simp; done) | (go_simp; rfl)); (case hp => exact (Reps.none _ _)); intro v110 w3 ho4 hb hg_ hnew_; clear hg_ hnew_; (first | rw [← Ny109.out] at ho4 | (simp only [Int.reduceToNat] at ho4; rw [← Ny109.out] at ho4)); have n0_ := Aside0.mk (Kd.R_lower ho4 (below_size (by repeat (first | (with_reducible first | exact HB.out | apply below_alloc | apply pw_below_drewN | apply below_drew1) | exact HB.out)))); have n1_ := Aside0.mk (below_step (by repeat (first | (with_reducible first | exact HB.out | apply below_alloc | apply pw_below_drewN | apply below_drew1) | exact HB.out)) hb); clear HB; have HO111 := n0_; have HB := n1_; clear n0_ n1_; clear hb ho4))
  try go_frame
  go_loopg [5, 6] k (fun kq v5 v6 w' => ∃ (x5_1 : List (S38)) (x6_1 : Int), v6 = .int .i64 x6_1 ∧ Aside0 (thermographref19_Diff.l0 kq l0 l1 x5_1 x6_1 = some r) ∧ Aside0 (kq ≤ k) ∧ Aside0 (Kd.R k38 38 w' w.heap.size (fun _ => True) v5 x5_1) ∧ Aside0 (Below w.heap.size w w'))
  case atStart => exact ⟨(y109), (0), (by first | rfl | (simp; done) | (simp [*]; done)), H', ⟨Nat.le_refl _⟩, ⟨by (with_reducible repeat (first | apply Kd.R_alloc | apply Kd.R_drewN | apply Kd.R_drew)); exact HO111.out⟩, ⟨by repeat (first | (with_reducible first | exact HB.out | apply below_alloc | apply pw_below_drewN | apply below_drew1) | exact HB.out)⟩⟩
  case round =>
    clear H'
    try clear c1
    try clear p2
    obtain ⟨x5_1, x6_1, rfl, HA, HK1, HO_5, HB⟩ := hrel
    cases gk with
    | zero => exact absurd HA.out (by simp [thermographref19_Diff.l0])
    | succ k1 =>
      have H := HA.out
      clear HA
      simp only [thermographref19_Diff.l0] at H
      by_cases c5 : x6_1 < (l1.length : Int)
      · rw [if_pos c5] at H
        have c5b0 : decide (x6_1 < (l1.length : Int)) = true := decide_eq_true c5
        clear c5
        by_cases c6 : 0 ≤ x6_1
        · rw [if_pos c6] at H
          have c6b0 : decide (0 ≤ x6_1) = true := decide_eq_true c6
          clear c6
          replace H := Option.bind_eq_some_iff.mp H
          obtain ⟨⟨t115, t116, t117, t118, t119⟩, A70, H⟩ := H
          replace H : ((thermographref19_first.f k1 l0 ((rd_T56 l1 x6_1).f0) ((rd_T56 l1 x6_1).f1)).bind fun bt121 => (if bt121.2.2.2.2 = true then (if t117 = bt121.2.2.1 then (thermographref19_Diff.j1 k1 l0 l1 x5_1 x6_1 (t118 == bt121.2.2.2.1) ((rd_T56 l1 x6_1).f0) ((rd_T56 l1 x6_1).f1)) else (thermographref19_Diff.j1 k1 l0 l1 x5_1 x6_1 false ((rd_T56 l1 x6_1).f0) ((rd_T56 l1 x6_1).f1))) else (thermographref19_Diff.j1 k1 l0 l1 x5_1 x6_1 false ((rd_T56 l1 x6_1).f0) ((rd_T56 l1 x6_1).f1)))) = some r := H
          have A7 := Aside0.mk A70
          clear A70
          replace H := Option.bind_eq_some_iff.mp H
          obtain ⟨⟨t121, t122, t123, t124, t125⟩, A80, H⟩ := H
          replace H : (if t125 = true then (if t117 = t123 then (thermographref19_Diff.j1 k1 l0 l1 x5_1 x6_1 (t118 == t124) ((rd_T56 l1 x6_1).f0) ((rd_T56 l1 x6_1).f1)) else (thermographref19_Diff.j1 k1 l0 l1 x5_1 x6_1 false ((rd_T56 l1 x6_1).f0) ((rd_T56 l1 x6_1).f1))) else (thermographref19_Diff.j1 k1 l0 l1 x5_1 x6_1 false ((rd_T56 l1 x6_1).f0) ((rd_T56 l1 x6_1).f1))) = some r := H
          have A8 := Aside0.mk A80
          clear A80
          have HC9 := Aside0.mk H
          clear H
          try go_wp2
          have n0_ := Aside0.mk (Kd.R_drew HO_5.out)
          have n1_ := Aside0.mk (below_drew1 HB.out)
          clear HO_5
          clear HB
          have HO_5 := n0_
          have HB := n1_
          clear n0_ n1_
          have p112 : 0 ≤ (x6_1 : Int) := of_decide_eq_true (by first | (with_reducible assumption) | assumption)
          have q112 : x6_1 < (l1.length : Int) := of_decide_eq_true (by first | (with_reducible assumption) | assumption)
          obtain ⟨ad112, e112, hx112_0, hx112_1, hx112_2, hx112_3⟩ := at_T56 HR1.out x6_1 p112 q112
          have hw112_3 := hx112_3
          have hw112_2 := hx112_2
          have hw112_1 := hx112_1
          have hw112_0 := hx112_0
          cases e112
          replace hx112_0 := (HB.out.cell (World.block_lt_of_cell? w _ hx112_0)).trans hx112_0
          replace hx112_1 := (HB.out.cell (World.block_lt_of_cell? w _ hx112_1)).trans hx112_1
          replace hx112_2 := (HB.out.cell (World.block_lt_of_cell? w _ hx112_2)).trans hx112_2
          replace hx112_3 := (HB.out.cell (World.block_lt_of_cell? w _ hx112_3)).trans hx112_3
          replace p112 := eq_true p112
          replace q112 := eq_true q112
          have p113 : 0 ≤ (x6_1 : Int) := of_decide_eq_true (by first | (with_reducible assumption) | assumption)
          have q113 : x6_1 < (l1.length : Int) := of_decide_eq_true (by first | (with_reducible assumption) | assumption)
          obtain ⟨ad113, e113, hx113_0, hx113_1, hx113_2, hx113_3⟩ := at_T56 HR1.out x6_1 p113 q113
          have hw113_3 := hx113_3
          have hw113_2 := hx113_2
          have hw113_1 := hx113_1
          have hw113_0 := hx113_0
          obtain rfl : ad112 = ad113 := (by injection e113)
          replace hx113_0 := (HB.out.cell (World.block_lt_of_cell? w _ hx113_0)).trans hx113_0
          replace hx113_1 := (HB.out.cell (World.block_lt_of_cell? w _ hx113_1)).trans hx113_1
          replace hx113_2 := (HB.out.cell (World.block_lt_of_cell? w _ hx113_2)).trans hx113_2
          replace hx113_3 := (HB.out.cell (World.block_lt_of_cell? w _ hx113_3)).trans hx113_3
          replace p113 := eq_true p113
          replace q113 := eq_true q113
          refine start_ (n := 13) (S := fun w' => w'.cell? (ad112.add ((x6_1).toNat * 4)) = some (.string ((rd_T56 l1 x6_1).f0)) ∧ w'.cell? ⟨(ad112.add ((x6_1).toNat * 4)).block, (ad112.add ((x6_1).toNat * 4)).off + 1, none⟩ = some (.int .i64 ((rd_T56 l1 x6_1).f1)) ∧ w'.cell? ⟨(ad112.add ((x6_1).toNat * 4)).block, (ad112.add ((x6_1).toNat * 4)).off + 2, none⟩ = some (.int .i64 ((rd_T56 l1 x6_1).f2)) ∧ w'.cell? ⟨(ad112.add ((x6_1).toNat * 4)).block, (ad112.add ((x6_1).toNat * 4)).off + 3, none⟩ = some (.int .u32 ((rd_T56 l1 x6_1).f3)) ∧ w'.cell? (ad112.add ((x6_1).toNat * 4)) = some (.string ((rd_T56 l1 x6_1).f0)) ∧ w'.cell? ⟨(ad112.add ((x6_1).toNat * 4)).block, (ad112.add ((x6_1).toNat * 4)).off + 1, none⟩ = some (.int .i64 ((rd_T56 l1 x6_1).f1)) ∧ w'.cell? ⟨(ad112.add ((x6_1).toNat * 4)).block, (ad112.add ((x6_1).toNat * 4)).off + 2, none⟩ = some (.int .i64 ((rd_T56 l1 x6_1).f2)) ∧ w'.cell? ⟨(ad112.add ((x6_1).toNat * 4)).block, (ad112.add ((x6_1).toNat * 4)).off + 3, none⟩ = some (.int .u32 ((rd_T56 l1 x6_1).f3))) (ds := []) #[false, false, false, false, false, false, false, false, false, false, false, false, false] (by kernel_rfl) rfl rfl ⟨((HB.out.cell (World.block_lt_of_cell? w _ hw112_0)).trans hw112_0), ((HB.out.cell (World.block_lt_of_cell? w _ hw112_1)).trans hw112_1), ((HB.out.cell (World.block_lt_of_cell? w _ hw112_2)).trans hw112_2), ((HB.out.cell (World.block_lt_of_cell? w _ hw112_3)).trans hw112_3), ((HB.out.cell (World.block_lt_of_cell? w _ hw113_0)).trans hw113_0), ((HB.out.cell (World.block_lt_of_cell? w _ hw113_1)).trans hw113_1), ((HB.out.cell (World.block_lt_of_cell? w _ hw113_2)).trans hw113_2), ((HB.out.cell (World.block_lt_of_cell? w _ hw113_3)).trans hw113_3)⟩ (fun hHeld => ?_); refine with_tabW thermographref19_Diff.tab5 thermographref19_Diff.bits5 (fun HT_ HW_ => ?_)
          generalize wr.drew = w10 at HO_5 HB hx112_0 hx112_1 hx112_2 hx112_3 hx113_0 hx113_1 hx113_2 hx113_3 hHeld ⊢
          refine pure_ (i := 0) (N := some 21) (v := ?_) (a' := ?_) #[true, false, false, false, false, false, false, false, false, false, false, false, false] rfl rfl (any_of HT_.out (by kernel_rfl)) (fun _ _ _ h => h) (Or.inl ⟨by rfl, ?_⟩) ?_ ?_
          rotate_left
          · intro w'
            go_simp
            with_reducible rfl
          rotate_left
          · simp only [Act.put, List.setIfInBounds_toArray, List.set_cons_zero, List.set_cons_succ, i64_w, i32_w]
            rfl
          refine pure_ (i := 1) (N := some 22) (v := ?_) (a' := ?_) #[true, true, false, false, false, false, false, false, false, false, false, false, false] rfl rfl (any_of HT_.out (by kernel_rfl)) (fun _ _ _ h => h) (Or.inl ⟨by rfl, ?_⟩) ?_ ?_
          rotate_left
          · intro w'
            go_simp
            with_reducible rfl
          rotate_left
          · simp only [Act.put, List.setIfInBounds_toArray, List.set_cons_zero, List.set_cons_succ, i64_w, i32_w]
            rfl
          refine pure_ (i := 2) (N := some 23) (v := ?_) (a' := ?_) #[true, true, true, false, false, false, false, false, false, false, false, false, false] rfl rfl (any_of HT_.out (by kernel_rfl)) (fun _ _ _ h => h) (Or.inl ⟨by rfl, ?_⟩) ?_ ?_
          rotate_left
          · intro w'
            go_simp
            with_reducible rfl
          rotate_left
          · simp only [Act.put, List.setIfInBounds_toArray, List.set_cons_zero, List.set_cons_succ, i64_w, i32_w]
            rfl
          refine pure_ (i := 3) (N := some 24) (v := ?_) (a' := ?_) #[true, true, true, true, false, false, false, false, false, false, false, false, false] rfl rfl (any_of HT_.out (by kernel_rfl)) (fun _ _ _ h => h) (Or.inl ⟨by rfl, ?_⟩) ?_ ?_
          rotate_left
          · intro w'
            go_simp
            with_reducible rfl
          rotate_left
          · simp only [Act.put, List.setIfInBounds_toArray, List.set_cons_zero, List.set_cons_succ, i64_w, i32_w]
            rfl
          refine pure_ (i := 5) (N := some 26) (v := ?_) (a' := ?_) #[true, true, true, true, false, true, false, false, false, false, false, false, false] rfl rfl (any_of HT_.out (by kernel_rfl)) (fun _ _ _ h => h) (Or.inl ⟨by rfl, ?_⟩) ?_ ?_
          rotate_left
          · intro w'
            go_simp
            with_reducible rfl
          rotate_left
          · simp only [Act.put, List.setIfInBounds_toArray, List.set_cons_zero, List.set_cons_succ, i64_w, i32_w]
            rfl
          refine pure_ (i := 6) (N := some 27) (v := ?_) (a' := ?_) #[true, true, true, true, false, true, true, false, false, false, false, false, false] rfl rfl (any_of HT_.out (by kernel_rfl)) (fun _ _ _ h => h) (Or.inl ⟨by rfl, ?_⟩) ?_ ?_
          rotate_left
          · intro w'
            go_simp
            with_reducible rfl
          rotate_left
          · simp only [Act.put, List.setIfInBounds_toArray, List.set_cons_zero, List.set_cons_succ, i64_w, i32_w]
            rfl
          refine pure_ (i := 7) (N := some 28) (v := ?_) (a' := ?_) #[true, true, true, true, false, true, true, true, false, false, false, false, false] rfl rfl (any_of HT_.out (by kernel_rfl)) (fun _ _ _ h => h) (Or.inl ⟨by rfl, ?_⟩) ?_ ?_
          rotate_left
          · intro w'
            go_simp
            with_reducible rfl
          rotate_left
          · simp only [Act.put, List.setIfInBounds_toArray, List.set_cons_zero, List.set_cons_succ, i64_w, i32_w]
            rfl
          refine pure_ (i := 8) (N := some 29) (v := ?_) (a' := ?_) #[true, true, true, true, false, true, true, true, true, false, false, false, false] rfl rfl (any_of HT_.out (by kernel_rfl)) (fun _ _ _ h => h) (Or.inl ⟨by rfl, ?_⟩) ?_ ?_
          rotate_left
          · intro w'
            go_simp
            with_reducible rfl
          rotate_left
          · simp only [Act.put, List.setIfInBounds_toArray, List.set_cons_zero, List.set_cons_succ, i64_w, i32_w]
            rfl
          refine take_ (i := 4) (N := some 25) (v := ?_) (a' := ?_) #[true, true, true, true, true, true, true, true, true, false, false, false, false] rfl rfl (take_ofW HT_.out HW_.out (by kernel_rfl)) (fun _ _ _ h => h) (Or.inl ⟨by rfl, ?_⟩) hHeld ?_ ?_
          rotate_left
          · rintro w' ⟨s0, s1, s2, s3, s4, s5, s6, s7⟩
            go_simp
            with_reducible rfl
          rotate_left
          · simp only [Act.put, List.setIfInBounds_toArray, List.set_cons_zero, List.set_cons_succ, i64_w, i32_w]
            rfl
          refine take_ (i := 9) (N := some 30) (v := ?_) (a' := ?_) #[true, true, true, true, true, true, true, true, true, true, false, false, false] rfl rfl (take_ofW HT_.out HW_.out (by kernel_rfl)) (fun _ _ _ h => h) (Or.inl ⟨by rfl, ?_⟩) hHeld ?_ ?_
          rotate_left
          · rintro w' ⟨s0, s1, s2, s3, s4, s5, s6, s7⟩
            go_simp
            with_reducible rfl
          rotate_left
          · simp only [Act.put, List.setIfInBounds_toArray, List.set_cons_zero, List.set_cons_succ, i64_w, i32_w]
            rfl
          refine pure_ (i := 10) (N := some 31) (v := ?_) (a' := ?_) #[true, true, true, true, true, true, true, true, true, true, true, false, false] rfl rfl (any_of HT_.out (by kernel_rfl)) (fun _ _ _ h => h) (Or.inl ⟨by rfl, ?_⟩) ?_ ?_
          rotate_left
          · intro w'
            go_simp
            with_reducible rfl
          rotate_left
          · simp only [Act.put, List.setIfInBounds_toArray, List.set_cons_zero, List.set_cons_succ, i64_w, i32_w]
            rfl
          refine one_ (i := 11) (N := some 7) #[true, true, true, true, true, true, true, true, true, true, true, true, false] rfl rfl (one_of HT_.out (by kernel_rfl)) (by decide) (fun K hK => ?_)
          refine box_step ?hg (N := 7) ?hd (cs := #[.string (⟨#[]⟩ : ByteArray), .int .i64 0]) (t := 38) ?hr ?_; (case hd => rfl); (case hg => rfl); (case hr => first | (go_simp; done) | (go_simp; rfl))
          intro gb114 hg w11 hbox hb
          have n0_ := Aside0.mk (Kd.R_below (Kd.R_elderB (by (with_reducible repeat (first | apply Kd.R_alloc | apply Kd.R_drewN | apply Kd.R_drew)); exact HO_5.out) gb114 (Nat.le_of_eq hg.symm)) hb)
          have n1_ := Aside0.mk (below_step (by repeat (first | (with_reducible first | exact HB.out | apply below_alloc | apply pw_below_drewN | apply below_drew1) | exact HB.out)) hb)
          have n2_ := Aside0.mk (hbox)
          have n3_ := Aside0.mk ((by rw [hg]; exact (below_size (by repeat (first | (with_reducible first | exact HB.out | apply below_alloc | apply pw_below_drewN | apply below_drew1) | exact HB.out))) : w.heap.size ≤ gb114))
          have n4_ := Aside0.mk ((by rw [hg]; exact (below_size (by repeat (first | (with_reducible first | exact HB.out | apply below_alloc | apply pw_below_drewN | apply below_drew1) | exact HB.out))) : w.heap.size ≤ gb114))
          clear HO_5
          clear HB
          have HO_5 := n0_
          have HB := n1_
          have BK114 := n2_
          have GW114 := n3_
          have GE114 := n4_
          clear n0_ n1_ n2_ n3_ n4_
          clear hb hbox hg
          refine hK.out _ _ ⟨((HB.out.cell (World.block_lt_of_cell? w _ hw112_0)).trans hw112_0), ((HB.out.cell (World.block_lt_of_cell? w _ hw112_1)).trans hw112_1), ((HB.out.cell (World.block_lt_of_cell? w _ hw112_2)).trans hw112_2), ((HB.out.cell (World.block_lt_of_cell? w _ hw112_3)).trans hw112_3), ((HB.out.cell (World.block_lt_of_cell? w _ hw113_0)).trans hw113_0), ((HB.out.cell (World.block_lt_of_cell? w _ hw113_1)).trans hw113_1), ((HB.out.cell (World.block_lt_of_cell? w _ hw113_2)).trans hw113_2), ((HB.out.cell (World.block_lt_of_cell? w _ hw113_3)).trans hw113_3)⟩ (fun hHeld => ?_)
          clear hK K
          refine norm_ (a' := ?_) ?_ ?_
          rotate_left
          · show Act.put _ (some 7) _ = _
            simp only [Act.put, List.setIfInBounds_toArray, List.set_cons_zero, List.set_cons_succ, i64_w, i32_w]
            rfl
          refine one_ (i := 12) (N := none) #[true, true, true, true, true, true, true, true, true, true, true, true, true] rfl rfl (one_of HT_.out (by kernel_rfl)) (by decide) (fun K hK => ?_)
          have hs12 : w11.cell? ⟨gb114, 0, none⟩ = some (.string (⟨#[]⟩ : ByteArray)) := (blk_cell BK114.out 0).trans rfl
          have hfs12 := blk_frozen BK114.out 0
          have hs13 : w11.cell? ⟨gb114, 1, none⟩ = some (.int .i64 0) := (blk_cell BK114.out 1).trans rfl
          have hfs13 := blk_frozen BK114.out 1
          refine skip_ (w1 := ?_) (by rfl) rfl ?_ ?_
          rotate_left
          · go_simp
            rfl
          refine hK.out _ _ ⟨((cell_far (p := ⟨gb114, _, none⟩) (by first | exact Nat.ne_of_lt (Nat.lt_of_lt_of_le (by have := World.block_lt_of_cell? _ _ hw112_0; first | rwa [add_block] at this | exact this) GW114.out) | (rw [add_block]; exact Nat.ne_of_lt (Nat.lt_of_lt_of_le (by have := World.block_lt_of_cell? _ _ hw112_0; first | rwa [add_block] at this | exact this) GW114.out)) | (show (Addr.add _ _).block ≠ _; rw [add_block]; exact Nat.ne_of_lt (Nat.lt_of_lt_of_le (by have := World.block_lt_of_cell? _ _ hw112_0; first | rwa [add_block] at this | exact this) GW114.out)) | (dsimp only; exact Nat.ne_of_lt (Nat.lt_of_lt_of_le (by have := World.block_lt_of_cell? _ _ hw112_0; first | rwa [add_block] at this | exact this) GW114.out))) _).trans (((cell_far (p := ⟨gb114, _, none⟩) (by first | exact Nat.ne_of_lt (Nat.lt_of_lt_of_le (by have := World.block_lt_of_cell? _ _ hw112_0; first | rwa [add_block] at this | exact this) GW114.out) | (rw [add_block]; exact Nat.ne_of_lt (Nat.lt_of_lt_of_le (by have := World.block_lt_of_cell? _ _ hw112_0; first | rwa [add_block] at this | exact this) GW114.out)) | (show (Addr.add _ _).block ≠ _; rw [add_block]; exact Nat.ne_of_lt (Nat.lt_of_lt_of_le (by have := World.block_lt_of_cell? _ _ hw112_0; first | rwa [add_block] at this | exact this) GW114.out)) | (dsimp only; exact Nat.ne_of_lt (Nat.lt_of_lt_of_le (by have := World.block_lt_of_cell? _ _ hw112_0; first | rwa [add_block] at this | exact this) GW114.out))) _).trans (hHeld.1)))), ((cell_far (p := ⟨gb114, _, none⟩) (by first | exact Nat.ne_of_lt (Nat.lt_of_lt_of_le (by have := World.block_lt_of_cell? _ _ hw112_1; first | rwa [add_block] at this | exact this) GW114.out) | (rw [add_block]; exact Nat.ne_of_lt (Nat.lt_of_lt_of_le (by have := World.block_lt_of_cell? _ _ hw112_1; first | rwa [add_block] at this | exact this) GW114.out)) | (show (Addr.add _ _).block ≠ _; rw [add_block]; exact Nat.ne_of_lt (Nat.lt_of_lt_of_le (by have := World.block_lt_of_cell? _ _ hw112_1; first | rwa [add_block] at this | exact this) GW114.out)) | (dsimp only; exact Nat.ne_of_lt (Nat.lt_of_lt_of_le (by have := World.block_lt_of_cell? _ _ hw112_1; first | rwa [add_block] at this | exact this) GW114.out))) _).trans (((cell_far (p := ⟨gb114, _, none⟩) (by first | exact Nat.ne_of_lt (Nat.lt_of_lt_of_le (by have := World.block_lt_of_cell? _ _ hw112_1; first | rwa [add_block] at this | exact this) GW114.out) | (rw [add_block]; exact Nat.ne_of_lt (Nat.lt_of_lt_of_le (by have := World.block_lt_of_cell? _ _ hw112_1; first | rwa [add_block] at this | exact this) GW114.out)) | (show (Addr.add _ _).block ≠ _; rw [add_block]; exact Nat.ne_of_lt (Nat.lt_of_lt_of_le (by have := World.block_lt_of_cell? _ _ hw112_1; first | rwa [add_block] at this | exact this) GW114.out)) | (dsimp only; exact Nat.ne_of_lt (Nat.lt_of_lt_of_le (by have := World.block_lt_of_cell? _ _ hw112_1; first | rwa [add_block] at this | exact this) GW114.out))) _).trans (hHeld.2.1)))), ((cell_far (p := ⟨gb114, _, none⟩) (by first | exact Nat.ne_of_lt (Nat.lt_of_lt_of_le (by have := World.block_lt_of_cell? _ _ hw112_2; first | rwa [add_block] at this | exact this) GW114.out) | (rw [add_block]; exact Nat.ne_of_lt (Nat.lt_of_lt_of_le (by have := World.block_lt_of_cell? _ _ hw112_2; first | rwa [add_block] at this | exact this) GW114.out)) | (show (Addr.add _ _).block ≠ _; rw [add_block]; exact Nat.ne_of_lt (Nat.lt_of_lt_of_le (by have := World.block_lt_of_cell? _ _ hw112_2; first | rwa [add_block] at this | exact this) GW114.out)) | (dsimp only; exact Nat.ne_of_lt (Nat.lt_of_lt_of_le (by have := World.block_lt_of_cell? _ _ hw112_2; first | rwa [add_block] at this | exact this) GW114.out))) _).trans (((cell_far (p := ⟨gb114, _, none⟩) (by first | exact Nat.ne_of_lt (Nat.lt_of_lt_of_le (by have := World.block_lt_of_cell? _ _ hw112_2; first | rwa [add_block] at this | exact this) GW114.out) | (rw [add_block]; exact Nat.ne_of_lt (Nat.lt_of_lt_of_le (by have := World.block_lt_of_cell? _ _ hw112_2; first | rwa [add_block] at this | exact this) GW114.out)) | (show (Addr.add _ _).block ≠ _; rw [add_block]; exact Nat.ne_of_lt (Nat.lt_of_lt_of_le (by have := World.block_lt_of_cell? _ _ hw112_2; first | rwa [add_block] at this | exact this) GW114.out)) | (dsimp only; exact Nat.ne_of_lt (Nat.lt_of_lt_of_le (by have := World.block_lt_of_cell? _ _ hw112_2; first | rwa [add_block] at this | exact this) GW114.out))) _).trans (hHeld.2.2.1)))), ((cell_far (p := ⟨gb114, _, none⟩) (by first | exact Nat.ne_of_lt (Nat.lt_of_lt_of_le (by have := World.block_lt_of_cell? _ _ hw112_3; first | rwa [add_block] at this | exact this) GW114.out) | (rw [add_block]; exact Nat.ne_of_lt (Nat.lt_of_lt_of_le (by have := World.block_lt_of_cell? _ _ hw112_3; first | rwa [add_block] at this | exact this) GW114.out)) | (show (Addr.add _ _).block ≠ _; rw [add_block]; exact Nat.ne_of_lt (Nat.lt_of_lt_of_le (by have := World.block_lt_of_cell? _ _ hw112_3; first | rwa [add_block] at this | exact this) GW114.out)) | (dsimp only; exact Nat.ne_of_lt (Nat.lt_of_lt_of_le (by have := World.block_lt_of_cell? _ _ hw112_3; first | rwa [add_block] at this | exact this) GW114.out))) _).trans (((cell_far (p := ⟨gb114, _, none⟩) (by first | exact Nat.ne_of_lt (Nat.lt_of_lt_of_le (by have := World.block_lt_of_cell? _ _ hw112_3; first | rwa [add_block] at this | exact this) GW114.out) | (rw [add_block]; exact Nat.ne_of_lt (Nat.lt_of_lt_of_le (by have := World.block_lt_of_cell? _ _ hw112_3; first | rwa [add_block] at this | exact this) GW114.out)) | (show (Addr.add _ _).block ≠ _; rw [add_block]; exact Nat.ne_of_lt (Nat.lt_of_lt_of_le (by have := World.block_lt_of_cell? _ _ hw112_3; first | rwa [add_block] at this | exact this) GW114.out)) | (dsimp only; exact Nat.ne_of_lt (Nat.lt_of_lt_of_le (by have := World.block_lt_of_cell? _ _ hw112_3; first | rwa [add_block] at this | exact this) GW114.out))) _).trans (hHeld.2.2.2.1)))), ((cell_far (p := ⟨gb114, _, none⟩) (by first | exact Nat.ne_of_lt (Nat.lt_of_lt_of_le (by have := World.block_lt_of_cell? _ _ hw113_0; first | rwa [add_block] at this | exact this) GW114.out) | (rw [add_block]; exact Nat.ne_of_lt (Nat.lt_of_lt_of_le (by have := World.block_lt_of_cell? _ _ hw113_0; first | rwa [add_block] at this | exact this) GW114.out)) | (show (Addr.add _ _).block ≠ _; rw [add_block]; exact Nat.ne_of_lt (Nat.lt_of_lt_of_le (by have := World.block_lt_of_cell? _ _ hw113_0; first | rwa [add_block] at this | exact this) GW114.out)) | (dsimp only; exact Nat.ne_of_lt (Nat.lt_of_lt_of_le (by have := World.block_lt_of_cell? _ _ hw113_0; first | rwa [add_block] at this | exact this) GW114.out))) _).trans (((cell_far (p := ⟨gb114, _, none⟩) (by first | exact Nat.ne_of_lt (Nat.lt_of_lt_of_le (by have := World.block_lt_of_cell? _ _ hw113_0; first | rwa [add_block] at this | exact this) GW114.out) | (rw [add_block]; exact Nat.ne_of_lt (Nat.lt_of_lt_of_le (by have := World.block_lt_of_cell? _ _ hw113_0; first | rwa [add_block] at this | exact this) GW114.out)) | (show (Addr.add _ _).block ≠ _; rw [add_block]; exact Nat.ne_of_lt (Nat.lt_of_lt_of_le (by have := World.block_lt_of_cell? _ _ hw113_0; first | rwa [add_block] at this | exact this) GW114.out)) | (dsimp only; exact Nat.ne_of_lt (Nat.lt_of_lt_of_le (by have := World.block_lt_of_cell? _ _ hw113_0; first | rwa [add_block] at this | exact this) GW114.out))) _).trans (hHeld.2.2.2.2.1)))), ((cell_far (p := ⟨gb114, _, none⟩) (by first | exact Nat.ne_of_lt (Nat.lt_of_lt_of_le (by have := World.block_lt_of_cell? _ _ hw113_1; first | rwa [add_block] at this | exact this) GW114.out) | (rw [add_block]; exact Nat.ne_of_lt (Nat.lt_of_lt_of_le (by have := World.block_lt_of_cell? _ _ hw113_1; first | rwa [add_block] at this | exact this) GW114.out)) | (show (Addr.add _ _).block ≠ _; rw [add_block]; exact Nat.ne_of_lt (Nat.lt_of_lt_of_le (by have := World.block_lt_of_cell? _ _ hw113_1; first | rwa [add_block] at this | exact this) GW114.out)) | (dsimp only; exact Nat.ne_of_lt (Nat.lt_of_lt_of_le (by have := World.block_lt_of_cell? _ _ hw113_1; first | rwa [add_block] at this | exact this) GW114.out))) _).trans (((cell_far (p := ⟨gb114, _, none⟩) (by first | exact Nat.ne_of_lt (Nat.lt_of_lt_of_le (by have := World.block_lt_of_cell? _ _ hw113_1; first | rwa [add_block] at this | exact this) GW114.out) | (rw [add_block]; exact Nat.ne_of_lt (Nat.lt_of_lt_of_le (by have := World.block_lt_of_cell? _ _ hw113_1; first | rwa [add_block] at this | exact this) GW114.out)) | (show (Addr.add _ _).block ≠ _; rw [add_block]; exact Nat.ne_of_lt (Nat.lt_of_lt_of_le (by have := World.block_lt_of_cell? _ _ hw113_1; first | rwa [add_block] at this | exact this) GW114.out)) | (dsimp only; exact Nat.ne_of_lt (Nat.lt_of_lt_of_le (by have := World.block_lt_of_cell? _ _ hw113_1; first | rwa [add_block] at this | exact this) GW114.out))) _).trans (hHeld.2.2.2.2.2.1)))), ((cell_far (p := ⟨gb114, _, none⟩) (by first | exact Nat.ne_of_lt (Nat.lt_of_lt_of_le (by have := World.block_lt_of_cell? _ _ hw113_2; first | rwa [add_block] at this | exact this) GW114.out) | (rw [add_block]; exact Nat.ne_of_lt (Nat.lt_of_lt_of_le (by have := World.block_lt_of_cell? _ _ hw113_2; first | rwa [add_block] at this | exact this) GW114.out)) | (show (Addr.add _ _).block ≠ _; rw [add_block]; exact Nat.ne_of_lt (Nat.lt_of_lt_of_le (by have := World.block_lt_of_cell? _ _ hw113_2; first | rwa [add_block] at this | exact this) GW114.out)) | (dsimp only; exact Nat.ne_of_lt (Nat.lt_of_lt_of_le (by have := World.block_lt_of_cell? _ _ hw113_2; first | rwa [add_block] at this | exact this) GW114.out))) _).trans (((cell_far (p := ⟨gb114, _, none⟩) (by first | exact Nat.ne_of_lt (Nat.lt_of_lt_of_le (by have := World.block_lt_of_cell? _ _ hw113_2; first | rwa [add_block] at this | exact this) GW114.out) | (rw [add_block]; exact Nat.ne_of_lt (Nat.lt_of_lt_of_le (by have := World.block_lt_of_cell? _ _ hw113_2; first | rwa [add_block] at this | exact this) GW114.out)) | (show (Addr.add _ _).block ≠ _; rw [add_block]; exact Nat.ne_of_lt (Nat.lt_of_lt_of_le (by have := World.block_lt_of_cell? _ _ hw113_2; first | rwa [add_block] at this | exact this) GW114.out)) | (dsimp only; exact Nat.ne_of_lt (Nat.lt_of_lt_of_le (by have := World.block_lt_of_cell? _ _ hw113_2; first | rwa [add_block] at this | exact this) GW114.out))) _).trans (hHeld.2.2.2.2.2.2.1)))), ((cell_far (p := ⟨gb114, _, none⟩) (by first | exact Nat.ne_of_lt (Nat.lt_of_lt_of_le (by have := World.block_lt_of_cell? _ _ hw113_3; first | rwa [add_block] at this | exact this) GW114.out) | (rw [add_block]; exact Nat.ne_of_lt (Nat.lt_of_lt_of_le (by have := World.block_lt_of_cell? _ _ hw113_3; first | rwa [add_block] at this | exact this) GW114.out)) | (show (Addr.add _ _).block ≠ _; rw [add_block]; exact Nat.ne_of_lt (Nat.lt_of_lt_of_le (by have := World.block_lt_of_cell? _ _ hw113_3; first | rwa [add_block] at this | exact this) GW114.out)) | (dsimp only; exact Nat.ne_of_lt (Nat.lt_of_lt_of_le (by have := World.block_lt_of_cell? _ _ hw113_3; first | rwa [add_block] at this | exact this) GW114.out))) _).trans (((cell_far (p := ⟨gb114, _, none⟩) (by first | exact Nat.ne_of_lt (Nat.lt_of_lt_of_le (by have := World.block_lt_of_cell? _ _ hw113_3; first | rwa [add_block] at this | exact this) GW114.out) | (rw [add_block]; exact Nat.ne_of_lt (Nat.lt_of_lt_of_le (by have := World.block_lt_of_cell? _ _ hw113_3; first | rwa [add_block] at this | exact this) GW114.out)) | (show (Addr.add _ _).block ≠ _; rw [add_block]; exact Nat.ne_of_lt (Nat.lt_of_lt_of_le (by have := World.block_lt_of_cell? _ _ hw113_3; first | rwa [add_block] at this | exact this) GW114.out)) | (dsimp only; exact Nat.ne_of_lt (Nat.lt_of_lt_of_le (by have := World.block_lt_of_cell? _ _ hw113_3; first | rwa [add_block] at this | exact this) GW114.out))) _).trans (hHeld.2.2.2.2.2.2.2))))⟩ (fun hHeld => ?_)
          clear hK K
          refine done_ (done_of HT_.out (by kernel_rfl)) ?_
          have hcz14_0 : w11.cell? ⟨gb114, 0, none⟩ = some (.string (⟨#[]⟩ : ByteArray)) := (blk_cell BK114.out 0).trans rfl
          have hcz14_1 : w11.cell? ⟨gb114, 1, none⟩ = some (.int .i64 0) := (blk_cell BK114.out 1).trans rfl
          have hfz14_0 := blk_frozen BK114.out 0
          have hfz14_1 := blk_frozen BK114.out 1
          go_upto_region 8 with (first | ((with_reducible refine gate_callee (f := 18) rfl ?_); refine goesL_ (some 35) rfl rfl Try.func18 (by kernel_rfl) rfl #[.slice (some ad112) l1.length c1, .agg #[.string ((rd_T56 l1 x6_1).f0), .int .i64 ((rd_T56 l1 x6_1).f1)]] rfl (by (try simp only [List.map_toArray, List.map_cons, List.map_nil]); first | done | rfl | (simp only [List.length_drop, List.length_take]; rfl)) ?_; (with_reducible refine (thermographref19_first.calls k1 _ _ l1 ((rd_T56 l1 x6_1).f0) ((rd_T56 l1 x6_1).f1) t115 t116 t117 t118 t119 _ ?side1 ?side2 A7.out).mono ?_); (case side1 => exact Kd.C_below HR1.out (by repeat (first | (with_reducible first | exact HB.out | apply below_alloc | apply pw_below_drewN | apply below_drew1 | refine below_set ?_ GE114.out) | exact HB.out))); (case side2 => exact HC1.out); rintro e w15 ⟨rfl, hb⟩; refine ⟨_, rfl, ?_⟩; have n0_ := Aside0.mk (Kd.R_below (by (with_reducible repeat (first | apply Kd.R_alloc | apply Kd.R_drewN | apply Kd.R_drew)); exact (Kd.R_mono (Kd.R_far (p := ⟨gb114, 1, none⟩) (Kd.R_far (p := ⟨gb114, 0, none⟩) (Kd.R_mono HO_5.out (fun k_ hk => (⟨hk, hk.2⟩ : _ ∧ k_ ≠ gb114))) (fun _ hk => hk.2) (.string ((rd_T56 l1 x6_1).f0))) (fun _ hk => hk.2) (.int .i64 ((rd_T56 l1 x6_1).f1))) (fun _ h_ => h_.1))) hb); have n1_ := Aside0.mk (blk_below (g := gb114) (o := .cells #[.string ((rd_T56 l1 x6_1).f0), .int .i64 ((rd_T56 l1 x6_1).f1)] 38 (0, 0)) (by (with_reducible repeat (first | refine blk_drewN ?_ _ | refine blk_drew ?_ | refine blk_alloc ?_ _)); refine blk_put (cs := #[.string ((rd_T56 l1 x6_1).f0), .int .i64 0]) ?_ 1 _ rfl; (with_reducible repeat (first | refine blk_drewN ?_ _ | refine blk_drew ?_ | refine blk_alloc ?_ _)); refine blk_put (cs := #[.string (⟨#[]⟩ : ByteArray), .int .i64 0]) ?_ 0 _ rfl; (with_reducible repeat (first | refine blk_drewN ?_ _ | refine blk_drew ?_ | refine blk_alloc ?_ _)); exact BK114.out) hb); have n2_ := Aside0.mk (below_step (by repeat (first | (with_reducible first | exact HB.out | apply below_alloc | apply pw_below_drewN | apply below_drew1 | refine below_set ?_ GE114.out) | exact HB.out)) hb); clear HO_5; clear BK114; clear HB; have HO_5 := n0_; have BK114 := n1_; have HB := n2_; clear n0_ n1_ n2_; (try clear hb); (try clear hb2); (try clear hk); (try clear hi)) | ((with_reducible refine gate_dst (N := 8) rfl ?_); refine box_event ?hg (N := 8) ?hd (cs := #[.string (⟨#[]⟩ : ByteArray), .int .i64 0, .int .i64 0, .int .u32 0]) (t := 56) ?hr ?_; (case hd => rfl); (case hg => rfl); (case hr => first | (go_simp; done) | (go_simp; rfl)); intro gb120 hg w16 hbox hb; have n0_ := Aside0.mk (Kd.R_below (by (with_reducible repeat (first | apply Kd.R_alloc | apply Kd.R_drewN | apply Kd.R_drew)); exact HO_5.out) hb); have n1_ := Aside0.mk (blk_below (g := gb114) (o := .cells #[.string ((rd_T56 l1 x6_1).f0), .int .i64 ((rd_T56 l1 x6_1).f1)] 38 (0, 0)) (by (with_reducible repeat (first | refine blk_drewN ?_ _ | refine blk_drew ?_ | refine blk_alloc ?_ _)); exact BK114.out) hb); have n2_ := Aside0.mk (below_step (by repeat (first | (with_reducible first | exact HB.out | apply below_alloc | apply pw_below_drewN | apply below_drew1 | refine below_set ?_ GE114.out) | exact HB.out)) hb); have n3_ := Aside0.mk (hbox); have n4_ := Aside0.mk ((by rw [hg]; exact (below_size (by repeat (first | (with_reducible first | exact HB.out | apply below_alloc | apply pw_below_drewN | apply below_drew1 | refine below_set ?_ GE114.out) | exact HB.out))) : w.heap.size ≤ gb120)); have n5_ := Aside0.mk ((by rw [hg]; exact (below_size (by repeat (first | (with_reducible first | exact HB.out | apply below_alloc | apply pw_below_drewN | apply below_drew1 | refine below_set ?_ GE114.out) | exact HB.out))) : w.heap.size ≤ gb120)); have n6_ := Aside0.mk ((by rw [hg]; exact Nat.ne_of_lt (blk_lt (g := gb114) (o := .cells #[.string ((rd_T56 l1 x6_1).f0), .int .i64 ((rd_T56 l1 x6_1).f1)] 38 (0, 0)) (by (with_reducible repeat (first | refine blk_drewN ?_ _ | refine blk_drew ?_ | refine blk_alloc ?_ _)); exact BK114.out)) : gb114 ≠ gb120)); have n7_ := Aside0.mk ((by rw [hg]; exact Nat.ne_of_gt (blk_lt (g := gb114) (o := .cells #[.string ((rd_T56 l1 x6_1).f0), .int .i64 ((rd_T56 l1 x6_1).f1)] 38 (0, 0)) (by (with_reducible repeat (first | refine blk_drewN ?_ _ | refine blk_drew ?_ | refine blk_alloc ?_ _)); exact BK114.out)) : gb120 ≠ gb114)); clear HO_5; clear BK114; clear HB; have HO_5 := n0_; have BK114 := n1_; have HB := n2_; have BK120 := n3_; have GW120 := n4_; have GE120 := n5_; have NB114_120 := n6_; have NB120_114 := n7_; clear n0_ n1_ n2_ n3_ n4_ n5_ n6_ n7_; clear hb hbox hg; have hnb17 := NB120_114.out; have hnc17 := NB114_120.out; have hcz18_0 : w16.cell? ⟨gb120, 0, none⟩ = some (.string (⟨#[]⟩ : ByteArray)) := (blk_cell BK120.out 0).trans rfl; have hcz18_1 : w16.cell? ⟨gb120, 1, none⟩ = some (.int .i64 0) := (blk_cell BK120.out 1).trans rfl; have hcz18_2 : w16.cell? ⟨gb120, 2, none⟩ = some (.int .i64 0) := (blk_cell BK120.out 2).trans rfl; have hcz18_3 : w16.cell? ⟨gb120, 3, none⟩ = some (.int .u32 0) := (blk_cell BK120.out 3).trans rfl; have hfz18_0 := blk_frozen BK120.out 0; have hfz18_1 := blk_frozen BK120.out 1; have hfz18_2 := blk_frozen BK120.out 2; have hfz18_3 := blk_frozen BK120.out 3; have hcz19_0 : w16.cell? ⟨gb114, 0, none⟩ = some (.string ((rd_T56 l1 x6_1).f0)) := (blk_cell BK114.out 0).trans rfl; have hcz19_1 : w16.cell? ⟨gb114, 1, none⟩ = some (.int .i64 ((rd_T56 l1 x6_1).f1)) := (blk_cell BK114.out 1).trans rfl; have hfz19_0 := blk_frozen BK114.out 0; have hfz19_1 := blk_frozen BK114.out 1) | ((with_reducible refine gate_callee (f := 18) rfl ?_); refine goesL_ (some 41) rfl rfl Try.func18 (by kernel_rfl) rfl #[.slice A0 l0.length c0, .agg #[.string ((rd_T56 l1 x6_1).f0), .int .i64 ((rd_T56 l1 x6_1).f1)]] rfl (by (try simp only [List.map_toArray, List.map_cons, List.map_nil]); first | done | rfl | (simp only [List.length_drop, List.length_take]; rfl)) ?_; (with_reducible refine (thermographref19_first.calls k1 _ _ l0 ((rd_T56 l1 x6_1).f0) ((rd_T56 l1 x6_1).f1) t121 t122 t123 t124 t125 _ ?side1 ?side2 A8.out).mono ?_); (case side1 => exact Kd.C_below HR0.out (by repeat (first | (with_reducible first | exact HB.out | apply below_alloc | apply pw_below_drewN | apply below_drew1 | refine below_set ?_ GE114.out | refine below_set ?_ GE120.out) | exact HB.out))); (case side2 => exact HC0.out); rintro e w20 ⟨rfl, hb⟩; refine ⟨_, rfl, ?_⟩; have n0_ := Aside0.mk (Kd.R_below (by (with_reducible repeat (first | apply Kd.R_alloc | apply Kd.R_drewN | apply Kd.R_drew)); exact (Kd.R_mono (Kd.R_far (p := ⟨gb120, 3, none⟩) (Kd.R_far (p := ⟨gb120, 2, none⟩) (Kd.R_far (p := ⟨gb120, 1, none⟩) (Kd.R_far (p := ⟨gb120, 0, none⟩) (Kd.R_types HO_5.out BK120.out (by decide)) (fun _ hk => hk.2) (.string t115)) (fun _ hk => hk.2) (.int .i64 t116)) (fun _ hk => hk.2) (.int .i64 t117)) (fun _ hk => hk.2) (.int .u32 t118)) (fun _ h_ => h_.1))) hb); have n1_ := Aside0.mk (blk_below (g := gb114) (o := .cells #[.string ((rd_T56 l1 x6_1).f0), .int .i64 ((rd_T56 l1 x6_1).f1)] 38 (0, 0)) (by (with_reducible repeat (first | refine blk_drewN ?_ _ | refine blk_drew ?_ | refine blk_alloc ?_ _)); refine blk_far ?_ NB114_120.out _; (with_reducible repeat (first | refine blk_drewN ?_ _ | refine blk_drew ?_ | refine blk_alloc ?_ _)); refine blk_far ?_ NB114_120.out _; (with_reducible repeat (first | refine blk_drewN ?_ _ | refine blk_drew ?_ | refine blk_alloc ?_ _)); refine blk_far ?_ NB114_120.out _; (with_reducible repeat (first | refine blk_drewN ?_ _ | refine blk_drew ?_ | refine blk_alloc ?_ _)); refine blk_far ?_ NB114_120.out _; (with_reducible repeat (first | refine blk_drewN ?_ _ | refine blk_drew ?_ | refine blk_alloc ?_ _)); exact BK114.out) hb); have n2_ := Aside0.mk (blk_below (g := gb120) (o := .cells #[.string t115, .int .i64 t116, .int .i64 t117, .int .u32 t118] 56 (0, 0)) (by (with_reducible repeat (first | refine blk_drewN ?_ _ | refine blk_drew ?_ | refine blk_alloc ?_ _)); refine blk_put (cs := #[.string t115, .int .i64 t116, .int .i64 t117, .int .u32 0]) ?_ 3 _ rfl; (with_reducible repeat (first | refine blk_drewN ?_ _ | refine blk_drew ?_ | refine blk_alloc ?_ _)); refine blk_put (cs := #[.string t115, .int .i64 t116, .int .i64 0, .int .u32 0]) ?_ 2 _ rfl; (with_reducible repeat (first | refine blk_drewN ?_ _ | refine blk_drew ?_ | refine blk_alloc ?_ _)); refine blk_put (cs := #[.string t115, .int .i64 0, .int .i64 0, .int .u32 0]) ?_ 1 _ rfl; (with_reducible repeat (first | refine blk_drewN ?_ _ | refine blk_drew ?_ | refine blk_alloc ?_ _)); refine blk_put (cs := #[.string (⟨#[]⟩ : ByteArray), .int .i64 0, .int .i64 0, .int .u32 0]) ?_ 0 _ rfl; (with_reducible repeat (first | refine blk_drewN ?_ _ | refine blk_drew ?_ | refine blk_alloc ?_ _)); exact BK120.out) hb); have n3_ := Aside0.mk (below_step (by repeat (first | (with_reducible first | exact HB.out | apply below_alloc | apply pw_below_drewN | apply below_drew1 | refine below_set ?_ GE114.out | refine below_set ?_ GE120.out) | exact HB.out)) hb); clear HO_5; clear BK114; clear BK120; clear HB; have HO_5 := n0_; have BK114 := n1_; have BK120 := n2_; have HB := n3_; clear n0_ n1_ n2_ n3_; (try clear hb); (try clear hb2); (try clear hk); (try clear hi)) | ((with_reducible refine gate_dst (N := 10) rfl ?_); refine box_event ?hg (N := 10) ?hd (cs := #[.string (⟨#[]⟩ : ByteArray), .int .i64 0, .int .i64 0, .int .u32 0]) (t := 56) ?hr ?_; (case hd => rfl); (case hg => rfl); (case hr => first | (go_simp; done) | (go_simp; rfl)); intro gb126 hg w21 hbox hb; have n0_ := Aside0.mk (Kd.R_below (by (with_reducible repeat (first | apply Kd.R_alloc | apply Kd.R_drewN | apply Kd.R_drew)); exact HO_5.out) hb); have n1_ := Aside0.mk (blk_below (g := gb114) (o := .cells #[.string ((rd_T56 l1 x6_1).f0), .int .i64 ((rd_T56 l1 x6_1).f1)] 38 (0, 0)) (by (with_reducible repeat (first | refine blk_drewN ?_ _ | refine blk_drew ?_ | refine blk_alloc ?_ _)); exact BK114.out) hb); have n2_ := Aside0.mk (blk_below (g := gb120) (o := .cells #[.string t115, .int .i64 t116, .int .i64 t117, .int .u32 t118] 56 (0, 0)) (by (with_reducible repeat (first | refine blk_drewN ?_ _ | refine blk_drew ?_ | refine blk_alloc ?_ _)); exact BK120.out) hb); have n3_ := Aside0.mk (below_step (by repeat (first | (with_reducible first | exact HB.out | apply below_alloc | apply pw_below_drewN | apply below_drew1 | refine below_set ?_ GE114.out | refine below_set ?_ GE120.out) | exact HB.out)) hb); have n4_ := Aside0.mk (hbox); have n5_ := Aside0.mk ((by rw [hg]; exact (below_size (by repeat (first | (with_reducible first | exact HB.out | apply below_alloc | apply pw_below_drewN | apply below_drew1 | refine below_set ?_ GE114.out | refine below_set ?_ GE120.out) | exact HB.out))) : w.heap.size ≤ gb126)); have n6_ := Aside0.mk ((by rw [hg]; exact (below_size (by repeat (first | (with_reducible first | exact HB.out | apply below_alloc | apply pw_below_drewN | apply below_drew1 | refine below_set ?_ GE114.out | refine below_set ?_ GE120.out) | exact HB.out))) : w.heap.size ≤ gb126)); have n7_ := Aside0.mk ((by rw [hg]; exact Nat.ne_of_lt (blk_lt (g := gb114) (o := .cells #[.string ((rd_T56 l1 x6_1).f0), .int .i64 ((rd_T56 l1 x6_1).f1)] 38 (0, 0)) (by (with_reducible repeat (first | refine blk_drewN ?_ _ | refine blk_drew ?_ | refine blk_alloc ?_ _)); exact BK114.out)) : gb114 ≠ gb126)); have n8_ := Aside0.mk ((by rw [hg]; exact Nat.ne_of_gt (blk_lt (g := gb114) (o := .cells #[.string ((rd_T56 l1 x6_1).f0), .int .i64 ((rd_T56 l1 x6_1).f1)] 38 (0, 0)) (by (with_reducible repeat (first | refine blk_drewN ?_ _ | refine blk_drew ?_ | refine blk_alloc ?_ _)); exact BK114.out)) : gb126 ≠ gb114)); have n9_ := Aside0.mk ((by rw [hg]; exact Nat.ne_of_lt (blk_lt (g := gb120) (o := .cells #[.string t115, .int .i64 t116, .int .i64 t117, .int .u32 t118] 56 (0, 0)) (by (with_reducible repeat (first | refine blk_drewN ?_ _ | refine blk_drew ?_ | refine blk_alloc ?_ _)); exact BK120.out)) : gb120 ≠ gb126)); have n10_ := Aside0.mk ((by rw [hg]; exact Nat.ne_of_gt (blk_lt (g := gb120) (o := .cells #[.string t115, .int .i64 t116, .int .i64 t117, .int .u32 t118] 56 (0, 0)) (by (with_reducible repeat (first | refine blk_drewN ?_ _ | refine blk_drew ?_ | refine blk_alloc ?_ _)); exact BK120.out)) : gb126 ≠ gb120)); clear HO_5; clear BK114; clear BK120; clear HB; have HO_5 := n0_; have BK114 := n1_; have BK120 := n2_; have HB := n3_; have BK126 := n4_; have GW126 := n5_; have GE126 := n6_; have NB114_126 := n7_; have NB126_114 := n8_; have NB120_126 := n9_; have NB126_120 := n10_; clear n0_ n1_ n2_ n3_ n4_ n5_ n6_ n7_ n8_ n9_ n10_; clear hb hbox hg; have hnb22 := NB126_114.out; have hnc22 := NB114_126.out; have hnb23 := NB126_120.out; have hnc23 := NB120_126.out; have hcz24_0 : w21.cell? ⟨gb126, 0, none⟩ = some (.string (⟨#[]⟩ : ByteArray)) := (blk_cell BK126.out 0).trans rfl; have hcz24_1 : w21.cell? ⟨gb126, 1, none⟩ = some (.int .i64 0) := (blk_cell BK126.out 1).trans rfl; have hcz24_2 : w21.cell? ⟨gb126, 2, none⟩ = some (.int .i64 0) := (blk_cell BK126.out 2).trans rfl; have hcz24_3 : w21.cell? ⟨gb126, 3, none⟩ = some (.int .u32 0) := (blk_cell BK126.out 3).trans rfl; have hfz24_0 := blk_frozen BK126.out 0; have hfz24_1 := blk_frozen BK126.out 1; have hfz24_2 := blk_frozen BK126.out 2; have hfz24_3 := blk_frozen BK126.out 3))
          (try simp only [Act.put, List.setIfInBounds_toArray, List.set_cons_zero, List.set_cons_succ])
          go_cut [58] (fun v58 wc => ∃ (kq : Nat) (x58_8 : Bool), v58 = .bool x58_8 ∧ Aside0 (thermographref19_Diff.j1 kq l0 l1 x5_1 x6_1 x58_8 ((rd_T56 l1 x6_1).f0) ((rd_T56 l1 x6_1).f1) = some r) ∧ Aside0 (kq ≤ k1) ∧ Aside0 (Kd.R k38 38 wc w.heap.size (fun k_ => k_ ≠ gb114) u5 x5_1) ∧ Aside0 (wc.heap[gb114]? = some (.cells #[.string ((rd_T56 l1 x6_1).f0), .int .i64 ((rd_T56 l1 x6_1).f1)] 38 (0, 0))) ∧ Aside0 (wc.heap[gb120]? = some (.cells #[.string t115, .int .i64 t116, .int .i64 t117, .int .u32 t118] 56 (0, 0))) ∧ Aside0 (wc.heap[gb126]? = some (.cells #[.string t121, .int .i64 t122, .int .i64 t123, .int .u32 t124] 56 (0, 0))) ∧ Aside0 (Below w.heap.size w wc))
          case first =>
            have H := HC9.out
            clear HC9
            by_cases c25 : t125 = true
            · subst c25
              have H1 : (if t117 = t123 then (thermographref19_Diff.j1 k1 l0 l1 x5_1 x6_1 (t118 == t124) ((rd_T56 l1 x6_1).f0) ((rd_T56 l1 x6_1).f1)) else (thermographref19_Diff.j1 k1 l0 l1 x5_1 x6_1 false ((rd_T56 l1 x6_1).f0) ((rd_T56 l1 x6_1).f1))) = some r := by rw [if_pos rfl] at H; exact H
              clear H
              have H := H1
              clear H1
              by_cases c26 : t117 = t123
              · rw [if_pos c26] at H
                have c26b0 : (t117 == t123) = true := beq_iff_eq.mpr c26
                have c26b1 : (t117 != t123) = false := bne_eq_false_iff_eq.mpr c26
                clear c26
                (first | rw [c26b0] | (simp only [i64_w, i32_w]; rw [c26b0]) | skip)
                have H' := Aside0.mk H
                clear H
                have hnb27 := NB120_114.out
                have hnc27 := NB114_120.out
                have hnb28 := NB120_126.out
                have hnc28 := NB126_120.out
                have hcz29_0 : w21.cell? ⟨gb120, 0, none⟩ = some (.string t115) := (blk_cell BK120.out 0).trans rfl
                have hcz29_1 : w21.cell? ⟨gb120, 1, none⟩ = some (.int .i64 t116) := (blk_cell BK120.out 1).trans rfl
                have hcz29_2 : w21.cell? ⟨gb120, 2, none⟩ = some (.int .i64 t117) := (blk_cell BK120.out 2).trans rfl
                have hcz29_3 : w21.cell? ⟨gb120, 3, none⟩ = some (.int .u32 t118) := (blk_cell BK120.out 3).trans rfl
                have hfz29_0 := blk_frozen BK120.out 0
                have hfz29_1 := blk_frozen BK120.out 1
                have hfz29_2 := blk_frozen BK120.out 2
                have hfz29_3 := blk_frozen BK120.out 3
                have hnb30 := NB126_114.out
                have hnc30 := NB114_126.out
                have hcz31_0 : w21.cell? ⟨gb126, 0, none⟩ = some (.string (⟨#[]⟩ : ByteArray)) := (blk_cell BK126.out 0).trans rfl
                have hcz31_1 : w21.cell? ⟨gb126, 1, none⟩ = some (.int .i64 0) := (blk_cell BK126.out 1).trans rfl
                have hcz31_2 : w21.cell? ⟨gb126, 2, none⟩ = some (.int .i64 0) := (blk_cell BK126.out 2).trans rfl
                have hcz31_3 : w21.cell? ⟨gb126, 3, none⟩ = some (.int .u32 0) := (blk_cell BK126.out 3).trans rfl
                have hfz31_0 := blk_frozen BK126.out 0
                have hfz31_1 := blk_frozen BK126.out 1
                have hfz31_2 := blk_frozen BK126.out 2
                have hfz31_3 := blk_frozen BK126.out 3
                go_wp2
                go_meet
                case rel => exact ⟨_, ((t118 == t124)), (by first | rfl | (simp; done) | (simp [*]; done)), H', ⟨by have := HK1.out; first | omega | exact Nat.le_refl _⟩, ⟨by (with_reducible repeat (first | apply Kd.R_alloc | apply Kd.R_drewN | apply Kd.R_drew)); exact Kd.R_mono (Kd.R_far (p := ⟨gb126, 3, none⟩) (Kd.R_far (p := ⟨gb126, 2, none⟩) (Kd.R_far (p := ⟨gb126, 1, none⟩) (Kd.R_far (p := ⟨gb126, 0, none⟩) (Kd.R_types HO_5.out BK126.out (by decide)) (fun _ hk => hk.2) (.string t121)) (fun _ hk => hk.2) (.int .i64 t122)) (fun _ hk => hk.2) (.int .i64 t123)) (fun _ hk => hk.2) (.int .u32 t124)) (fun _ hk => hk.1.2)⟩, ⟨by (with_reducible repeat (first | refine blk_drewN ?_ _ | refine blk_drew ?_ | refine blk_alloc ?_ _)); refine blk_far ?_ NB114_126.out _; (with_reducible repeat (first | refine blk_drewN ?_ _ | refine blk_drew ?_ | refine blk_alloc ?_ _)); refine blk_far ?_ NB114_126.out _; (with_reducible repeat (first | refine blk_drewN ?_ _ | refine blk_drew ?_ | refine blk_alloc ?_ _)); refine blk_far ?_ NB114_126.out _; (with_reducible repeat (first | refine blk_drewN ?_ _ | refine blk_drew ?_ | refine blk_alloc ?_ _)); refine blk_far ?_ NB114_126.out _; (with_reducible repeat (first | refine blk_drewN ?_ _ | refine blk_drew ?_ | refine blk_alloc ?_ _)); exact BK114.out⟩, ⟨by (with_reducible repeat (first | refine blk_drewN ?_ _ | refine blk_drew ?_ | refine blk_alloc ?_ _)); refine blk_far ?_ NB120_126.out _; (with_reducible repeat (first | refine blk_drewN ?_ _ | refine blk_drew ?_ | refine blk_alloc ?_ _)); refine blk_far ?_ NB120_126.out _; (with_reducible repeat (first | refine blk_drewN ?_ _ | refine blk_drew ?_ | refine blk_alloc ?_ _)); refine blk_far ?_ NB120_126.out _; (with_reducible repeat (first | refine blk_drewN ?_ _ | refine blk_drew ?_ | refine blk_alloc ?_ _)); refine blk_far ?_ NB120_126.out _; (with_reducible repeat (first | refine blk_drewN ?_ _ | refine blk_drew ?_ | refine blk_alloc ?_ _)); exact BK120.out⟩, ⟨by (with_reducible repeat (first | refine blk_drewN ?_ _ | refine blk_drew ?_ | refine blk_alloc ?_ _)); refine blk_put (cs := #[.string t121, .int .i64 t122, .int .i64 t123, .int .u32 0]) ?_ 3 _ rfl; (with_reducible repeat (first | refine blk_drewN ?_ _ | refine blk_drew ?_ | refine blk_alloc ?_ _)); refine blk_put (cs := #[.string t121, .int .i64 t122, .int .i64 0, .int .u32 0]) ?_ 2 _ rfl; (with_reducible repeat (first | refine blk_drewN ?_ _ | refine blk_drew ?_ | refine blk_alloc ?_ _)); refine blk_put (cs := #[.string t121, .int .i64 0, .int .i64 0, .int .u32 0]) ?_ 1 _ rfl; (with_reducible repeat (first | refine blk_drewN ?_ _ | refine blk_drew ?_ | refine blk_alloc ?_ _)); refine blk_put (cs := #[.string (⟨#[]⟩ : ByteArray), .int .i64 0, .int .i64 0, .int .u32 0]) ?_ 0 _ rfl; (with_reducible repeat (first | refine blk_drewN ?_ _ | refine blk_drew ?_ | refine blk_alloc ?_ _)); exact BK126.out⟩, ⟨by repeat (first | (with_reducible first | exact HB.out | apply below_alloc | apply pw_below_drewN | apply below_drew1 | refine below_set ?_ GE114.out | refine below_set ?_ GE120.out | refine below_set ?_ GE126.out) | exact HB.out)⟩⟩
              · rw [if_neg c26] at H
                have c26b0 : (t117 == t123) = false := beq_eq_false_iff_ne.mpr c26
                have c26b1 : (t117 != t123) = true := bne_iff_ne.mpr c26
                (first | rw [c26b0] | (simp only [i64_w, i32_w]; rw [c26b0]) | skip)
                have H' := Aside0.mk H
                clear H
                have hnb32 := NB120_114.out
                have hnc32 := NB114_120.out
                have hnb33 := NB120_126.out
                have hnc33 := NB126_120.out
                have hcz34_0 : w21.cell? ⟨gb120, 0, none⟩ = some (.string t115) := (blk_cell BK120.out 0).trans rfl
                have hcz34_1 : w21.cell? ⟨gb120, 1, none⟩ = some (.int .i64 t116) := (blk_cell BK120.out 1).trans rfl
                have hcz34_2 : w21.cell? ⟨gb120, 2, none⟩ = some (.int .i64 t117) := (blk_cell BK120.out 2).trans rfl
                have hcz34_3 : w21.cell? ⟨gb120, 3, none⟩ = some (.int .u32 t118) := (blk_cell BK120.out 3).trans rfl
                have hfz34_0 := blk_frozen BK120.out 0
                have hfz34_1 := blk_frozen BK120.out 1
                have hfz34_2 := blk_frozen BK120.out 2
                have hfz34_3 := blk_frozen BK120.out 3
                have hnb35 := NB126_114.out
                have hnc35 := NB114_126.out
                have hcz36_0 : w21.cell? ⟨gb126, 0, none⟩ = some (.string (⟨#[]⟩ : ByteArray)) := (blk_cell BK126.out 0).trans rfl
                have hcz36_1 : w21.cell? ⟨gb126, 1, none⟩ = some (.int .i64 0) := (blk_cell BK126.out 1).trans rfl
                have hcz36_2 : w21.cell? ⟨gb126, 2, none⟩ = some (.int .i64 0) := (blk_cell BK126.out 2).trans rfl
                have hcz36_3 : w21.cell? ⟨gb126, 3, none⟩ = some (.int .u32 0) := (blk_cell BK126.out 3).trans rfl
                have hfz36_0 := blk_frozen BK126.out 0
                have hfz36_1 := blk_frozen BK126.out 1
                have hfz36_2 := blk_frozen BK126.out 2
                have hfz36_3 := blk_frozen BK126.out 3
                go_wp2
                go_meet
                case rel => exact ⟨_, (false), (by first | rfl | (simp; done) | (simp [*]; done)), H', ⟨by have := HK1.out; first | omega | exact Nat.le_refl _⟩, ⟨by (with_reducible repeat (first | apply Kd.R_alloc | apply Kd.R_drewN | apply Kd.R_drew)); exact Kd.R_mono (Kd.R_far (p := ⟨gb126, 3, none⟩) (Kd.R_far (p := ⟨gb126, 2, none⟩) (Kd.R_far (p := ⟨gb126, 1, none⟩) (Kd.R_far (p := ⟨gb126, 0, none⟩) (Kd.R_types HO_5.out BK126.out (by decide)) (fun _ hk => hk.2) (.string t121)) (fun _ hk => hk.2) (.int .i64 t122)) (fun _ hk => hk.2) (.int .i64 t123)) (fun _ hk => hk.2) (.int .u32 t124)) (fun _ hk => hk.1.2)⟩, ⟨by (with_reducible repeat (first | refine blk_drewN ?_ _ | refine blk_drew ?_ | refine blk_alloc ?_ _)); refine blk_far ?_ NB114_126.out _; (with_reducible repeat (first | refine blk_drewN ?_ _ | refine blk_drew ?_ | refine blk_alloc ?_ _)); refine blk_far ?_ NB114_126.out _; (with_reducible repeat (first | refine blk_drewN ?_ _ | refine blk_drew ?_ | refine blk_alloc ?_ _)); refine blk_far ?_ NB114_126.out _; (with_reducible repeat (first | refine blk_drewN ?_ _ | refine blk_drew ?_ | refine blk_alloc ?_ _)); refine blk_far ?_ NB114_126.out _; (with_reducible repeat (first | refine blk_drewN ?_ _ | refine blk_drew ?_ | refine blk_alloc ?_ _)); exact BK114.out⟩, ⟨by (with_reducible repeat (first | refine blk_drewN ?_ _ | refine blk_drew ?_ | refine blk_alloc ?_ _)); refine blk_far ?_ NB120_126.out _; (with_reducible repeat (first | refine blk_drewN ?_ _ | refine blk_drew ?_ | refine blk_alloc ?_ _)); refine blk_far ?_ NB120_126.out _; (with_reducible repeat (first | refine blk_drewN ?_ _ | refine blk_drew ?_ | refine blk_alloc ?_ _)); refine blk_far ?_ NB120_126.out _; (with_reducible repeat (first | refine blk_drewN ?_ _ | refine blk_drew ?_ | refine blk_alloc ?_ _)); refine blk_far ?_ NB120_126.out _; (with_reducible repeat (first | refine blk_drewN ?_ _ | refine blk_drew ?_ | refine blk_alloc ?_ _)); exact BK120.out⟩, ⟨by (with_reducible repeat (first | refine blk_drewN ?_ _ | refine blk_drew ?_ | refine blk_alloc ?_ _)); refine blk_put (cs := #[.string t121, .int .i64 t122, .int .i64 t123, .int .u32 0]) ?_ 3 _ rfl; (with_reducible repeat (first | refine blk_drewN ?_ _ | refine blk_drew ?_ | refine blk_alloc ?_ _)); refine blk_put (cs := #[.string t121, .int .i64 t122, .int .i64 0, .int .u32 0]) ?_ 2 _ rfl; (with_reducible repeat (first | refine blk_drewN ?_ _ | refine blk_drew ?_ | refine blk_alloc ?_ _)); refine blk_put (cs := #[.string t121, .int .i64 0, .int .i64 0, .int .u32 0]) ?_ 1 _ rfl; (with_reducible repeat (first | refine blk_drewN ?_ _ | refine blk_drew ?_ | refine blk_alloc ?_ _)); refine blk_put (cs := #[.string (⟨#[]⟩ : ByteArray), .int .i64 0, .int .i64 0, .int .u32 0]) ?_ 0 _ rfl; (with_reducible repeat (first | refine blk_drewN ?_ _ | refine blk_drew ?_ | refine blk_alloc ?_ _)); exact BK126.out⟩, ⟨by repeat (first | (with_reducible first | exact HB.out | apply below_alloc | apply pw_below_drewN | apply below_drew1 | refine below_set ?_ GE114.out | refine below_set ?_ GE120.out | refine below_set ?_ GE126.out) | exact HB.out)⟩⟩
            · replace c25 := Bool.eq_false_iff.mpr c25
              subst c25
              have H1 : (thermographref19_Diff.j1 k1 l0 l1 x5_1 x6_1 false ((rd_T56 l1 x6_1).f0) ((rd_T56 l1 x6_1).f1)) = some r := by rw [if_neg (show ¬ (false = true) by decide)] at H; exact H
              clear H
              have H := H1
              clear H1
              have H' := Aside0.mk H
              clear H
              go_wp2
              go_meet
              case rel => exact ⟨_, (false), (by first | rfl | (simp; done) | (simp [*]; done)), H', ⟨by have := HK1.out; first | omega | exact Nat.le_refl _⟩, ⟨by (with_reducible repeat (first | apply Kd.R_alloc | apply Kd.R_drewN | apply Kd.R_drew)); exact Kd.R_mono (Kd.R_far (p := ⟨gb126, 3, none⟩) (Kd.R_far (p := ⟨gb126, 2, none⟩) (Kd.R_far (p := ⟨gb126, 1, none⟩) (Kd.R_far (p := ⟨gb126, 0, none⟩) (Kd.R_types HO_5.out BK126.out (by decide)) (fun _ hk => hk.2) (.string t121)) (fun _ hk => hk.2) (.int .i64 t122)) (fun _ hk => hk.2) (.int .i64 t123)) (fun _ hk => hk.2) (.int .u32 t124)) (fun _ hk => hk.1.2)⟩, ⟨by (with_reducible repeat (first | refine blk_drewN ?_ _ | refine blk_drew ?_ | refine blk_alloc ?_ _)); refine blk_far ?_ NB114_126.out _; (with_reducible repeat (first | refine blk_drewN ?_ _ | refine blk_drew ?_ | refine blk_alloc ?_ _)); refine blk_far ?_ NB114_126.out _; (with_reducible repeat (first | refine blk_drewN ?_ _ | refine blk_drew ?_ | refine blk_alloc ?_ _)); refine blk_far ?_ NB114_126.out _; (with_reducible repeat (first | refine blk_drewN ?_ _ | refine blk_drew ?_ | refine blk_alloc ?_ _)); refine blk_far ?_ NB114_126.out _; (with_reducible repeat (first | refine blk_drewN ?_ _ | refine blk_drew ?_ | refine blk_alloc ?_ _)); exact BK114.out⟩, ⟨by (with_reducible repeat (first | refine blk_drewN ?_ _ | refine blk_drew ?_ | refine blk_alloc ?_ _)); refine blk_far ?_ NB120_126.out _; (with_reducible repeat (first | refine blk_drewN ?_ _ | refine blk_drew ?_ | refine blk_alloc ?_ _)); refine blk_far ?_ NB120_126.out _; (with_reducible repeat (first | refine blk_drewN ?_ _ | refine blk_drew ?_ | refine blk_alloc ?_ _)); refine blk_far ?_ NB120_126.out _; (with_reducible repeat (first | refine blk_drewN ?_ _ | refine blk_drew ?_ | refine blk_alloc ?_ _)); refine blk_far ?_ NB120_126.out _; (with_reducible repeat (first | refine blk_drewN ?_ _ | refine blk_drew ?_ | refine blk_alloc ?_ _)); exact BK120.out⟩, ⟨by (with_reducible repeat (first | refine blk_drewN ?_ _ | refine blk_drew ?_ | refine blk_alloc ?_ _)); refine blk_put (cs := #[.string t121, .int .i64 t122, .int .i64 t123, .int .u32 0]) ?_ 3 _ rfl; (with_reducible repeat (first | refine blk_drewN ?_ _ | refine blk_drew ?_ | refine blk_alloc ?_ _)); refine blk_put (cs := #[.string t121, .int .i64 t122, .int .i64 0, .int .u32 0]) ?_ 2 _ rfl; (with_reducible repeat (first | refine blk_drewN ?_ _ | refine blk_drew ?_ | refine blk_alloc ?_ _)); refine blk_put (cs := #[.string t121, .int .i64 0, .int .i64 0, .int .u32 0]) ?_ 1 _ rfl; (with_reducible repeat (first | refine blk_drewN ?_ _ | refine blk_drew ?_ | refine blk_alloc ?_ _)); refine blk_put (cs := #[.string (⟨#[]⟩ : ByteArray), .int .i64 0, .int .i64 0, .int .u32 0]) ?_ 0 _ rfl; (with_reducible repeat (first | refine blk_drewN ?_ _ | refine blk_drew ?_ | refine blk_alloc ?_ _)); exact BK126.out⟩, ⟨by repeat (first | (with_reducible first | exact HB.out | apply below_alloc | apply pw_below_drewN | apply below_drew1 | refine below_set ?_ GE114.out | refine below_set ?_ GE120.out | refine below_set ?_ GE126.out) | exact HB.out)⟩⟩
          case rest =>
            clear HC9
            try clear c1
            try clear p1
            try clear q1
            try clear hx1
            try clear c2
            try clear p2
            try clear c3
            try clear c5
            try clear c5b0
            try clear c6
            try clear c6b0
            try clear c7
            try clear p11
            try clear q11
            try clear hx11
            try clear c17
            try clear c18
            try clear c22
            try clear c23
            try clear c25
            try clear c26
            try clear c26b0
            try clear c26b1
            try clear c27
            try clear c28
            try clear c30
            try clear c32
            try clear c33
            try clear c35
            try clear hcz14_0
            try clear hcz14_1
            try clear hcz18_0
            try clear hcz18_1
            try clear hcz18_2
            try clear hcz18_3
            try clear hcz19_0
            try clear hcz19_1
            try clear hcz24_0
            try clear hcz24_1
            try clear hcz24_2
            try clear hcz24_3
            try clear hcz29_0
            try clear hcz29_1
            try clear hcz29_2
            try clear hcz29_3
            try clear hcz31_0
            try clear hcz31_1
            try clear hcz31_2
            try clear hcz31_3
            try clear hcz34_0
            try clear hcz34_1
            try clear hcz34_2
            try clear hcz34_3
            try clear hcz36_0
            try clear hcz36_1
            try clear hcz36_2
            try clear hcz36_3
            try clear hfz14_0
            try clear hfz14_1
            try clear hfz18_0
            try clear hfz18_1
            try clear hfz18_2
            try clear hfz18_3
            try clear hfz19_0
            try clear hfz19_1
            try clear hfz24_0
            try clear hfz24_1
            try clear hfz24_2
            try clear hfz24_3
            try clear hfz29_0
            try clear hfz29_1
            try clear hfz29_2
            try clear hfz29_3
            try clear hfz31_0
            try clear hfz31_1
            try clear hfz31_2
            try clear hfz31_3
            try clear hfz34_0
            try clear hfz34_1
            try clear hfz34_2
            try clear hfz34_3
            try clear hfz36_0
            try clear hfz36_1
            try clear hfz36_2
            try clear hfz36_3
            try clear hx112_0
            try clear hx112_1
            try clear hx112_2
            try clear hx112_3
            try clear hx113_0
            try clear hx113_1
            try clear hx113_2
            try clear hx113_3
            try clear p112
            try clear p113
            try clear p2
            try clear q112
            try clear q113
            obtain ⟨kq, x58_8, rfl, HA, HJ8, HO_5, BK114, BK120, BK126, HB⟩ := hcut
            cases kq with
            | zero => exact absurd HA.out (by simp [thermographref19_Diff.j1])
            | succ kj8 =>
              have H := HA.out
              clear HA
              simp only [thermographref19_Diff.j1] at H
              by_cases c37 : x58_8 = true
              · subst c37
                have H1 : (thermographref19_Diff.l0 kj8 l0 l1 x5_1 (wrap64 (x6_1 + 1))) = some r := by rw [if_pos rfl] at H; exact H
                clear H
                have H := H1
                clear H1
                have H' := Aside0.mk H
                clear H
                go_wp2
                go_roundg kj8
                case measure => have := HK1.out; have := HJ8.out; omega
                case rel => exact ⟨(x5_1), (wrap64 (x6_1 + 1)), (by first | rfl | (simp; done) | (simp [*]; done)), H', ⟨by have := HK1.out; have := HJ8.out; omega⟩, ⟨by (with_reducible repeat (first | apply Kd.R_alloc | apply Kd.R_drewN | apply Kd.R_drew)); exact Kd.R_mono HO_5.out (fun _ hk => trivial)⟩, ⟨by repeat (first | (with_reducible first | exact HB.out | apply below_alloc | apply pw_below_drewN | apply below_drew1 | refine below_set ?_ GE114.out | refine below_set ?_ GE120.out | refine below_set ?_ GE126.out) | exact HB.out)⟩⟩
              · replace c37 := Bool.eq_false_iff.mpr c37
                subst c37
                have H1 : (thermographref19_Diff.l1 kj8 l0 l1 x5_1 x6_1 0 ((rd_T56 l1 x6_1).f0) ((rd_T56 l1 x6_1).f1)) = some r := by rw [if_neg (show ¬ (false = true) by decide)] at H; exact H
                clear H
                have H := H1
                clear H1
                have H' := Aside0.mk H
                clear H
                go_wp2
                go_loopg [12] kj8 (fun kq v12 w' => ∃ (x12_3 : Int), v12 = .int .i64 x12_3 ∧ Aside0 (thermographref19_Diff.l1 kq l0 l1 x5_1 x6_1 x12_3 ((rd_T56 l1 x6_1).f0) ((rd_T56 l1 x6_1).f1) = some r) ∧ Aside0 (kq ≤ kj8) ∧ Aside0 (Kd.R k38 38 w' w.heap.size (fun k_ => k_ ≠ gb114) u5 x5_1) ∧ Aside0 (w'.heap[gb114]? = some (.cells #[.string ((rd_T56 l1 x6_1).f0), .int .i64 ((rd_T56 l1 x6_1).f1)] 38 (0, 0))) ∧ Aside0 (w'.heap[gb120]? = some (.cells #[.string t115, .int .i64 t116, .int .i64 t117, .int .u32 t118] 56 (0, 0))) ∧ Aside0 (w'.heap[gb126]? = some (.cells #[.string t121, .int .i64 t122, .int .i64 t123, .int .u32 t124] 56 (0, 0))) ∧ Aside0 (Below w.heap.size w w'))
                case atStart => exact ⟨(0), (by first | rfl | (simp; done) | (simp [*]; done)), H', ⟨Nat.le_refl _⟩, ⟨by (with_reducible repeat (first | apply Kd.R_alloc | apply Kd.R_drewN | apply Kd.R_drew)); exact HO_5.out⟩, ⟨by (with_reducible repeat (first | refine blk_drewN ?_ _ | refine blk_drew ?_ | refine blk_alloc ?_ _)); exact BK114.out⟩, ⟨by (with_reducible repeat (first | refine blk_drewN ?_ _ | refine blk_drew ?_ | refine blk_alloc ?_ _)); exact BK120.out⟩, ⟨by (with_reducible repeat (first | refine blk_drewN ?_ _ | refine blk_drew ?_ | refine blk_alloc ?_ _)); exact BK126.out⟩, ⟨by repeat (first | (with_reducible first | exact HB.out | apply below_alloc | apply pw_below_drewN | apply below_drew1 | refine below_set ?_ GE114.out | refine below_set ?_ GE120.out | refine below_set ?_ GE126.out) | exact HB.out)⟩⟩
                case round =>
                  clear H'
                  try clear c1
                  try clear p1
                  try clear q1
                  try clear hx1
                  try clear c2
                  try clear p2
                  try clear c3
                  try clear c5
                  try clear c5b0
                  try clear c6
                  try clear c6b0
                  try clear p6
                  try clear c7
                  try clear p11
                  try clear q11
                  try clear hx11
                  try clear c17
                  try clear c18
                  try clear c22
                  try clear c23
                  try clear c25
                  try clear c26
                  try clear c26b0
                  try clear c26b1
                  try clear c27
                  try clear c28
                  try clear c30
                  try clear c32
                  try clear c33
                  try clear c35
                  try clear c37
                  try clear hcz14_0
                  try clear hcz14_1
                  try clear hcz18_0
                  try clear hcz18_1
                  try clear hcz18_2
                  try clear hcz18_3
                  try clear hcz19_0
                  try clear hcz19_1
                  try clear hcz24_0
                  try clear hcz24_1
                  try clear hcz24_2
                  try clear hcz24_3
                  try clear hcz29_0
                  try clear hcz29_1
                  try clear hcz29_2
                  try clear hcz29_3
                  try clear hcz31_0
                  try clear hcz31_1
                  try clear hcz31_2
                  try clear hcz31_3
                  try clear hcz34_0
                  try clear hcz34_1
                  try clear hcz34_2
                  try clear hcz34_3
                  try clear hcz36_0
                  try clear hcz36_1
                  try clear hcz36_2
                  try clear hcz36_3
                  try clear hfz14_0
                  try clear hfz14_1
                  try clear hfz18_0
                  try clear hfz18_1
                  try clear hfz18_2
                  try clear hfz18_3
                  try clear hfz19_0
                  try clear hfz19_1
                  try clear hfz24_0
                  try clear hfz24_1
                  try clear hfz24_2
                  try clear hfz24_3
                  try clear hfz29_0
                  try clear hfz29_1
                  try clear hfz29_2
                  try clear hfz29_3
                  try clear hfz31_0
                  try clear hfz31_1
                  try clear hfz31_2
                  try clear hfz31_3
                  try clear hfz34_0
                  try clear hfz34_1
                  try clear hfz34_2
                  try clear hfz34_3
                  try clear hfz36_0
                  try clear hfz36_1
                  try clear hfz36_2
                  try clear hfz36_3
                  try clear hx112_0
                  try clear hx112_1
                  try clear hx112_2
                  try clear hx112_3
                  try clear hx113_0
                  try clear hx113_1
                  try clear hx113_2
                  try clear hx113_3
                  try clear p1
                  try clear p11
                  try clear p112
                  try clear p113
                  try clear p2
                  try clear q1
                  try clear q11
                  try clear q112
                  try clear q113
                  obtain ⟨x12_3, rfl, HA, HK3, HO_5, BK114, BK120, BK126, HB⟩ := hrel
                  cases gk with
                  | zero => exact absurd HA.out (by simp [thermographref19_Diff.l1])
                  | succ k3 =>
                    have H := HA.out
                    clear HA
                    simp only [thermographref19_Diff.l1] at H
                    by_cases c38 : x12_3 < (x5_1.length : Int)
                    · rw [if_pos c38] at H
                      have c38b0 : decide (x12_3 < (x5_1.length : Int)) = true := decide_eq_true c38
                      clear c38
                      by_cases c39 : 0 ≤ x12_3
                      · rw [if_pos c39] at H
                        have c39b0 : decide (0 ≤ x12_3) = true := decide_eq_true c39
                        clear c39
                        replace H := Option.bind_eq_some_iff.mp H
                        obtain ⟨t128, A400, H⟩ := H
                        replace H : (if t128 = true then (thermographref19_Diff.l1 k3 l0 l1 x5_1 x6_1 (wrap64 (x12_3 + 1)) ((rd_T56 l1 x6_1).f0) ((rd_T56 l1 x6_1).f1)) else (if ((((rd_T38 x5_1 x12_3).f0).toList) == ((rd_T56 l1 x6_1).f0).toList && (((rd_T38 x5_1 x12_3).f1) == ((rd_T56 l1 x6_1).f1))) = true then (thermographref19_Diff.l0 k3 l0 l1 x5_1 (wrap64 (x6_1 + 1))) else ((some (([] : List (S38)) : List (S38))).bind fun y130 => (if x12_3 ≤ (x5_1.length : Int) then ((some (x5_1.take (x12_3 : Int).toNat : List (S38))).bind fun y133 => (if y130.length + y133.length < 5864062014805 then ((some (y130 ++ y133 : List (S38))).bind fun y137 => (if y137.length < 5864062014805 then ((some (y137 ++ [(⟨((rd_T56 l1 x6_1).f0), ((rd_T56 l1 x6_1).f1)⟩ : S38)] : List (S38))).bind fun y140 => ((some (x5_1.drop (x12_3 : Int).toNat : List (S38))).bind fun y143 => (if y140.length + y143.length < 5864062014805 then (thermographref19_Diff.l0 k3 l0 l1 (y140 ++ y143) (wrap64 (x6_1 + 1))) else (none)))) else (none))) else (none))) else (none))))) = some r := H
                        have A40 := Aside0.mk A400
                        clear A400
                        by_cases c41 : t128 = true
                        · subst c41
                          have H1 : (thermographref19_Diff.l1 k3 l0 l1 x5_1 x6_1 (wrap64 (x12_3 + 1)) ((rd_T56 l1 x6_1).f0) ((rd_T56 l1 x6_1).f1)) = some r := by rw [if_pos rfl] at H; exact H
                          clear H
                          have H := H1
                          clear H1
                          have H' := Aside0.mk H
                          clear H
                          try go_wp2
                          have n0_ := Aside0.mk (Kd.R_drew HO_5.out)
                          have n1_ := Aside0.mk (blk_drew BK114.out)
                          have n2_ := Aside0.mk (blk_drew BK120.out)
                          have n3_ := Aside0.mk (blk_drew BK126.out)
                          have n4_ := Aside0.mk (below_drew1 HB.out)
                          clear HO_5
                          clear BK114
                          clear BK120
                          clear BK126
                          clear HB
                          have HO_5 := n0_
                          have BK114 := n1_
                          have BK120 := n2_
                          have BK126 := n3_
                          have HB := n4_
                          clear n0_ n1_ n2_ n3_ n4_
                          obtain ⟨Ao43, co43, eo43⟩ := Kd.R_slice HO_5.out
                          (first | subst eo43 | (injection eo43 with f1_ f2_ f3_; have f4_ := f1_.symm; have f5_ := f3_.symm; clear f1_ f2_ f3_; subst f4_; subst f5_))
                          have p127 : 0 ≤ (x12_3 : Int) := of_decide_eq_true (by first | (with_reducible assumption) | assumption)
                          have q127 : x12_3 < (x5_1.length : Int) := of_decide_eq_true (by first | (with_reducible assumption) | assumption)
                          obtain ⟨ad127, e127, hx127_0, hx127_1⟩ := at_T38 (Kd.R_reads' HO_5.out).2.2 x12_3 p127 q127
                          cases e127
                          replace p127 := eq_true p127
                          replace q127 := eq_true q127
                          refine start_ (n := 12) (S := fun w' => w'.cell? ⟨gb114, 0, none⟩ = some (.string ((rd_T56 l1 x6_1).f0)) ∧ w'.cell? ⟨gb114, 1, none⟩ = some (.int .i64 ((rd_T56 l1 x6_1).f1)) ∧ w'.cell? (ad127.add ((x12_3).toNat * 2)) = some (.string ((rd_T38 x5_1 x12_3).f0)) ∧ w'.cell? ⟨(ad127.add ((x12_3).toNat * 2)).block, (ad127.add ((x12_3).toNat * 2)).off + 1, none⟩ = some (.int .i64 ((rd_T38 x5_1 x12_3).f1))) (ds := []) #[false, false, false, false, false, false, false, false, false, false, false, false] (by kernel_rfl) rfl rfl ⟨(blk_cell BK114.out 0).trans rfl, (blk_cell BK114.out 1).trans rfl, hx127_0, hx127_1⟩ (fun hHeld => ?_); refine with_tabW thermographref19_Diff.tab10 thermographref19_Diff.bits10 (fun HT_ HW_ => ?_)
                          generalize wr.drew = w42 at HO_5 BK114 BK120 BK126 HB hx127_0 hx127_1 hHeld ⊢
                          refine pure_ (i := 0) (N := some 59) (v := ?_) (a' := ?_) #[true, false, false, false, false, false, false, false, false, false, false, false] rfl rfl (any_of HT_.out (by kernel_rfl)) (fun _ _ _ h => h) (Or.inl ⟨by rfl, ?_⟩) ?_ ?_
                          rotate_left
                          · intro w'
                            go_simp
                            with_reducible rfl
                          rotate_left
                          · simp only [Act.put, List.setIfInBounds_toArray, List.set_cons_zero, List.set_cons_succ, i64_w, i32_w]
                            rfl
                          refine pure_ (i := 1) (N := some 60) (v := ?_) (a' := ?_) #[true, true, false, false, false, false, false, false, false, false, false, false] rfl rfl (any_of HT_.out (by kernel_rfl)) (fun _ _ _ h => h) (Or.inl ⟨by rfl, ?_⟩) ?_ ?_
                          rotate_left
                          · intro w'
                            go_simp
                            with_reducible rfl
                          rotate_left
                          · simp only [Act.put, List.setIfInBounds_toArray, List.set_cons_zero, List.set_cons_succ, i64_w, i32_w]
                            rfl
                          refine pure_ (i := 2) (N := some 61) (v := ?_) (a' := ?_) #[true, true, true, false, false, false, false, false, false, false, false, false] rfl rfl (any_of HT_.out (by kernel_rfl)) (fun _ _ _ h => h) (Or.inl ⟨by rfl, ?_⟩) ?_ ?_
                          rotate_left
                          · intro w'
                            go_simp
                            with_reducible rfl
                          rotate_left
                          · simp only [Act.put, List.setIfInBounds_toArray, List.set_cons_zero, List.set_cons_succ, i64_w, i32_w]
                            rfl
                          refine pure_ (i := 3) (N := some 62) (v := ?_) (a' := ?_) #[true, true, true, true, false, false, false, false, false, false, false, false] rfl rfl (any_of HT_.out (by kernel_rfl)) (fun _ _ _ h => h) (Or.inl ⟨by rfl, ?_⟩) ?_ ?_
                          rotate_left
                          · intro w'
                            go_simp
                            with_reducible rfl
                          rotate_left
                          · simp only [Act.put, List.setIfInBounds_toArray, List.set_cons_zero, List.set_cons_succ, i64_w, i32_w]
                            rfl
                          refine pure_ (i := 4) (N := some 63) (v := ?_) (a' := ?_) #[true, true, true, true, true, false, false, false, false, false, false, false] rfl rfl (any_of HT_.out (by kernel_rfl)) (fun _ _ _ h => h) (Or.inl ⟨by rfl, ?_⟩) ?_ ?_
                          rotate_left
                          · intro w'
                            go_simp
                            with_reducible rfl
                          rotate_left
                          · simp only [Act.put, List.setIfInBounds_toArray, List.set_cons_zero, List.set_cons_succ, i64_w, i32_w]
                            rfl
                          refine pure_ (i := 5) (N := some 64) (v := ?_) (a' := ?_) #[true, true, true, true, true, true, false, false, false, false, false, false] rfl rfl (any_of HT_.out (by kernel_rfl)) (fun _ _ _ h => h) (Or.inl ⟨by rfl, ?_⟩) ?_ ?_
                          rotate_left
                          · intro w'
                            go_simp
                            with_reducible rfl
                          rotate_left
                          · simp only [Act.put, List.setIfInBounds_toArray, List.set_cons_zero, List.set_cons_succ, i64_w, i32_w]
                            rfl
                          refine pure_ (i := 6) (N := some 65) (v := ?_) (a' := ?_) #[true, true, true, true, true, true, true, false, false, false, false, false] rfl rfl (any_of HT_.out (by kernel_rfl)) (fun _ _ _ h => h) (Or.inl ⟨by rfl, ?_⟩) ?_ ?_
                          rotate_left
                          · intro w'
                            go_simp
                            with_reducible rfl
                          rotate_left
                          · simp only [Act.put, List.setIfInBounds_toArray, List.set_cons_zero, List.set_cons_succ, i64_w, i32_w]
                            rfl
                          refine pure_ (i := 7) (N := some 66) (v := ?_) (a' := ?_) #[true, true, true, true, true, true, true, true, false, false, false, false] rfl rfl (any_of HT_.out (by kernel_rfl)) (fun _ _ _ h => h) (Or.inl ⟨by rfl, ?_⟩) ?_ ?_
                          rotate_left
                          · intro w'
                            go_simp
                            with_reducible rfl
                          rotate_left
                          · simp only [Act.put, List.setIfInBounds_toArray, List.set_cons_zero, List.set_cons_succ, i64_w, i32_w]
                            rfl
                          refine take_ (i := 8) (N := some 67) (v := ?_) (a' := ?_) #[true, true, true, true, true, true, true, true, true, false, false, false] rfl rfl (take_ofW HT_.out HW_.out (by kernel_rfl)) (fun _ _ _ h => h) (Or.inl ⟨by rfl, ?_⟩) hHeld ?_ ?_
                          rotate_left
                          · rintro w' ⟨s0, s1, s2, s3⟩
                            go_simp
                            with_reducible rfl
                          rotate_left
                          · simp only [Act.put, List.setIfInBounds_toArray, List.set_cons_zero, List.set_cons_succ, i64_w, i32_w]
                            rfl
                          refine take_ (i := 9) (N := some 68) (v := ?_) (a' := ?_) #[true, true, true, true, true, true, true, true, true, true, false, false] rfl rfl (take_ofW HT_.out HW_.out (by kernel_rfl)) (fun _ _ _ h => h) (Or.inl ⟨by rfl, ?_⟩) hHeld ?_ ?_
                          rotate_left
                          · rintro w' ⟨s0, s1, s2, s3⟩
                            go_simp
                            with_reducible rfl
                          rotate_left
                          · simp only [Act.put, List.setIfInBounds_toArray, List.set_cons_zero, List.set_cons_succ, i64_w, i32_w]
                            rfl
                          refine one_ (i := 10) (N := some 69) #[true, true, true, true, true, true, true, true, true, true, true, false] rfl rfl (one_of HT_.out (by kernel_rfl)) (by decide) (fun K hK => ?_)
                          refine goes_ Try.func19 (by kernel_rfl) rfl #[.agg #[.string ((rd_T38 x5_1 x12_3).f0), .int .i64 ((rd_T38 x5_1 x12_3).f1)], .agg #[.string ((rd_T56 l1 x6_1).f0), .int .i64 ((rd_T56 l1 x6_1).f1)]] (by rfl) rfl rfl (by (try simp only [List.map_toArray, List.map_cons, List.map_nil]); first | done | rfl | (simp only [List.length_drop, List.length_take]; rfl)) ?_
                          with_reducible refine (thermographref19_less.calls ((rd_T38 x5_1 x12_3).f0) ((rd_T38 x5_1 x12_3).f1) ((rd_T56 l1 x6_1).f0) ((rd_T56 l1 x6_1).f1) true _ A40.out).mono ?_
                          rintro e w44 ⟨rfl, hb⟩
                          have HS2_ := (hb.cell (World.block_lt_of_cell? _ _ (hHeld.2.2.1))).trans (hHeld.2.2.1)
                          have HS3_ := (hb.cell (World.block_lt_of_cell? _ _ (hHeld.2.2.2))).trans (hHeld.2.2.2)
                          refine ⟨_, rfl, ?_⟩
                          have n0_ := Aside0.mk (Kd.R_below (by (with_reducible repeat (first | apply Kd.R_alloc | apply Kd.R_drewN | apply Kd.R_drew)); exact HO_5.out) hb)
                          have n1_ := Aside0.mk (blk_below (g := gb114) (o := .cells #[.string ((rd_T56 l1 x6_1).f0), .int .i64 ((rd_T56 l1 x6_1).f1)] 38 (0, 0)) (by (with_reducible repeat (first | refine blk_drewN ?_ _ | refine blk_drew ?_ | refine blk_alloc ?_ _)); exact BK114.out) hb)
                          have n2_ := Aside0.mk (blk_below (g := gb120) (o := .cells #[.string t115, .int .i64 t116, .int .i64 t117, .int .u32 t118] 56 (0, 0)) (by (with_reducible repeat (first | refine blk_drewN ?_ _ | refine blk_drew ?_ | refine blk_alloc ?_ _)); exact BK120.out) hb)
                          have n3_ := Aside0.mk (blk_below (g := gb126) (o := .cells #[.string t121, .int .i64 t122, .int .i64 t123, .int .u32 t124] 56 (0, 0)) (by (with_reducible repeat (first | refine blk_drewN ?_ _ | refine blk_drew ?_ | refine blk_alloc ?_ _)); exact BK126.out) hb)
                          have n4_ := Aside0.mk (below_step (by repeat (first | (with_reducible first | exact HB.out | apply below_alloc | apply pw_below_drewN | apply below_drew1 | refine below_set ?_ GE114.out | refine below_set ?_ GE120.out | refine below_set ?_ GE126.out) | exact HB.out)) hb)
                          clear HO_5
                          clear BK114
                          clear BK120
                          clear BK126
                          clear HB
                          have HO_5 := n0_
                          have BK114 := n1_
                          have BK120 := n2_
                          have BK126 := n3_
                          have HB := n4_
                          clear n0_ n1_ n2_ n3_ n4_
                          (try clear hb)
                          (try clear hb2)
                          (try clear hk)
                          (try clear hi)
                          refine hK.out _ _ ⟨(blk_cell BK114.out 0).trans rfl, (blk_cell BK114.out 1).trans rfl, HS2_, HS3_⟩ (fun hHeld => ?_)
                          clear hK K
                          refine norm_ (a' := ?_) ?_ ?_
                          rotate_left
                          · show Act.put _ (some 69) _ = _
                            simp only [Act.put, List.setIfInBounds_toArray, List.set_cons_zero, List.set_cons_succ, i64_w, i32_w]
                            rfl
                          refine pure_ (i := 11) (N := some 70) (v := ?_) (a' := ?_) #[true, true, true, true, true, true, true, true, true, true, true, true] rfl rfl (any_of HT_.out (by kernel_rfl)) (fun _ _ _ h => h) (Or.inl ⟨by rfl, ?_⟩) ?_ ?_
                          rotate_left
                          · intro w'
                            go_simp
                            with_reducible rfl
                          rotate_left
                          · simp only [Act.put, List.setIfInBounds_toArray, List.set_cons_zero, List.set_cons_succ, i64_w, i32_w]
                            rfl
                          refine done_ (done_of HT_.out (by kernel_rfl)) ?_
                          try go_wp2
                          go_roundg k3
                          case measure => have := HK1.out; have := HJ8.out; have := HK3.out; omega
                          case rel => exact ⟨(wrap64 (x12_3 + 1)), (by first | rfl | (simp; done) | (simp [*]; done)), H', ⟨by have := HK1.out; have := HJ8.out; have := HK3.out; omega⟩, ⟨by (with_reducible repeat (first | apply Kd.R_alloc | apply Kd.R_drewN | apply Kd.R_drew)); exact HO_5.out⟩, ⟨by (with_reducible repeat (first | refine blk_drewN ?_ _ | refine blk_drew ?_ | refine blk_alloc ?_ _)); exact BK114.out⟩, ⟨by (with_reducible repeat (first | refine blk_drewN ?_ _ | refine blk_drew ?_ | refine blk_alloc ?_ _)); exact BK120.out⟩, ⟨by (with_reducible repeat (first | refine blk_drewN ?_ _ | refine blk_drew ?_ | refine blk_alloc ?_ _)); exact BK126.out⟩, ⟨by repeat (first | (with_reducible first | exact HB.out | apply below_alloc | apply pw_below_drewN | apply below_drew1 | refine below_set ?_ GE114.out | refine below_set ?_ GE120.out | refine below_set ?_ GE126.out) | exact HB.out)⟩⟩
                        · replace c41 := Bool.eq_false_iff.mpr c41
                          subst c41
                          have H1 : (if ((((rd_T38 x5_1 x12_3).f0).toList) == ((rd_T56 l1 x6_1).f0).toList && (((rd_T38 x5_1 x12_3).f1) == ((rd_T56 l1 x6_1).f1))) = true then (thermographref19_Diff.l0 k3 l0 l1 x5_1 (wrap64 (x6_1 + 1))) else ((some (([] : List (S38)) : List (S38))).bind fun y130 => (if x12_3 ≤ (x5_1.length : Int) then ((some (x5_1.take (x12_3 : Int).toNat : List (S38))).bind fun y133 => (if y130.length + y133.length < 5864062014805 then ((some (y130 ++ y133 : List (S38))).bind fun y137 => (if y137.length < 5864062014805 then ((some (y137 ++ [(⟨((rd_T56 l1 x6_1).f0), ((rd_T56 l1 x6_1).f1)⟩ : S38)] : List (S38))).bind fun y140 => ((some (x5_1.drop (x12_3 : Int).toNat : List (S38))).bind fun y143 => (if y140.length + y143.length < 5864062014805 then (thermographref19_Diff.l0 k3 l0 l1 (y140 ++ y143) (wrap64 (x6_1 + 1))) else (none)))) else (none))) else (none))) else (none)))) = some r := by rw [if_neg (show ¬ (false = true) by decide)] at H; exact H
                          clear H
                          have H := H1
                          clear H1
                          by_cases c45 : ((((rd_T38 x5_1 x12_3).f0).toList) == ((rd_T56 l1 x6_1).f0).toList && (((rd_T38 x5_1 x12_3).f1) == ((rd_T56 l1 x6_1).f1))) = true
                          · rw [if_pos c45] at H
                            have c45b0 : ((((rd_T38 x5_1 x12_3).f0).toList) == ((rd_T56 l1 x6_1).f0).toList && (((rd_T38 x5_1 x12_3).f1) == ((rd_T56 l1 x6_1).f1))) = true := c45
                            (try (have c45b1 : decide ((((rd_T38 x5_1 x12_3).f0).toList) = ((rd_T56 l1 x6_1).f0).toList && (((rd_T38 x5_1 x12_3).f1) == ((rd_T56 l1 x6_1).f1))) = true := by simpa using c45))
                            (try (have c45b2 : ((((rd_T38 x5_1 x12_3).f0).toList) == ((rd_T56 l1 x6_1).f0).toList && (((rd_T38 x5_1 x12_3).f1) == ((rd_T56 l1 x6_1).f1))) = true := by simpa using c45))
                            clear c45
                            have H' := Aside0.mk H
                            clear H
                            try go_wp2
                            have n0_ := Aside0.mk (Kd.R_drew HO_5.out)
                            have n1_ := Aside0.mk (blk_drew BK114.out)
                            have n2_ := Aside0.mk (blk_drew BK120.out)
                            have n3_ := Aside0.mk (blk_drew BK126.out)
                            have n4_ := Aside0.mk (below_drew1 HB.out)
                            clear HO_5
                            clear BK114
                            clear BK120
                            clear BK126
                            clear HB
                            have HO_5 := n0_
                            have BK114 := n1_
                            have BK120 := n2_
                            have BK126 := n3_
                            have HB := n4_
                            clear n0_ n1_ n2_ n3_ n4_
                            obtain ⟨Ao47, co47, eo47⟩ := Kd.R_slice HO_5.out
                            (first | subst eo47 | (injection eo47 with f1_ f2_ f3_; have f4_ := f1_.symm; have f5_ := f3_.symm; clear f1_ f2_ f3_; subst f4_; subst f5_))
                            have p127 : 0 ≤ (x12_3 : Int) := of_decide_eq_true (by first | (with_reducible assumption) | assumption)
                            have q127 : x12_3 < (x5_1.length : Int) := of_decide_eq_true (by first | (with_reducible assumption) | assumption)
                            obtain ⟨ad127, e127, hx127_0, hx127_1⟩ := at_T38 (Kd.R_reads' HO_5.out).2.2 x12_3 p127 q127
                            cases e127
                            replace p127 := eq_true p127
                            replace q127 := eq_true q127
                            refine start_ (n := 12) (S := fun w' => w'.cell? ⟨gb114, 0, none⟩ = some (.string ((rd_T56 l1 x6_1).f0)) ∧ w'.cell? ⟨gb114, 1, none⟩ = some (.int .i64 ((rd_T56 l1 x6_1).f1)) ∧ w'.cell? (ad127.add ((x12_3).toNat * 2)) = some (.string ((rd_T38 x5_1 x12_3).f0)) ∧ w'.cell? ⟨(ad127.add ((x12_3).toNat * 2)).block, (ad127.add ((x12_3).toNat * 2)).off + 1, none⟩ = some (.int .i64 ((rd_T38 x5_1 x12_3).f1))) (ds := []) #[false, false, false, false, false, false, false, false, false, false, false, false] (by kernel_rfl) rfl rfl ⟨(blk_cell BK114.out 0).trans rfl, (blk_cell BK114.out 1).trans rfl, hx127_0, hx127_1⟩ (fun hHeld => ?_); refine with_tabW thermographref19_Diff.tab10 thermographref19_Diff.bits10 (fun HT_ HW_ => ?_)
                            generalize wr.drew = w46 at HO_5 BK114 BK120 BK126 HB hx127_0 hx127_1 hHeld ⊢
                            refine pure_ (i := 0) (N := some 59) (v := ?_) (a' := ?_) #[true, false, false, false, false, false, false, false, false, false, false, false] rfl rfl (any_of HT_.out (by kernel_rfl)) (fun _ _ _ h => h) (Or.inl ⟨by rfl, ?_⟩) ?_ ?_
                            rotate_left
                            · intro w'
                              go_simp
                              with_reducible rfl
                            rotate_left
                            · simp only [Act.put, List.setIfInBounds_toArray, List.set_cons_zero, List.set_cons_succ, i64_w, i32_w]
                              rfl
                            refine pure_ (i := 1) (N := some 60) (v := ?_) (a' := ?_) #[true, true, false, false, false, false, false, false, false, false, false, false] rfl rfl (any_of HT_.out (by kernel_rfl)) (fun _ _ _ h => h) (Or.inl ⟨by rfl, ?_⟩) ?_ ?_
                            rotate_left
                            · intro w'
                              go_simp
                              with_reducible rfl
                            rotate_left
                            · simp only [Act.put, List.setIfInBounds_toArray, List.set_cons_zero, List.set_cons_succ, i64_w, i32_w]
                              rfl
                            refine pure_ (i := 2) (N := some 61) (v := ?_) (a' := ?_) #[true, true, true, false, false, false, false, false, false, false, false, false] rfl rfl (any_of HT_.out (by kernel_rfl)) (fun _ _ _ h => h) (Or.inl ⟨by rfl, ?_⟩) ?_ ?_
                            rotate_left
                            · intro w'
                              go_simp
                              with_reducible rfl
                            rotate_left
                            · simp only [Act.put, List.setIfInBounds_toArray, List.set_cons_zero, List.set_cons_succ, i64_w, i32_w]
                              rfl
                            refine pure_ (i := 3) (N := some 62) (v := ?_) (a' := ?_) #[true, true, true, true, false, false, false, false, false, false, false, false] rfl rfl (any_of HT_.out (by kernel_rfl)) (fun _ _ _ h => h) (Or.inl ⟨by rfl, ?_⟩) ?_ ?_
                            rotate_left
                            · intro w'
                              go_simp
                              with_reducible rfl
                            rotate_left
                            · simp only [Act.put, List.setIfInBounds_toArray, List.set_cons_zero, List.set_cons_succ, i64_w, i32_w]
                              rfl
                            refine pure_ (i := 4) (N := some 63) (v := ?_) (a' := ?_) #[true, true, true, true, true, false, false, false, false, false, false, false] rfl rfl (any_of HT_.out (by kernel_rfl)) (fun _ _ _ h => h) (Or.inl ⟨by rfl, ?_⟩) ?_ ?_
                            rotate_left
                            · intro w'
                              go_simp
                              with_reducible rfl
                            rotate_left
                            · simp only [Act.put, List.setIfInBounds_toArray, List.set_cons_zero, List.set_cons_succ, i64_w, i32_w]
                              rfl
                            refine pure_ (i := 5) (N := some 64) (v := ?_) (a' := ?_) #[true, true, true, true, true, true, false, false, false, false, false, false] rfl rfl (any_of HT_.out (by kernel_rfl)) (fun _ _ _ h => h) (Or.inl ⟨by rfl, ?_⟩) ?_ ?_
                            rotate_left
                            · intro w'
                              go_simp
                              with_reducible rfl
                            rotate_left
                            · simp only [Act.put, List.setIfInBounds_toArray, List.set_cons_zero, List.set_cons_succ, i64_w, i32_w]
                              rfl
                            refine pure_ (i := 6) (N := some 65) (v := ?_) (a' := ?_) #[true, true, true, true, true, true, true, false, false, false, false, false] rfl rfl (any_of HT_.out (by kernel_rfl)) (fun _ _ _ h => h) (Or.inl ⟨by rfl, ?_⟩) ?_ ?_
                            rotate_left
                            · intro w'
                              go_simp
                              with_reducible rfl
                            rotate_left
                            · simp only [Act.put, List.setIfInBounds_toArray, List.set_cons_zero, List.set_cons_succ, i64_w, i32_w]
                              rfl
                            refine pure_ (i := 7) (N := some 66) (v := ?_) (a' := ?_) #[true, true, true, true, true, true, true, true, false, false, false, false] rfl rfl (any_of HT_.out (by kernel_rfl)) (fun _ _ _ h => h) (Or.inl ⟨by rfl, ?_⟩) ?_ ?_
                            rotate_left
                            · intro w'
                              go_simp
                              with_reducible rfl
                            rotate_left
                            · simp only [Act.put, List.setIfInBounds_toArray, List.set_cons_zero, List.set_cons_succ, i64_w, i32_w]
                              rfl
                            refine take_ (i := 8) (N := some 67) (v := ?_) (a' := ?_) #[true, true, true, true, true, true, true, true, true, false, false, false] rfl rfl (take_ofW HT_.out HW_.out (by kernel_rfl)) (fun _ _ _ h => h) (Or.inl ⟨by rfl, ?_⟩) hHeld ?_ ?_
                            rotate_left
                            · rintro w' ⟨s0, s1, s2, s3⟩
                              go_simp
                              with_reducible rfl
                            rotate_left
                            · simp only [Act.put, List.setIfInBounds_toArray, List.set_cons_zero, List.set_cons_succ, i64_w, i32_w]
                              rfl
                            refine take_ (i := 9) (N := some 68) (v := ?_) (a' := ?_) #[true, true, true, true, true, true, true, true, true, true, false, false] rfl rfl (take_ofW HT_.out HW_.out (by kernel_rfl)) (fun _ _ _ h => h) (Or.inl ⟨by rfl, ?_⟩) hHeld ?_ ?_
                            rotate_left
                            · rintro w' ⟨s0, s1, s2, s3⟩
                              go_simp
                              with_reducible rfl
                            rotate_left
                            · simp only [Act.put, List.setIfInBounds_toArray, List.set_cons_zero, List.set_cons_succ, i64_w, i32_w]
                              rfl
                            refine one_ (i := 10) (N := some 69) #[true, true, true, true, true, true, true, true, true, true, true, false] rfl rfl (one_of HT_.out (by kernel_rfl)) (by decide) (fun K hK => ?_)
                            refine goes_ Try.func19 (by kernel_rfl) rfl #[.agg #[.string ((rd_T38 x5_1 x12_3).f0), .int .i64 ((rd_T38 x5_1 x12_3).f1)], .agg #[.string ((rd_T56 l1 x6_1).f0), .int .i64 ((rd_T56 l1 x6_1).f1)]] (by rfl) rfl rfl (by (try simp only [List.map_toArray, List.map_cons, List.map_nil]); first | done | rfl | (simp only [List.length_drop, List.length_take]; rfl)) ?_
                            with_reducible refine (thermographref19_less.calls ((rd_T38 x5_1 x12_3).f0) ((rd_T38 x5_1 x12_3).f1) ((rd_T56 l1 x6_1).f0) ((rd_T56 l1 x6_1).f1) false _ A40.out).mono ?_
                            rintro e w48 ⟨rfl, hb⟩
                            have HS2_ := (hb.cell (World.block_lt_of_cell? _ _ (hHeld.2.2.1))).trans (hHeld.2.2.1)
                            have HS3_ := (hb.cell (World.block_lt_of_cell? _ _ (hHeld.2.2.2))).trans (hHeld.2.2.2)
                            refine ⟨_, rfl, ?_⟩
                            have n0_ := Aside0.mk (Kd.R_below (by (with_reducible repeat (first | apply Kd.R_alloc | apply Kd.R_drewN | apply Kd.R_drew)); exact HO_5.out) hb)
                            have n1_ := Aside0.mk (blk_below (g := gb114) (o := .cells #[.string ((rd_T56 l1 x6_1).f0), .int .i64 ((rd_T56 l1 x6_1).f1)] 38 (0, 0)) (by (with_reducible repeat (first | refine blk_drewN ?_ _ | refine blk_drew ?_ | refine blk_alloc ?_ _)); exact BK114.out) hb)
                            have n2_ := Aside0.mk (blk_below (g := gb120) (o := .cells #[.string t115, .int .i64 t116, .int .i64 t117, .int .u32 t118] 56 (0, 0)) (by (with_reducible repeat (first | refine blk_drewN ?_ _ | refine blk_drew ?_ | refine blk_alloc ?_ _)); exact BK120.out) hb)
                            have n3_ := Aside0.mk (blk_below (g := gb126) (o := .cells #[.string t121, .int .i64 t122, .int .i64 t123, .int .u32 t124] 56 (0, 0)) (by (with_reducible repeat (first | refine blk_drewN ?_ _ | refine blk_drew ?_ | refine blk_alloc ?_ _)); exact BK126.out) hb)
                            have n4_ := Aside0.mk (below_step (by repeat (first | (with_reducible first | exact HB.out | apply below_alloc | apply pw_below_drewN | apply below_drew1 | refine below_set ?_ GE114.out | refine below_set ?_ GE120.out | refine below_set ?_ GE126.out) | exact HB.out)) hb)
                            clear HO_5
                            clear BK114
                            clear BK120
                            clear BK126
                            clear HB
                            have HO_5 := n0_
                            have BK114 := n1_
                            have BK120 := n2_
                            have BK126 := n3_
                            have HB := n4_
                            clear n0_ n1_ n2_ n3_ n4_
                            (try clear hb)
                            (try clear hb2)
                            (try clear hk)
                            (try clear hi)
                            refine hK.out _ _ ⟨(blk_cell BK114.out 0).trans rfl, (blk_cell BK114.out 1).trans rfl, HS2_, HS3_⟩ (fun hHeld => ?_)
                            clear hK K
                            refine norm_ (a' := ?_) ?_ ?_
                            rotate_left
                            · show Act.put _ (some 69) _ = _
                              simp only [Act.put, List.setIfInBounds_toArray, List.set_cons_zero, List.set_cons_succ, i64_w, i32_w]
                              rfl
                            refine pure_ (i := 11) (N := some 70) (v := ?_) (a' := ?_) #[true, true, true, true, true, true, true, true, true, true, true, true] rfl rfl (any_of HT_.out (by kernel_rfl)) (fun _ _ _ h => h) (Or.inl ⟨by rfl, ?_⟩) ?_ ?_
                            rotate_left
                            · intro w'
                              go_simp
                              with_reducible rfl
                            rotate_left
                            · simp only [Act.put, List.setIfInBounds_toArray, List.set_cons_zero, List.set_cons_succ, i64_w, i32_w]
                              rfl
                            refine done_ (done_of HT_.out (by kernel_rfl)) ?_
                            try go_wp2
                            have n0_ := Aside0.mk (Kd.R_drew HO_5.out)
                            have n1_ := Aside0.mk (blk_drew BK114.out)
                            have n2_ := Aside0.mk (blk_drew BK120.out)
                            have n3_ := Aside0.mk (blk_drew BK126.out)
                            have n4_ := Aside0.mk (below_drew1 HB.out)
                            clear HO_5
                            clear BK114
                            clear BK120
                            clear BK126
                            clear HB
                            have HO_5 := n0_
                            have BK114 := n1_
                            have BK120 := n2_
                            have BK126 := n3_
                            have HB := n4_
                            clear n0_ n1_ n2_ n3_ n4_
                            have p129 : 0 ≤ (x12_3 : Int) := of_decide_eq_true (by first | (with_reducible assumption) | assumption)
                            have q129 : x12_3 < (x5_1.length : Int) := of_decide_eq_true (by first | (with_reducible assumption) | assumption)
                            obtain ⟨ad129, e129, hx129_0, hx129_1⟩ := at_T38 (Kd.R_reads' HO_5.out).2.2 x12_3 p129 q129
                            obtain rfl : ad127 = ad129 := (by injection e129)
                            replace p129 := eq_true p129
                            replace q129 := eq_true q129
                            refine start_ (n := 12) (S := fun w' => w'.cell? ⟨gb114, 0, none⟩ = some (.string ((rd_T56 l1 x6_1).f0)) ∧ w'.cell? ⟨gb114, 1, none⟩ = some (.int .i64 ((rd_T56 l1 x6_1).f1)) ∧ w'.cell? (ad127.add ((x12_3).toNat * 2)) = some (.string ((rd_T38 x5_1 x12_3).f0)) ∧ w'.cell? ⟨(ad127.add ((x12_3).toNat * 2)).block, (ad127.add ((x12_3).toNat * 2)).off + 1, none⟩ = some (.int .i64 ((rd_T38 x5_1 x12_3).f1))) (ds := []) #[false, false, false, false, false, false, false, false, false, false, false, false] (by kernel_rfl) rfl rfl ⟨(blk_cell BK114.out 0).trans rfl, (blk_cell BK114.out 1).trans rfl, hx129_0, hx129_1⟩ (fun hHeld => ?_); refine with_tabW thermographref19_Diff.tab12 thermographref19_Diff.bits12 (fun HT_ HW_ => ?_)
                            generalize w48.drew = w49 at HO_5 BK114 BK120 BK126 HB hx129_0 hx129_1 hHeld ⊢
                            refine pure_ (i := 0) (N := some 73) (v := ?_) (a' := ?_) #[true, false, false, false, false, false, false, false, false, false, false, false] rfl rfl (any_of HT_.out (by kernel_rfl)) (fun _ _ _ h => h) (Or.inl ⟨by rfl, ?_⟩) ?_ ?_
                            rotate_left
                            · intro w'
                              go_simp
                              with_reducible rfl
                            rotate_left
                            · simp only [Act.put, List.setIfInBounds_toArray, List.set_cons_zero, List.set_cons_succ, i64_w, i32_w]
                              rfl
                            refine pure_ (i := 1) (N := some 74) (v := ?_) (a' := ?_) #[true, true, false, false, false, false, false, false, false, false, false, false] rfl rfl (any_of HT_.out (by kernel_rfl)) (fun _ _ _ h => h) (Or.inl ⟨by rfl, ?_⟩) ?_ ?_
                            rotate_left
                            · intro w'
                              go_simp
                              with_reducible rfl
                            rotate_left
                            · simp only [Act.put, List.setIfInBounds_toArray, List.set_cons_zero, List.set_cons_succ, i64_w, i32_w]
                              rfl
                            refine pure_ (i := 2) (N := some 75) (v := ?_) (a' := ?_) #[true, true, true, false, false, false, false, false, false, false, false, false] rfl rfl (any_of HT_.out (by kernel_rfl)) (fun _ _ _ h => h) (Or.inl ⟨by rfl, ?_⟩) ?_ ?_
                            rotate_left
                            · intro w'
                              go_simp
                              with_reducible rfl
                            rotate_left
                            · simp only [Act.put, List.setIfInBounds_toArray, List.set_cons_zero, List.set_cons_succ, i64_w, i32_w]
                              rfl
                            refine pure_ (i := 3) (N := some 76) (v := ?_) (a' := ?_) #[true, true, true, true, false, false, false, false, false, false, false, false] rfl rfl (any_of HT_.out (by kernel_rfl)) (fun _ _ _ h => h) (Or.inl ⟨by rfl, ?_⟩) ?_ ?_
                            rotate_left
                            · intro w'
                              go_simp
                              with_reducible rfl
                            rotate_left
                            · simp only [Act.put, List.setIfInBounds_toArray, List.set_cons_zero, List.set_cons_succ, i64_w, i32_w]
                              rfl
                            refine pure_ (i := 4) (N := some 77) (v := ?_) (a' := ?_) #[true, true, true, true, true, false, false, false, false, false, false, false] rfl rfl (any_of HT_.out (by kernel_rfl)) (fun _ _ _ h => h) (Or.inl ⟨by rfl, ?_⟩) ?_ ?_
                            rotate_left
                            · intro w'
                              go_simp
                              with_reducible rfl
                            rotate_left
                            · simp only [Act.put, List.setIfInBounds_toArray, List.set_cons_zero, List.set_cons_succ, i64_w, i32_w]
                              rfl
                            refine pure_ (i := 5) (N := some 78) (v := ?_) (a' := ?_) #[true, true, true, true, true, true, false, false, false, false, false, false] rfl rfl (any_of HT_.out (by kernel_rfl)) (fun _ _ _ h => h) (Or.inl ⟨by rfl, ?_⟩) ?_ ?_
                            rotate_left
                            · intro w'
                              go_simp
                              with_reducible rfl
                            rotate_left
                            · simp only [Act.put, List.setIfInBounds_toArray, List.set_cons_zero, List.set_cons_succ, i64_w, i32_w]
                              rfl
                            refine pure_ (i := 6) (N := some 79) (v := ?_) (a' := ?_) #[true, true, true, true, true, true, true, false, false, false, false, false] rfl rfl (any_of HT_.out (by kernel_rfl)) (fun _ _ _ h => h) (Or.inl ⟨by rfl, ?_⟩) ?_ ?_
                            rotate_left
                            · intro w'
                              go_simp
                              with_reducible rfl
                            rotate_left
                            · simp only [Act.put, List.setIfInBounds_toArray, List.set_cons_zero, List.set_cons_succ, i64_w, i32_w]
                              rfl
                            refine pure_ (i := 7) (N := some 80) (v := ?_) (a' := ?_) #[true, true, true, true, true, true, true, true, false, false, false, false] rfl rfl (any_of HT_.out (by kernel_rfl)) (fun _ _ _ h => h) (Or.inl ⟨by rfl, ?_⟩) ?_ ?_
                            rotate_left
                            · intro w'
                              go_simp
                              with_reducible rfl
                            rotate_left
                            · simp only [Act.put, List.setIfInBounds_toArray, List.set_cons_zero, List.set_cons_succ, i64_w, i32_w]
                              rfl
                            refine take_ (i := 8) (N := some 81) (v := ?_) (a' := ?_) #[true, true, true, true, true, true, true, true, true, false, false, false] rfl rfl (take_ofW HT_.out HW_.out (by kernel_rfl)) (fun _ _ _ h => h) (Or.inl ⟨by rfl, ?_⟩) hHeld ?_ ?_
                            rotate_left
                            · rintro w' ⟨s0, s1, s2, s3⟩
                              go_simp
                              with_reducible rfl
                            rotate_left
                            · simp only [Act.put, List.setIfInBounds_toArray, List.set_cons_zero, List.set_cons_succ, i64_w, i32_w]
                              rfl
                            refine take_ (i := 9) (N := some 82) (v := ?_) (a' := ?_) #[true, true, true, true, true, true, true, true, true, true, false, false] rfl rfl (take_ofW HT_.out HW_.out (by kernel_rfl)) (fun _ _ _ h => h) (Or.inl ⟨by rfl, ?_⟩) hHeld ?_ ?_
                            rotate_left
                            · rintro w' ⟨s0, s1, s2, s3⟩
                              go_simp
                              with_reducible rfl
                            rotate_left
                            · simp only [Act.put, List.setIfInBounds_toArray, List.set_cons_zero, List.set_cons_succ, i64_w, i32_w]
                              rfl
                            refine pure_ (i := 10) (N := some 83) (v := ?_) (a' := ?_) #[true, true, true, true, true, true, true, true, true, true, true, false] rfl rfl (any_of HT_.out (by kernel_rfl)) (fun _ _ _ h => h) (Or.inl ⟨by rfl, ?_⟩) ?_ ?_
                            rotate_left
                            · intro w'
                              go_simp
                              with_reducible rfl
                            rotate_left
                            · simp only [Act.put, List.setIfInBounds_toArray, List.set_cons_zero, List.set_cons_succ, i64_w, i32_w]
                              rfl
                            refine pure_ (i := 11) (N := some 84) (v := ?_) (a' := ?_) #[true, true, true, true, true, true, true, true, true, true, true, true] rfl rfl (any_of HT_.out (by kernel_rfl)) (fun _ _ _ h => h) (Or.inl ⟨by rfl, ?_⟩) ?_ ?_
                            rotate_left
                            · intro w'
                              go_simp
                              with_reducible rfl
                            rotate_left
                            · simp only [Act.put, List.setIfInBounds_toArray, List.set_cons_zero, List.set_cons_succ, i64_w, i32_w]
                              rfl
                            refine done_ (done_of HT_.out (by kernel_rfl)) ?_
                            try go_wp2
                            go_roundg k3
                            case measure => have := HK1.out; have := HJ8.out; have := HK3.out; omega
                            case rel => exact ⟨(x5_1), (wrap64 (x6_1 + 1)), (by first | rfl | (simp; done) | (simp [*]; done)), H', ⟨by have := HK1.out; have := HJ8.out; have := HK3.out; omega⟩, ⟨by (with_reducible repeat (first | apply Kd.R_alloc | apply Kd.R_drewN | apply Kd.R_drew)); exact Kd.R_mono HO_5.out (fun _ hk => trivial)⟩, ⟨by repeat (first | (with_reducible first | exact HB.out | apply below_alloc | apply pw_below_drewN | apply below_drew1 | refine below_set ?_ GE114.out | refine below_set ?_ GE120.out | refine below_set ?_ GE126.out) | exact HB.out)⟩⟩
                          · rw [if_neg c45] at H
                            have c45b0 : ((((rd_T38 x5_1 x12_3).f0).toList) == ((rd_T56 l1 x6_1).f0).toList && (((rd_T38 x5_1 x12_3).f1) == ((rd_T56 l1 x6_1).f1))) = false := by simpa using c45
                            (try (have c45b1 : decide ((((rd_T38 x5_1 x12_3).f0).toList) = ((rd_T56 l1 x6_1).f0).toList && (((rd_T38 x5_1 x12_3).f1) == ((rd_T56 l1 x6_1).f1))) = false := by simpa using c45))
                            (try (have c45b2 : ((((rd_T38 x5_1 x12_3).f0).toList) == ((rd_T56 l1 x6_1).f0).toList && (((rd_T38 x5_1 x12_3).f1) == ((rd_T56 l1 x6_1).f1))) = false := by simpa using c45))
                            (try (have c45b3 : ¬ ((((rd_T38 x5_1 x12_3).f0).toList) = ((rd_T56 l1 x6_1).f0).toList && (((rd_T38 x5_1 x12_3).f1) == ((rd_T56 l1 x6_1).f1))) := by simpa using c45))
                            clear c45
                            obtain ⟨y130, hy130⟩ : ∃ y_ : List (S38), y_ = (([] : List (S38))) := ⟨_, rfl⟩
                            replace H : (if x12_3 ≤ (x5_1.length : Int) then ((some (x5_1.take (x12_3 : Int).toNat : List (S38))).bind fun y133 => (if y130.length + y133.length < 5864062014805 then ((some (y130 ++ y133 : List (S38))).bind fun y137 => (if y137.length < 5864062014805 then ((some (y137 ++ [(⟨((rd_T56 l1 x6_1).f0), ((rd_T56 l1 x6_1).f1)⟩ : S38)] : List (S38))).bind fun y140 => ((some (x5_1.drop (x12_3 : Int).toNat : List (S38))).bind fun y143 => (if y140.length + y143.length < 5864062014805 then (thermographref19_Diff.l0 k3 l0 l1 (y140 ++ y143) (wrap64 (x6_1 + 1))) else (none)))) else (none))) else (none))) else (none)) = some r := by first | (rw [hy130]; with_reducible exact H) | (have H2_ := (Option.bind_some _ _).symm.trans H; rw [hy130]; with_reducible exact H2_) | (have H2_ := (Option.bind_some _ _).symm.trans H; with_reducible exact H2_) | with_reducible exact H | (rw [hy130]; exact H) | exact H
                            have Ny130 := Aside0.mk hy130
                            clear hy130
                            have c50b0 := eq_true (of_decide_eq_true (by first | (with_reducible assumption) | assumption) : 0 ≤ x12_3)
                            by_cases c51 : x12_3 ≤ (x5_1.length : Int)
                            · rw [if_pos c51] at H
                              have c51b0 := eq_true c51
                              have c51b1 : decide (x12_3 ≤ (x5_1.length : Int)) = true := decide_eq_true c51
                              clear c51
                              obtain ⟨y133, hy133⟩ : ∃ y_ : List (S38), y_ = (x5_1.take (x12_3 : Int).toNat) := ⟨_, rfl⟩
                              replace H : (if y130.length + y133.length < 5864062014805 then ((some (y130 ++ y133 : List (S38))).bind fun y137 => (if y137.length < 5864062014805 then ((some (y137 ++ [(⟨((rd_T56 l1 x6_1).f0), ((rd_T56 l1 x6_1).f1)⟩ : S38)] : List (S38))).bind fun y140 => ((some (x5_1.drop (x12_3 : Int).toNat : List (S38))).bind fun y143 => (if y140.length + y143.length < 5864062014805 then (thermographref19_Diff.l0 k3 l0 l1 (y140 ++ y143) (wrap64 (x6_1 + 1))) else (none)))) else (none))) else (none)) = some r := by first | (rw [hy133]; with_reducible exact H) | (have H2_ := (Option.bind_some _ _).symm.trans H; rw [hy133]; with_reducible exact H2_) | (have H2_ := (Option.bind_some _ _).symm.trans H; with_reducible exact H2_) | with_reducible exact H | (rw [hy133]; exact H) | exact H
                              have Ny133 := Aside0.mk hy133
                              clear hy133
                              by_cases c52 : y130.length + y133.length < 5864062014805
                              · rw [if_pos c52] at H
                                have LMc52 := Aside0.mk c52
                                clear c52
                                obtain ⟨y137, hy137⟩ : ∃ y_ : List (S38), y_ = (y130 ++ y133) := ⟨_, rfl⟩
                                replace H : (if y137.length < 5864062014805 then ((some (y137 ++ [(⟨((rd_T56 l1 x6_1).f0), ((rd_T56 l1 x6_1).f1)⟩ : S38)] : List (S38))).bind fun y140 => ((some (x5_1.drop (x12_3 : Int).toNat : List (S38))).bind fun y143 => (if y140.length + y143.length < 5864062014805 then (thermographref19_Diff.l0 k3 l0 l1 (y140 ++ y143) (wrap64 (x6_1 + 1))) else (none)))) else (none)) = some r := by first | (rw [hy137]; with_reducible exact H) | (have H2_ := (Option.bind_some _ _).symm.trans H; rw [hy137]; with_reducible exact H2_) | (have H2_ := (Option.bind_some _ _).symm.trans H; with_reducible exact H2_) | with_reducible exact H | (rw [hy137]; exact H) | exact H
                                have Ny137 := Aside0.mk hy137
                                clear hy137
                                by_cases c53 : y137.length < 5864062014805
                                · rw [if_pos c53] at H
                                  have LMc53 := Aside0.mk c53
                                  clear c53
                                  obtain ⟨y140, hy140⟩ : ∃ y_ : List (S38), y_ = (y137 ++ [(⟨((rd_T56 l1 x6_1).f0), ((rd_T56 l1 x6_1).f1)⟩ : S38)]) := ⟨_, rfl⟩
                                  replace H : ((some (x5_1.drop (x12_3 : Int).toNat : List (S38))).bind fun y143 => (if y140.length + y143.length < 5864062014805 then (thermographref19_Diff.l0 k3 l0 l1 (y140 ++ y143) (wrap64 (x6_1 + 1))) else (none))) = some r := by first | (rw [hy140]; with_reducible exact H) | (have H2_ := (Option.bind_some _ _).symm.trans H; rw [hy140]; with_reducible exact H2_) | (have H2_ := (Option.bind_some _ _).symm.trans H; with_reducible exact H2_) | with_reducible exact H | (rw [hy140]; exact H) | exact H
                                  have Ny140 := Aside0.mk hy140
                                  clear hy140
                                  have c54b0 := eq_true (of_decide_eq_true (by first | (with_reducible assumption) | assumption) : 0 ≤ x12_3)
                                  have c55b0 := eq_true (of_decide_eq_true (by first | (with_reducible assumption) | assumption) : x12_3 ≤ (x5_1.length : Int))
                                  obtain ⟨y143, hy143⟩ : ∃ y_ : List (S38), y_ = (x5_1.drop (x12_3 : Int).toNat) := ⟨_, rfl⟩
                                  replace H : (if y140.length + y143.length < 5864062014805 then (thermographref19_Diff.l0 k3 l0 l1 (y140 ++ y143) (wrap64 (x6_1 + 1))) else (none)) = some r := by first | (rw [hy143]; with_reducible exact H) | (have H2_ := (Option.bind_some _ _).symm.trans H; rw [hy143]; with_reducible exact H2_) | (have H2_ := (Option.bind_some _ _).symm.trans H; with_reducible exact H2_) | with_reducible exact H | (rw [hy143]; exact H) | exact H
                                  have Ny143 := Aside0.mk hy143
                                  clear hy143
                                  by_cases c56 : y140.length + y143.length < 5864062014805
                                  · rw [if_pos c56] at H
                                    have LMc56 := Aside0.mk c56
                                    clear c56
                                    obtain ⟨y147, hy147⟩ : ∃ y_ : List (S38), y_ = (y140 ++ y143) := ⟨_, rfl⟩
                                    replace H : (thermographref19_Diff.l0 k3 l0 l1 y147 (wrap64 (x6_1 + 1))) = some r := by first | (rw [hy147]; with_reducible exact H) | (have H2_ := (Option.bind_some _ _).symm.trans H; rw [hy147]; with_reducible exact H2_) | (have H2_ := (Option.bind_some _ _).symm.trans H; with_reducible exact H2_) | with_reducible exact H | (rw [hy147]; exact H) | exact H
                                    have Ny147 := Aside0.mk hy147
                                    clear hy147
                                    have H' := Aside0.mk H
                                    clear H
                                    try go_wp2
                                    have n0_ := Aside0.mk (Kd.R_drew HO_5.out)
                                    have n1_ := Aside0.mk (blk_drew BK114.out)
                                    have n2_ := Aside0.mk (blk_drew BK120.out)
                                    have n3_ := Aside0.mk (blk_drew BK126.out)
                                    have n4_ := Aside0.mk (below_drew1 HB.out)
                                    clear HO_5
                                    clear BK114
                                    clear BK120
                                    clear BK126
                                    clear HB
                                    have HO_5 := n0_
                                    have BK114 := n1_
                                    have BK120 := n2_
                                    have BK126 := n3_
                                    have HB := n4_
                                    clear n0_ n1_ n2_ n3_ n4_
                                    obtain ⟨Ao58, co58, eo58⟩ := Kd.R_slice HO_5.out
                                    (first | subst eo58 | (injection eo58 with f1_ f2_ f3_; have f4_ := f1_.symm; have f5_ := f3_.symm; clear f1_ f2_ f3_; subst f4_; subst f5_))
                                    have p127 : 0 ≤ (x12_3 : Int) := of_decide_eq_true (by first | (with_reducible assumption) | assumption)
                                    have q127 : x12_3 < (x5_1.length : Int) := of_decide_eq_true (by first | (with_reducible assumption) | assumption)
                                    obtain ⟨ad127, e127, hx127_0, hx127_1⟩ := at_T38 (Kd.R_reads' HO_5.out).2.2 x12_3 p127 q127
                                    cases e127
                                    replace p127 := eq_true p127
                                    replace q127 := eq_true q127
                                    refine start_ (n := 12) (S := fun w' => w'.cell? ⟨gb114, 0, none⟩ = some (.string ((rd_T56 l1 x6_1).f0)) ∧ w'.cell? ⟨gb114, 1, none⟩ = some (.int .i64 ((rd_T56 l1 x6_1).f1)) ∧ w'.cell? (ad127.add ((x12_3).toNat * 2)) = some (.string ((rd_T38 x5_1 x12_3).f0)) ∧ w'.cell? ⟨(ad127.add ((x12_3).toNat * 2)).block, (ad127.add ((x12_3).toNat * 2)).off + 1, none⟩ = some (.int .i64 ((rd_T38 x5_1 x12_3).f1))) (ds := []) #[false, false, false, false, false, false, false, false, false, false, false, false] (by kernel_rfl) rfl rfl ⟨(blk_cell BK114.out 0).trans rfl, (blk_cell BK114.out 1).trans rfl, hx127_0, hx127_1⟩ (fun hHeld => ?_); refine with_tabW thermographref19_Diff.tab10 thermographref19_Diff.bits10 (fun HT_ HW_ => ?_)
                                    generalize wr.drew = w57 at HO_5 BK114 BK120 BK126 HB hx127_0 hx127_1 hHeld ⊢
                                    refine pure_ (i := 0) (N := some 59) (v := ?_) (a' := ?_) #[true, false, false, false, false, false, false, false, false, false, false, false] rfl rfl (any_of HT_.out (by kernel_rfl)) (fun _ _ _ h => h) (Or.inl ⟨by rfl, ?_⟩) ?_ ?_
                                    rotate_left
                                    · intro w'
                                      go_simp
                                      with_reducible rfl
                                    rotate_left
                                    · simp only [Act.put, List.setIfInBounds_toArray, List.set_cons_zero, List.set_cons_succ, i64_w, i32_w]
                                      rfl
                                    refine pure_ (i := 1) (N := some 60) (v := ?_) (a' := ?_) #[true, true, false, false, false, false, false, false, false, false, false, false] rfl rfl (any_of HT_.out (by kernel_rfl)) (fun _ _ _ h => h) (Or.inl ⟨by rfl, ?_⟩) ?_ ?_
                                    rotate_left
                                    · intro w'
                                      go_simp
                                      with_reducible rfl
                                    rotate_left
                                    · simp only [Act.put, List.setIfInBounds_toArray, List.set_cons_zero, List.set_cons_succ, i64_w, i32_w]
                                      rfl
                                    refine pure_ (i := 2) (N := some 61) (v := ?_) (a' := ?_) #[true, true, true, false, false, false, false, false, false, false, false, false] rfl rfl (any_of HT_.out (by kernel_rfl)) (fun _ _ _ h => h) (Or.inl ⟨by rfl, ?_⟩) ?_ ?_
                                    rotate_left
                                    · intro w'
                                      go_simp
                                      with_reducible rfl
                                    rotate_left
                                    · simp only [Act.put, List.setIfInBounds_toArray, List.set_cons_zero, List.set_cons_succ, i64_w, i32_w]
                                      rfl
                                    refine pure_ (i := 3) (N := some 62) (v := ?_) (a' := ?_) #[true, true, true, true, false, false, false, false, false, false, false, false] rfl rfl (any_of HT_.out (by kernel_rfl)) (fun _ _ _ h => h) (Or.inl ⟨by rfl, ?_⟩) ?_ ?_
                                    rotate_left
                                    · intro w'
                                      go_simp
                                      with_reducible rfl
                                    rotate_left
                                    · simp only [Act.put, List.setIfInBounds_toArray, List.set_cons_zero, List.set_cons_succ, i64_w, i32_w]
                                      rfl
                                    refine pure_ (i := 4) (N := some 63) (v := ?_) (a' := ?_) #[true, true, true, true, true, false, false, false, false, false, false, false] rfl rfl (any_of HT_.out (by kernel_rfl)) (fun _ _ _ h => h) (Or.inl ⟨by rfl, ?_⟩) ?_ ?_
                                    rotate_left
                                    · intro w'
                                      go_simp
                                      with_reducible rfl
                                    rotate_left
                                    · simp only [Act.put, List.setIfInBounds_toArray, List.set_cons_zero, List.set_cons_succ, i64_w, i32_w]
                                      rfl
                                    refine pure_ (i := 5) (N := some 64) (v := ?_) (a' := ?_) #[true, true, true, true, true, true, false, false, false, false, false, false] rfl rfl (any_of HT_.out (by kernel_rfl)) (fun _ _ _ h => h) (Or.inl ⟨by rfl, ?_⟩) ?_ ?_
                                    rotate_left
                                    · intro w'
                                      go_simp
                                      with_reducible rfl
                                    rotate_left
                                    · simp only [Act.put, List.setIfInBounds_toArray, List.set_cons_zero, List.set_cons_succ, i64_w, i32_w]
                                      rfl
                                    refine pure_ (i := 6) (N := some 65) (v := ?_) (a' := ?_) #[true, true, true, true, true, true, true, false, false, false, false, false] rfl rfl (any_of HT_.out (by kernel_rfl)) (fun _ _ _ h => h) (Or.inl ⟨by rfl, ?_⟩) ?_ ?_
                                    rotate_left
                                    · intro w'
                                      go_simp
                                      with_reducible rfl
                                    rotate_left
                                    · simp only [Act.put, List.setIfInBounds_toArray, List.set_cons_zero, List.set_cons_succ, i64_w, i32_w]
                                      rfl
                                    refine pure_ (i := 7) (N := some 66) (v := ?_) (a' := ?_) #[true, true, true, true, true, true, true, true, false, false, false, false] rfl rfl (any_of HT_.out (by kernel_rfl)) (fun _ _ _ h => h) (Or.inl ⟨by rfl, ?_⟩) ?_ ?_
                                    rotate_left
                                    · intro w'
                                      go_simp
                                      with_reducible rfl
                                    rotate_left
                                    · simp only [Act.put, List.setIfInBounds_toArray, List.set_cons_zero, List.set_cons_succ, i64_w, i32_w]
                                      rfl
                                    refine take_ (i := 8) (N := some 67) (v := ?_) (a' := ?_) #[true, true, true, true, true, true, true, true, true, false, false, false] rfl rfl (take_ofW HT_.out HW_.out (by kernel_rfl)) (fun _ _ _ h => h) (Or.inl ⟨by rfl, ?_⟩) hHeld ?_ ?_
                                    rotate_left
                                    · rintro w' ⟨s0, s1, s2, s3⟩
                                      go_simp
                                      with_reducible rfl
                                    rotate_left
                                    · simp only [Act.put, List.setIfInBounds_toArray, List.set_cons_zero, List.set_cons_succ, i64_w, i32_w]
                                      rfl
                                    refine take_ (i := 9) (N := some 68) (v := ?_) (a' := ?_) #[true, true, true, true, true, true, true, true, true, true, false, false] rfl rfl (take_ofW HT_.out HW_.out (by kernel_rfl)) (fun _ _ _ h => h) (Or.inl ⟨by rfl, ?_⟩) hHeld ?_ ?_
                                    rotate_left
                                    · rintro w' ⟨s0, s1, s2, s3⟩
                                      go_simp
                                      with_reducible rfl
                                    rotate_left
                                    · simp only [Act.put, List.setIfInBounds_toArray, List.set_cons_zero, List.set_cons_succ, i64_w, i32_w]
                                      rfl
                                    refine one_ (i := 10) (N := some 69) #[true, true, true, true, true, true, true, true, true, true, true, false] rfl rfl (one_of HT_.out (by kernel_rfl)) (by decide) (fun K hK => ?_)
                                    refine goes_ Try.func19 (by kernel_rfl) rfl #[.agg #[.string ((rd_T38 x5_1 x12_3).f0), .int .i64 ((rd_T38 x5_1 x12_3).f1)], .agg #[.string ((rd_T56 l1 x6_1).f0), .int .i64 ((rd_T56 l1 x6_1).f1)]] (by rfl) rfl rfl (by (try simp only [List.map_toArray, List.map_cons, List.map_nil]); first | done | rfl | (simp only [List.length_drop, List.length_take]; rfl)) ?_
                                    with_reducible refine (thermographref19_less.calls ((rd_T38 x5_1 x12_3).f0) ((rd_T38 x5_1 x12_3).f1) ((rd_T56 l1 x6_1).f0) ((rd_T56 l1 x6_1).f1) false _ A40.out).mono ?_
                                    rintro e w59 ⟨rfl, hb⟩
                                    have HS2_ := (hb.cell (World.block_lt_of_cell? _ _ (hHeld.2.2.1))).trans (hHeld.2.2.1)
                                    have HS3_ := (hb.cell (World.block_lt_of_cell? _ _ (hHeld.2.2.2))).trans (hHeld.2.2.2)
                                    refine ⟨_, rfl, ?_⟩
                                    have n0_ := Aside0.mk (Kd.R_below (by (with_reducible repeat (first | apply Kd.R_alloc | apply Kd.R_drewN | apply Kd.R_drew)); exact HO_5.out) hb)
                                    have n1_ := Aside0.mk (blk_below (g := gb114) (o := .cells #[.string ((rd_T56 l1 x6_1).f0), .int .i64 ((rd_T56 l1 x6_1).f1)] 38 (0, 0)) (by (with_reducible repeat (first | refine blk_drewN ?_ _ | refine blk_drew ?_ | refine blk_alloc ?_ _)); exact BK114.out) hb)
                                    have n2_ := Aside0.mk (blk_below (g := gb120) (o := .cells #[.string t115, .int .i64 t116, .int .i64 t117, .int .u32 t118] 56 (0, 0)) (by (with_reducible repeat (first | refine blk_drewN ?_ _ | refine blk_drew ?_ | refine blk_alloc ?_ _)); exact BK120.out) hb)
                                    have n3_ := Aside0.mk (blk_below (g := gb126) (o := .cells #[.string t121, .int .i64 t122, .int .i64 t123, .int .u32 t124] 56 (0, 0)) (by (with_reducible repeat (first | refine blk_drewN ?_ _ | refine blk_drew ?_ | refine blk_alloc ?_ _)); exact BK126.out) hb)
                                    have n4_ := Aside0.mk (below_step (by repeat (first | (with_reducible first | exact HB.out | apply below_alloc | apply pw_below_drewN | apply below_drew1 | refine below_set ?_ GE114.out | refine below_set ?_ GE120.out | refine below_set ?_ GE126.out) | exact HB.out)) hb)
                                    clear HO_5
                                    clear BK114
                                    clear BK120
                                    clear BK126
                                    clear HB
                                    have HO_5 := n0_
                                    have BK114 := n1_
                                    have BK120 := n2_
                                    have BK126 := n3_
                                    have HB := n4_
                                    clear n0_ n1_ n2_ n3_ n4_
                                    (try clear hb)
                                    (try clear hb2)
                                    (try clear hk)
                                    (try clear hi)
                                    refine hK.out _ _ ⟨(blk_cell BK114.out 0).trans rfl, (blk_cell BK114.out 1).trans rfl, HS2_, HS3_⟩ (fun hHeld => ?_)
                                    clear hK K
                                    refine norm_ (a' := ?_) ?_ ?_
                                    rotate_left
                                    · show Act.put _ (some 69) _ = _
                                      simp only [Act.put, List.setIfInBounds_toArray, List.set_cons_zero, List.set_cons_succ, i64_w, i32_w]
                                      rfl
                                    refine pure_ (i := 11) (N := some 70) (v := ?_) (a' := ?_) #[true, true, true, true, true, true, true, true, true, true, true, true] rfl rfl (any_of HT_.out (by kernel_rfl)) (fun _ _ _ h => h) (Or.inl ⟨by rfl, ?_⟩) ?_ ?_
                                    rotate_left
                                    · intro w'
                                      go_simp
                                      with_reducible rfl
                                    rotate_left
                                    · simp only [Act.put, List.setIfInBounds_toArray, List.set_cons_zero, List.set_cons_succ, i64_w, i32_w]
                                      rfl
                                    refine done_ (done_of HT_.out (by kernel_rfl)) ?_
                                    try go_wp2
                                    have n0_ := Aside0.mk (Kd.R_drew HO_5.out)
                                    have n1_ := Aside0.mk (blk_drew BK114.out)
                                    have n2_ := Aside0.mk (blk_drew BK120.out)
                                    have n3_ := Aside0.mk (blk_drew BK126.out)
                                    have n4_ := Aside0.mk (below_drew1 HB.out)
                                    clear HO_5
                                    clear BK114
                                    clear BK120
                                    clear BK126
                                    clear HB
                                    have HO_5 := n0_
                                    have BK114 := n1_
                                    have BK120 := n2_
                                    have BK126 := n3_
                                    have HB := n4_
                                    clear n0_ n1_ n2_ n3_ n4_
                                    have p129 : 0 ≤ (x12_3 : Int) := of_decide_eq_true (by first | (with_reducible assumption) | assumption)
                                    have q129 : x12_3 < (x5_1.length : Int) := of_decide_eq_true (by first | (with_reducible assumption) | assumption)
                                    obtain ⟨ad129, e129, hx129_0, hx129_1⟩ := at_T38 (Kd.R_reads' HO_5.out).2.2 x12_3 p129 q129
                                    obtain rfl : ad127 = ad129 := (by injection e129)
                                    replace p129 := eq_true p129
                                    replace q129 := eq_true q129
                                    refine start_ (n := 12) (S := fun w' => w'.cell? ⟨gb114, 0, none⟩ = some (.string ((rd_T56 l1 x6_1).f0)) ∧ w'.cell? ⟨gb114, 1, none⟩ = some (.int .i64 ((rd_T56 l1 x6_1).f1)) ∧ w'.cell? (ad127.add ((x12_3).toNat * 2)) = some (.string ((rd_T38 x5_1 x12_3).f0)) ∧ w'.cell? ⟨(ad127.add ((x12_3).toNat * 2)).block, (ad127.add ((x12_3).toNat * 2)).off + 1, none⟩ = some (.int .i64 ((rd_T38 x5_1 x12_3).f1))) (ds := []) #[false, false, false, false, false, false, false, false, false, false, false, false] (by kernel_rfl) rfl rfl ⟨(blk_cell BK114.out 0).trans rfl, (blk_cell BK114.out 1).trans rfl, hx129_0, hx129_1⟩ (fun hHeld => ?_); refine with_tabW thermographref19_Diff.tab12 thermographref19_Diff.bits12 (fun HT_ HW_ => ?_)
                                    generalize w59.drew = w60 at HO_5 BK114 BK120 BK126 HB hx129_0 hx129_1 hHeld ⊢
                                    refine pure_ (i := 0) (N := some 73) (v := ?_) (a' := ?_) #[true, false, false, false, false, false, false, false, false, false, false, false] rfl rfl (any_of HT_.out (by kernel_rfl)) (fun _ _ _ h => h) (Or.inl ⟨by rfl, ?_⟩) ?_ ?_
                                    rotate_left
                                    · intro w'
                                      go_simp
                                      with_reducible rfl
                                    rotate_left
                                    · simp only [Act.put, List.setIfInBounds_toArray, List.set_cons_zero, List.set_cons_succ, i64_w, i32_w]
                                      rfl
                                    refine pure_ (i := 1) (N := some 74) (v := ?_) (a' := ?_) #[true, true, false, false, false, false, false, false, false, false, false, false] rfl rfl (any_of HT_.out (by kernel_rfl)) (fun _ _ _ h => h) (Or.inl ⟨by rfl, ?_⟩) ?_ ?_
                                    rotate_left
                                    · intro w'
                                      go_simp
                                      with_reducible rfl
                                    rotate_left
                                    · simp only [Act.put, List.setIfInBounds_toArray, List.set_cons_zero, List.set_cons_succ, i64_w, i32_w]
                                      rfl
                                    refine pure_ (i := 2) (N := some 75) (v := ?_) (a' := ?_) #[true, true, true, false, false, false, false, false, false, false, false, false] rfl rfl (any_of HT_.out (by kernel_rfl)) (fun _ _ _ h => h) (Or.inl ⟨by rfl, ?_⟩) ?_ ?_
                                    rotate_left
                                    · intro w'
                                      go_simp
                                      with_reducible rfl
                                    rotate_left
                                    · simp only [Act.put, List.setIfInBounds_toArray, List.set_cons_zero, List.set_cons_succ, i64_w, i32_w]
                                      rfl
                                    refine pure_ (i := 3) (N := some 76) (v := ?_) (a' := ?_) #[true, true, true, true, false, false, false, false, false, false, false, false] rfl rfl (any_of HT_.out (by kernel_rfl)) (fun _ _ _ h => h) (Or.inl ⟨by rfl, ?_⟩) ?_ ?_
                                    rotate_left
                                    · intro w'
                                      go_simp
                                      with_reducible rfl
                                    rotate_left
                                    · simp only [Act.put, List.setIfInBounds_toArray, List.set_cons_zero, List.set_cons_succ, i64_w, i32_w]
                                      rfl
                                    refine pure_ (i := 4) (N := some 77) (v := ?_) (a' := ?_) #[true, true, true, true, true, false, false, false, false, false, false, false] rfl rfl (any_of HT_.out (by kernel_rfl)) (fun _ _ _ h => h) (Or.inl ⟨by rfl, ?_⟩) ?_ ?_
                                    rotate_left
                                    · intro w'
                                      go_simp
                                      with_reducible rfl
                                    rotate_left
                                    · simp only [Act.put, List.setIfInBounds_toArray, List.set_cons_zero, List.set_cons_succ, i64_w, i32_w]
                                      rfl
                                    refine pure_ (i := 5) (N := some 78) (v := ?_) (a' := ?_) #[true, true, true, true, true, true, false, false, false, false, false, false] rfl rfl (any_of HT_.out (by kernel_rfl)) (fun _ _ _ h => h) (Or.inl ⟨by rfl, ?_⟩) ?_ ?_
                                    rotate_left
                                    · intro w'
                                      go_simp
                                      with_reducible rfl
                                    rotate_left
                                    · simp only [Act.put, List.setIfInBounds_toArray, List.set_cons_zero, List.set_cons_succ, i64_w, i32_w]
                                      rfl
                                    refine pure_ (i := 6) (N := some 79) (v := ?_) (a' := ?_) #[true, true, true, true, true, true, true, false, false, false, false, false] rfl rfl (any_of HT_.out (by kernel_rfl)) (fun _ _ _ h => h) (Or.inl ⟨by rfl, ?_⟩) ?_ ?_
                                    rotate_left
                                    · intro w'
                                      go_simp
                                      with_reducible rfl
                                    rotate_left
                                    · simp only [Act.put, List.setIfInBounds_toArray, List.set_cons_zero, List.set_cons_succ, i64_w, i32_w]
                                      rfl
                                    refine pure_ (i := 7) (N := some 80) (v := ?_) (a' := ?_) #[true, true, true, true, true, true, true, true, false, false, false, false] rfl rfl (any_of HT_.out (by kernel_rfl)) (fun _ _ _ h => h) (Or.inl ⟨by rfl, ?_⟩) ?_ ?_
                                    rotate_left
                                    · intro w'
                                      go_simp
                                      with_reducible rfl
                                    rotate_left
                                    · simp only [Act.put, List.setIfInBounds_toArray, List.set_cons_zero, List.set_cons_succ, i64_w, i32_w]
                                      rfl
                                    refine take_ (i := 8) (N := some 81) (v := ?_) (a' := ?_) #[true, true, true, true, true, true, true, true, true, false, false, false] rfl rfl (take_ofW HT_.out HW_.out (by kernel_rfl)) (fun _ _ _ h => h) (Or.inl ⟨by rfl, ?_⟩) hHeld ?_ ?_
                                    rotate_left
                                    · rintro w' ⟨s0, s1, s2, s3⟩
                                      go_simp
                                      with_reducible rfl
                                    rotate_left
                                    · simp only [Act.put, List.setIfInBounds_toArray, List.set_cons_zero, List.set_cons_succ, i64_w, i32_w]
                                      rfl
                                    refine take_ (i := 9) (N := some 82) (v := ?_) (a' := ?_) #[true, true, true, true, true, true, true, true, true, true, false, false] rfl rfl (take_ofW HT_.out HW_.out (by kernel_rfl)) (fun _ _ _ h => h) (Or.inl ⟨by rfl, ?_⟩) hHeld ?_ ?_
                                    rotate_left
                                    · rintro w' ⟨s0, s1, s2, s3⟩
                                      go_simp
                                      with_reducible rfl
                                    rotate_left
                                    · simp only [Act.put, List.setIfInBounds_toArray, List.set_cons_zero, List.set_cons_succ, i64_w, i32_w]
                                      rfl
                                    refine pure_ (i := 10) (N := some 83) (v := ?_) (a' := ?_) #[true, true, true, true, true, true, true, true, true, true, true, false] rfl rfl (any_of HT_.out (by kernel_rfl)) (fun _ _ _ h => h) (Or.inl ⟨by rfl, ?_⟩) ?_ ?_
                                    rotate_left
                                    · intro w'
                                      go_simp
                                      with_reducible rfl
                                    rotate_left
                                    · simp only [Act.put, List.setIfInBounds_toArray, List.set_cons_zero, List.set_cons_succ, i64_w, i32_w]
                                      rfl
                                    refine pure_ (i := 11) (N := some 84) (v := ?_) (a' := ?_) #[true, true, true, true, true, true, true, true, true, true, true, true] rfl rfl (any_of HT_.out (by kernel_rfl)) (fun _ _ _ h => h) (Or.inl ⟨by rfl, ?_⟩) ?_ ?_
                                    rotate_left
                                    · intro w'
                                      go_simp
                                      with_reducible rfl
                                    rotate_left
                                    · simp only [Act.put, List.setIfInBounds_toArray, List.set_cons_zero, List.set_cons_succ, i64_w, i32_w]
                                      rfl
                                    refine done_ (done_of HT_.out (by kernel_rfl)) ?_
                                    try go_wp2_with (first | ((with_reducible refine gate_dst (N := 85) rfl ?_); refine Kd.R_lit k38 _ 38 ?hg (N := 85) ?hd (xs := ([] : List (S38))) (inner := []) (ok := fun _ => True) (okp := fun _ => True) ?hr ?hp (fun _ hk => hk) trivial (Below.refl _ _) (Nat.le_refl _) (by simp) ?_; (case hd => rfl); (case hg => rfl); (case hr => first | (go_simp; done) | (go_simp; rfl)); (case hp => exact (Reps.none _ _)); intro v131 w61 ho62 hb hg_ hnew_; clear hg_ hnew_; (first | rw [← Ny130.out] at ho62 | (simp only [Int.reduceToNat] at ho62; rw [← Ny130.out] at ho62)); have n0_ := Aside0.mk (Kd.R_elder' (by (with_reducible repeat (first | apply Kd.R_alloc | apply Kd.R_drewN | apply Kd.R_drew)); exact HO_5.out) (Kd.R_base ho62) hb); have n1_ := Aside0.mk (Kd.R_lower (Kd.R_newB (Kd.R_new' ho62 (Kd.R_lt (by (with_reducible repeat (first | apply Kd.R_alloc | apply Kd.R_drewN | apply Kd.R_drew)); exact HO_5.out))) (g := gb114) (o := .cells #[.string ((rd_T56 l1 x6_1).f0), .int .i64 ((rd_T56 l1 x6_1).f1)] 38 (0, 0)) (by (with_reducible repeat (first | refine blk_drewN ?_ _ | refine blk_drew ?_ | refine blk_alloc ?_ _)); exact BK114.out)) (below_size (by repeat (first | (with_reducible first | exact HB.out | apply below_alloc | apply pw_below_drewN | apply below_drew1 | refine below_set ?_ GE114.out | refine below_set ?_ GE120.out | refine below_set ?_ GE126.out) | exact HB.out)))); have n2_ := Aside0.mk (blk_below (g := gb114) (o := .cells #[.string ((rd_T56 l1 x6_1).f0), .int .i64 ((rd_T56 l1 x6_1).f1)] 38 (0, 0)) (by (with_reducible repeat (first | refine blk_drewN ?_ _ | refine blk_drew ?_ | refine blk_alloc ?_ _)); exact BK114.out) hb); have n3_ := Aside0.mk (blk_below (g := gb120) (o := .cells #[.string t115, .int .i64 t116, .int .i64 t117, .int .u32 t118] 56 (0, 0)) (by (with_reducible repeat (first | refine blk_drewN ?_ _ | refine blk_drew ?_ | refine blk_alloc ?_ _)); exact BK120.out) hb); have n4_ := Aside0.mk (blk_below (g := gb126) (o := .cells #[.string t121, .int .i64 t122, .int .i64 t123, .int .u32 t124] 56 (0, 0)) (by (with_reducible repeat (first | refine blk_drewN ?_ _ | refine blk_drew ?_ | refine blk_alloc ?_ _)); exact BK126.out) hb); have n5_ := Aside0.mk (below_step (by repeat (first | (with_reducible first | exact HB.out | apply below_alloc | apply pw_below_drewN | apply below_drew1 | refine below_set ?_ GE114.out | refine below_set ?_ GE120.out | refine below_set ?_ GE126.out) | exact HB.out)) hb); clear HO_5; clear BK114; clear BK120; clear BK126; clear HB; have HO_5 := n0_; have HO132 := n1_; have BK114 := n2_; have BK120 := n3_; have BK126 := n4_; have HB := n5_; clear n0_ n1_ n2_ n3_ n4_ n5_; clear hb ho62; have q63 : (x12_3 : Int) ≤ ((x5_1.length : Int) : Int) := of_decide_eq_true (by first | (with_reducible assumption) | assumption); obtain ⟨i063, hi063, _, hsz63, _⟩ := info_parts info38; have hroom63 : x5_1.length ≤ co58 := (Kd.R_reads' HO_5.out).2.1; have hC63 : Kd.C k38 _ (some ad127) x5_1.length x5_1 := (Kd.R_reads' HO_5.out).2.2; have hcut63 := cut_to (P := Try.prog) 27 38 .i64 Try.underlying27 hi063 (some ad127) x5_1.length co58 x12_3 (of_decide_eq_true (by first | (with_reducible assumption) | assumption)) q63 hroom63; have hr63 := Kd.C_take (m := (x12_3 : Int).toNat) hC63 (by omega); have hy63 : y133.length = (x12_3 : Int).toNat := (by rw [Ny133.out, List.length_take]; omega); rw [← Ny133.out] at hr63; rw [← hy63] at hcut63; have HR136 := Aside0.mk hr63; have HC136 := Aside0.mk (show y133.length ≤ co58 from by omega); clear hr63 hC63 hroom63 hi063 hsz63; have KY63 := Aside0.mk hy63; clear hy63; have KL63 := Aside0.mk (show (x12_3 : Int).toNat ≤ x5_1.length from by omega); replace q63 := eq_true q63) | ((with_reducible refine gate_builtin (b := .append) (xs := #[.tmp 86, .tmp 89]) rfl ?_); at_builtin; refine Kd.R_append_rows k38 (w0 := w) w.heap.size rfl (.tmp 86) (.tmp 89) 27 38 (.agg #[(.string ⟨#[]⟩), (.int .i64 0)]) 24 rfl Try.underlying27 info38 rfl (by decide) (by omega) v131 y130 y133 _ _ _ (fun k_ => some k_ ≠ (.slice (some ad127) x5_1.length co58 : Value).ownBlock ∧ k_ ≠ gb114) (fun _ => False) rfl rfl ?aO ?aR (fun _ _ h => h) (fun _ h => h.elim) ?aF ?aB ?aS ?aL ?_; (case aR => repeat (first | exact (by repeat (first | (with_reducible exact HR136.out) | (with_reducible refine Kd.C_alloc ?_ _) | (with_reducible refine Kd.C_drewN ?_ _) | (with_reducible refine Kd.C_drew ?_) | exact HR136.out)) | (with_reducible refine Kd.C_alloc ?_ _) | (with_reducible refine Kd.C_drewN ?_ _) | (with_reducible refine Kd.C_drew ?_))); (case aB => exact (by repeat (first | (with_reducible first | exact HB.out | apply below_alloc | apply pw_below_drewN | apply below_drew1 | refine below_set ?_ GE114.out | refine below_set ?_ GE120.out | refine below_set ?_ GE126.out) | exact HB.out))); (case aF => exact (fun k_ hk => ⟨Kd.fresh' (Kd.R_lt (by (with_reducible repeat (first | apply Kd.R_alloc | apply Kd.R_drewN | apply Kd.R_drew)); exact HO_5.out)) k_ hk, Kd.freshB (g := gb114) (o := .cells #[.string ((rd_T56 l1 x6_1).f0), .int .i64 ((rd_T56 l1 x6_1).f1)] 38 (0, 0)) (by (with_reducible repeat (first | refine blk_drewN ?_ _ | refine blk_drew ?_ | refine blk_alloc ?_ _)); exact BK114.out) k_ hk⟩)); (case aO => exact (by (with_reducible repeat (first | apply Kd.R_alloc | apply Kd.R_drewN | apply Kd.R_drew)); exact Kd.R_mono HO132.out (fun _ hk => ⟨hk.1.2, hk.2⟩))); (case aS => exact (below_size (by repeat (first | (with_reducible first | exact HB.out | apply below_alloc | apply pw_below_drewN | apply below_drew1 | refine below_set ?_ GE114.out | refine below_set ?_ GE120.out | refine below_set ?_ GE126.out) | exact HB.out)))); (case aL => have := LMc52.out; omega); intro v138 w64 ho hb hg hat; rw [← Ny137.out] at ho; have n0_ := Aside0.mk (Kd.R_after (ok := (fun k_ => k_ ≠ gb114)) (by (with_reducible repeat (first | apply Kd.R_alloc | apply Kd.R_drewN | apply Kd.R_drew)); exact HO_5.out) hg hat); have n1_ := Aside0.mk (blk_grown (g := gb114) (o := .cells #[.string ((rd_T56 l1 x6_1).f0), .int .i64 ((rd_T56 l1 x6_1).f1)] 38 (0, 0)) (by (with_reducible repeat (first | refine blk_drewN ?_ _ | refine blk_drew ?_ | refine blk_alloc ?_ _)); exact BK114.out) hg (Kd.R_away HO132.out (fun _ hk => hk.2))); have n2_ := Aside0.mk (blk_grown (g := gb120) (o := .cells #[.string t115, .int .i64 t116, .int .i64 t117, .int .u32 t118] 56 (0, 0)) (by (with_reducible repeat (first | refine blk_drewN ?_ _ | refine blk_drew ?_ | refine blk_alloc ?_ _)); exact BK120.out) hg (Kd.R_ne HO132.out BK120.out (by decide))); have n3_ := Aside0.mk (blk_grown (g := gb126) (o := .cells #[.string t121, .int .i64 t122, .int .i64 t123, .int .u32 t124] 56 (0, 0)) (by (with_reducible repeat (first | refine blk_drewN ?_ _ | refine blk_drew ?_ | refine blk_alloc ?_ _)); exact BK126.out) hg (Kd.R_ne HO132.out BK126.out (by decide))); have n4_ := Aside0.mk (hb); have n5_ := Aside0.mk ((show Kd.C k38 w64 (some ad127) y133.length y133 from by rw [Ny133.out]; exact Kd.C_take (m := (x12_3 : Int).toNat) ((Kd.R_reads' (Kd.R_after (ok := (fun k_ => k_ ≠ gb114)) (by (with_reducible repeat (first | apply Kd.R_alloc | apply Kd.R_drewN | apply Kd.R_drew)); exact HO_5.out) hg hat)).2.2) KL63.out)); have n6_ := Aside0.mk (ho); clear HO_5; clear BK114; clear BK120; clear BK126; clear HB; clear HR136; clear HO132; have HO_5 := n0_; have BK114 := n1_; have BK120 := n2_; have BK126 := n3_; have HB := n4_; have HR136 := n5_; have HO139 := n6_; clear n0_ n1_ n2_ n3_ n4_ n5_ n6_; clear ho hb hg hat; have hnb65 := NB114_120.out; have hnc65 := NB120_114.out; have hnb66 := NB114_126.out; have hnc66 := NB126_114.out; have hcz67_0 : w64.cell? ⟨gb114, 0, none⟩ = some (.string ((rd_T56 l1 x6_1).f0)) := (blk_cell BK114.out 0).trans rfl; have hcz67_1 : w64.cell? ⟨gb114, 1, none⟩ = some (.int .i64 ((rd_T56 l1 x6_1).f1)) := (blk_cell BK114.out 1).trans rfl; have hfz67_0 := blk_frozen BK114.out 0; have hfz67_1 := blk_frozen BK114.out 1) | ((with_reducible refine gate_builtin (b := .append) (xs := #[.tmp 91, .tmp 93]) rfl ?_); at_builtin; refine Kd.R_append k38 (w0 := w) w.heap.size rfl (.tmp 91) (.tmp 93) 27 38 (.agg #[(.string ⟨#[]⟩), (.int .i64 0)]) 24 rfl Try.underlying27 info38 rfl (by decide) (by omega) v138 y137 (⟨((rd_T56 l1 x6_1).f0), ((rd_T56 l1 x6_1).f1)⟩ : S38) [.string ((rd_T56 l1 x6_1).f0), .int .i64 ((rd_T56 l1 x6_1).f1)] (fun k_ => some k_ ≠ (.slice (some ad127) x5_1.length co58 : Value).ownBlock ∧ k_ ≠ gb114) (fun _ => False) rfl rfl ?aP (fun _ hk => hk.elim) ?aF ?aO ?aB ?aS ?aL ?_; (case aP => exact k38_mkM _ _ _ (⟨((rd_T56 l1 x6_1).f0), ((rd_T56 l1 x6_1).f1)⟩ : S38)); (case aB => exact (by repeat (first | (with_reducible first | exact HB.out | apply below_alloc | apply pw_below_drewN | apply below_drew1 | refine below_set ?_ GE114.out | refine below_set ?_ GE120.out | refine below_set ?_ GE126.out) | exact HB.out))); (case aF => exact (fun k_ hk => ⟨Kd.fresh' (Kd.R_lt (by (with_reducible repeat (first | apply Kd.R_alloc | apply Kd.R_drewN | apply Kd.R_drew)); exact HO_5.out)) k_ hk, Kd.freshB (g := gb114) (o := .cells #[.string ((rd_T56 l1 x6_1).f0), .int .i64 ((rd_T56 l1 x6_1).f1)] 38 (0, 0)) (by (with_reducible repeat (first | refine blk_drewN ?_ _ | refine blk_drew ?_ | refine blk_alloc ?_ _)); exact BK114.out) k_ hk⟩)); (case aO => exact (by (with_reducible repeat (first | apply Kd.R_alloc | apply Kd.R_drewN | apply Kd.R_drew)); exact HO139.out)); (case aS => exact (below_size (by repeat (first | (with_reducible first | exact HB.out | apply below_alloc | apply pw_below_drewN | apply below_drew1 | refine below_set ?_ GE114.out | refine below_set ?_ GE120.out | refine below_set ?_ GE126.out) | exact HB.out)))); (case aL => have := LMc53.out; omega); intro v141 w68 ho hb hg hat; rw [← Ny140.out] at ho; have n0_ := Aside0.mk (Kd.R_after (ok := (fun k_ => k_ ≠ gb114)) (by (with_reducible repeat (first | apply Kd.R_alloc | apply Kd.R_drewN | apply Kd.R_drew)); exact HO_5.out) hg hat); have n1_ := Aside0.mk (blk_grown (g := gb114) (o := .cells #[.string ((rd_T56 l1 x6_1).f0), .int .i64 ((rd_T56 l1 x6_1).f1)] 38 (0, 0)) (by (with_reducible repeat (first | refine blk_drewN ?_ _ | refine blk_drew ?_ | refine blk_alloc ?_ _)); exact BK114.out) hg (Kd.R_away HO139.out (fun _ hk => hk.2))); have n2_ := Aside0.mk (blk_grown (g := gb120) (o := .cells #[.string t115, .int .i64 t116, .int .i64 t117, .int .u32 t118] 56 (0, 0)) (by (with_reducible repeat (first | refine blk_drewN ?_ _ | refine blk_drew ?_ | refine blk_alloc ?_ _)); exact BK120.out) hg (Kd.R_ne HO139.out BK120.out (by decide))); have n3_ := Aside0.mk (blk_grown (g := gb126) (o := .cells #[.string t121, .int .i64 t122, .int .i64 t123, .int .u32 t124] 56 (0, 0)) (by (with_reducible repeat (first | refine blk_drewN ?_ _ | refine blk_drew ?_ | refine blk_alloc ?_ _)); exact BK126.out) hg (Kd.R_ne HO139.out BK126.out (by decide))); have n4_ := Aside0.mk (hb); have n5_ := Aside0.mk ((show Kd.C k38 w68 (some ad127) y133.length y133 from by rw [Ny133.out]; exact Kd.C_take (m := (x12_3 : Int).toNat) ((Kd.R_reads' (Kd.R_after (ok := (fun k_ => k_ ≠ gb114)) (by (with_reducible repeat (first | apply Kd.R_alloc | apply Kd.R_drewN | apply Kd.R_drew)); exact HO_5.out) hg hat)).2.2) KL63.out)); have n6_ := Aside0.mk (ho); clear HO_5; clear BK114; clear BK120; clear BK126; clear HB; clear HR136; clear HO139; have HO_5 := n0_; have BK114 := n1_; have BK120 := n2_; have BK126 := n3_; have HB := n4_; have HR136 := n5_; have HO142 := n6_; clear n0_ n1_ n2_ n3_ n4_ n5_ n6_; clear ho hb hg hat; have q69 : (x12_3 : Int) ≤ ((x5_1.length : Int) : Int) := of_decide_eq_true (by first | (with_reducible assumption) | assumption); obtain ⟨i069, hi069, _, hsz69, _⟩ := info_parts info38; have hroom69 : x5_1.length ≤ co58 := (Kd.R_reads' HO_5.out).2.1; have hC69 : Kd.C k38 _ (some ad127) x5_1.length x5_1 := (Kd.R_reads' HO_5.out).2.2; have q069 : (0 : Int) ≤ (x12_3 : Int) := of_decide_eq_true (by first | (with_reducible assumption) | assumption); have hcut69 := cut_from (P := Try.prog) 27 38 .i64 Try.underlying27 hi069 2 hsz69 (some ad127) x5_1.length co58 x12_3 q069 q69; have hr69 := Kd.C_drop (m := (x12_3 : Int).toNat) (c := co58) hC69 (by omega) hroom69; obtain ⟨A69, hA69⟩ : ∃ A1, A1 = (if co58 = (x12_3 : Int).toNat then (some ad127) else ((some ad127) : Option Addr).map (·.add ((x12_3 : Int).toNat * 2))) := ⟨_, rfl⟩; obtain ⟨c69, hc69⟩ : ∃ c1, c1 = co58 - (x12_3 : Int).toNat := ⟨_, rfl⟩; have hy69 : y143.length = x5_1.length - (x12_3 : Int).toNat := (by rw [Ny143.out, List.length_drop] <;> omega); rw [show (x5_1).drop (x12_3 : Int).toNat = y143 from Ny143.out.symm] at hr69; replace hr69 : Kd.C k38 _ A69 y143.length y143 := (by rw [hA69]; exact hr69); rw [← hy69, ← hA69, ← hc69] at hcut69; have HR146 := Aside0.mk hr69; have HC146 := Aside0.mk (show y143.length ≤ c69 from by rw [hy69, hc69]; exact Nat.sub_le_sub_right hroom69 _); clear hr69 hC69 hroom69 hi069 hsz69 hc69; have KY69 := Aside0.mk hy69; have KA69 := Aside0.mk hA69; clear hy69 hA69; have KL69 := Aside0.mk (show (x12_3 : Int).toNat ≤ x5_1.length from by omega); replace q69 := eq_true q69) | ((with_reducible refine gate_builtin (b := .append) (xs := #[.tmp 95, .tmp 98]) rfl ?_); at_builtin; refine Kd.R_append_rows k38 (w0 := w) w.heap.size rfl (.tmp 95) (.tmp 98) 27 38 (.agg #[(.string ⟨#[]⟩), (.int .i64 0)]) 24 rfl Try.underlying27 info38 rfl (by decide) (by omega) v141 y140 y143 _ _ _ (fun k_ => some k_ ≠ (.slice (some ad127) x5_1.length co58 : Value).ownBlock ∧ k_ ≠ gb114) (fun _ => False) rfl rfl ?aO ?aR (fun _ _ h => h) (fun _ h => h.elim) ?aF ?aB ?aS ?aL ?_; (case aR => repeat (first | exact (by repeat (first | (with_reducible exact HR146.out) | (with_reducible refine Kd.C_alloc ?_ _) | (with_reducible refine Kd.C_drewN ?_ _) | (with_reducible refine Kd.C_drew ?_) | exact HR146.out)) | (with_reducible refine Kd.C_alloc ?_ _) | (with_reducible refine Kd.C_drewN ?_ _) | (with_reducible refine Kd.C_drew ?_))); (case aB => exact (by repeat (first | (with_reducible first | exact HB.out | apply below_alloc | apply pw_below_drewN | apply below_drew1 | refine below_set ?_ GE114.out | refine below_set ?_ GE120.out | refine below_set ?_ GE126.out) | exact HB.out))); (case aF => exact (fun k_ hk => ⟨Kd.fresh' (Kd.R_lt (by (with_reducible repeat (first | apply Kd.R_alloc | apply Kd.R_drewN | apply Kd.R_drew)); exact HO_5.out)) k_ hk, Kd.freshB (g := gb114) (o := .cells #[.string ((rd_T56 l1 x6_1).f0), .int .i64 ((rd_T56 l1 x6_1).f1)] 38 (0, 0)) (by (with_reducible repeat (first | refine blk_drewN ?_ _ | refine blk_drew ?_ | refine blk_alloc ?_ _)); exact BK114.out) k_ hk⟩)); (case aO => exact (by (with_reducible repeat (first | apply Kd.R_alloc | apply Kd.R_drewN | apply Kd.R_drew)); exact HO142.out)); (case aS => exact (below_size (by repeat (first | (with_reducible first | exact HB.out | apply below_alloc | apply pw_below_drewN | apply below_drew1 | refine below_set ?_ GE114.out | refine below_set ?_ GE120.out | refine below_set ?_ GE126.out) | exact HB.out)))); (case aL => have := LMc56.out; omega); intro v148 w70 ho hb hg hat; rw [← Ny147.out] at ho; have n0_ := Aside0.mk (Kd.R_after (ok := (fun k_ => k_ ≠ gb114)) (by (with_reducible repeat (first | apply Kd.R_alloc | apply Kd.R_drewN | apply Kd.R_drew)); exact HO_5.out) hg hat); have n1_ := Aside0.mk (blk_grown (g := gb114) (o := .cells #[.string ((rd_T56 l1 x6_1).f0), .int .i64 ((rd_T56 l1 x6_1).f1)] 38 (0, 0)) (by (with_reducible repeat (first | refine blk_drewN ?_ _ | refine blk_drew ?_ | refine blk_alloc ?_ _)); exact BK114.out) hg (Kd.R_away HO142.out (fun _ hk => hk.2))); have n2_ := Aside0.mk (blk_grown (g := gb120) (o := .cells #[.string t115, .int .i64 t116, .int .i64 t117, .int .u32 t118] 56 (0, 0)) (by (with_reducible repeat (first | refine blk_drewN ?_ _ | refine blk_drew ?_ | refine blk_alloc ?_ _)); exact BK120.out) hg (Kd.R_ne HO142.out BK120.out (by decide))); have n3_ := Aside0.mk (blk_grown (g := gb126) (o := .cells #[.string t121, .int .i64 t122, .int .i64 t123, .int .u32 t124] 56 (0, 0)) (by (with_reducible repeat (first | refine blk_drewN ?_ _ | refine blk_drew ?_ | refine blk_alloc ?_ _)); exact BK126.out) hg (Kd.R_ne HO142.out BK126.out (by decide))); have n4_ := Aside0.mk (hb); have n5_ := Aside0.mk ((show Kd.C k38 w70 (some ad127) y133.length y133 from by rw [Ny133.out]; exact Kd.C_take (m := (x12_3 : Int).toNat) ((Kd.R_reads' (Kd.R_after (ok := (fun k_ => k_ ≠ gb114)) (by (with_reducible repeat (first | apply Kd.R_alloc | apply Kd.R_drewN | apply Kd.R_drew)); exact HO_5.out) hg hat)).2.2) KL63.out)); have n6_ := Aside0.mk ((show Kd.C k38 w70 A69 y143.length y143 from by rw [Ny143.out, KA69.out]; exact Kd.C_drop (m := (x12_3 : Int).toNat) (c := co58) ((Kd.R_reads' (Kd.R_after (ok := (fun k_ => k_ ≠ gb114)) (by (with_reducible repeat (first | apply Kd.R_alloc | apply Kd.R_drewN | apply Kd.R_drew)); exact HO_5.out) hg hat)).2.2) KL69.out ((Kd.R_reads' (Kd.R_after (ok := (fun k_ => k_ ≠ gb114)) (by (with_reducible repeat (first | apply Kd.R_alloc | apply Kd.R_drewN | apply Kd.R_drew)); exact HO_5.out) hg hat)).2.1))); have n7_ := Aside0.mk (ho); clear HO_5; clear BK114; clear BK120; clear BK126; clear HB; clear HR136; clear HR146; clear HO142; have HO_5 := n0_; have BK114 := n1_; have BK120 := n2_; have BK126 := n3_; have HB := n4_; have HR136 := n5_; have HR146 := n6_; have HO149 := n7_; clear n0_ n1_ n2_ n3_ n4_ n5_ n6_ n7_; clear ho hb hg hat))
                                    go_roundg k3
                                    case measure => have := HK1.out; have := HJ8.out; have := HK3.out; omega
                                    case rel => exact ⟨(y147), (wrap64 (x6_1 + 1)), (by first | rfl | (simp; done) | (simp [*]; done)), H', ⟨by have := HK1.out; have := HJ8.out; have := HK3.out; omega⟩, ⟨by (with_reducible repeat (first | apply Kd.R_alloc | apply Kd.R_drewN | apply Kd.R_drew)); exact Kd.R_mono HO149.out (fun _ hk => trivial)⟩, ⟨by repeat (first | (with_reducible first | exact HB.out | apply below_alloc | apply pw_below_drewN | apply below_drew1 | refine below_set ?_ GE114.out | refine below_set ?_ GE120.out | refine below_set ?_ GE126.out) | exact HB.out)⟩⟩
                                  · rw [if_neg c56] at H
                                    exact absurd H (by simp)
                                · rw [if_neg c53] at H
                                  exact absurd H (by simp)
                              · rw [if_neg c52] at H
                                exact absurd H (by simp)
                            · rw [if_neg c51] at H
                              exact absurd H (by simp)
                      · rw [if_neg c39] at H
                        exact absurd H (by simp)
                    · rw [if_neg c38] at H
                      have c38b0 : decide (x12_3 < (x5_1.length : Int)) = false := decide_eq_false c38
                      clear c38
                      obtain ⟨y150, hy150⟩ : ∃ y_ : List (S38), y_ = (([] : List (S38))) := ⟨_, rfl⟩
                      replace H : (if 0 ≤ x12_3 then (if x12_3 ≤ (x5_1.length : Int) then ((some (x5_1.take (x12_3 : Int).toNat : List (S38))).bind fun y153 => (if y150.length + y153.length < 5864062014805 then ((some (y150 ++ y153 : List (S38))).bind fun y157 => (if y157.length < 5864062014805 then ((some (y157 ++ [(⟨((rd_T56 l1 x6_1).f0), ((rd_T56 l1 x6_1).f1)⟩ : S38)] : List (S38))).bind fun y160 => ((some (x5_1.drop (x12_3 : Int).toNat : List (S38))).bind fun y163 => (if y160.length + y163.length < 5864062014805 then (thermographref19_Diff.l0 k3 l0 l1 (y160 ++ y163) (wrap64 (x6_1 + 1))) else (none)))) else (none))) else (none))) else (none)) else (none)) = some r := by first | (rw [hy150]; with_reducible exact H) | (have H2_ := (Option.bind_some _ _).symm.trans H; rw [hy150]; with_reducible exact H2_) | (have H2_ := (Option.bind_some _ _).symm.trans H; with_reducible exact H2_) | with_reducible exact H | (rw [hy150]; exact H) | exact H
                      have Ny150 := Aside0.mk hy150
                      clear hy150
                      by_cases c71 : 0 ≤ x12_3
                      · rw [if_pos c71] at H
                        have c71b0 := eq_true c71
                        have c71b1 : decide (0 ≤ x12_3) = true := decide_eq_true c71
                        clear c71
                        by_cases c72 : x12_3 ≤ (x5_1.length : Int)
                        · rw [if_pos c72] at H
                          have c72b0 := eq_true c72
                          have c72b1 : decide (x12_3 ≤ (x5_1.length : Int)) = true := decide_eq_true c72
                          clear c72
                          obtain ⟨y153, hy153⟩ : ∃ y_ : List (S38), y_ = (x5_1.take (x12_3 : Int).toNat) := ⟨_, rfl⟩
                          replace H : (if y150.length + y153.length < 5864062014805 then ((some (y150 ++ y153 : List (S38))).bind fun y157 => (if y157.length < 5864062014805 then ((some (y157 ++ [(⟨((rd_T56 l1 x6_1).f0), ((rd_T56 l1 x6_1).f1)⟩ : S38)] : List (S38))).bind fun y160 => ((some (x5_1.drop (x12_3 : Int).toNat : List (S38))).bind fun y163 => (if y160.length + y163.length < 5864062014805 then (thermographref19_Diff.l0 k3 l0 l1 (y160 ++ y163) (wrap64 (x6_1 + 1))) else (none)))) else (none))) else (none)) = some r := by first | (rw [hy153]; with_reducible exact H) | (have H2_ := (Option.bind_some _ _).symm.trans H; rw [hy153]; with_reducible exact H2_) | (have H2_ := (Option.bind_some _ _).symm.trans H; with_reducible exact H2_) | with_reducible exact H | (rw [hy153]; exact H) | exact H
                          have Ny153 := Aside0.mk hy153
                          clear hy153
                          by_cases c73 : y150.length + y153.length < 5864062014805
                          · rw [if_pos c73] at H
                            have LMc73 := Aside0.mk c73
                            clear c73
                            obtain ⟨y157, hy157⟩ : ∃ y_ : List (S38), y_ = (y150 ++ y153) := ⟨_, rfl⟩
                            replace H : (if y157.length < 5864062014805 then ((some (y157 ++ [(⟨((rd_T56 l1 x6_1).f0), ((rd_T56 l1 x6_1).f1)⟩ : S38)] : List (S38))).bind fun y160 => ((some (x5_1.drop (x12_3 : Int).toNat : List (S38))).bind fun y163 => (if y160.length + y163.length < 5864062014805 then (thermographref19_Diff.l0 k3 l0 l1 (y160 ++ y163) (wrap64 (x6_1 + 1))) else (none)))) else (none)) = some r := by first | (rw [hy157]; with_reducible exact H) | (have H2_ := (Option.bind_some _ _).symm.trans H; rw [hy157]; with_reducible exact H2_) | (have H2_ := (Option.bind_some _ _).symm.trans H; with_reducible exact H2_) | with_reducible exact H | (rw [hy157]; exact H) | exact H
                            have Ny157 := Aside0.mk hy157
                            clear hy157
                            by_cases c74 : y157.length < 5864062014805
                            · rw [if_pos c74] at H
                              have LMc74 := Aside0.mk c74
                              clear c74
                              obtain ⟨y160, hy160⟩ : ∃ y_ : List (S38), y_ = (y157 ++ [(⟨((rd_T56 l1 x6_1).f0), ((rd_T56 l1 x6_1).f1)⟩ : S38)]) := ⟨_, rfl⟩
                              replace H : ((some (x5_1.drop (x12_3 : Int).toNat : List (S38))).bind fun y163 => (if y160.length + y163.length < 5864062014805 then (thermographref19_Diff.l0 k3 l0 l1 (y160 ++ y163) (wrap64 (x6_1 + 1))) else (none))) = some r := by first | (rw [hy160]; with_reducible exact H) | (have H2_ := (Option.bind_some _ _).symm.trans H; rw [hy160]; with_reducible exact H2_) | (have H2_ := (Option.bind_some _ _).symm.trans H; with_reducible exact H2_) | with_reducible exact H | (rw [hy160]; exact H) | exact H
                              have Ny160 := Aside0.mk hy160
                              clear hy160
                              have c75b0 := eq_true (of_decide_eq_true (by first | (with_reducible assumption) | assumption) : 0 ≤ x12_3)
                              have c76b0 := eq_true (of_decide_eq_true (by first | (with_reducible assumption) | assumption) : x12_3 ≤ (x5_1.length : Int))
                              obtain ⟨y163, hy163⟩ : ∃ y_ : List (S38), y_ = (x5_1.drop (x12_3 : Int).toNat) := ⟨_, rfl⟩
                              replace H : (if y160.length + y163.length < 5864062014805 then (thermographref19_Diff.l0 k3 l0 l1 (y160 ++ y163) (wrap64 (x6_1 + 1))) else (none)) = some r := by first | (rw [hy163]; with_reducible exact H) | (have H2_ := (Option.bind_some _ _).symm.trans H; rw [hy163]; with_reducible exact H2_) | (have H2_ := (Option.bind_some _ _).symm.trans H; with_reducible exact H2_) | with_reducible exact H | (rw [hy163]; exact H) | exact H
                              have Ny163 := Aside0.mk hy163
                              clear hy163
                              by_cases c77 : y160.length + y163.length < 5864062014805
                              · rw [if_pos c77] at H
                                have LMc77 := Aside0.mk c77
                                clear c77
                                obtain ⟨y167, hy167⟩ : ∃ y_ : List (S38), y_ = (y160 ++ y163) := ⟨_, rfl⟩
                                replace H : (thermographref19_Diff.l0 k3 l0 l1 y167 (wrap64 (x6_1 + 1))) = some r := by first | (rw [hy167]; with_reducible exact H) | (have H2_ := (Option.bind_some _ _).symm.trans H; rw [hy167]; with_reducible exact H2_) | (have H2_ := (Option.bind_some _ _).symm.trans H; with_reducible exact H2_) | with_reducible exact H | (rw [hy167]; exact H) | exact H
                                have Ny167 := Aside0.mk hy167
                                clear hy167
                                have H' := Aside0.mk H
                                clear H
                                try go_wp2
                                have n0_ := Aside0.mk (Kd.R_drew HO_5.out)
                                have n1_ := Aside0.mk (blk_drew BK114.out)
                                have n2_ := Aside0.mk (blk_drew BK120.out)
                                have n3_ := Aside0.mk (blk_drew BK126.out)
                                have n4_ := Aside0.mk (below_drew1 HB.out)
                                clear HO_5
                                clear BK114
                                clear BK120
                                clear BK126
                                clear HB
                                have HO_5 := n0_
                                have BK114 := n1_
                                have BK120 := n2_
                                have BK126 := n3_
                                have HB := n4_
                                clear n0_ n1_ n2_ n3_ n4_
                                obtain ⟨Ao79, co79, eo79⟩ := Kd.R_slice HO_5.out
                                (first | subst eo79 | (injection eo79 with f1_ f2_ f3_; have f4_ := f1_.symm; have f5_ := f3_.symm; clear f1_ f2_ f3_; subst f4_; subst f5_))
                                refine start_ (n := 12) (S := fun w' => True) (ds := []) #[false, false, false, false, false, false, false, false, false, false, false, false] (by kernel_rfl) rfl rfl trivial (fun hHeld => ?_); refine with_tabW thermographref19_Diff.tab10 thermographref19_Diff.bits10 (fun HT_ HW_ => ?_)
                                generalize wr.drew = w78 at HO_5 BK114 BK120 BK126 HB hHeld ⊢
                                refine pure_ (i := 0) (N := some 59) (v := ?_) (a' := ?_) #[true, false, false, false, false, false, false, false, false, false, false, false] rfl rfl (any_of HT_.out (by kernel_rfl)) (fun _ _ _ h => h) (Or.inl ⟨by rfl, ?_⟩) ?_ ?_
                                rotate_left
                                · intro w'
                                  go_simp
                                  with_reducible rfl
                                rotate_left
                                · simp only [Act.put, List.setIfInBounds_toArray, List.set_cons_zero, List.set_cons_succ, i64_w, i32_w]
                                  rfl
                                refine pure_ (i := 1) (N := some 60) (v := ?_) (a' := ?_) #[true, true, false, false, false, false, false, false, false, false, false, false] rfl rfl (any_of HT_.out (by kernel_rfl)) (fun _ _ _ h => h) (Or.inl ⟨by rfl, ?_⟩) ?_ ?_
                                rotate_left
                                · intro w'
                                  go_simp
                                  with_reducible rfl
                                rotate_left
                                · simp only [Act.put, List.setIfInBounds_toArray, List.set_cons_zero, List.set_cons_succ, i64_w, i32_w]
                                  rfl
                                refine pure_ (i := 2) (N := some 61) (v := ?_) (a' := ?_) #[true, true, true, false, false, false, false, false, false, false, false, false] rfl rfl (any_of HT_.out (by kernel_rfl)) (fun _ _ _ h => h) (Or.inl ⟨by rfl, ?_⟩) ?_ ?_
                                rotate_left
                                · intro w'
                                  go_simp
                                  with_reducible rfl
                                rotate_left
                                · simp only [Act.put, List.setIfInBounds_toArray, List.set_cons_zero, List.set_cons_succ, i64_w, i32_w]
                                  rfl
                                refine pure_ (i := 3) (N := some 62) (v := ?_) (a' := ?_) #[true, true, true, true, false, false, false, false, false, false, false, false] rfl rfl (any_of HT_.out (by kernel_rfl)) (fun _ _ _ h => h) (Or.inl ⟨by rfl, ?_⟩) ?_ ?_
                                rotate_left
                                · intro w'
                                  go_simp
                                  with_reducible rfl
                                rotate_left
                                · simp only [Act.put, List.setIfInBounds_toArray, List.set_cons_zero, List.set_cons_succ, i64_w, i32_w]
                                  rfl
                                refine pure_ (i := 4) (N := some 63) (v := ?_) (a' := ?_) #[true, true, true, true, true, false, false, false, false, false, false, false] rfl rfl (any_of HT_.out (by kernel_rfl)) (fun _ _ _ h => h) (Or.inl ⟨by rfl, ?_⟩) ?_ ?_
                                rotate_left
                                · intro w'
                                  go_simp
                                  with_reducible rfl
                                rotate_left
                                · simp only [Act.put, List.setIfInBounds_toArray, List.set_cons_zero, List.set_cons_succ, i64_w, i32_w]
                                  rfl
                                refine pure_ (i := 5) (N := some 64) (v := undef) (a' := ?_) #[true, true, true, true, true, true, false, false, false, false, false, false] rfl rfl (any_of HT_.out (by kernel_rfl)) (fun _ _ _ h => h) (Or.inr ⟨by rfl, rfl⟩) ?_ ?_
                                rotate_left
                                · simp only [Act.put, List.setIfInBounds_toArray, List.set_cons_zero, List.set_cons_succ, i64_w, i32_w]
                                  rfl
                                refine pure_ (i := 6) (N := some 65) (v := undef) (a' := ?_) #[true, true, true, true, true, true, true, false, false, false, false, false] rfl rfl (any_of HT_.out (by kernel_rfl)) (fun _ _ _ h => h) (Or.inr ⟨by rfl, rfl⟩) ?_ ?_
                                rotate_left
                                · simp only [Act.put, List.setIfInBounds_toArray, List.set_cons_zero, List.set_cons_succ, i64_w, i32_w]
                                  rfl
                                refine pure_ (i := 7) (N := some 66) (v := undef) (a' := ?_) #[true, true, true, true, true, true, true, true, false, false, false, false] rfl rfl (any_of HT_.out (by kernel_rfl)) (fun _ _ _ h => h) (Or.inr ⟨by rfl, rfl⟩) ?_ ?_
                                rotate_left
                                · simp only [Act.put, List.setIfInBounds_toArray, List.set_cons_zero, List.set_cons_succ, i64_w, i32_w]
                                  rfl
                                refine pure_ (i := 8) (N := some 67) (v := undef) (a' := ?_) #[true, true, true, true, true, true, true, true, true, false, false, false] rfl rfl (any_of HT_.out (by kernel_rfl)) (fun _ _ _ h => h) (Or.inr ⟨by rfl, rfl⟩) ?_ ?_
                                rotate_left
                                · simp only [Act.put, List.setIfInBounds_toArray, List.set_cons_zero, List.set_cons_succ, i64_w, i32_w]
                                  rfl
                                refine pure_ (i := 9) (N := some 68) (v := undef) (a' := ?_) #[true, true, true, true, true, true, true, true, true, true, false, false] rfl rfl (any_of HT_.out (by kernel_rfl)) (fun _ _ _ h => h) (Or.inr ⟨by rfl, rfl⟩) ?_ ?_
                                rotate_left
                                · simp only [Act.put, List.setIfInBounds_toArray, List.set_cons_zero, List.set_cons_succ, i64_w, i32_w]
                                  rfl
                                refine pure_ (i := 10) (N := some 69) (v := undef) (a' := ?_) #[true, true, true, true, true, true, true, true, true, true, true, false] rfl rfl (any_of HT_.out (by kernel_rfl)) (fun _ _ _ h => h) (Or.inr ⟨by rfl, rfl⟩) ?_ ?_
                                rotate_left
                                · simp only [Act.put, List.setIfInBounds_toArray, List.set_cons_zero, List.set_cons_succ, i64_w, i32_w]
                                  rfl
                                refine pure_ (i := 11) (N := some 70) (v := ?_) (a' := ?_) #[true, true, true, true, true, true, true, true, true, true, true, true] rfl rfl (any_of HT_.out (by kernel_rfl)) (fun _ _ _ h => h) (Or.inl ⟨by rfl, ?_⟩) ?_ ?_
                                rotate_left
                                · intro w'
                                  go_simp
                                  with_reducible rfl
                                rotate_left
                                · simp only [Act.put, List.setIfInBounds_toArray, List.set_cons_zero, List.set_cons_succ, i64_w, i32_w]
                                  rfl
                                refine done_ (done_of HT_.out (by kernel_rfl)) ?_
                                try go_wp2
                                have n0_ := Aside0.mk (Kd.R_drew HO_5.out)
                                have n1_ := Aside0.mk (blk_drew BK114.out)
                                have n2_ := Aside0.mk (blk_drew BK120.out)
                                have n3_ := Aside0.mk (blk_drew BK126.out)
                                have n4_ := Aside0.mk (below_drew1 HB.out)
                                clear HO_5
                                clear BK114
                                clear BK120
                                clear BK126
                                clear HB
                                have HO_5 := n0_
                                have BK114 := n1_
                                have BK120 := n2_
                                have BK126 := n3_
                                have HB := n4_
                                clear n0_ n1_ n2_ n3_ n4_
                                refine start_ (n := 12) (S := fun w' => True) (ds := []) #[false, false, false, false, false, false, false, false, false, false, false, false] (by kernel_rfl) rfl rfl trivial (fun hHeld => ?_); refine with_tabW thermographref19_Diff.tab12 thermographref19_Diff.bits12 (fun HT_ HW_ => ?_)
                                generalize w78.drew = w80 at HO_5 BK114 BK120 BK126 HB hHeld ⊢
                                refine pure_ (i := 0) (N := some 73) (v := ?_) (a' := ?_) #[true, false, false, false, false, false, false, false, false, false, false, false] rfl rfl (any_of HT_.out (by kernel_rfl)) (fun _ _ _ h => h) (Or.inl ⟨by rfl, ?_⟩) ?_ ?_
                                rotate_left
                                · intro w'
                                  go_simp
                                  with_reducible rfl
                                rotate_left
                                · simp only [Act.put, List.setIfInBounds_toArray, List.set_cons_zero, List.set_cons_succ, i64_w, i32_w]
                                  rfl
                                refine pure_ (i := 1) (N := some 74) (v := ?_) (a' := ?_) #[true, true, false, false, false, false, false, false, false, false, false, false] rfl rfl (any_of HT_.out (by kernel_rfl)) (fun _ _ _ h => h) (Or.inl ⟨by rfl, ?_⟩) ?_ ?_
                                rotate_left
                                · intro w'
                                  go_simp
                                  with_reducible rfl
                                rotate_left
                                · simp only [Act.put, List.setIfInBounds_toArray, List.set_cons_zero, List.set_cons_succ, i64_w, i32_w]
                                  rfl
                                refine pure_ (i := 2) (N := some 75) (v := ?_) (a' := ?_) #[true, true, true, false, false, false, false, false, false, false, false, false] rfl rfl (any_of HT_.out (by kernel_rfl)) (fun _ _ _ h => h) (Or.inl ⟨by rfl, ?_⟩) ?_ ?_
                                rotate_left
                                · intro w'
                                  go_simp
                                  with_reducible rfl
                                rotate_left
                                · simp only [Act.put, List.setIfInBounds_toArray, List.set_cons_zero, List.set_cons_succ, i64_w, i32_w]
                                  rfl
                                refine pure_ (i := 3) (N := some 76) (v := ?_) (a' := ?_) #[true, true, true, true, false, false, false, false, false, false, false, false] rfl rfl (any_of HT_.out (by kernel_rfl)) (fun _ _ _ h => h) (Or.inl ⟨by rfl, ?_⟩) ?_ ?_
                                rotate_left
                                · intro w'
                                  go_simp
                                  with_reducible rfl
                                rotate_left
                                · simp only [Act.put, List.setIfInBounds_toArray, List.set_cons_zero, List.set_cons_succ, i64_w, i32_w]
                                  rfl
                                refine pure_ (i := 4) (N := some 77) (v := ?_) (a' := ?_) #[true, true, true, true, true, false, false, false, false, false, false, false] rfl rfl (any_of HT_.out (by kernel_rfl)) (fun _ _ _ h => h) (Or.inl ⟨by rfl, ?_⟩) ?_ ?_
                                rotate_left
                                · intro w'
                                  go_simp
                                  with_reducible rfl
                                rotate_left
                                · simp only [Act.put, List.setIfInBounds_toArray, List.set_cons_zero, List.set_cons_succ, i64_w, i32_w]
                                  rfl
                                refine pure_ (i := 5) (N := some 78) (v := undef) (a' := ?_) #[true, true, true, true, true, true, false, false, false, false, false, false] rfl rfl (any_of HT_.out (by kernel_rfl)) (fun _ _ _ h => h) (Or.inr ⟨by rfl, rfl⟩) ?_ ?_
                                rotate_left
                                · simp only [Act.put, List.setIfInBounds_toArray, List.set_cons_zero, List.set_cons_succ, i64_w, i32_w]
                                  rfl
                                refine pure_ (i := 6) (N := some 79) (v := undef) (a' := ?_) #[true, true, true, true, true, true, true, false, false, false, false, false] rfl rfl (any_of HT_.out (by kernel_rfl)) (fun _ _ _ h => h) (Or.inr ⟨by rfl, rfl⟩) ?_ ?_
                                rotate_left
                                · simp only [Act.put, List.setIfInBounds_toArray, List.set_cons_zero, List.set_cons_succ, i64_w, i32_w]
                                  rfl
                                refine pure_ (i := 7) (N := some 80) (v := undef) (a' := ?_) #[true, true, true, true, true, true, true, true, false, false, false, false] rfl rfl (any_of HT_.out (by kernel_rfl)) (fun _ _ _ h => h) (Or.inr ⟨by rfl, rfl⟩) ?_ ?_
                                rotate_left
                                · simp only [Act.put, List.setIfInBounds_toArray, List.set_cons_zero, List.set_cons_succ, i64_w, i32_w]
                                  rfl
                                refine pure_ (i := 8) (N := some 81) (v := undef) (a' := ?_) #[true, true, true, true, true, true, true, true, true, false, false, false] rfl rfl (any_of HT_.out (by kernel_rfl)) (fun _ _ _ h => h) (Or.inr ⟨by rfl, rfl⟩) ?_ ?_
                                rotate_left
                                · simp only [Act.put, List.setIfInBounds_toArray, List.set_cons_zero, List.set_cons_succ, i64_w, i32_w]
                                  rfl
                                refine pure_ (i := 9) (N := some 82) (v := undef) (a' := ?_) #[true, true, true, true, true, true, true, true, true, true, false, false] rfl rfl (any_of HT_.out (by kernel_rfl)) (fun _ _ _ h => h) (Or.inr ⟨by rfl, rfl⟩) ?_ ?_
                                rotate_left
                                · simp only [Act.put, List.setIfInBounds_toArray, List.set_cons_zero, List.set_cons_succ, i64_w, i32_w]
                                  rfl
                                refine pure_ (i := 10) (N := some 83) (v := undef) (a' := ?_) #[true, true, true, true, true, true, true, true, true, true, true, false] rfl rfl (any_of HT_.out (by kernel_rfl)) (fun _ _ _ h => h) (Or.inr ⟨by rfl, rfl⟩) ?_ ?_
                                rotate_left
                                · simp only [Act.put, List.setIfInBounds_toArray, List.set_cons_zero, List.set_cons_succ, i64_w, i32_w]
                                  rfl
                                refine pure_ (i := 11) (N := some 84) (v := ?_) (a' := ?_) #[true, true, true, true, true, true, true, true, true, true, true, true] rfl rfl (any_of HT_.out (by kernel_rfl)) (fun _ _ _ h => h) (Or.inl ⟨by rfl, ?_⟩) ?_ ?_
                                rotate_left
                                · intro w'
                                  go_simp
                                  with_reducible rfl
                                rotate_left
                                · simp only [Act.put, List.setIfInBounds_toArray, List.set_cons_zero, List.set_cons_succ, i64_w, i32_w]
                                  rfl
                                refine done_ (done_of HT_.out (by kernel_rfl)) ?_
                                try go_wp2_with (first | ((with_reducible refine gate_dst (N := 85) rfl ?_); refine Kd.R_lit k38 _ 38 ?hg (N := 85) ?hd (xs := ([] : List (S38))) (inner := []) (ok := fun _ => True) (okp := fun _ => True) ?hr ?hp (fun _ hk => hk) trivial (Below.refl _ _) (Nat.le_refl _) (by simp) ?_; (case hd => rfl); (case hg => rfl); (case hr => first | (go_simp; done) | (go_simp; rfl)); (case hp => exact (Reps.none _ _)); intro v151 w81 ho82 hb hg_ hnew_; clear hg_ hnew_; (first | rw [← Ny150.out] at ho82 | (simp only [Int.reduceToNat] at ho82; rw [← Ny150.out] at ho82)); have n0_ := Aside0.mk (Kd.R_elder' (by (with_reducible repeat (first | apply Kd.R_alloc | apply Kd.R_drewN | apply Kd.R_drew)); exact HO_5.out) (Kd.R_base ho82) hb); have n1_ := Aside0.mk (Kd.R_lower (Kd.R_newB (Kd.R_new' ho82 (Kd.R_lt (by (with_reducible repeat (first | apply Kd.R_alloc | apply Kd.R_drewN | apply Kd.R_drew)); exact HO_5.out))) (g := gb114) (o := .cells #[.string ((rd_T56 l1 x6_1).f0), .int .i64 ((rd_T56 l1 x6_1).f1)] 38 (0, 0)) (by (with_reducible repeat (first | refine blk_drewN ?_ _ | refine blk_drew ?_ | refine blk_alloc ?_ _)); exact BK114.out)) (below_size (by repeat (first | (with_reducible first | exact HB.out | apply below_alloc | apply pw_below_drewN | apply below_drew1 | refine below_set ?_ GE114.out | refine below_set ?_ GE120.out | refine below_set ?_ GE126.out) | exact HB.out)))); have n2_ := Aside0.mk (blk_below (g := gb114) (o := .cells #[.string ((rd_T56 l1 x6_1).f0), .int .i64 ((rd_T56 l1 x6_1).f1)] 38 (0, 0)) (by (with_reducible repeat (first | refine blk_drewN ?_ _ | refine blk_drew ?_ | refine blk_alloc ?_ _)); exact BK114.out) hb); have n3_ := Aside0.mk (blk_below (g := gb120) (o := .cells #[.string t115, .int .i64 t116, .int .i64 t117, .int .u32 t118] 56 (0, 0)) (by (with_reducible repeat (first | refine blk_drewN ?_ _ | refine blk_drew ?_ | refine blk_alloc ?_ _)); exact BK120.out) hb); have n4_ := Aside0.mk (blk_below (g := gb126) (o := .cells #[.string t121, .int .i64 t122, .int .i64 t123, .int .u32 t124] 56 (0, 0)) (by (with_reducible repeat (first | refine blk_drewN ?_ _ | refine blk_drew ?_ | refine blk_alloc ?_ _)); exact BK126.out) hb); have n5_ := Aside0.mk (below_step (by repeat (first | (with_reducible first | exact HB.out | apply below_alloc | apply pw_below_drewN | apply below_drew1 | refine below_set ?_ GE114.out | refine below_set ?_ GE120.out | refine below_set ?_ GE126.out) | exact HB.out)) hb); clear HO_5; clear BK114; clear BK120; clear BK126; clear HB; have HO_5 := n0_; have HO152 := n1_; have BK114 := n2_; have BK120 := n3_; have BK126 := n4_; have HB := n5_; clear n0_ n1_ n2_ n3_ n4_ n5_; clear hb ho82; have q83 : (x12_3 : Int) ≤ ((x5_1.length : Int) : Int) := of_decide_eq_true (by first | (with_reducible assumption) | assumption); obtain ⟨i083, hi083, _, hsz83, _⟩ := info_parts info38; have hroom83 : x5_1.length ≤ co79 := (Kd.R_reads' HO_5.out).2.1; have hC83 : Kd.C k38 _ Ao79 x5_1.length x5_1 := (Kd.R_reads' HO_5.out).2.2; have hcut83 := cut_to (P := Try.prog) 27 38 .i64 Try.underlying27 hi083 Ao79 x5_1.length co79 x12_3 (of_decide_eq_true (by first | (with_reducible assumption) | assumption)) q83 hroom83; have hr83 := Kd.C_take (m := (x12_3 : Int).toNat) hC83 (by omega); have hy83 : y153.length = (x12_3 : Int).toNat := (by rw [Ny153.out, List.length_take]; omega); rw [← Ny153.out] at hr83; rw [← hy83] at hcut83; have HR156 := Aside0.mk hr83; have HC156 := Aside0.mk (show y153.length ≤ co79 from by omega); clear hr83 hC83 hroom83 hi083 hsz83; have KY83 := Aside0.mk hy83; clear hy83; have KL83 := Aside0.mk (show (x12_3 : Int).toNat ≤ x5_1.length from by omega); replace q83 := eq_true q83) | ((with_reducible refine gate_builtin (b := .append) (xs := #[.tmp 86, .tmp 89]) rfl ?_); at_builtin; refine Kd.R_append_rows k38 (w0 := w) w.heap.size rfl (.tmp 86) (.tmp 89) 27 38 (.agg #[(.string ⟨#[]⟩), (.int .i64 0)]) 24 rfl Try.underlying27 info38 rfl (by decide) (by omega) v151 y150 y153 _ _ _ (fun k_ => some k_ ≠ (.slice Ao79 x5_1.length co79 : Value).ownBlock ∧ k_ ≠ gb114) (fun _ => False) rfl rfl ?aO ?aR (fun _ _ h => h) (fun _ h => h.elim) ?aF ?aB ?aS ?aL ?_; (case aR => repeat (first | exact (by repeat (first | (with_reducible exact HR156.out) | (with_reducible refine Kd.C_alloc ?_ _) | (with_reducible refine Kd.C_drewN ?_ _) | (with_reducible refine Kd.C_drew ?_) | exact HR156.out)) | (with_reducible refine Kd.C_alloc ?_ _) | (with_reducible refine Kd.C_drewN ?_ _) | (with_reducible refine Kd.C_drew ?_))); (case aB => exact (by repeat (first | (with_reducible first | exact HB.out | apply below_alloc | apply pw_below_drewN | apply below_drew1 | refine below_set ?_ GE114.out | refine below_set ?_ GE120.out | refine below_set ?_ GE126.out) | exact HB.out))); (case aF => exact (fun k_ hk => ⟨Kd.fresh' (Kd.R_lt (by (with_reducible repeat (first | apply Kd.R_alloc | apply Kd.R_drewN | apply Kd.R_drew)); exact HO_5.out)) k_ hk, Kd.freshB (g := gb114) (o := .cells #[.string ((rd_T56 l1 x6_1).f0), .int .i64 ((rd_T56 l1 x6_1).f1)] 38 (0, 0)) (by (with_reducible repeat (first | refine blk_drewN ?_ _ | refine blk_drew ?_ | refine blk_alloc ?_ _)); exact BK114.out) k_ hk⟩)); (case aO => exact (by (with_reducible repeat (first | apply Kd.R_alloc | apply Kd.R_drewN | apply Kd.R_drew)); exact Kd.R_mono HO152.out (fun _ hk => ⟨hk.1.2, hk.2⟩))); (case aS => exact (below_size (by repeat (first | (with_reducible first | exact HB.out | apply below_alloc | apply pw_below_drewN | apply below_drew1 | refine below_set ?_ GE114.out | refine below_set ?_ GE120.out | refine below_set ?_ GE126.out) | exact HB.out)))); (case aL => have := LMc73.out; omega); intro v158 w84 ho hb hg hat; rw [← Ny157.out] at ho; have n0_ := Aside0.mk (Kd.R_after (ok := (fun k_ => k_ ≠ gb114)) (by (with_reducible repeat (first | apply Kd.R_alloc | apply Kd.R_drewN | apply Kd.R_drew)); exact HO_5.out) hg hat); have n1_ := Aside0.mk (blk_grown (g := gb114) (o := .cells #[.string ((rd_T56 l1 x6_1).f0), .int .i64 ((rd_T56 l1 x6_1).f1)] 38 (0, 0)) (by (with_reducible repeat (first | refine blk_drewN ?_ _ | refine blk_drew ?_ | refine blk_alloc ?_ _)); exact BK114.out) hg (Kd.R_away HO152.out (fun _ hk => hk.2))); have n2_ := Aside0.mk (blk_grown (g := gb120) (o := .cells #[.string t115, .int .i64 t116, .int .i64 t117, .int .u32 t118] 56 (0, 0)) (by (with_reducible repeat (first | refine blk_drewN ?_ _ | refine blk_drew ?_ | refine blk_alloc ?_ _)); exact BK120.out) hg (Kd.R_ne HO152.out BK120.out (by decide))); have n3_ := Aside0.mk (blk_grown (g := gb126) (o := .cells #[.string t121, .int .i64 t122, .int .i64 t123, .int .u32 t124] 56 (0, 0)) (by (with_reducible repeat (first | refine blk_drewN ?_ _ | refine blk_drew ?_ | refine blk_alloc ?_ _)); exact BK126.out) hg (Kd.R_ne HO152.out BK126.out (by decide))); have n4_ := Aside0.mk (hb); have n5_ := Aside0.mk ((show Kd.C k38 w84 Ao79 y153.length y153 from by rw [Ny153.out]; exact Kd.C_take (m := (x12_3 : Int).toNat) ((Kd.R_reads' (Kd.R_after (ok := (fun k_ => k_ ≠ gb114)) (by (with_reducible repeat (first | apply Kd.R_alloc | apply Kd.R_drewN | apply Kd.R_drew)); exact HO_5.out) hg hat)).2.2) KL83.out)); have n6_ := Aside0.mk (ho); clear HO_5; clear BK114; clear BK120; clear BK126; clear HB; clear HR156; clear HO152; have HO_5 := n0_; have BK114 := n1_; have BK120 := n2_; have BK126 := n3_; have HB := n4_; have HR156 := n5_; have HO159 := n6_; clear n0_ n1_ n2_ n3_ n4_ n5_ n6_; clear ho hb hg hat; have hnb85 := NB114_120.out; have hnc85 := NB120_114.out; have hnb86 := NB114_126.out; have hnc86 := NB126_114.out; have hcz87_0 : w84.cell? ⟨gb114, 0, none⟩ = some (.string ((rd_T56 l1 x6_1).f0)) := (blk_cell BK114.out 0).trans rfl; have hcz87_1 : w84.cell? ⟨gb114, 1, none⟩ = some (.int .i64 ((rd_T56 l1 x6_1).f1)) := (blk_cell BK114.out 1).trans rfl; have hfz87_0 := blk_frozen BK114.out 0; have hfz87_1 := blk_frozen BK114.out 1) | ((with_reducible refine gate_builtin (b := .append) (xs := #[.tmp 91, .tmp 93]) rfl ?_); at_builtin; refine Kd.R_append k38 (w0 := w) w.heap.size rfl (.tmp 91) (.tmp 93) 27 38 (.agg #[(.string ⟨#[]⟩), (.int .i64 0)]) 24 rfl Try.underlying27 info38 rfl (by decide) (by omega) v158 y157 (⟨((rd_T56 l1 x6_1).f0), ((rd_T56 l1 x6_1).f1)⟩ : S38) [.string ((rd_T56 l1 x6_1).f0), .int .i64 ((rd_T56 l1 x6_1).f1)] (fun k_ => some k_ ≠ (.slice Ao79 x5_1.length co79 : Value).ownBlock ∧ k_ ≠ gb114) (fun _ => False) rfl rfl ?aP (fun _ hk => hk.elim) ?aF ?aO ?aB ?aS ?aL ?_; (case aP => exact k38_mkM _ _ _ (⟨((rd_T56 l1 x6_1).f0), ((rd_T56 l1 x6_1).f1)⟩ : S38)); (case aB => exact (by repeat (first | (with_reducible first | exact HB.out | apply below_alloc | apply pw_below_drewN | apply below_drew1 | refine below_set ?_ GE114.out | refine below_set ?_ GE120.out | refine below_set ?_ GE126.out) | exact HB.out))); (case aF => exact (fun k_ hk => ⟨Kd.fresh' (Kd.R_lt (by (with_reducible repeat (first | apply Kd.R_alloc | apply Kd.R_drewN | apply Kd.R_drew)); exact HO_5.out)) k_ hk, Kd.freshB (g := gb114) (o := .cells #[.string ((rd_T56 l1 x6_1).f0), .int .i64 ((rd_T56 l1 x6_1).f1)] 38 (0, 0)) (by (with_reducible repeat (first | refine blk_drewN ?_ _ | refine blk_drew ?_ | refine blk_alloc ?_ _)); exact BK114.out) k_ hk⟩)); (case aO => exact (by (with_reducible repeat (first | apply Kd.R_alloc | apply Kd.R_drewN | apply Kd.R_drew)); exact HO159.out)); (case aS => exact (below_size (by repeat (first | (with_reducible first | exact HB.out | apply below_alloc | apply pw_below_drewN | apply below_drew1 | refine below_set ?_ GE114.out | refine below_set ?_ GE120.out | refine below_set ?_ GE126.out) | exact HB.out)))); (case aL => have := LMc74.out; omega); intro v161 w88 ho hb hg hat; rw [← Ny160.out] at ho; have n0_ := Aside0.mk (Kd.R_after (ok := (fun k_ => k_ ≠ gb114)) (by (with_reducible repeat (first | apply Kd.R_alloc | apply Kd.R_drewN | apply Kd.R_drew)); exact HO_5.out) hg hat); have n1_ := Aside0.mk (blk_grown (g := gb114) (o := .cells #[.string ((rd_T56 l1 x6_1).f0), .int .i64 ((rd_T56 l1 x6_1).f1)] 38 (0, 0)) (by (with_reducible repeat (first | refine blk_drewN ?_ _ | refine blk_drew ?_ | refine blk_alloc ?_ _)); exact BK114.out) hg (Kd.R_away HO159.out (fun _ hk => hk.2))); have n2_ := Aside0.mk (blk_grown (g := gb120) (o := .cells #[.string t115, .int .i64 t116, .int .i64 t117, .int .u32 t118] 56 (0, 0)) (by (with_reducible repeat (first | refine blk_drewN ?_ _ | refine blk_drew ?_ | refine blk_alloc ?_ _)); exact BK120.out) hg (Kd.R_ne HO159.out BK120.out (by decide))); have n3_ := Aside0.mk (blk_grown (g := gb126) (o := .cells #[.string t121, .int .i64 t122, .int .i64 t123, .int .u32 t124] 56 (0, 0)) (by (with_reducible repeat (first | refine blk_drewN ?_ _ | refine blk_drew ?_ | refine blk_alloc ?_ _)); exact BK126.out) hg (Kd.R_ne HO159.out BK126.out (by decide))); have n4_ := Aside0.mk (hb); have n5_ := Aside0.mk ((show Kd.C k38 w88 Ao79 y153.length y153 from by rw [Ny153.out]; exact Kd.C_take (m := (x12_3 : Int).toNat) ((Kd.R_reads' (Kd.R_after (ok := (fun k_ => k_ ≠ gb114)) (by (with_reducible repeat (first | apply Kd.R_alloc | apply Kd.R_drewN | apply Kd.R_drew)); exact HO_5.out) hg hat)).2.2) KL83.out)); have n6_ := Aside0.mk (ho); clear HO_5; clear BK114; clear BK120; clear BK126; clear HB; clear HR156; clear HO159; have HO_5 := n0_; have BK114 := n1_; have BK120 := n2_; have BK126 := n3_; have HB := n4_; have HR156 := n5_; have HO162 := n6_; clear n0_ n1_ n2_ n3_ n4_ n5_ n6_; clear ho hb hg hat; have q89 : (x12_3 : Int) ≤ ((x5_1.length : Int) : Int) := of_decide_eq_true (by first | (with_reducible assumption) | assumption); obtain ⟨i089, hi089, _, hsz89, _⟩ := info_parts info38; have hroom89 : x5_1.length ≤ co79 := (Kd.R_reads' HO_5.out).2.1; have hC89 : Kd.C k38 _ Ao79 x5_1.length x5_1 := (Kd.R_reads' HO_5.out).2.2; have q089 : (0 : Int) ≤ (x12_3 : Int) := of_decide_eq_true (by first | (with_reducible assumption) | assumption); have hcut89 := cut_from (P := Try.prog) 27 38 .i64 Try.underlying27 hi089 2 hsz89 Ao79 x5_1.length co79 x12_3 q089 q89; have hr89 := Kd.C_drop (m := (x12_3 : Int).toNat) (c := co79) hC89 (by omega) hroom89; obtain ⟨A89, hA89⟩ : ∃ A1, A1 = (if co79 = (x12_3 : Int).toNat then Ao79 else (Ao79 : Option Addr).map (·.add ((x12_3 : Int).toNat * 2))) := ⟨_, rfl⟩; obtain ⟨c89, hc89⟩ : ∃ c1, c1 = co79 - (x12_3 : Int).toNat := ⟨_, rfl⟩; have hy89 : y163.length = x5_1.length - (x12_3 : Int).toNat := (by rw [Ny163.out, List.length_drop] <;> omega); rw [show (x5_1).drop (x12_3 : Int).toNat = y163 from Ny163.out.symm] at hr89; replace hr89 : Kd.C k38 _ A89 y163.length y163 := (by rw [hA89]; exact hr89); rw [← hy89, ← hA89, ← hc89] at hcut89; have HR166 := Aside0.mk hr89; have HC166 := Aside0.mk (show y163.length ≤ c89 from by rw [hy89, hc89]; exact Nat.sub_le_sub_right hroom89 _); clear hr89 hC89 hroom89 hi089 hsz89 hc89; have KY89 := Aside0.mk hy89; have KA89 := Aside0.mk hA89; clear hy89 hA89; have KL89 := Aside0.mk (show (x12_3 : Int).toNat ≤ x5_1.length from by omega); replace q89 := eq_true q89) | ((with_reducible refine gate_builtin (b := .append) (xs := #[.tmp 95, .tmp 98]) rfl ?_); at_builtin; refine Kd.R_append_rows k38 (w0 := w) w.heap.size rfl (.tmp 95) (.tmp 98) 27 38 (.agg #[(.string ⟨#[]⟩), (.int .i64 0)]) 24 rfl Try.underlying27 info38 rfl (by decide) (by omega) v161 y160 y163 _ _ _ (fun k_ => some k_ ≠ (.slice Ao79 x5_1.length co79 : Value).ownBlock ∧ k_ ≠ gb114) (fun _ => False) rfl rfl ?aO ?aR (fun _ _ h => h) (fun _ h => h.elim) ?aF ?aB ?aS ?aL ?_; (case aR => repeat (first | exact (by repeat (first | (with_reducible exact HR166.out) | (with_reducible refine Kd.C_alloc ?_ _) | (with_reducible refine Kd.C_drewN ?_ _) | (with_reducible refine Kd.C_drew ?_) | exact HR166.out)) | (with_reducible refine Kd.C_alloc ?_ _) | (with_reducible refine Kd.C_drewN ?_ _) | (with_reducible refine Kd.C_drew ?_))); (case aB => exact (by repeat (first | (with_reducible first | exact HB.out | apply below_alloc | apply pw_below_drewN | apply below_drew1 | refine below_set ?_ GE114.out | refine below_set ?_ GE120.out | refine below_set ?_ GE126.out) | exact HB.out))); (case aF => exact (fun k_ hk => ⟨Kd.fresh' (Kd.R_lt (by (with_reducible repeat (first | apply Kd.R_alloc | apply Kd.R_drewN | apply Kd.R_drew)); exact HO_5.out)) k_ hk, Kd.freshB (g := gb114) (o := .cells #[.string ((rd_T56 l1 x6_1).f0), .int .i64 ((rd_T56 l1 x6_1).f1)] 38 (0, 0)) (by (with_reducible repeat (first | refine blk_drewN ?_ _ | refine blk_drew ?_ | refine blk_alloc ?_ _)); exact BK114.out) k_ hk⟩)); (case aO => exact (by (with_reducible repeat (first | apply Kd.R_alloc | apply Kd.R_drewN | apply Kd.R_drew)); exact HO162.out)); (case aS => exact (below_size (by repeat (first | (with_reducible first | exact HB.out | apply below_alloc | apply pw_below_drewN | apply below_drew1 | refine below_set ?_ GE114.out | refine below_set ?_ GE120.out | refine below_set ?_ GE126.out) | exact HB.out)))); (case aL => have := LMc77.out; omega); intro v168 w90 ho hb hg hat; rw [← Ny167.out] at ho; have n0_ := Aside0.mk (Kd.R_after (ok := (fun k_ => k_ ≠ gb114)) (by (with_reducible repeat (first | apply Kd.R_alloc | apply Kd.R_drewN | apply Kd.R_drew)); exact HO_5.out) hg hat); have n1_ := Aside0.mk (blk_grown (g := gb114) (o := .cells #[.string ((rd_T56 l1 x6_1).f0), .int .i64 ((rd_T56 l1 x6_1).f1)] 38 (0, 0)) (by (with_reducible repeat (first | refine blk_drewN ?_ _ | refine blk_drew ?_ | refine blk_alloc ?_ _)); exact BK114.out) hg (Kd.R_away HO162.out (fun _ hk => hk.2))); have n2_ := Aside0.mk (blk_grown (g := gb120) (o := .cells #[.string t115, .int .i64 t116, .int .i64 t117, .int .u32 t118] 56 (0, 0)) (by (with_reducible repeat (first | refine blk_drewN ?_ _ | refine blk_drew ?_ | refine blk_alloc ?_ _)); exact BK120.out) hg (Kd.R_ne HO162.out BK120.out (by decide))); have n3_ := Aside0.mk (blk_grown (g := gb126) (o := .cells #[.string t121, .int .i64 t122, .int .i64 t123, .int .u32 t124] 56 (0, 0)) (by (with_reducible repeat (first | refine blk_drewN ?_ _ | refine blk_drew ?_ | refine blk_alloc ?_ _)); exact BK126.out) hg (Kd.R_ne HO162.out BK126.out (by decide))); have n4_ := Aside0.mk (hb); have n5_ := Aside0.mk ((show Kd.C k38 w90 Ao79 y153.length y153 from by rw [Ny153.out]; exact Kd.C_take (m := (x12_3 : Int).toNat) ((Kd.R_reads' (Kd.R_after (ok := (fun k_ => k_ ≠ gb114)) (by (with_reducible repeat (first | apply Kd.R_alloc | apply Kd.R_drewN | apply Kd.R_drew)); exact HO_5.out) hg hat)).2.2) KL83.out)); have n6_ := Aside0.mk ((show Kd.C k38 w90 A89 y163.length y163 from by rw [Ny163.out, KA89.out]; exact Kd.C_drop (m := (x12_3 : Int).toNat) (c := co79) ((Kd.R_reads' (Kd.R_after (ok := (fun k_ => k_ ≠ gb114)) (by (with_reducible repeat (first | apply Kd.R_alloc | apply Kd.R_drewN | apply Kd.R_drew)); exact HO_5.out) hg hat)).2.2) KL89.out ((Kd.R_reads' (Kd.R_after (ok := (fun k_ => k_ ≠ gb114)) (by (with_reducible repeat (first | apply Kd.R_alloc | apply Kd.R_drewN | apply Kd.R_drew)); exact HO_5.out) hg hat)).2.1))); have n7_ := Aside0.mk (ho); clear HO_5; clear BK114; clear BK120; clear BK126; clear HB; clear HR156; clear HR166; clear HO162; have HO_5 := n0_; have BK114 := n1_; have BK120 := n2_; have BK126 := n3_; have HB := n4_; have HR156 := n5_; have HR166 := n6_; have HO169 := n7_; clear n0_ n1_ n2_ n3_ n4_ n5_ n6_ n7_; clear ho hb hg hat))
                                go_roundg k3
                                case measure => have := HK1.out; have := HJ8.out; have := HK3.out; omega
                                case rel => exact ⟨(y167), (wrap64 (x6_1 + 1)), (by first | rfl | (simp; done) | (simp [*]; done)), H', ⟨by have := HK1.out; have := HJ8.out; have := HK3.out; omega⟩, ⟨by (with_reducible repeat (first | apply Kd.R_alloc | apply Kd.R_drewN | apply Kd.R_drew)); exact Kd.R_mono HO169.out (fun _ hk => trivial)⟩, ⟨by repeat (first | (with_reducible first | exact HB.out | apply below_alloc | apply pw_below_drewN | apply below_drew1 | refine below_set ?_ GE114.out | refine below_set ?_ GE120.out | refine below_set ?_ GE126.out) | exact HB.out)⟩⟩
                              · rw [if_neg c77] at H
                                exact absurd H (by simp)
                            · rw [if_neg c74] at H
                              exact absurd H (by simp)
                          · rw [if_neg c73] at H
                            exact absurd H (by simp)
                        · rw [if_neg c72] at H
                          exact absurd H (by simp)
                      · rw [if_neg c71] at H
                        exact absurd H (by simp)
        · rw [if_neg c6] at H
          exact absurd H (by simp)
      · rw [if_neg c5] at H
        have c5b0 : decide (x6_1 < (l1.length : Int)) = false := decide_eq_false c5
        clear c5
        obtain rfl := Option.some.inj H
        go_wp2
        go_ret
        exact ⟨_, by first | rfl | (simp [errW_none, errW_some] <;> rfl) | (simp [*, errW_none, errW_some] <;> rfl), by (with_reducible repeat (first | apply Kd.R_alloc | apply Kd.R_drewN | apply Kd.R_drew)); exact HO_5.out, by repeat (first | (with_reducible first | exact HB.out | apply below_alloc | apply pw_below_drewN | apply below_drew1) | exact HB.out)⟩

end Go.Proofs.Ytcdpcgcfonjnfaa.QT
