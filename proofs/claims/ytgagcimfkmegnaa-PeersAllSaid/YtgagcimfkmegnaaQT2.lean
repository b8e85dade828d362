-- Laid by wip/tools/myprint.py of this repo. Not trusted: Lean checks it.
import Derived.Test.YtgagcimfkmegnaaQT1
set_option maxHeartbeats 8000000
set_option maxRecDepth 100000
namespace Go.Proofs.Ytgagcimfkmegnaa.QT
open Go.RowKit Go.Proofs.YtgagcimfkmegnaaW.PrintWords Go.Proofs.YtgagcimfkmegnaaW.PrintLast Go.Proofs.YtgagcimfkmegnaaW.PrintMore
attribute [local go_sem] max2_int min2_int max_two min_two max_three min_three max_four min_four   -- for this text's walks alone
set_option linter.unusedVariables false
set_option linter.unusedSimpArgs false
attribute [local go_sem high] eqA42
mutual
def thermographlaw17_heavy.l0 : Nat → List (S46) → Int → Int → Option (Bool)
 | 0, _, _, _ => none
 | k + 1, x0, x3, x4 => if x4 < (x0.length : Int) then (thermographlaw17_heavy.j1 k x0 x3 x4 (decide (x3 ≤ 4096))) else (thermographlaw17_heavy.j1 k x0 x3 x4 false)
def thermographlaw17_heavy.j1 : Nat → List (S46) → Int → Int → Bool → Option (Bool)
 | 0, _, _, _, _ => none
 | k + 1, x0, x3, x4, x15 => if x15 = true then (if 0 ≤ x4 then (if x4 < (x0.length : Int) then (thermographlaw17_heavy.l1 k x0 (wrap64 (x3 + ((mn (((rd_T46 x0 x4).f11).length : Int) 1048576) + (mn (((rd_T46 x0 x4).f12).length : Int) 1048576)))) x4 0) else (none)) else (none)) else (some (decide (x3 > 4096)))
def thermographlaw17_heavy.l1 : Nat → List (S46) → Int → Int → Int → Option (Bool)
 | 0, _, _, _, _ => none
 | k + 1, x0, x3, x4, x5 => if 0 ≤ x4 then (if x4 < (x0.length : Int) then (if x5 < (((rd_T46 x0 x4).f12).length : Int) then (if x3 ≤ 4096 then (if 0 ≤ x5 then (thermographlaw17_heavy.l1 k x0 (wrap64 (x3 + (mn (((rd_T25 ((rd_T46 x0 x4).f12) x5).f0).size : Int) 1048576))) x4 (wrap64 (x5 + 1))) else (none)) else (thermographlaw17_heavy.l0 k x0 x3 (wrap64 (x4 + 1)))) else (thermographlaw17_heavy.l0 k x0 x3 (wrap64 (x4 + 1)))) else (none)) else (none)
end
def thermographlaw17_heavy.f (k : Nat) (l0 : List (S46)) : Option (Bool) := thermographlaw17_heavy.l0 k l0 (l0.length : Int) 0
theorem thermographlaw17_heavy.calls (k : Nat) (A0 : Option Addr) (c0 : Nat) (l0 : List (S46)) (r : Bool) (w : World) (hr0 : Kd.C k46 w A0 l0.length l0) (hc0 : l0.length ≤ c0) (h : thermographlaw17_heavy.f k l0 = some r) :
  Calls Try.prog 7 #[.slice A0 l0.length c0] w fun e w' => e = .returned (.bool r) ∧ Below w.heap.size w w' := by
 have HR0 := Aside0.mk hr0; clear hr0 hc0; have HB := Aside0.mk (Below.refl w.heap.size w); have H : (thermographlaw17_heavy.l0 k l0 (l0.length : Int) 0) = some r := h; clear h; have H' := Aside0.mk H; clear H; go_enter Try.func7, Try.ntmps7
 go_wp2; go_loopg [3, 4] k (fun kq v3 v4 w' => ∃ (x3_1 : Int) (x4_1 : Int), v3 = .int .i64 x3_1 ∧ v4 = .int .i64 x4_1 ∧ Aside0 (thermographlaw17_heavy.l0 kq l0 x3_1 x4_1 = some r) ∧ Aside0 (kq ≤ k) ∧ Aside0 (Below w.heap.size w w'))
 case atStart => exact ⟨((l0.length : Int)), (0), (by rfl), (by rfl), H', ⟨Nat.le_refl _⟩, ⟨HB.out⟩⟩
 case round =>
  clear H'; obtain ⟨x3_1, x4_1, rfl, rfl, HA, HK1, HB⟩ := hrel
  cases gk with
  | zero => exact absurd HA.out (by simp [thermographlaw17_heavy.l0])
  | succ k1 =>
   have H := HA.out; clear HA; simp only [thermographlaw17_heavy.l0] at H; have HC2 := Aside0.mk H; clear H
   go_upto_region 3 with (fail)
   go_cut [15] (fun v15 wc => ∃ (kq : Nat) (x15_1 : Bool), v15 = .bool x15_1 ∧ Aside0 (thermographlaw17_heavy.j1 kq l0 x3_1 x4_1 x15_1 = some r) ∧ Aside0 (kq ≤ k1) ∧ Aside0 (Below w.heap.size w wc))
   case first =>
    have H := HC2.out; clear HC2
    by_cases c3 : x4_1 < (l0.length : Int)
    ·
     rw [if_pos c3] at H; have c3b0 : decide (x4_1 < (l0.length : Int)) = true := decide_eq_true c3; clear c3
     ((skip))
     have H' := Aside0.mk H; clear H; go_wp2; go_meet
     case rel => exact ⟨_, (decide (x3_1 ≤ 4096)), (by rfl), H', ⟨by have := HK1.out; omega⟩, ⟨HB.out⟩⟩
    ·
     rw [if_neg c3] at H; have c3b0 : decide (x4_1 < (l0.length : Int)) = false := decide_eq_false c3; clear c3
     ((skip))
     have H' := Aside0.mk H; clear H; go_wp2; go_meet
     case rel => exact ⟨_, (false), (by rfl), H', ⟨by have := HK1.out; omega⟩, ⟨HB.out⟩⟩
   case rest =>
    clear HC2; obtain ⟨kq, x15_1, rfl, HA, HJ1, HB⟩ := hcut
    cases kq with
    | zero => exact absurd HA.out (by simp [thermographlaw17_heavy.j1])
    | succ kj1 =>
     have H := HA.out; clear HA; simp only [thermographlaw17_heavy.j1] at H
     by_cases c4 : x15_1 = true
     ·
      subst c4; have H1 : (if 0 ≤ x4_1 then (if x4_1 < (l0.length : Int) then (thermographlaw17_heavy.l1 kj1 l0 (wrap64 (x3_1 + ((mn (((rd_T46 l0 x4_1).f11).length : Int) 1048576) + (mn (((rd_T46 l0 x4_1).f12).length : Int) 1048576)))) x4_1 0) else (none)) else (none)) = some r := by rw [if_pos rfl] at H; exact H
      clear H; have H := H1; clear H1
      by_cases c5 : 0 ≤ x4_1
      ·
       rw [if_pos c5] at H; have c5b0 : decide (0 ≤ x4_1) = true := decide_eq_true c5; clear c5
       by_cases c6 : x4_1 < (l0.length : Int)
       ·
        rw [if_pos c6] at H; have c6b0 : decide (x4_1 < (l0.length : Int)) = true := decide_eq_true c6; clear c6
        obtain ⟨ji7, hji7⟩ : ∃ j_ : Int, (mn (((rd_T46 l0 x4_1).f11).length : Int) 1048576) = j_ := ⟨_, rfl⟩
        replace H : (thermographlaw17_heavy.l1 kj1 l0 (wrap64 (x3_1 + ((ji7) + (mn (((rd_T46 l0 x4_1).f12).length : Int) 1048576)))) x4_1 0) = some r := by (rw [hji7] at H; exact H)
        have hji7_ : (if 1048576 < (((rd_T46 l0 x4_1).f11).length : Int) then 1048576 else (((rd_T46 l0 x4_1).f11).length : Int)) = ji7 := hji7
        obtain ⟨ji8, hji8⟩ : ∃ j_ : Int, (mn (((rd_T46 l0 x4_1).f12).length : Int) 1048576) = j_ := ⟨_, rfl⟩
        replace H : (thermographlaw17_heavy.l1 kj1 l0 (wrap64 (x3_1 + ((ji7) + (ji8)))) x4_1 0) = some r := by (rw [hji8] at H; exact H)
        have hji8_ : (if 1048576 < (((rd_T46 l0 x4_1).f12).length : Int) then 1048576 else (((rd_T46 l0 x4_1).f12).length : Int)) = ji8 := hji8; have H' := Aside0.mk H; clear H; have p101 : 0 ≤ (x4_1 : Int) := of_decide_eq_true (by with_reducible assumption); have q101 : x4_1 < (l0.length : Int) := of_decide_eq_true (by with_reducible assumption); obtain ⟨ad101, A101_14, c101_14, A101_15, c101_15, e101, hx101_0, hx101_1, hx101_2, hx101_3, hx101_4, hx101_5, hx101_6, hx101_7, hx101_8, hx101_9, hx101_10, hx101_11, hx101_12, hx101_13, hx101_14, hx101_15, hl101_14, hi101_14, hl101_15, hi101_15⟩ := at_T46 HR0.out x4_1 p101 q101; cases e101; replace hx101_0 := (HB.out.cell (World.block_lt_of_cell? w _ hx101_0)).trans hx101_0; replace hx101_1 := (HB.out.cell (World.block_lt_of_cell? w _ hx101_1)).trans hx101_1; replace hx101_2 := (HB.out.cell (World.block_lt_of_cell? w _ hx101_2)).trans hx101_2; replace hx101_3 := (HB.out.cell (World.block_lt_of_cell? w _ hx101_3)).trans hx101_3; replace hx101_4 := (HB.out.cell (World.block_lt_of_cell? w _ hx101_4)).trans hx101_4; replace hx101_5 := (HB.out.cell (World.block_lt_of_cell? w _ hx101_5)).trans hx101_5; replace hx101_6 := (HB.out.cell (World.block_lt_of_cell? w _ hx101_6)).trans hx101_6; replace hx101_7 := (HB.out.cell (World.block_lt_of_cell? w _ hx101_7)).trans hx101_7; replace hx101_8 := (HB.out.cell (World.block_lt_of_cell? w _ hx101_8)).trans hx101_8; replace hx101_9 := (HB.out.cell (World.block_lt_of_cell? w _ hx101_9)).trans hx101_9; replace hx101_10 := (HB.out.cell (World.block_lt_of_cell? w _ hx101_10)).trans hx101_10; replace hx101_11 := (HB.out.cell (World.block_lt_of_cell? w _ hx101_11)).trans hx101_11; replace hx101_12 := (HB.out.cell (World.block_lt_of_cell? w _ hx101_12)).trans hx101_12; replace hx101_13 := (HB.out.cell (World.block_lt_of_cell? w _ hx101_13)).trans hx101_13; replace hx101_14 := (HB.out.cell (World.block_lt_of_cell? w _ hx101_14)).trans hx101_14; replace hx101_15 := (HB.out.cell (World.block_lt_of_cell? w _ hx101_15)).trans hx101_15; clear hi101_14 hl101_14; clear hi101_15 hl101_15; replace p101 := eq_true p101; replace q101 := eq_true q101; have p102 : 0 ≤ (x4_1 : Int) := of_decide_eq_true (by with_reducible assumption); have q102 : x4_1 < (l0.length : Int) := of_decide_eq_true (by with_reducible assumption); obtain ⟨ad102, A102_14, c102_14, A102_15, c102_15, e102, hx102_0, hx102_1, hx102_2, hx102_3, hx102_4, hx102_5, hx102_6, hx102_7, hx102_8, hx102_9, hx102_10, hx102_11, hx102_12, hx102_13, hx102_14, hx102_15, hl102_14, hi102_14, hl102_15, hi102_15⟩ := at_T46 HR0.out x4_1 p102 q102
        obtain rfl : ad101 = ad102 := (by injection e102)
        replace hx102_0 := (HB.out.cell (World.block_lt_of_cell? w _ hx102_0)).trans hx102_0; replace hx102_1 := (HB.out.cell (World.block_lt_of_cell? w _ hx102_1)).trans hx102_1; replace hx102_2 := (HB.out.cell (World.block_lt_of_cell? w _ hx102_2)).trans hx102_2; replace hx102_3 := (HB.out.cell (World.block_lt_of_cell? w _ hx102_3)).trans hx102_3; replace hx102_4 := (HB.out.cell (World.block_lt_of_cell? w _ hx102_4)).trans hx102_4; replace hx102_5 := (HB.out.cell (World.block_lt_of_cell? w _ hx102_5)).trans hx102_5; replace hx102_6 := (HB.out.cell (World.block_lt_of_cell? w _ hx102_6)).trans hx102_6; replace hx102_7 := (HB.out.cell (World.block_lt_of_cell? w _ hx102_7)).trans hx102_7; replace hx102_8 := (HB.out.cell (World.block_lt_of_cell? w _ hx102_8)).trans hx102_8; replace hx102_9 := (HB.out.cell (World.block_lt_of_cell? w _ hx102_9)).trans hx102_9; replace hx102_10 := (HB.out.cell (World.block_lt_of_cell? w _ hx102_10)).trans hx102_10; replace hx102_11 := (HB.out.cell (World.block_lt_of_cell? w _ hx102_11)).trans hx102_11; replace hx102_12 := (HB.out.cell (World.block_lt_of_cell? w _ hx102_12)).trans hx102_12; replace hx102_13 := (HB.out.cell (World.block_lt_of_cell? w _ hx102_13)).trans hx102_13; replace hx102_14 := (HB.out.cell (World.block_lt_of_cell? w _ hx102_14)).trans hx102_14; replace hx102_15 := (HB.out.cell (World.block_lt_of_cell? w _ hx102_15)).trans hx102_15; have HR102_14 := Aside0.mk hi102_14; have HC102_14 := Aside0.mk hl102_14; clear hi102_14 hl102_14; have HR102_15 := Aside0.mk hi102_15; have HC102_15 := Aside0.mk hl102_15; clear hi102_15 hl102_15; replace p102 := eq_true p102; replace q102 := eq_true q102; have ea_ := Option.some.inj (hx101_14.symm.trans hx102_14)
        injection ea_ with ea_ en_ ec_
        subst ea_; subst ec_; clear en_; have ea_ := Option.some.inj (hx101_15.symm.trans hx102_15)
        injection ea_ with ea_ en_ ec_
        subst ea_; subst ec_; clear en_; go_wp2; repeat (go_quiet (fail); try go_wp2)
        go_loopg [3, 5] kj1 (fun kq v3 v5 w' => ∃ (x3_3 : Int) (x5_3 : Int), v3 = .int .i64 x3_3 ∧ v5 = .int .i64 x5_3 ∧ Aside0 (thermographlaw17_heavy.l1 kq l0 x3_3 x4_1 x5_3 = some r) ∧ Aside0 (kq ≤ kj1) ∧ Aside0 (Below w.heap.size w w'))
        case atStart => exact ⟨(wrap64 (x3_1 + ((ji7) + (ji8)))), (0), (by rfl), (by rfl), H', ⟨Nat.le_refl _⟩, ⟨by repeat ((with_reducible first | exact HB.out | apply pw_below_drewN))⟩⟩
        case round =>
         clear H'; try clear c5b0
         try clear c6b0
         try clear hx101_0
         try clear hx101_1
         try clear hx101_10
         try clear hx101_11
         try clear hx101_12
         try clear hx101_13
         try clear hx101_14
         try clear hx101_15
         try clear hx101_2
         try clear hx101_3
         try clear hx101_4
         try clear hx101_5
         try clear hx101_6
         try clear hx101_7
         try clear hx101_8
         try clear hx101_9
         try clear hx102_0
         try clear hx102_1
         try clear hx102_10
         try clear hx102_11
         try clear hx102_12
         try clear hx102_13
         try clear hx102_14
         try clear hx102_15
         try clear hx102_2
         try clear hx102_3
         try clear hx102_4
         try clear hx102_5
         try clear hx102_6
         try clear hx102_7
         try clear hx102_8
         try clear hx102_9
         try clear p101
         try clear p102
         try clear q101
         try clear q102
         obtain ⟨x3_3, x5_3, rfl, rfl, HA, HK3, HB⟩ := hrel
         cases gk with
         | zero => exact absurd HA.out (by simp [thermographlaw17_heavy.l1])
         | succ k3 =>
          have H := HA.out; clear HA; simp only [thermographlaw17_heavy.l1] at H
          by_cases c9 : 0 ≤ x4_1
          ·
           rw [if_pos c9] at H; have c9b0 : decide (0 ≤ x4_1) = true := decide_eq_true c9; clear c9
           by_cases c10 : x4_1 < (l0.length : Int)
           ·
            rw [if_pos c10] at H; have c10b0 : decide (x4_1 < (l0.length : Int)) = true := decide_eq_true c10; clear c10
            by_cases c11 : x5_3 < (((rd_T46 l0 x4_1).f12).length : Int)
            ·
             rw [if_pos c11] at H; have c11b0 : decide (x5_3 < (((rd_T46 l0 x4_1).f12).length : Int)) = true := decide_eq_true c11; clear c11
             by_cases c12 : x3_3 ≤ 4096
             ·
              rw [if_pos c12] at H; have c12b0 : decide (x3_3 ≤ 4096) = true := decide_eq_true c12; clear c12
              by_cases c13 : 0 ≤ x5_3
              ·
               rw [if_pos c13] at H; have c13b0 : decide (0 ≤ x5_3) = true := decide_eq_true c13; clear c13
               obtain ⟨ji14, hji14⟩ : ∃ j_ : Int, (mn (((rd_T25 ((rd_T46 l0 x4_1).f12) x5_3).f0).size : Int) 1048576) = j_ := ⟨_, rfl⟩
               replace H : (thermographlaw17_heavy.l1 k3 l0 (wrap64 (x3_3 + (ji14))) x4_1 (wrap64 (x5_3 + 1))) = some r := by (rw [hji14] at H; exact H)
               have hji14_ : (if 1048576 < (((rd_T25 ((rd_T46 l0 x4_1).f12) x5_3).f0).size : Int) then 1048576 else (((rd_T25 ((rd_T46 l0 x4_1).f12) x5_3).f0).size : Int)) = ji14 := hji14; have H' := Aside0.mk H; clear H; have p103 : 0 ≤ (x4_1 : Int) := of_decide_eq_true (by with_reducible assumption); have q103 : x4_1 < (l0.length : Int) := of_decide_eq_true (by with_reducible assumption); obtain ⟨ad103, A103_14, c103_14, A103_15, c103_15, e103, hx103_0, hx103_1, hx103_2, hx103_3, hx103_4, hx103_5, hx103_6, hx103_7, hx103_8, hx103_9, hx103_10, hx103_11, hx103_12, hx103_13, hx103_14, hx103_15, hl103_14, hi103_14, hl103_15, hi103_15⟩ := at_T46 HR0.out x4_1 p103 q103
               obtain rfl : ad101 = ad103 := (by injection e103)
               replace hx103_0 := (HB.out.cell (World.block_lt_of_cell? w _ hx103_0)).trans hx103_0; replace hx103_1 := (HB.out.cell (World.block_lt_of_cell? w _ hx103_1)).trans hx103_1; replace hx103_2 := (HB.out.cell (World.block_lt_of_cell? w _ hx103_2)).trans hx103_2; replace hx103_3 := (HB.out.cell (World.block_lt_of_cell? w _ hx103_3)).trans hx103_3; replace hx103_4 := (HB.out.cell (World.block_lt_of_cell? w _ hx103_4)).trans hx103_4; replace hx103_5 := (HB.out.cell (World.block_lt_of_cell? w _ hx103_5)).trans hx103_5; replace hx103_6 := (HB.out.cell (World.block_lt_of_cell? w _ hx103_6)).trans hx103_6; replace hx103_7 := (HB.out.cell (World.block_lt_of_cell? w _ hx103_7)).trans hx103_7; replace hx103_8 := (HB.out.cell (World.block_lt_of_cell? w _ hx103_8)).trans hx103_8; replace hx103_9 := (HB.out.cell (World.block_lt_of_cell? w _ hx103_9)).trans hx103_9; replace hx103_10 := (HB.out.cell (World.block_lt_of_cell? w _ hx103_10)).trans hx103_10; replace hx103_11 := (HB.out.cell (World.block_lt_of_cell? w _ hx103_11)).trans hx103_11; replace hx103_12 := (HB.out.cell (World.block_lt_of_cell? w _ hx103_12)).trans hx103_12; replace hx103_13 := (HB.out.cell (World.block_lt_of_cell? w _ hx103_13)).trans hx103_13; replace hx103_14 := (HB.out.cell (World.block_lt_of_cell? w _ hx103_14)).trans hx103_14; replace hx103_15 := (HB.out.cell (World.block_lt_of_cell? w _ hx103_15)).trans hx103_15; clear hi103_14 hl103_14; have HR103_15 := Aside0.mk hi103_15; clear hi103_15 hl103_15; replace p103 := eq_true p103; replace q103 := eq_true q103; have p104 : 0 ≤ (x4_1 : Int) := of_decide_eq_true (by with_reducible assumption); have q104 : x4_1 < (l0.length : Int) := of_decide_eq_true (by with_reducible assumption); obtain ⟨ad104, A104_14, c104_14, A104_15, c104_15, e104, hx104_0, hx104_1, hx104_2, hx104_3, hx104_4, hx104_5, hx104_6, hx104_7, hx104_8, hx104_9, hx104_10, hx104_11, hx104_12, hx104_13, hx104_14, hx104_15, hl104_14, hi104_14, hl104_15, hi104_15⟩ := at_T46 HR0.out x4_1 p104 q104
               obtain rfl : ad101 = ad104 := (by injection e104)
               replace hx104_0 := (HB.out.cell (World.block_lt_of_cell? w _ hx104_0)).trans hx104_0; replace hx104_1 := (HB.out.cell (World.block_lt_of_cell? w _ hx104_1)).trans hx104_1; replace hx104_2 := (HB.out.cell (World.block_lt_of_cell? w _ hx104_2)).trans hx104_2; replace hx104_3 := (HB.out.cell (World.block_lt_of_cell? w _ hx104_3)).trans hx104_3; replace hx104_4 := (HB.out.cell (World.block_lt_of_cell? w _ hx104_4)).trans hx104_4; replace hx104_5 := (HB.out.cell (World.block_lt_of_cell? w _ hx104_5)).trans hx104_5; replace hx104_6 := (HB.out.cell (World.block_lt_of_cell? w _ hx104_6)).trans hx104_6; replace hx104_7 := (HB.out.cell (World.block_lt_of_cell? w _ hx104_7)).trans hx104_7; replace hx104_8 := (HB.out.cell (World.block_lt_of_cell? w _ hx104_8)).trans hx104_8; replace hx104_9 := (HB.out.cell (World.block_lt_of_cell? w _ hx104_9)).trans hx104_9; replace hx104_10 := (HB.out.cell (World.block_lt_of_cell? w _ hx104_10)).trans hx104_10; replace hx104_11 := (HB.out.cell (World.block_lt_of_cell? w _ hx104_11)).trans hx104_11; replace hx104_12 := (HB.out.cell (World.block_lt_of_cell? w _ hx104_12)).trans hx104_12; replace hx104_13 := (HB.out.cell (World.block_lt_of_cell? w _ hx104_13)).trans hx104_13; replace hx104_14 := (HB.out.cell (World.block_lt_of_cell? w _ hx104_14)).trans hx104_14; replace hx104_15 := (HB.out.cell (World.block_lt_of_cell? w _ hx104_15)).trans hx104_15; have HR104_14 := Aside0.mk hi104_14; have HC104_14 := Aside0.mk hl104_14; clear hi104_14 hl104_14; have HR104_15 := Aside0.mk hi104_15; have HC104_15 := Aside0.mk hl104_15; clear hi104_15 hl104_15; replace p104 := eq_true p104; replace q104 := eq_true q104; have ea_ := Option.some.inj (hx103_14.symm.trans hx104_14)
               injection ea_ with ea_ en_ ec_
               subst ea_; subst ec_; clear en_; have ea_ := Option.some.inj (hx103_15.symm.trans hx104_15)
               injection ea_ with ea_ en_ ec_
               subst ea_; subst ec_; clear en_; have p105 : 0 ≤ (x5_3 : Int) := of_decide_eq_true (by with_reducible assumption); have q105 : x5_3 < (((rd_T46 l0 x4_1).f12).length : Int) := of_decide_eq_true (by with_reducible assumption); obtain ⟨ad105, e105, hx105_0, hx105_1, hx105_2, hx105_3⟩ := at_T25 HR104_15.out x5_3 p105 q105; cases e105; replace hx105_0 := (HB.out.cell (World.block_lt_of_cell? w _ hx105_0)).trans hx105_0; replace hx105_1 := (HB.out.cell (World.block_lt_of_cell? w _ hx105_1)).trans hx105_1; replace hx105_2 := (HB.out.cell (World.block_lt_of_cell? w _ hx105_2)).trans hx105_2; replace hx105_3 := (HB.out.cell (World.block_lt_of_cell? w _ hx105_3)).trans hx105_3; replace p105 := eq_true p105; replace q105 := eq_true q105; go_wp2; go_roundg k3
               case measure => have := HK1.out; have := HJ1.out; have := HK3.out; omega
               case rel => exact ⟨(wrap64 (x3_3 + (ji14))), (wrap64 (x5_3 + 1)), (by rfl), (by rfl), H', ⟨by have := HK1.out; have := HJ1.out; have := HK3.out; omega⟩, ⟨HB.out⟩⟩
              ·
               rw [if_neg c13] at H; exact absurd H (by simp)
             ·
              rw [if_neg c12] at H; have c12b0 : decide (x3_3 ≤ 4096) = false := decide_eq_false c12; clear c12; have H' := Aside0.mk H; clear H; have p103 : 0 ≤ (x4_1 : Int) := of_decide_eq_true (by with_reducible assumption); have q103 : x4_1 < (l0.length : Int) := of_decide_eq_true (by with_reducible assumption); obtain ⟨ad103, A103_14, c103_14, A103_15, c103_15, e103, hx103_0, hx103_1, hx103_2, hx103_3, hx103_4, hx103_5, hx103_6, hx103_7, hx103_8, hx103_9, hx103_10, hx103_11, hx103_12, hx103_13, hx103_14, hx103_15, hl103_14, hi103_14, hl103_15, hi103_15⟩ := at_T46 HR0.out x4_1 p103 q103
              obtain rfl : ad101 = ad103 := (by injection e103)
              replace hx103_0 := (HB.out.cell (World.block_lt_of_cell? w _ hx103_0)).trans hx103_0; replace hx103_1 := (HB.out.cell (World.block_lt_of_cell? w _ hx103_1)).trans hx103_1; replace hx103_2 := (HB.out.cell (World.block_lt_of_cell? w _ hx103_2)).trans hx103_2; replace hx103_3 := (HB.out.cell (World.block_lt_of_cell? w _ hx103_3)).trans hx103_3; replace hx103_4 := (HB.out.cell (World.block_lt_of_cell? w _ hx103_4)).trans hx103_4; replace hx103_5 := (HB.out.cell (World.block_lt_of_cell? w _ hx103_5)).trans hx103_5; replace hx103_6 := (HB.out.cell (World.block_lt_of_cell? w _ hx103_6)).trans hx103_6; replace hx103_7 := (HB.out.cell (World.block_lt_of_cell? w _ hx103_7)).trans hx103_7; replace hx103_8 := (HB.out.cell (World.block_lt_of_cell? w _ hx103_8)).trans hx103_8; replace hx103_9 := (HB.out.cell (World.block_lt_of_cell? w _ hx103_9)).trans hx103_9; replace hx103_10 := (HB.out.cell (World.block_lt_of_cell? w _ hx103_10)).trans hx103_10; replace hx103_11 := (HB.out.cell (World.block_lt_of_cell? w _ hx103_11)).trans hx103_11; replace hx103_12 := (HB.out.cell (World.block_lt_of_cell? w _ hx103_12)).trans hx103_12; replace hx103_13 := (HB.out.cell (World.block_lt_of_cell? w _ hx103_13)).trans hx103_13; replace hx103_14 := (HB.out.cell (World.block_lt_of_cell? w _ hx103_14)).trans hx103_14; replace hx103_15 := (HB.out.cell (World.block_lt_of_cell? w _ hx103_15)).trans hx103_15; clear hi103_14 hl103_14; have HR103_15 := Aside0.mk hi103_15; clear hi103_15 hl103_15; replace p103 := eq_true p103; replace q103 := eq_true q103; go_wp2; go_roundg k3
              case measure => have := HK1.out; have := HJ1.out; have := HK3.out; omega
              case rel => exact ⟨(x3_3), (wrap64 (x4_1 + 1)), (by rfl), (by rfl), H', ⟨by have := HK1.out; have := HJ1.out; have := HK3.out; omega⟩, ⟨HB.out⟩⟩
            ·
             rw [if_neg c11] at H; have c11b0 : decide (x5_3 < (((rd_T46 l0 x4_1).f12).length : Int)) = false := decide_eq_false c11; clear c11; have H' := Aside0.mk H; clear H; have p103 : 0 ≤ (x4_1 : Int) := of_decide_eq_true (by with_reducible assumption); have q103 : x4_1 < (l0.length : Int) := of_decide_eq_true (by with_reducible assumption); obtain ⟨ad103, A103_14, c103_14, A103_15, c103_15, e103, hx103_0, hx103_1, hx103_2, hx103_3, hx103_4, hx103_5, hx103_6, hx103_7, hx103_8, hx103_9, hx103_10, hx103_11, hx103_12, hx103_13, hx103_14, hx103_15, hl103_14, hi103_14, hl103_15, hi103_15⟩ := at_T46 HR0.out x4_1 p103 q103
             obtain rfl : ad101 = ad103 := (by injection e103)
             replace hx103_0 := (HB.out.cell (World.block_lt_of_cell? w _ hx103_0)).trans hx103_0; replace hx103_1 := (HB.out.cell (World.block_lt_of_cell? w _ hx103_1)).trans hx103_1; replace hx103_2 := (HB.out.cell (World.block_lt_of_cell? w _ hx103_2)).trans hx103_2; replace hx103_3 := (HB.out.cell (World.block_lt_of_cell? w _ hx103_3)).trans hx103_3; replace hx103_4 := (HB.out.cell (World.block_lt_of_cell? w _ hx103_4)).trans hx103_4; replace hx103_5 := (HB.out.cell (World.block_lt_of_cell? w _ hx103_5)).trans hx103_5; replace hx103_6 := (HB.out.cell (World.block_lt_of_cell? w _ hx103_6)).trans hx103_6; replace hx103_7 := (HB.out.cell (World.block_lt_of_cell? w _ hx103_7)).trans hx103_7; replace hx103_8 := (HB.out.cell (World.block_lt_of_cell? w _ hx103_8)).trans hx103_8; replace hx103_9 := (HB.out.cell (World.block_lt_of_cell? w _ hx103_9)).trans hx103_9; replace hx103_10 := (HB.out.cell (World.block_lt_of_cell? w _ hx103_10)).trans hx103_10; replace hx103_11 := (HB.out.cell (World.block_lt_of_cell? w _ hx103_11)).trans hx103_11; replace hx103_12 := (HB.out.cell (World.block_lt_of_cell? w _ hx103_12)).trans hx103_12; replace hx103_13 := (HB.out.cell (World.block_lt_of_cell? w _ hx103_13)).trans hx103_13; replace hx103_14 := (HB.out.cell (World.block_lt_of_cell? w _ hx103_14)).trans hx103_14; replace hx103_15 := (HB.out.cell (World.block_lt_of_cell? w _ hx103_15)).trans hx103_15; clear hi103_14 hl103_14; have HR103_15 := Aside0.mk hi103_15; clear hi103_15 hl103_15; replace p103 := eq_true p103; replace q103 := eq_true q103; go_wp2; go_roundg k3
             case measure => have := HK1.out; have := HJ1.out; have := HK3.out; omega
             case rel => exact ⟨(x3_3), (wrap64 (x4_1 + 1)), (by rfl), (by rfl), H', ⟨by have := HK1.out; have := HJ1.out; have := HK3.out; omega⟩, ⟨HB.out⟩⟩
           ·
            rw [if_neg c10] at H; exact absurd H (by simp)
          ·
           rw [if_neg c9] at H; exact absurd H (by simp)
       ·
        rw [if_neg c6] at H; exact absurd H (by simp)
      ·
       rw [if_neg c5] at H; exact absurd H (by simp)
     ·
      replace c4 := Bool.eq_false_iff.mpr c4; subst c4; have H1 : (some (decide (x3_1 > 4096))) = some r := by rw [if_neg (show ¬ (false = true) by decide)] at H; exact H
      clear H; have H := H1; clear H1; obtain rfl := Option.some.inj H; go_wp2; go_ret; exact ⟨by rfl, by repeat ((with_reducible exact HB.out))⟩
def thermographlaw17_same.l0 : Nat → List (S42) → List (S42) → Int → Option (Bool)
 | 0, _, _, _ => none
 | k + 1, x0, x1, x5 => if x5 < (x0.length : Int) then (if 0 ≤ x5 then (if x5 < (x1.length : Int) then (if (!(((rd_T42 x0 x5).f0) == ((rd_T42 x1 x5).f0)) || (!(((rd_T42 x0 x5).f1) == ((rd_T42 x1 x5).f1)) || (!(((rd_T42 x0 x5).f2) == ((rd_T42 x1 x5).f2))))) = true then (some false) else (thermographlaw17_same.l0 k x0 x1 (wrap64 (x5 + 1)))) else (none)) else (none)) else (some true)
def thermographlaw17_same.f (k : Nat) (l0 : List (S42)) (l1 : List (S42)) : Option (Bool) := if (l0.length : Int) = (l1.length : Int) then (thermographlaw17_same.l0 k l0 l1 0) else (some false)
theorem thermographlaw17_same.calls (k : Nat) (A0 : Option Addr) (c0 : Nat) (l0 : List (S42)) (A1 : Option Addr) (c1 : Nat) (l1 : List (S42)) (r : Bool) (w : World) (hr0 : Kd.C k42 w A0 l0.length l0) (hc0 : l0.length ≤ c0) (hr1 : Kd.C k42 w A1 l1.length l1) (hc1 : l1.length ≤ c1) (h : thermographlaw17_same.f k l0 l1 = some r) :
  Calls Try.prog 32 #[.slice A0 l0.length c0, .slice A1 l1.length c1] w fun e w' => e = .returned (.bool r) ∧ Drawn0 w w' := by
 have HR0 := Aside0.mk hr0; clear hr0 hc0; have HR1 := Aside0.mk hr1; clear hr1 hc1; have H : (if (l0.length : Int) = (l1.length : Int) then (thermographlaw17_same.l0 k l0 l1 0) else (some false)) = some r := h; clear h
 by_cases c3 : (l0.length : Int) = (l1.length : Int)
 ·
  rw [if_pos c3] at H; have c3b1 : ((l0.length : Int) != (l1.length : Int)) = false := bne_eq_false_iff_eq.mpr c3; clear c3; have H' := Aside0.mk H; clear H; go_enter Try.func32, Try.ntmps32
  go_wp2; go_loopg [5] k (fun kq v5 w' => ∃ (x5_1 : Int), v5 = .int .i64 x5_1 ∧ Aside0 (thermographlaw17_same.l0 kq l0 l1 x5_1 = some r) ∧ Aside0 (kq ≤ k) ∧ Drawn0 w w')
  case atStart => exact ⟨(0), (by rfl), H', ⟨Nat.le_refl _⟩, by repeat (exact Drawn0.refl _)⟩
  case round =>
   clear H'; try clear c3b1
   obtain ⟨x5_1, rfl, HA, HK1, ⟨m1, rfl⟩⟩ := hrel
   cases gk with
   | zero => exact absurd HA.out (by simp [thermographlaw17_same.l0])
   | succ k1 =>
    have H := HA.out; clear HA; simp only [thermographlaw17_same.l0] at H
    by_cases c4 : x5_1 < (l0.length : Int)
    ·
     rw [if_pos c4] at H; have c4b0 : decide (x5_1 < (l0.length : Int)) = true := decide_eq_true c4; clear c4
     by_cases c5 : 0 ≤ x5_1
     ·
      rw [if_pos c5] at H; have c5b0 : decide (0 ≤ x5_1) = true := decide_eq_true c5; clear c5
      by_cases c6 : x5_1 < (l1.length : Int)
      ·
       rw [if_pos c6] at H; have c6b0 : decide (x5_1 < (l1.length : Int)) = true := decide_eq_true c6; clear c6
       by_cases c7 : (!(((rd_T42 l0 x5_1).f0) == ((rd_T42 l1 x5_1).f0)) || (!(((rd_T42 l0 x5_1).f1) == ((rd_T42 l1 x5_1).f1)) || (!(((rd_T42 l0 x5_1).f2) == ((rd_T42 l1 x5_1).f2))))) = true
       ·
        rw [if_pos c7] at H; have c7b0 : (!(((rd_T42 l0 x5_1).f0) == ((rd_T42 l1 x5_1).f0)) || (!(((rd_T42 l0 x5_1).f1) == ((rd_T42 l1 x5_1).f1)) || (!(((rd_T42 l0 x5_1).f2) == ((rd_T42 l1 x5_1).f2))))) = true := c7; clear c7; obtain rfl := Option.some.inj H; have p106 : 0 ≤ (x5_1 : Int) := of_decide_eq_true (by with_reducible assumption); have q106 : x5_1 < (l0.length : Int) := of_decide_eq_true (by with_reducible assumption); obtain ⟨ad106, e106, hx106_0, hx106_1, hx106_2⟩ := at_T42 HR0.out x5_1 p106 q106; cases e106; replace p106 := eq_true p106; replace q106 := eq_true q106; have p107 : 0 ≤ (x5_1 : Int) := of_decide_eq_true (by with_reducible assumption); have q107 : x5_1 < (l1.length : Int) := of_decide_eq_true (by with_reducible assumption); obtain ⟨ad107, e107, hx107_0, hx107_1, hx107_2⟩ := at_T42 HR1.out x5_1 p107 q107; cases e107; replace p107 := eq_true p107; replace q107 := eq_true q107; go_wp2; repeat (go_quiet (fail); try go_wp2)
        go_ret; exact ⟨by rfl, by repeat (first | exact Drawn0.refl _ | apply Drawn0.step)⟩
       ·
        rw [if_neg c7] at H; have c7b0 : (!(((rd_T42 l0 x5_1).f0) == ((rd_T42 l1 x5_1).f0)) || (!(((rd_T42 l0 x5_1).f1) == ((rd_T42 l1 x5_1).f1)) || (!(((rd_T42 l0 x5_1).f2) == ((rd_T42 l1 x5_1).f2))))) = false := by simpa using c7
        clear c7; have H' := Aside0.mk H; clear H; have p106 : 0 ≤ (x5_1 : Int) := of_decide_eq_true (by with_reducible assumption); have q106 : x5_1 < (l0.length : Int) := of_decide_eq_true (by with_reducible assumption); obtain ⟨ad106, e106, hx106_0, hx106_1, hx106_2⟩ := at_T42 HR0.out x5_1 p106 q106; cases e106; replace p106 := eq_true p106; replace q106 := eq_true q106; have p107 : 0 ≤ (x5_1 : Int) := of_decide_eq_true (by with_reducible assumption); have q107 : x5_1 < (l1.length : Int) := of_decide_eq_true (by with_reducible assumption); obtain ⟨ad107, e107, hx107_0, hx107_1, hx107_2⟩ := at_T42 HR1.out x5_1 p107 q107; cases e107; replace p107 := eq_true p107; replace q107 := eq_true q107; go_wp2; repeat (go_quiet (fail); try go_wp2)
        go_roundg k1
        case measure => have := HK1.out; omega
        case rel => exact ⟨(wrap64 (x5_1 + 1)), (by rfl), H', ⟨by have := HK1.out; omega⟩, by repeat (first | exact Drawn0.refl _ | apply Drawn0.step)⟩
      ·
       rw [if_neg c6] at H; exact absurd H (by simp)
     ·
      rw [if_neg c5] at H; exact absurd H (by simp)
    ·
     rw [if_neg c4] at H; have c4b0 : decide (x5_1 < (l0.length : Int)) = false := decide_eq_false c4; clear c4; obtain rfl := Option.some.inj H; go_wp2; go_ret; exact ⟨by rfl, by repeat (first | exact Drawn0.refl _ | apply Drawn0.step)⟩
 ·
  rw [if_neg c3] at H; have c3b1 : ((l0.length : Int) != (l1.length : Int)) = true := bne_iff_ne.mpr c3; obtain rfl := Option.some.inj H; go_enter Try.func32, Try.ntmps32
  go_wp2; go_ret; exact ⟨by rfl, by repeat (exact Drawn0.refl _)⟩
end Go.Proofs.Ytgagcimfkmegnaa.QT
