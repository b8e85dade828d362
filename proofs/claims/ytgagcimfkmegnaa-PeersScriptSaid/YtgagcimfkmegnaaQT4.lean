-- Laid by wip/tools/myprint.py of this repo. Not trusted: Lean checks it.
import Derived.Test.YtgagcimfkmegnaaLayE
set_option maxHeartbeats 8000000
set_option maxRecDepth 100000
namespace Go.Proofs.Ytgagcimfkmegnaa.QT
open Go.RowKit Go.Proofs.YtgagcimfkmegnaaW.PrintWords Go.Proofs.YtgagcimfkmegnaaW.PrintLast Go.Proofs.YtgagcimfkmegnaaW.PrintMore
attribute [local go_sem] max2_int min2_int max_two min_two max_three min_three max_four min_four   -- for this text's walks alone
set_option linter.unusedVariables false
set_option linter.unusedSimpArgs false
mutual
def thermographref05_Check.l0 : Nat → List (S42) → Int → Option (Int)
 | 0, _, _ => none
 | k + 1, x0, x3 => if x3 < (x0.length : Int) then (if 0 ≤ x3 then (if ((rd_T42 x0 x3).f0) < 0 then (thermographref05_Check.j1 k x0 x3 true) else (thermographref05_Check.j1 k x0 x3 (decide (((rd_T42 x0 x3).f0) > 1099511627776)))) else (none)) else (some 0)
def thermographref05_Check.j1 : Nat → List (S42) → Int → Bool → Option (Int)
 | 0, _, _, _ => none
 | k + 1, x0, x3, x26 => if x26 = true then (some 1) else (if x3 > 0 then (if 0 ≤ x3 then (if x3 < (x0.length : Int) then (if 0 ≤ (wrap64 (x3 - 1)) then (if (wrap64 (x3 - 1)) < (x0.length : Int) then (if ((rd_T42 x0 x3).f0) ≤ ((rd_T42 x0 (wrap64 (x3 - 1))).f0) then (some 51) else (thermographref05_Check.l0 k x0 (wrap64 (x3 + 1)))) else (none)) else (none)) else (none)) else (none)) else (thermographref05_Check.l0 k x0 (wrap64 (x3 + 1))))
end
def thermographref05_Check.f (k : Nat) (l0 : List (S42)) : Option (Int) := if (l0.length : Int) > 512 then (some 52) else (thermographref05_Check.l0 k l0 0)
theorem thermographref05_Check.calls (k : Nat) (A0 : Option Addr) (c0 : Nat) (l0 : List (S42)) (r : Int) (w : World) (hr0 : Kd.C k42 w A0 l0.length l0) (hc0 : l0.length ≤ c0) (h : thermographref05_Check.f k l0 = some r) :
  Calls Try.prog 46 #[.slice A0 l0.length c0] w fun e w' => e = .returned (.int .i64 r) ∧ Drawn0 w w' := by
 have HR0 := Aside0.mk hr0; clear hr0 hc0; have H : (if (l0.length : Int) > 512 then (some 52) else (thermographref05_Check.l0 k l0 0)) = some r := h; clear h
 by_cases c2 : (l0.length : Int) > 512
 ·
  rw [if_pos c2] at H; have c2b0 : decide (512 < (l0.length : Int)) = true := decide_eq_true c2; clear c2; obtain rfl := Option.some.inj H; go_enter Try.func46, Try.ntmps46
  go_wp2; go_ret; exact ⟨by rfl, by repeat (exact Drawn0.refl _)⟩
 ·
  rw [if_neg c2] at H; have c2b0 : decide (512 < (l0.length : Int)) = false := decide_eq_false c2; clear c2; have H' := Aside0.mk H; clear H; go_enter Try.func46, Try.ntmps46
  go_wp2; go_loopg [3] k (fun kq v3 w' => ∃ (x3_1 : Int), v3 = .int .i64 x3_1 ∧ Aside0 (thermographref05_Check.l0 kq l0 x3_1 = some r) ∧ Aside0 (kq ≤ k) ∧ Drawn0 w w')
  case atStart => exact ⟨(0), (by rfl), H', ⟨Nat.le_refl _⟩, by repeat (exact Drawn0.refl _)⟩
  case round =>
   clear H'; try clear c2b0
   obtain ⟨x3_1, rfl, HA, HK1, ⟨m1, rfl⟩⟩ := hrel
   cases gk with
   | zero => exact absurd HA.out (by simp [thermographref05_Check.l0])
   | succ k1 =>
    have H := HA.out; clear HA; simp only [thermographref05_Check.l0] at H
    by_cases c3 : x3_1 < (l0.length : Int)
    ·
     rw [if_pos c3] at H; have c3b0 : decide (x3_1 < (l0.length : Int)) = true := decide_eq_true c3; clear c3; have HC4 := Aside0.mk H; clear H
     go_upto_region 6 with (fail)
     go_cut [26] (fun v26 wc => ∃ (kq : Nat) (x26_3 : Bool), v26 = .bool x26_3 ∧ Aside0 (thermographref05_Check.j1 kq l0 x3_1 x26_3 = some r) ∧ Aside0 (kq ≤ k1) ∧ Drawn0 w wc)
     case first =>
      have H := HC4.out; clear HC4
      by_cases c5 : 0 ≤ x3_1
      ·
       rw [if_pos c5] at H; have c5b0 : decide (0 ≤ x3_1) = true := decide_eq_true c5; clear c5
       ((skip))
       by_cases c6 : ((rd_T42 l0 x3_1).f0) < 0
       ·
        rw [if_pos c6] at H; have c6b0 : decide (((rd_T42 l0 x3_1).f0) < 0) = true := decide_eq_true c6; clear c6; have H' := Aside0.mk H; clear H; have p121 : 0 ≤ (x3_1 : Int) := of_decide_eq_true (by with_reducible assumption); have q121 : x3_1 < (l0.length : Int) := of_decide_eq_true (by with_reducible assumption); obtain ⟨ad121, e121, hx121_0, hx121_1, hx121_2⟩ := at_T42 HR0.out x3_1 p121 q121; cases e121; replace p121 := eq_true p121; replace q121 := eq_true q121; go_wp2; go_meet
        case rel => exact ⟨_, (true), (by rfl), H', ⟨by have := HK1.out; omega⟩, by repeat (first | exact Drawn0.refl _ | apply Drawn0.step)⟩
       ·
        rw [if_neg c6] at H; have c6b0 : decide (((rd_T42 l0 x3_1).f0) < 0) = false := decide_eq_false c6; clear c6; have H' := Aside0.mk H; clear H; have p121 : 0 ≤ (x3_1 : Int) := of_decide_eq_true (by with_reducible assumption); have q121 : x3_1 < (l0.length : Int) := of_decide_eq_true (by with_reducible assumption); obtain ⟨ad121, e121, hx121_0, hx121_1, hx121_2⟩ := at_T42 HR0.out x3_1 p121 q121; cases e121; replace p121 := eq_true p121; replace q121 := eq_true q121; have p122 : 0 ≤ (x3_1 : Int) := of_decide_eq_true (by with_reducible assumption); have q122 : x3_1 < (l0.length : Int) := of_decide_eq_true (by with_reducible assumption); obtain ⟨ad122, e122, hx122_0, hx122_1, hx122_2⟩ := at_T42 HR0.out x3_1 p122 q122
        obtain rfl : ad121 = ad122 := (by injection e122)
        replace p122 := eq_true p122; replace q122 := eq_true q122; go_wp2; go_meet
        case rel => exact ⟨_, (decide (((rd_T42 l0 x3_1).f0) > 1099511627776)), (by rfl), H', ⟨by have := HK1.out; omega⟩, by repeat (first | exact Drawn0.refl _ | apply Drawn0.step)⟩
      ·
       rw [if_neg c5] at H; exact absurd H (by simp)
     case rest =>
      clear HC4; try clear c3b0
      obtain ⟨kq, x26_3, rfl, HA, HJ3, ⟨mc3, rfl⟩⟩ := hcut
      cases kq with
      | zero => exact absurd HA.out (by simp [thermographref05_Check.j1])
      | succ kj3 =>
       have H := HA.out; clear HA; simp only [thermographref05_Check.j1] at H
       by_cases c7 : x26_3 = true
       ·
        subst c7; have H1 : (some 1) = some r := by rw [if_pos rfl] at H; exact H
        clear H; have H := H1; clear H1; obtain rfl := Option.some.inj H; go_wp2; go_ret; exact ⟨by rfl, by repeat (first | exact Drawn0.refl _ | apply Drawn0.step)⟩
       ·
        replace c7 := Bool.eq_false_iff.mpr c7; subst c7; have H1 : (if x3_1 > 0 then (if 0 ≤ x3_1 then (if x3_1 < (l0.length : Int) then (if 0 ≤ (wrap64 (x3_1 - 1)) then (if (wrap64 (x3_1 - 1)) < (l0.length : Int) then (if ((rd_T42 l0 x3_1).f0) ≤ ((rd_T42 l0 (wrap64 (x3_1 - 1))).f0) then (some 51) else (thermographref05_Check.l0 kj3 l0 (wrap64 (x3_1 + 1)))) else (none)) else (none)) else (none)) else (none)) else (thermographref05_Check.l0 kj3 l0 (wrap64 (x3_1 + 1)))) = some r := by rw [if_neg (show ¬ (false = true) by decide)] at H; exact H
        clear H; have H := H1; clear H1
        by_cases c8 : x3_1 > 0
        ·
         rw [if_pos c8] at H; have c8b0 : decide (0 < x3_1) = true := decide_eq_true c8; clear c8
         by_cases c9 : 0 ≤ x3_1
         ·
          rw [if_pos c9] at H; have c9b0 : decide (0 ≤ x3_1) = true := decide_eq_true c9; clear c9
          by_cases c10 : x3_1 < (l0.length : Int)
          ·
           rw [if_pos c10] at H; have c10b0 : decide (x3_1 < (l0.length : Int)) = true := decide_eq_true c10; clear c10
           obtain ⟨ji11, hji11⟩ : ∃ j_ : Int, (wrap64 (x3_1 - 1)) = j_ := ⟨_, rfl⟩
           replace H : (if 0 ≤ (ji11) then (if (ji11) < (l0.length : Int) then (if ((rd_T42 l0 x3_1).f0) ≤ ((rd_T42 l0 (ji11)).f0) then (some 51) else (thermographref05_Check.l0 kj3 l0 (wrap64 (x3_1 + 1)))) else (none)) else (none)) = some r := by (rw [hji11] at H; exact H)
           have hji11w : (IntKind.i64.wrap (x3_1 - 1)) = ji11 := (i64_w _).trans hji11
           by_cases c12 : 0 ≤ (ji11)
           ·
            rw [if_pos c12] at H; have c12b0 : decide (0 ≤ (ji11)) = true := decide_eq_true c12; clear c12
            by_cases c13 : (ji11) < (l0.length : Int)
            ·
             rw [if_pos c13] at H; have c13b0 : decide ((ji11) < (l0.length : Int)) = true := decide_eq_true c13; clear c13
             by_cases c14 : ((rd_T42 l0 x3_1).f0) ≤ ((rd_T42 l0 (ji11)).f0)
             ·
              rw [if_pos c14] at H; have c14b0 : decide (((rd_T42 l0 x3_1).f0) ≤ ((rd_T42 l0 (ji11)).f0)) = true := decide_eq_true c14; clear c14; obtain rfl := Option.some.inj H; have p123 : 0 ≤ (x3_1 : Int) := of_decide_eq_true (by with_reducible assumption); have q123 : x3_1 < (l0.length : Int) := of_decide_eq_true (by with_reducible assumption); obtain ⟨ad123, e123, hx123_0, hx123_1, hx123_2⟩ := at_T42 HR0.out x3_1 p123 q123; cases e123; replace p123 := eq_true p123; replace q123 := eq_true q123; have p124 : 0 ≤ ((ji11) : Int) := of_decide_eq_true (by with_reducible assumption); have q124 : (ji11) < (l0.length : Int) := of_decide_eq_true (by with_reducible assumption); obtain ⟨ad124, e124, hx124_0, hx124_1, hx124_2⟩ := at_T42 HR0.out (ji11) p124 q124
              obtain rfl : ad123 = ad124 := (by injection e124)
              replace p124 := eq_true p124; replace q124 := eq_true q124; go_wp2; repeat (go_quiet (fail); try go_wp2)
              go_ret; exact ⟨by rfl, by repeat (first | exact Drawn0.refl _ | apply Drawn0.step)⟩
             ·
              rw [if_neg c14] at H; have c14b0 : decide (((rd_T42 l0 x3_1).f0) ≤ ((rd_T42 l0 (ji11)).f0)) = false := decide_eq_false c14; clear c14; have H' := Aside0.mk H; clear H; have p123 : 0 ≤ (x3_1 : Int) := of_decide_eq_true (by with_reducible assumption); have q123 : x3_1 < (l0.length : Int) := of_decide_eq_true (by with_reducible assumption); obtain ⟨ad123, e123, hx123_0, hx123_1, hx123_2⟩ := at_T42 HR0.out x3_1 p123 q123; cases e123; replace p123 := eq_true p123; replace q123 := eq_true q123; have p124 : 0 ≤ ((ji11) : Int) := of_decide_eq_true (by with_reducible assumption); have q124 : (ji11) < (l0.length : Int) := of_decide_eq_true (by with_reducible assumption); obtain ⟨ad124, e124, hx124_0, hx124_1, hx124_2⟩ := at_T42 HR0.out (ji11) p124 q124
              obtain rfl : ad123 = ad124 := (by injection e124)
              replace p124 := eq_true p124; replace q124 := eq_true q124; go_wp2; repeat (go_quiet (fail); try go_wp2)
              go_roundg kj3
              case measure => have := HK1.out; have := HJ3.out; omega
              case rel => exact ⟨(wrap64 (x3_1 + 1)), (by rfl), H', ⟨by have := HK1.out; have := HJ3.out; omega⟩, by repeat (first | exact Drawn0.refl _ | apply Drawn0.step)⟩
            ·
             rw [if_neg c13] at H; exact absurd H (by simp)
           ·
            rw [if_neg c12] at H; exact absurd H (by simp)
          ·
           rw [if_neg c10] at H; exact absurd H (by simp)
         ·
          rw [if_neg c9] at H; exact absurd H (by simp)
        ·
         rw [if_neg c8] at H; have c8b0 : decide (0 < x3_1) = false := decide_eq_false c8; clear c8; have H' := Aside0.mk H; clear H; go_wp2; repeat (go_quiet (fail); try go_wp2)
         go_roundg kj3
         case measure => have := HK1.out; have := HJ3.out; omega
         case rel => exact ⟨(wrap64 (x3_1 + 1)), (by rfl), H', ⟨by have := HK1.out; have := HJ3.out; omega⟩, by repeat (first | exact Drawn0.refl _ | apply Drawn0.step)⟩
    ·
     rw [if_neg c3] at H; have c3b0 : decide (x3_1 < (l0.length : Int)) = false := decide_eq_false c3; clear c3; obtain rfl := Option.some.inj H; go_wp2; go_ret; exact ⟨by rfl, by repeat (first | exact Drawn0.refl _ | apply Drawn0.step)⟩
def thermographref06_Wins.f (a0_0 : Int) (a0_1 : Int) (a0_2 : Int) (a1_0 : Int) (a1_1 : Int) (a1_2 : Int) : Option (Bool) := if a0_2 > a1_2 then (some true) else (if a0_2 = a1_2 then (some (decide (a0_1 > a1_1))) else (some false))
theorem thermographref06_Wins.calls (a0_0 : Int) (a0_1 : Int) (a0_2 : Int) (a1_0 : Int) (a1_1 : Int) (a1_2 : Int) (r : Bool) (w : World) (h : thermographref06_Wins.f a0_0 a0_1 a0_2 a1_0 a1_1 a1_2 = some r) :
  Calls Try.prog 56 #[.agg #[.int .i64 a0_0, .int .u64 a0_1, .int .u64 a0_2], .agg #[.int .i64 a1_0, .int .u64 a1_1, .int .u64 a1_2]] w fun e w' => e = .returned (.bool r) ∧ Below w.heap.size w w' := by
 have HB := Aside0.mk (Below.refl w.heap.size w); have H : (if a0_2 > a1_2 then (some true) else (if a0_2 = a1_2 then (some (decide (a0_1 > a1_1))) else (some false))) = some r := h; clear h
 by_cases c3 : a0_2 > a1_2
 ·
  rw [if_pos c3] at H; have c3b0 : decide (a1_2 < a0_2) = true := decide_eq_true c3; clear c3; obtain rfl := Option.some.inj H; go_enter Try.func56, Try.ntmps56
  go_wp2_with (first | ((with_reducible refine gate_dst (N := 2) rfl ?_); refine box_event ?hg (N := 2) ?hd (cs := #[.int .i64 a0_0, .int .u64 a0_1, .int .u64 a0_2]) (t := 42) ?hr ?_; (case hd => rfl); (case hg => rfl); (case hr => go_simp; done); intro gb125 hg w4 hbox hb; have n0_ := Aside0.mk (below_step HB.out hb); have n1_ := Aside0.mk (hbox); have n2_ := Aside0.mk ((by rw [hg]; exact (below_size HB.out) : w.heap.size ≤ gb125)); clear HB; have HB := n0_; have BK125 := n1_; clear n0_ n1_ n2_ ; clear hb hbox hg) | ((with_reducible refine gate_dst (N := 3) rfl ?_); refine box_event ?hg (N := 3) ?hd (cs := #[.int .i64 a1_0, .int .u64 a1_1, .int .u64 a1_2]) (t := 42) ?hr ?_; (case hd => rfl); (case hg => rfl); (case hr => go_simp; done); intro gb126 hg w5 hbox hb; have n0_ := Aside0.mk (blk_below (g := gb125) (o := .cells #[.int .i64 a0_0, .int .u64 a0_1, .int .u64 a0_2] 42 (0, 0)) BK125.out hb); have n1_ := Aside0.mk (below_step HB.out hb); have n2_ := Aside0.mk (hbox); have n5_ := Aside0.mk ((by rw [hg]; exact Nat.ne_of_lt (blk_lt (g := gb125) (o := .cells #[.int .i64 a0_0, .int .u64 a0_1, .int .u64 a0_2] 42 (0, 0)) BK125.out) : gb125 ≠ gb126)); have n6_ := Aside0.mk ((by rw [hg]; exact Nat.ne_of_gt (blk_lt (g := gb125) (o := .cells #[.int .i64 a0_0, .int .u64 a0_1, .int .u64 a0_2] 42 (0, 0)) BK125.out) : gb126 ≠ gb125)); clear BK125; clear HB; have BK125 := n0_; have HB := n1_; have BK126 := n2_; have NB125_126 := n5_; have NB126_125 := n6_; clear n0_ n1_ n2_ n5_ n6_; clear hb hbox hg; have hcz7_2 : w5.cell? ⟨gb125, 2, none⟩ = some (.int .u64 a0_2) := (blk_cell BK125.out 2).trans rfl; have hcz8_2 : w5.cell? ⟨gb126, 2, none⟩ = some (.int .u64 a1_2) := (blk_cell BK126.out 2).trans rfl))
  go_ret; exact ⟨by rfl, by repeat ((with_reducible exact HB.out))⟩
 ·
  rw [if_neg c3] at H; have c3b0 : decide (a1_2 < a0_2) = false := decide_eq_false c3; clear c3
  by_cases c9 : a0_2 = a1_2
  ·
   rw [if_pos c9] at H; have c9b0 : (a0_2 == a1_2) = true := beq_iff_eq.mpr c9; clear c9; obtain rfl := Option.some.inj H; go_enter Try.func56, Try.ntmps56
   go_wp2_with (first | ((with_reducible refine gate_dst (N := 2) rfl ?_); refine box_event ?hg (N := 2) ?hd (cs := #[.int .i64 a0_0, .int .u64 a0_1, .int .u64 a0_2]) (t := 42) ?hr ?_; (case hd => rfl); (case hg => rfl); (case hr => go_simp; done); intro gb125 hg w10 hbox hb; have n0_ := Aside0.mk (below_step HB.out hb); have n1_ := Aside0.mk (hbox); have n2_ := Aside0.mk ((by rw [hg]; exact (below_size HB.out) : w.heap.size ≤ gb125)); clear HB; have HB := n0_; have BK125 := n1_; clear n0_ n1_ n2_ ; clear hb hbox hg) | ((with_reducible refine gate_dst (N := 3) rfl ?_); refine box_event ?hg (N := 3) ?hd (cs := #[.int .i64 a1_0, .int .u64 a1_1, .int .u64 a1_2]) (t := 42) ?hr ?_; (case hd => rfl); (case hg => rfl); (case hr => go_simp; done); intro gb126 hg w11 hbox hb; have n0_ := Aside0.mk (blk_below (g := gb125) (o := .cells #[.int .i64 a0_0, .int .u64 a0_1, .int .u64 a0_2] 42 (0, 0)) BK125.out hb); have n1_ := Aside0.mk (below_step HB.out hb); have n2_ := Aside0.mk (hbox); have n5_ := Aside0.mk ((by rw [hg]; exact Nat.ne_of_lt (blk_lt (g := gb125) (o := .cells #[.int .i64 a0_0, .int .u64 a0_1, .int .u64 a0_2] 42 (0, 0)) BK125.out) : gb125 ≠ gb126)); have n6_ := Aside0.mk ((by rw [hg]; exact Nat.ne_of_gt (blk_lt (g := gb125) (o := .cells #[.int .i64 a0_0, .int .u64 a0_1, .int .u64 a0_2] 42 (0, 0)) BK125.out) : gb126 ≠ gb125)); clear BK125; clear HB; have BK125 := n0_; have HB := n1_; have BK126 := n2_; have NB125_126 := n5_; have NB126_125 := n6_; clear n0_ n1_ n2_ n5_ n6_; clear hb hbox hg; have hcz13_1 : w11.cell? ⟨gb125, 1, none⟩ = some (.int .u64 a0_1) := (blk_cell BK125.out 1).trans rfl; have hcz13_2 : w11.cell? ⟨gb125, 2, none⟩ = some (.int .u64 a0_2) := (blk_cell BK125.out 2).trans rfl; have hcz14_1 : w11.cell? ⟨gb126, 1, none⟩ = some (.int .u64 a1_1) := (blk_cell BK126.out 1).trans rfl; have hcz14_2 : w11.cell? ⟨gb126, 2, none⟩ = some (.int .u64 a1_2) := (blk_cell BK126.out 2).trans rfl))
   go_ret; exact ⟨by rfl, by repeat ((with_reducible exact HB.out))⟩
  ·
   rw [if_neg c9] at H; have c9b0 : (a0_2 == a1_2) = false := beq_eq_false_iff_ne.mpr c9; obtain rfl := Option.some.inj H; go_enter Try.func56, Try.ntmps56
   go_wp2_with (first | ((with_reducible refine gate_dst (N := 2) rfl ?_); refine box_event ?hg (N := 2) ?hd (cs := #[.int .i64 a0_0, .int .u64 a0_1, .int .u64 a0_2]) (t := 42) ?hr ?_; (case hd => rfl); (case hg => rfl); (case hr => go_simp; done); intro gb125 hg w15 hbox hb; have n0_ := Aside0.mk (below_step HB.out hb); have n1_ := Aside0.mk (hbox); have n2_ := Aside0.mk ((by rw [hg]; exact (below_size HB.out) : w.heap.size ≤ gb125)); clear HB; have HB := n0_; have BK125 := n1_; clear n0_ n1_ n2_ ; clear hb hbox hg) | ((with_reducible refine gate_dst (N := 3) rfl ?_); refine box_event ?hg (N := 3) ?hd (cs := #[.int .i64 a1_0, .int .u64 a1_1, .int .u64 a1_2]) (t := 42) ?hr ?_; (case hd => rfl); (case hg => rfl); (case hr => go_simp; done); intro gb126 hg w16 hbox hb; have n0_ := Aside0.mk (blk_below (g := gb125) (o := .cells #[.int .i64 a0_0, .int .u64 a0_1, .int .u64 a0_2] 42 (0, 0)) BK125.out hb); have n1_ := Aside0.mk (below_step HB.out hb); have n2_ := Aside0.mk (hbox); have n5_ := Aside0.mk ((by rw [hg]; exact Nat.ne_of_lt (blk_lt (g := gb125) (o := .cells #[.int .i64 a0_0, .int .u64 a0_1, .int .u64 a0_2] 42 (0, 0)) BK125.out) : gb125 ≠ gb126)); have n6_ := Aside0.mk ((by rw [hg]; exact Nat.ne_of_gt (blk_lt (g := gb125) (o := .cells #[.int .i64 a0_0, .int .u64 a0_1, .int .u64 a0_2] 42 (0, 0)) BK125.out) : gb126 ≠ gb125)); clear BK125; clear HB; have BK125 := n0_; have HB := n1_; have BK126 := n2_; have NB125_126 := n5_; have NB126_125 := n6_; clear n0_ n1_ n2_ n5_ n6_; clear hb hbox hg; have hcz18_2 : w16.cell? ⟨gb125, 2, none⟩ = some (.int .u64 a0_2) := (blk_cell BK125.out 2).trans rfl; have hcz19_2 : w16.cell? ⟨gb126, 2, none⟩ = some (.int .u64 a1_2) := (blk_cell BK126.out 2).trans rfl))
   go_ret; exact ⟨by rfl, by repeat ((with_reducible exact HB.out))⟩
end Go.Proofs.Ytgagcimfkmegnaa.QT
