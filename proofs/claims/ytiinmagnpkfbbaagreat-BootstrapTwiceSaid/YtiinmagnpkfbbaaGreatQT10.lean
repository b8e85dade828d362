-- Laid by wip/tools/myprint.py of this repo. Not trusted: Lean checks it.
import Derived.Test.YtiinmagnpkfbbaaGreatQT3
section
set_option maxHeartbeats 8000000
set_option maxRecDepth 100000
namespace Go.Proofs.YtiinmagnpkfbbaaGreat.QT
open Go.RowKit Go.Proofs.YtiinmagnpkfbbaaGreatW.PrintWords Go.Proofs.YtiinmagnpkfbbaaGreatW.PrintLast Go.Proofs.YtiinmagnpkfbbaaGreatW.PrintMore
attribute [local go_sem] max2_int min2_int max_two min_two max_three min_three max_four min_four   -- for this text's walks alone
set_option linter.unusedVariables false
set_option linter.unusedSimpArgs false
attribute [local go_sem high] eqA99
def slices_Index_int_int.l0 : Nat → List Int → Int → Int → Int → Option (Int)
 | 0, _, _, _, _ => none
 | k + 1, x0, x1, x7, x8 => if x8 < x7 then (if 0 ≤ x8 then (if x8 < (x0.length : Int) then (if x1 = (rd x0 x8) then (some x8) else (slices_Index_int_int.l0 k x0 x1 x7 (wrap64 (x8 + 1)))) else (none)) else (none)) else (some (-1))
def slices_Index_int_int.f (k : Nat) (l0 : List Int) (a1 : Int) : Option (Int) := slices_Index_int_int.l0 k l0 a1 (l0.length : Int) 0
theorem slices_Index_int_int.calls (k : Nat) (A0 : Option Addr) (c0 : Nat) (l0 : List Int) (a1 : Int) (r : Int) (w : World) (hr0 : Kd.C (Kd.int .i64) w A0 l0.length l0) (hc0 : l0.length ≤ c0) (h : slices_Index_int_int.f k l0 a1 = some r) :
  Calls Tryz.prog 59 #[.slice A0 l0.length c0, .int .i64 a1] w fun e w' => e = .returned (.int .i64 r) ∧ Drawn0 w w' := by
 have HR0 := Aside0.mk hr0; clear hr0 hc0; have H : (slices_Index_int_int.l0 k l0 a1 (l0.length : Int) 0) = some r := h; clear h; have H' := Aside0.mk H; clear H; go_enter Tryz.func59, Tryz.ntmps59
 go_wp2; go_loopg [8] k (fun kq v8 w' => ∃ (x8_1 : Int), v8 = .int .i64 x8_1 ∧ Aside0 (slices_Index_int_int.l0 kq l0 a1 (l0.length : Int) x8_1 = some r) ∧ Aside0 (kq ≤ k) ∧ Drawn0 w w')
 case atStart => exact ⟨(0), (by rfl), H', ⟨Nat.le_refl _⟩, by repeat (exact Drawn0.refl _)⟩
 case round =>
  clear H'; obtain ⟨x8_1, rfl, HA, HK1, ⟨m1, rfl⟩⟩ := hrel
  cases gk with
  | zero => exact absurd HA.out (by simp [slices_Index_int_int.l0])
  | succ k1 =>
   have H := HA.out; clear HA; simp only [slices_Index_int_int.l0] at H
   by_cases c3 : x8_1 < (l0.length : Int)
   ·
    rw [if_pos c3] at H; have c3b0 : decide (x8_1 < (l0.length : Int)) = true := decide_eq_true c3; clear c3
    by_cases c4 : 0 ≤ x8_1
    ·
     rw [if_pos c4] at H; have c4b0 : decide (0 ≤ x8_1) = true := decide_eq_true c4; clear c4
     by_cases c5 : x8_1 < (l0.length : Int)
     ·
      rw [if_pos c5] at H; have c5b0 : decide (x8_1 < (l0.length : Int)) = true := decide_eq_true c5; clear c5
      by_cases c6 : a1 = (rd l0 x8_1)
      ·
       rw [if_pos c6] at H; have c6b0 : (a1 == (rd l0 x8_1)) = true := beq_iff_eq.mpr c6; clear c6; obtain rfl := Option.some.inj H; have p147 : 0 ≤ (x8_1 : Int) := of_decide_eq_true (by with_reducible assumption); have q147 : x8_1 < (l0.length : Int) := of_decide_eq_true (by with_reducible assumption); obtain ⟨ad147, e147, hx147_0⟩ := Kd.at_int HR0.out x8_1 p147 q147; cases e147; replace p147 := eq_true p147; replace q147 := eq_true q147; go_wp2; go_ret; exact ⟨by rfl, by repeat (first | exact Drawn0.refl _ | apply Drawn0.step)⟩
      ·
       rw [if_neg c6] at H; have c6b0 : (a1 == (rd l0 x8_1)) = false := beq_eq_false_iff_ne.mpr c6; have H' := Aside0.mk H; clear H; have p147 : 0 ≤ (x8_1 : Int) := of_decide_eq_true (by with_reducible assumption); have q147 : x8_1 < (l0.length : Int) := of_decide_eq_true (by with_reducible assumption); obtain ⟨ad147, e147, hx147_0⟩ := Kd.at_int HR0.out x8_1 p147 q147; cases e147; replace p147 := eq_true p147; replace q147 := eq_true q147; go_wp2; go_roundg k1
       case measure => have := HK1.out; omega
       case rel => exact ⟨(wrap64 (x8_1 + 1)), (by rfl), H', ⟨by have := HK1.out; omega⟩, by repeat (first | exact Drawn0.refl _ | apply Drawn0.step)⟩
     ·
      rw [if_neg c5] at H; exact absurd H (by simp)
    ·
     rw [if_neg c4] at H; exact absurd H (by simp)
   ·
    rw [if_neg c3] at H; have c3b0 : decide (x8_1 < (l0.length : Int)) = false := decide_eq_false c3; clear c3; obtain rfl := Option.some.inj H; go_wp2; go_ret; exact ⟨by rfl, by repeat (first | exact Drawn0.refl _ | apply Drawn0.step)⟩
def slices_Contains_int_int.f (k : Nat) (l0 : List Int) (a1 : Int) : Option (Bool) := (slices_Index_int_int.f k l0 a1).bind fun t148 => (some (decide (t148 ≥ 0)))
theorem slices_Contains_int_int.calls (k : Nat) (A0 : Option Addr) (c0 : Nat) (l0 : List Int) (a1 : Int) (r : Bool) (w : World) (hr0 : Kd.C (Kd.int .i64) w A0 l0.length l0) (hc0 : l0.length ≤ c0) (h : slices_Contains_int_int.f k l0 a1 = some r) :
  Calls Tryz.prog 32 #[.slice A0 l0.length c0, .int .i64 a1] w fun e w' => e = .returned (.bool r) ∧ Drawn0 w w' := by
 have HR0 := Aside0.mk hr0; have HC0 := Aside0.mk hc0; clear hr0 hc0; have H : ((slices_Index_int_int.f k l0 a1).bind fun t148 => (some (decide (t148 ≥ 0)))) = some r := h; clear h; replace H := Option.bind_eq_some_iff.mp H; obtain ⟨t148, A30, H⟩ := H; replace H : (some (decide (t148 ≥ 0))) = some r := H; have A3 := Aside0.mk A30; clear A30; obtain rfl := Option.some.inj H; go_enter Tryz.func32, Tryz.ntmps32
 go_wp2_with (((with_reducible refine gate_callee (f := 59) rfl ?_); refine goesL_ (some 7) rfl rfl Tryz.func59 (by kernel_rfl) rfl #[.slice A0 l0.length c0, .int .i64 a1] rfl (by (try simp only [List.map_toArray, List.map_cons, List.map_nil]); rfl) ?_; (with_reducible refine (slices_Index_int_int.calls k _ _ l0 a1 t148 _ ?side1 ?side2 A3.out).mono ?_); (case side1 => repeat (exact HR0.out)); (case side2 => exact HC0.out); rintro e w' ⟨rfl, ⟨nd, rfl⟩⟩; refine ⟨_, rfl, ?_⟩))
 go_ret; exact ⟨by rfl, by repeat (first | exact Drawn0.refl _ | apply Drawn0.step)⟩
def ranges_Normal_1.f (a0_0 : Int) (a0_1 : Int) : Option (Bool) := some (decide (a0_1 ≤ a0_0))
theorem ranges_Normal_1.calls (a0_0 : Int) (a0_1 : Int) (r : Bool) (w : World) (h : ranges_Normal_1.f a0_0 a0_1 = some r) :
  Calls Tryz.prog 53 #[.agg #[.int .i64 a0_0, .int .i64 a0_1]] w fun e w' => e = .returned (.bool r) ∧ Below w.heap.size w w' := by
 have HB := Aside0.mk (Below.refl w.heap.size w); have H : (some (decide (a0_1 ≤ a0_0))) = some r := h; clear h; obtain rfl := Option.some.inj H; go_enter Tryz.func53, Tryz.ntmps53
 go_wp2_with (((with_reducible refine gate_dst (N := 1) rfl ?_); refine box_event ?hg (N := 1) ?hd (cs := #[.int .i64 a0_0, .int .i64 a0_1]) (t := 27) ?hr ?_; (case hd => rfl); (case hg => rfl); (case hr => go_simp; done); intro gb149 hg w2 hbox hb; have n0_ := Aside0.mk (below_step HB.out hb); have n1_ := Aside0.mk (hbox); clear HB; have HB := n0_; have BK149 := n1_; clear n0_ n1_ ; clear hb hbox hg; have hcz3_0 : w2.cell? ⟨gb149, 0, none⟩ = some (.int .i64 a0_0) := (blk_cell BK149.out 0).trans rfl; have hcz3_1 : w2.cell? ⟨gb149, 1, none⟩ = some (.int .i64 a0_1) := (blk_cell BK149.out 1).trans rfl))
 go_ret; exact ⟨by rfl, by repeat ((with_reducible exact HB.out))⟩
def thermographlaw18_same.l0 : Nat → List (S99) → List (S99) → Int → Option (Bool)
 | 0, _, _, _ => none
 | k + 1, x0, x1, x5 => if x5 < (x0.length : Int) then (if 0 ≤ x5 then (if x5 < (x1.length : Int) then (if (!(((rd_T99 x0 x5).f0) == ((rd_T99 x1 x5).f0)) || (!(((rd_T99 x0 x5).f1) == ((rd_T99 x1 x5).f1)) || (!(((rd_T99 x0 x5).f2) == ((rd_T99 x1 x5).f2))))) = true then (some false) else (thermographlaw18_same.l0 k x0 x1 (wrap64 (x5 + 1)))) else (none)) else (none)) else (some true)
def thermographlaw18_same.f (k : Nat) (l0 : List (S99)) (l1 : List (S99)) : Option (Bool) := if (l0.length : Int) = (l1.length : Int) then (thermographlaw18_same.l0 k l0 l1 0) else (some false)
theorem thermographlaw18_same.calls (k : Nat) (A0 : Option Addr) (c0 : Nat) (l0 : List (S99)) (A1 : Option Addr) (c1 : Nat) (l1 : List (S99)) (r : Bool) (w : World) (hr0 : Kd.C k99 w A0 l0.length l0) (hc0 : l0.length ≤ c0) (hr1 : Kd.C k99 w A1 l1.length l1) (hc1 : l1.length ≤ c1) (h : thermographlaw18_same.f k l0 l1 = some r) :
  Calls Tryz.prog 35 #[.slice A0 l0.length c0, .slice A1 l1.length c1] w fun e w' => e = .returned (.bool r) ∧ Drawn0 w w' := by
 have HR0 := Aside0.mk hr0; clear hr0 hc0; have HR1 := Aside0.mk hr1; clear hr1 hc1; have H : (if (l0.length : Int) = (l1.length : Int) then (thermographlaw18_same.l0 k l0 l1 0) else (some false)) = some r := h; clear h
 by_cases c3 : (l0.length : Int) = (l1.length : Int)
 ·
  rw [if_pos c3] at H; have c3b1 : ((l0.length : Int) != (l1.length : Int)) = false := bne_eq_false_iff_eq.mpr c3; clear c3; have H' := Aside0.mk H; clear H; go_enter Tryz.func35, Tryz.ntmps35
  go_wp2; go_loopg [5] k (fun kq v5 w' => ∃ (x5_1 : Int), v5 = .int .i64 x5_1 ∧ Aside0 (thermographlaw18_same.l0 kq l0 l1 x5_1 = some r) ∧ Aside0 (kq ≤ k) ∧ Drawn0 w w')
  case atStart => exact ⟨(0), (by rfl), H', ⟨Nat.le_refl _⟩, by repeat (exact Drawn0.refl _)⟩
  case round =>
   clear H'; try clear c3b1
   obtain ⟨x5_1, rfl, HA, HK1, ⟨m1, rfl⟩⟩ := hrel
   cases gk with
   | zero => exact absurd HA.out (by simp [thermographlaw18_same.l0])
   | succ k1 =>
    have H := HA.out; clear HA; simp only [thermographlaw18_same.l0] at H
    by_cases c4 : x5_1 < (l0.length : Int)
    ·
     rw [if_pos c4] at H; have c4b0 : decide (x5_1 < (l0.length : Int)) = true := decide_eq_true c4; clear c4
     by_cases c5 : 0 ≤ x5_1
     ·
      rw [if_pos c5] at H; have c5b0 : decide (0 ≤ x5_1) = true := decide_eq_true c5; clear c5
      by_cases c6 : x5_1 < (l1.length : Int)
      ·
       rw [if_pos c6] at H; have c6b0 : decide (x5_1 < (l1.length : Int)) = true := decide_eq_true c6; clear c6
       by_cases c7 : (!(((rd_T99 l0 x5_1).f0) == ((rd_T99 l1 x5_1).f0)) || (!(((rd_T99 l0 x5_1).f1) == ((rd_T99 l1 x5_1).f1)) || (!(((rd_T99 l0 x5_1).f2) == ((rd_T99 l1 x5_1).f2))))) = true
       ·
        rw [if_pos c7] at H; have c7b0 : (!(((rd_T99 l0 x5_1).f0) == ((rd_T99 l1 x5_1).f0)) || (!(((rd_T99 l0 x5_1).f1) == ((rd_T99 l1 x5_1).f1)) || (!(((rd_T99 l0 x5_1).f2) == ((rd_T99 l1 x5_1).f2))))) = true := c7; clear c7; obtain rfl := Option.some.inj H; have p155 : 0 ≤ (x5_1 : Int) := of_decide_eq_true (by with_reducible assumption); have q155 : x5_1 < (l0.length : Int) := of_decide_eq_true (by with_reducible assumption); obtain ⟨ad155, e155, hx155_0, hx155_1, hx155_2⟩ := at_T99 HR0.out x5_1 p155 q155; cases e155; replace p155 := eq_true p155; replace q155 := eq_true q155; have p156 : 0 ≤ (x5_1 : Int) := of_decide_eq_true (by with_reducible assumption); have q156 : x5_1 < (l1.length : Int) := of_decide_eq_true (by with_reducible assumption); obtain ⟨ad156, e156, hx156_0, hx156_1, hx156_2⟩ := at_T99 HR1.out x5_1 p156 q156; cases e156; replace p156 := eq_true p156; replace q156 := eq_true q156; go_wp2; repeat (go_quiet (fail); try go_wp2)
        go_ret; exact ⟨by rfl, by repeat (first | exact Drawn0.refl _ | apply Drawn0.step)⟩
       ·
        rw [if_neg c7] at H; have c7b0 : (!(((rd_T99 l0 x5_1).f0) == ((rd_T99 l1 x5_1).f0)) || (!(((rd_T99 l0 x5_1).f1) == ((rd_T99 l1 x5_1).f1)) || (!(((rd_T99 l0 x5_1).f2) == ((rd_T99 l1 x5_1).f2))))) = false := by simpa using c7
        clear c7; have H' := Aside0.mk H; clear H; have p155 : 0 ≤ (x5_1 : Int) := of_decide_eq_true (by with_reducible assumption); have q155 : x5_1 < (l0.length : Int) := of_decide_eq_true (by with_reducible assumption); obtain ⟨ad155, e155, hx155_0, hx155_1, hx155_2⟩ := at_T99 HR0.out x5_1 p155 q155; cases e155; replace p155 := eq_true p155; replace q155 := eq_true q155; have p156 : 0 ≤ (x5_1 : Int) := of_decide_eq_true (by with_reducible assumption); have q156 : x5_1 < (l1.length : Int) := of_decide_eq_true (by with_reducible assumption); obtain ⟨ad156, e156, hx156_0, hx156_1, hx156_2⟩ := at_T99 HR1.out x5_1 p156 q156; cases e156; replace p156 := eq_true p156; replace q156 := eq_true q156; go_wp2; repeat (go_quiet (fail); try go_wp2)
        go_roundg k1
        case measure => have := HK1.out; omega
        case rel => exact ⟨(wrap64 (x5_1 + 1)), (by rfl), H', ⟨by have := HK1.out; omega⟩, by repeat (first | exact Drawn0.refl _ | apply Drawn0.step)⟩
      ·
       rw [if_neg c6] at H; exact absurd H (by simp)
     ·
      rw [if_neg c5] at H; exact absurd H (by simp)
    ·
     rw [if_neg c4] at H; have c4b0 : decide (x5_1 < (l0.length : Int)) = false := decide_eq_false c4; clear c4; obtain rfl := Option.some.inj H; go_wp2; go_ret; exact ⟨by rfl, by repeat (first | exact Drawn0.refl _ | apply Drawn0.step)⟩
 ·
  rw [if_neg c3] at H; have c3b1 : ((l0.length : Int) != (l1.length : Int)) = true := bne_iff_ne.mpr c3; obtain rfl := Option.some.inj H; go_enter Tryz.func35, Tryz.ntmps35
  go_wp2; go_ret; exact ⟨by rfl, by repeat (exact Drawn0.refl _)⟩
def thermographlaw18_sameSeries.l0 : Nat → List (S55) → List (S55) → Int → Option (Bool)
 | 0, _, _, _ => none
 | k + 1, x0, x1, x5 => if x5 < (x0.length : Int) then (if 0 ≤ x5 then (if x5 < (x1.length : Int) then (if ((rd_T55 x0 x5).f0).toList = ((rd_T55 x1 x5).f0).toList then ((thermographlaw18_same.f k ((rd_T55 x0 x5).f1) ((rd_T55 x1 x5).f1)).bind fun t161 => (if t161 = true then (thermographlaw18_sameSeries.l0 k x0 x1 (wrap64 (x5 + 1))) else (some false))) else (some false)) else (none)) else (none)) else (some true)
def thermographlaw18_sameSeries.f (k : Nat) (l0 : List (S55)) (l1 : List (S55)) : Option (Bool) := if (l0.length : Int) = (l1.length : Int) then (thermographlaw18_sameSeries.l0 k l0 l1 0) else (some false)
theorem thermographlaw18_sameSeries.calls (k : Nat) (A0 : Option Addr) (c0 : Nat) (l0 : List (S55)) (A1 : Option Addr) (c1 : Nat) (l1 : List (S55)) (r : Bool) (w : World) (hr0 : Kd.C k55 w A0 l0.length l0) (hc0 : l0.length ≤ c0) (hr1 : Kd.C k55 w A1 l1.length l1) (hc1 : l1.length ≤ c1) (h : thermographlaw18_sameSeries.f k l0 l1 = some r) :
  Calls Tryz.prog 12 #[.slice A0 l0.length c0, .slice A1 l1.length c1] w fun e w' => e = .returned (.bool r) ∧ Drawn0 w w' := by
 have HR0 := Aside0.mk hr0; clear hr0 hc0; have HR1 := Aside0.mk hr1; clear hr1 hc1; have H : (if (l0.length : Int) = (l1.length : Int) then (thermographlaw18_sameSeries.l0 k l0 l1 0) else (some false)) = some r := h; clear h
 by_cases c3 : (l0.length : Int) = (l1.length : Int)
 ·
  rw [if_pos c3] at H; have c3b1 : ((l0.length : Int) != (l1.length : Int)) = false := bne_eq_false_iff_eq.mpr c3; clear c3; have H' := Aside0.mk H; clear H; go_enter Tryz.func12, Tryz.ntmps12
  go_wp2; go_loopg [5] k (fun kq v5 w' => ∃ (x5_1 : Int), v5 = .int .i64 x5_1 ∧ Aside0 (thermographlaw18_sameSeries.l0 kq l0 l1 x5_1 = some r) ∧ Aside0 (kq ≤ k) ∧ Drawn0 w w')
  case atStart => exact ⟨(0), (by rfl), H', ⟨Nat.le_refl _⟩, by repeat (exact Drawn0.refl _)⟩
  case round =>
   clear H'; try clear c3b1
   obtain ⟨x5_1, rfl, HA, HK1, ⟨m1, rfl⟩⟩ := hrel
   cases gk with
   | zero => exact absurd HA.out (by simp [thermographlaw18_sameSeries.l0])
   | succ k1 =>
    have H := HA.out; clear HA; simp only [thermographlaw18_sameSeries.l0] at H
    by_cases c4 : x5_1 < (l0.length : Int)
    ·
     rw [if_pos c4] at H; have c4b0 : decide (x5_1 < (l0.length : Int)) = true := decide_eq_true c4; clear c4
     by_cases c5 : 0 ≤ x5_1
     ·
      rw [if_pos c5] at H; have c5b0 : decide (0 ≤ x5_1) = true := decide_eq_true c5; clear c5
      by_cases c6 : x5_1 < (l1.length : Int)
      ·
       rw [if_pos c6] at H; have c6b0 : decide (x5_1 < (l1.length : Int)) = true := decide_eq_true c6; clear c6
       by_cases c7 : ((rd_T55 l0 x5_1).f0).toList = ((rd_T55 l1 x5_1).f0).toList
       ·
        rw [if_pos c7] at H; have c7b0 : (((rd_T55 l0 x5_1).f0).toList == ((rd_T55 l1 x5_1).f0).toList) = true := beq_iff_eq.mpr c7; clear c7; replace H := Option.bind_eq_some_iff.mp H; obtain ⟨t161, A80, H⟩ := H; replace H : (if t161 = true then (thermographlaw18_sameSeries.l0 k1 l0 l1 (wrap64 (x5_1 + 1))) else (some false)) = some r := H; have A8 := Aside0.mk A80; clear A80
        by_cases c9 : t161 = true
        ·
         subst c9; have H1 : (thermographlaw18_sameSeries.l0 k1 l0 l1 (wrap64 (x5_1 + 1))) = some r := by rw [if_pos rfl] at H; exact H
         clear H; have H := H1; clear H1; have H' := Aside0.mk H; clear H; have p157 : 0 ≤ (x5_1 : Int) := of_decide_eq_true (by with_reducible assumption); have q157 : x5_1 < (l0.length : Int) := of_decide_eq_true (by with_reducible assumption); obtain ⟨ad157, A157_1, c157_1, e157, hx157_0, hx157_1, hl157_1, hi157_1⟩ := at_T55 HR0.out x5_1 p157 q157; cases e157; clear hi157_1 hl157_1; replace p157 := eq_true p157; replace q157 := eq_true q157; have p158 : 0 ≤ (x5_1 : Int) := of_decide_eq_true (by with_reducible assumption); have q158 : x5_1 < (l1.length : Int) := of_decide_eq_true (by with_reducible assumption); obtain ⟨ad158, A158_1, c158_1, e158, hx158_0, hx158_1, hl158_1, hi158_1⟩ := at_T55 HR1.out x5_1 p158 q158; cases e158; clear hi158_1 hl158_1; replace p158 := eq_true p158; replace q158 := eq_true q158; have p159 : 0 ≤ (x5_1 : Int) := of_decide_eq_true (by with_reducible assumption); have q159 : x5_1 < (l0.length : Int) := of_decide_eq_true (by with_reducible assumption); obtain ⟨ad159, A159_1, c159_1, e159, hx159_0, hx159_1, hl159_1, hi159_1⟩ := at_T55 HR0.out x5_1 p159 q159
         obtain rfl : ad157 = ad159 := (by injection e159)
         have HR159_1 := Aside0.mk hi159_1; have HC159_1 := Aside0.mk hl159_1; clear hi159_1 hl159_1; replace p159 := eq_true p159; replace q159 := eq_true q159; have ea_ := Option.some.inj (hx157_1.symm.trans hx159_1)
         injection ea_ with ea_ en_ ec_
         subst ea_; subst ec_; clear en_; have p160 : 0 ≤ (x5_1 : Int) := of_decide_eq_true (by with_reducible assumption); have q160 : x5_1 < (l1.length : Int) := of_decide_eq_true (by with_reducible assumption); obtain ⟨ad160, A160_1, c160_1, e160, hx160_0, hx160_1, hl160_1, hi160_1⟩ := at_T55 HR1.out x5_1 p160 q160
         obtain rfl : ad158 = ad160 := (by injection e160)
         have HR160_1 := Aside0.mk hi160_1; have HC160_1 := Aside0.mk hl160_1; clear hi160_1 hl160_1; replace p160 := eq_true p160; replace q160 := eq_true q160; have ea_ := Option.some.inj (hx158_1.symm.trans hx160_1)
         injection ea_ with ea_ en_ ec_
         subst ea_; subst ec_; clear en_
         go_wp2_with (fail)
         repeat (go_quiet ((go_at_call 35; (with_reducible refine (thermographlaw18_same.calls k1 _ _ ((rd_T55 l0 x5_1).f1) _ _ ((rd_T55 l1 x5_1).f1) true _ ?side1 ?side2 ?side3 ?side4 A8.out).mono ?_); (case side1 => repeat (exact HR159_1.out)); (case side2 => exact HC159_1.out); (case side3 => repeat (exact HR160_1.out)); (case side4 => exact HC160_1.out); rintro e w' ⟨rfl, ⟨nd, rfl⟩⟩; (try exact ⟨rfl, _, Eq.trans (World.drewN_drewN _ _ _) (congrArg (World.drewN _) (Nat.add_assoc _ _ _))⟩))); try go_wp2_with (fail))
         go_roundg k1
         case measure => have := HK1.out; omega
         case rel => exact ⟨(wrap64 (x5_1 + 1)), (by rfl), H', ⟨by have := HK1.out; omega⟩, by repeat (first | exact Drawn0.refl _ | apply Drawn0.step)⟩
        ·
         replace c9 := Bool.eq_false_iff.mpr c9; subst c9; have H1 : (some false) = some r := by rw [if_neg (show ¬ (false = true) by decide)] at H; exact H
         clear H; have H := H1; clear H1; obtain rfl := Option.some.inj H; have p157 : 0 ≤ (x5_1 : Int) := of_decide_eq_true (by with_reducible assumption); have q157 : x5_1 < (l0.length : Int) := of_decide_eq_true (by with_reducible assumption); obtain ⟨ad157, A157_1, c157_1, e157, hx157_0, hx157_1, hl157_1, hi157_1⟩ := at_T55 HR0.out x5_1 p157 q157; cases e157; clear hi157_1 hl157_1; replace p157 := eq_true p157; replace q157 := eq_true q157; have p158 : 0 ≤ (x5_1 : Int) := of_decide_eq_true (by with_reducible assumption); have q158 : x5_1 < (l1.length : Int) := of_decide_eq_true (by with_reducible assumption); obtain ⟨ad158, A158_1, c158_1, e158, hx158_0, hx158_1, hl158_1, hi158_1⟩ := at_T55 HR1.out x5_1 p158 q158; cases e158; clear hi158_1 hl158_1; replace p158 := eq_true p158; replace q158 := eq_true q158; have p159 : 0 ≤ (x5_1 : Int) := of_decide_eq_true (by with_reducible assumption); have q159 : x5_1 < (l0.length : Int) := of_decide_eq_true (by with_reducible assumption); obtain ⟨ad159, A159_1, c159_1, e159, hx159_0, hx159_1, hl159_1, hi159_1⟩ := at_T55 HR0.out x5_1 p159 q159
         obtain rfl : ad157 = ad159 := (by injection e159)
         have HR159_1 := Aside0.mk hi159_1; have HC159_1 := Aside0.mk hl159_1; clear hi159_1 hl159_1; replace p159 := eq_true p159; replace q159 := eq_true q159; have ea_ := Option.some.inj (hx157_1.symm.trans hx159_1)
         injection ea_ with ea_ en_ ec_
         subst ea_; subst ec_; clear en_; have p160 : 0 ≤ (x5_1 : Int) := of_decide_eq_true (by with_reducible assumption); have q160 : x5_1 < (l1.length : Int) := of_decide_eq_true (by with_reducible assumption); obtain ⟨ad160, A160_1, c160_1, e160, hx160_0, hx160_1, hl160_1, hi160_1⟩ := at_T55 HR1.out x5_1 p160 q160
         obtain rfl : ad158 = ad160 := (by injection e160)
         have HR160_1 := Aside0.mk hi160_1; have HC160_1 := Aside0.mk hl160_1; clear hi160_1 hl160_1; replace p160 := eq_true p160; replace q160 := eq_true q160; have ea_ := Option.some.inj (hx158_1.symm.trans hx160_1)
         injection ea_ with ea_ en_ ec_
         subst ea_; subst ec_; clear en_
         go_wp2_with (fail)
         repeat (go_quiet ((go_at_call 35; (with_reducible refine (thermographlaw18_same.calls k1 _ _ ((rd_T55 l0 x5_1).f1) _ _ ((rd_T55 l1 x5_1).f1) false _ ?side1 ?side2 ?side3 ?side4 A8.out).mono ?_); (case side1 => repeat (exact HR159_1.out)); (case side2 => exact HC159_1.out); (case side3 => repeat (exact HR160_1.out)); (case side4 => exact HC160_1.out); rintro e w' ⟨rfl, ⟨nd, rfl⟩⟩; (try exact ⟨rfl, _, Eq.trans (World.drewN_drewN _ _ _) (congrArg (World.drewN _) (Nat.add_assoc _ _ _))⟩))); try go_wp2_with (fail))
         go_ret; exact ⟨by rfl, by repeat (first | exact Drawn0.refl _ | apply Drawn0.step)⟩
       ·
        rw [if_neg c7] at H; have c7b0 : (((rd_T55 l0 x5_1).f0).toList == ((rd_T55 l1 x5_1).f0).toList) = false := beq_eq_false_iff_ne.mpr c7; obtain rfl := Option.some.inj H; have p157 : 0 ≤ (x5_1 : Int) := of_decide_eq_true (by with_reducible assumption); have q157 : x5_1 < (l0.length : Int) := of_decide_eq_true (by with_reducible assumption); obtain ⟨ad157, A157_1, c157_1, e157, hx157_0, hx157_1, hl157_1, hi157_1⟩ := at_T55 HR0.out x5_1 p157 q157; cases e157; clear hi157_1 hl157_1; replace p157 := eq_true p157; replace q157 := eq_true q157; have p158 : 0 ≤ (x5_1 : Int) := of_decide_eq_true (by with_reducible assumption); have q158 : x5_1 < (l1.length : Int) := of_decide_eq_true (by with_reducible assumption); obtain ⟨ad158, A158_1, c158_1, e158, hx158_0, hx158_1, hl158_1, hi158_1⟩ := at_T55 HR1.out x5_1 p158 q158; cases e158; clear hi158_1 hl158_1; replace p158 := eq_true p158; replace q158 := eq_true q158; go_wp2; repeat (go_quiet (fail); try go_wp2)
        go_ret; exact ⟨by rfl, by repeat (first | exact Drawn0.refl _ | apply Drawn0.step)⟩
      ·
       rw [if_neg c6] at H; exact absurd H (by simp)
     ·
      rw [if_neg c5] at H; exact absurd H (by simp)
    ·
     rw [if_neg c4] at H; have c4b0 : decide (x5_1 < (l0.length : Int)) = false := decide_eq_false c4; clear c4; obtain rfl := Option.some.inj H; go_wp2; go_ret; exact ⟨by rfl, by repeat (first | exact Drawn0.refl _ | apply Drawn0.step)⟩
 ·
  rw [if_neg c3] at H; have c3b1 : ((l0.length : Int) != (l1.length : Int)) = true := bne_iff_ne.mpr c3; obtain rfl := Option.some.inj H; go_enter Tryz.func12, Tryz.ntmps12
  go_wp2; go_ret; exact ⟨by rfl, by repeat (exact Drawn0.refl _)⟩
def thermographlaw18_sameInts.l0 : Nat → List Int → List Int → Int → Option (Bool)
 | 0, _, _, _ => none
 | k + 1, x0, x1, x5 => if x5 < (x0.length : Int) then (if 0 ≤ x5 then (if x5 < (x1.length : Int) then (if (rd x0 x5) = (rd x1 x5) then (thermographlaw18_sameInts.l0 k x0 x1 (wrap64 (x5 + 1))) else (some false)) else (none)) else (none)) else (some true)
def thermographlaw18_sameInts.f (k : Nat) (l0 : List Int) (l1 : List Int) : Option (Bool) := if (l0.length : Int) = (l1.length : Int) then (thermographlaw18_sameInts.l0 k l0 l1 0) else (some false)
theorem thermographlaw18_sameInts.calls (k : Nat) (A0 : Option Addr) (c0 : Nat) (l0 : List Int) (A1 : Option Addr) (c1 : Nat) (l1 : List Int) (r : Bool) (w : World) (hr0 : Kd.C (Kd.int .i64) w A0 l0.length l0) (hc0 : l0.length ≤ c0) (hr1 : Kd.C (Kd.int .i64) w A1 l1.length l1) (hc1 : l1.length ≤ c1) (h : thermographlaw18_sameInts.f k l0 l1 = some r) :
  Calls Tryz.prog 14 #[.slice A0 l0.length c0, .slice A1 l1.length c1] w fun e w' => e = .returned (.bool r) ∧ Drawn0 w w' := by
 have HR0 := Aside0.mk hr0; clear hr0 hc0; have HR1 := Aside0.mk hr1; clear hr1 hc1; have H : (if (l0.length : Int) = (l1.length : Int) then (thermographlaw18_sameInts.l0 k l0 l1 0) else (some false)) = some r := h; clear h
 by_cases c3 : (l0.length : Int) = (l1.length : Int)
 ·
  rw [if_pos c3] at H; have c3b1 : ((l0.length : Int) != (l1.length : Int)) = false := bne_eq_false_iff_eq.mpr c3; clear c3; have H' := Aside0.mk H; clear H; go_enter Tryz.func14, Tryz.ntmps14
  go_wp2; go_loopg [5] k (fun kq v5 w' => ∃ (x5_1 : Int), v5 = .int .i64 x5_1 ∧ Aside0 (thermographlaw18_sameInts.l0 kq l0 l1 x5_1 = some r) ∧ Aside0 (kq ≤ k) ∧ Drawn0 w w')
  case atStart => exact ⟨(0), (by rfl), H', ⟨Nat.le_refl _⟩, by repeat (exact Drawn0.refl _)⟩
  case round =>
   clear H'; try clear c3b1
   obtain ⟨x5_1, rfl, HA, HK1, ⟨m1, rfl⟩⟩ := hrel
   cases gk with
   | zero => exact absurd HA.out (by simp [thermographlaw18_sameInts.l0])
   | succ k1 =>
    have H := HA.out; clear HA; simp only [thermographlaw18_sameInts.l0] at H
    by_cases c4 : x5_1 < (l0.length : Int)
    ·
     rw [if_pos c4] at H; have c4b0 : decide (x5_1 < (l0.length : Int)) = true := decide_eq_true c4; clear c4
     by_cases c5 : 0 ≤ x5_1
     ·
      rw [if_pos c5] at H; have c5b0 : decide (0 ≤ x5_1) = true := decide_eq_true c5; clear c5
      by_cases c6 : x5_1 < (l1.length : Int)
      ·
       rw [if_pos c6] at H; have c6b0 : decide (x5_1 < (l1.length : Int)) = true := decide_eq_true c6; clear c6
       by_cases c7 : (rd l0 x5_1) = (rd l1 x5_1)
       ·
        rw [if_pos c7] at H; have c7b1 : ((rd l0 x5_1) != (rd l1 x5_1)) = false := bne_eq_false_iff_eq.mpr c7; clear c7; have H' := Aside0.mk H; clear H; have p162 : 0 ≤ (x5_1 : Int) := of_decide_eq_true (by with_reducible assumption); have q162 : x5_1 < (l0.length : Int) := of_decide_eq_true (by with_reducible assumption); obtain ⟨ad162, e162, hx162_0⟩ := Kd.at_int HR0.out x5_1 p162 q162; cases e162; replace p162 := eq_true p162; replace q162 := eq_true q162; have p163 : 0 ≤ (x5_1 : Int) := of_decide_eq_true (by with_reducible assumption); have q163 : x5_1 < (l1.length : Int) := of_decide_eq_true (by with_reducible assumption); obtain ⟨ad163, e163, hx163_0⟩ := Kd.at_int HR1.out x5_1 p163 q163; cases e163; replace p163 := eq_true p163; replace q163 := eq_true q163; go_wp2; repeat (go_quiet (fail); try go_wp2)
        go_roundg k1
        case measure => have := HK1.out; omega
        case rel => exact ⟨(wrap64 (x5_1 + 1)), (by rfl), H', ⟨by have := HK1.out; omega⟩, by repeat (first | exact Drawn0.refl _ | apply Drawn0.step)⟩
       ·
        rw [if_neg c7] at H; have c7b1 : ((rd l0 x5_1) != (rd l1 x5_1)) = true := bne_iff_ne.mpr c7; obtain rfl := Option.some.inj H; have p162 : 0 ≤ (x5_1 : Int) := of_decide_eq_true (by with_reducible assumption); have q162 : x5_1 < (l0.length : Int) := of_decide_eq_true (by with_reducible assumption); obtain ⟨ad162, e162, hx162_0⟩ := Kd.at_int HR0.out x5_1 p162 q162; cases e162; replace p162 := eq_true p162; replace q162 := eq_true q162; have p163 : 0 ≤ (x5_1 : Int) := of_decide_eq_true (by with_reducible assumption); have q163 : x5_1 < (l1.length : Int) := of_decide_eq_true (by with_reducible assumption); obtain ⟨ad163, e163, hx163_0⟩ := Kd.at_int HR1.out x5_1 p163 q163; cases e163; replace p163 := eq_true p163; replace q163 := eq_true q163; go_wp2; repeat (go_quiet (fail); try go_wp2)
        go_ret; exact ⟨by rfl, by repeat (first | exact Drawn0.refl _ | apply Drawn0.step)⟩
      ·
       rw [if_neg c6] at H; exact absurd H (by simp)
     ·
      rw [if_neg c5] at H; exact absurd H (by simp)
    ·
     rw [if_neg c4] at H; have c4b0 : decide (x5_1 < (l0.length : Int)) = false := decide_eq_false c4; clear c4; obtain rfl := Option.some.inj H; go_wp2; go_ret; exact ⟨by rfl, by repeat (first | exact Drawn0.refl _ | apply Drawn0.step)⟩
 ·
  rw [if_neg c3] at H; have c3b1 : ((l0.length : Int) != (l1.length : Int)) = true := bne_iff_ne.mpr c3; obtain rfl := Option.some.inj H; go_enter Tryz.func14, Tryz.ntmps14
  go_wp2; go_ret; exact ⟨by rfl, by repeat (exact Drawn0.refl _)⟩
end Go.Proofs.YtiinmagnpkfbbaaGreat.QT
end
section
set_option maxHeartbeats 8000000
set_option maxRecDepth 100000
namespace Go.Proofs.YtiinmagnpkfbbaaGreat.QT
open Go.RowKit Go.Proofs.YtiinmagnpkfbbaaGreatW.PrintWords Go.Proofs.YtiinmagnpkfbbaaGreatW.PrintLast Go.Proofs.YtiinmagnpkfbbaaGreatW.PrintMore
attribute [local go_sem] max2_int min2_int max_two min_two max_three min_three max_four min_four   -- for this text's walks alone
set_option linter.unusedVariables false
set_option linter.unusedSimpArgs false
attribute [local go_sem high] eqA27
def thermographref18_has.l0 : Nat → List Int → Int → Int → Option (Bool)
 | 0, _, _, _ => none
 | k + 1, x0, x1, x5 => if x5 < (x0.length : Int) then (if 0 ≤ x5 then (if (rd x0 x5) = x1 then (some true) else (thermographref18_has.l0 k x0 x1 (wrap64 (x5 + 1)))) else (none)) else (some false)
def thermographref18_has.f (k : Nat) (l0 : List Int) (a1 : Int) : Option (Bool) := thermographref18_has.l0 k l0 a1 0
theorem thermographref18_has.calls (k : Nat) (A0 : Option Addr) (c0 : Nat) (l0 : List Int) (a1 : Int) (r : Bool) (w : World) (hr0 : Kd.C (Kd.int .i64) w A0 l0.length l0) (hc0 : l0.length ≤ c0) (h : thermographref18_has.f k l0 a1 = some r) :
  Calls Tryz.prog 30 #[.slice A0 l0.length c0, .int .i64 a1] w fun e w' => e = .returned (.bool r) ∧ Drawn0 w w' := by
 have HR0 := Aside0.mk hr0; clear hr0 hc0; have H : (thermographref18_has.l0 k l0 a1 0) = some r := h; clear h; have H' := Aside0.mk H; clear H; go_enter Tryz.func30, Tryz.ntmps30
 go_wp2; go_loopg [5] k (fun kq v5 w' => ∃ (x5_1 : Int), v5 = .int .i64 x5_1 ∧ Aside0 (thermographref18_has.l0 kq l0 a1 x5_1 = some r) ∧ Aside0 (kq ≤ k) ∧ Drawn0 w w')
 case atStart => exact ⟨(0), (by rfl), H', ⟨Nat.le_refl _⟩, by repeat (exact Drawn0.refl _)⟩
 case round =>
  clear H'; obtain ⟨x5_1, rfl, HA, HK1, ⟨m1, rfl⟩⟩ := hrel
  cases gk with
  | zero => exact absurd HA.out (by simp [thermographref18_has.l0])
  | succ k1 =>
   have H := HA.out; clear HA; simp only [thermographref18_has.l0] at H
   by_cases c3 : x5_1 < (l0.length : Int)
   ·
    rw [if_pos c3] at H; have c3b0 : decide (x5_1 < (l0.length : Int)) = true := decide_eq_true c3; clear c3
    by_cases c4 : 0 ≤ x5_1
    ·
     rw [if_pos c4] at H; have c4b0 : decide (0 ≤ x5_1) = true := decide_eq_true c4; clear c4
     by_cases c5 : (rd l0 x5_1) = a1
     ·
      rw [if_pos c5] at H; have c5b0 : ((rd l0 x5_1) == a1) = true := beq_iff_eq.mpr c5; clear c5; obtain rfl := Option.some.inj H; have p166 : 0 ≤ (x5_1 : Int) := of_decide_eq_true (by with_reducible assumption); have q166 : x5_1 < (l0.length : Int) := of_decide_eq_true (by with_reducible assumption); obtain ⟨ad166, e166, hx166_0⟩ := Kd.at_int HR0.out x5_1 p166 q166; cases e166; replace p166 := eq_true p166; replace q166 := eq_true q166; go_wp2; go_ret; exact ⟨by rfl, by repeat (first | exact Drawn0.refl _ | apply Drawn0.step)⟩
     ·
      rw [if_neg c5] at H; have c5b0 : ((rd l0 x5_1) == a1) = false := beq_eq_false_iff_ne.mpr c5; have H' := Aside0.mk H; clear H; have p166 : 0 ≤ (x5_1 : Int) := of_decide_eq_true (by with_reducible assumption); have q166 : x5_1 < (l0.length : Int) := of_decide_eq_true (by with_reducible assumption); obtain ⟨ad166, e166, hx166_0⟩ := Kd.at_int HR0.out x5_1 p166 q166; cases e166; replace p166 := eq_true p166; replace q166 := eq_true q166; go_wp2; go_roundg k1
      case measure => have := HK1.out; omega
      case rel => exact ⟨(wrap64 (x5_1 + 1)), (by rfl), H', ⟨by have := HK1.out; omega⟩, by repeat (first | exact Drawn0.refl _ | apply Drawn0.step)⟩
    ·
     rw [if_neg c4] at H; exact absurd H (by simp)
   ·
    rw [if_neg c3] at H; have c3b0 : decide (x5_1 < (l0.length : Int)) = false := decide_eq_false c3; clear c3; obtain rfl := Option.some.inj H; go_wp2; go_ret; exact ⟨by rfl, by repeat (first | exact Drawn0.refl _ | apply Drawn0.step)⟩
end Go.Proofs.YtiinmagnpkfbbaaGreat.QT
end
section
set_option maxHeartbeats 8000000
set_option maxRecDepth 100000
namespace Go.Proofs.YtiinmagnpkfbbaaGreat.QT
open Go.RowKit Go.Proofs.YtiinmagnpkfbbaaGreatW.PrintWords Go.Proofs.YtiinmagnpkfbbaaGreatW.PrintLast Go.Proofs.YtiinmagnpkfbbaaGreatW.PrintMore
attribute [local go_sem] max2_int min2_int max_two min_two max_three min_three max_four min_four   -- for this text's walks alone
set_option linter.unusedVariables false
set_option linter.unusedSimpArgs false
def thermographref06_Wins.f (a0_0 : Int) (a0_1 : Int) (a0_2 : Int) (a1_0 : Int) (a1_1 : Int) (a1_2 : Int) : Option (Bool) := if a0_2 > a1_2 then (some true) else (if a0_2 = a1_2 then (some (decide (a0_1 > a1_1))) else (some false))
theorem thermographref06_Wins.calls (a0_0 : Int) (a0_1 : Int) (a0_2 : Int) (a1_0 : Int) (a1_1 : Int) (a1_2 : Int) (r : Bool) (w : World) (h : thermographref06_Wins.f a0_0 a0_1 a0_2 a1_0 a1_1 a1_2 = some r) :
  Calls Tryz.prog 89 #[.agg #[.int .i64 a0_0, .int .u64 a0_1, .int .u64 a0_2], .agg #[.int .i64 a1_0, .int .u64 a1_1, .int .u64 a1_2]] w fun e w' => e = .returned (.bool r) ∧ Below w.heap.size w w' := by
 have HB := Aside0.mk (Below.refl w.heap.size w); have H : (if a0_2 > a1_2 then (some true) else (if a0_2 = a1_2 then (some (decide (a0_1 > a1_1))) else (some false))) = some r := h; clear h
 by_cases c3 : a0_2 > a1_2
 ·
  rw [if_pos c3] at H; have c3b0 : decide (a1_2 < a0_2) = true := decide_eq_true c3; clear c3; obtain rfl := Option.some.inj H; go_enter Tryz.func89, Tryz.ntmps89
  go_wp2_with (first | ((with_reducible refine gate_dst (N := 2) rfl ?_); refine box_event ?hg (N := 2) ?hd (cs := #[.int .i64 a0_0, .int .u64 a0_1, .int .u64 a0_2]) (t := 99) ?hr ?_; (case hd => rfl); (case hg => rfl); (case hr => go_simp; done); intro gb230 hg w4 hbox hb; have n0_ := Aside0.mk (below_step HB.out hb); have n1_ := Aside0.mk (hbox); have n2_ := Aside0.mk ((by rw [hg]; exact (below_size HB.out) : w.heap.size ≤ gb230)); clear HB; have HB := n0_; have BK230 := n1_; clear n0_ n1_ n2_ ; clear hb hbox hg) | ((with_reducible refine gate_dst (N := 3) rfl ?_); refine box_event ?hg (N := 3) ?hd (cs := #[.int .i64 a1_0, .int .u64 a1_1, .int .u64 a1_2]) (t := 99) ?hr ?_; (case hd => rfl); (case hg => rfl); (case hr => go_simp; done); intro gb231 hg w5 hbox hb; have n0_ := Aside0.mk (blk_below (g := gb230) (o := .cells #[.int .i64 a0_0, .int .u64 a0_1, .int .u64 a0_2] 99 (0, 0)) BK230.out hb); have n1_ := Aside0.mk (below_step HB.out hb); have n2_ := Aside0.mk (hbox); have n5_ := Aside0.mk ((by rw [hg]; exact Nat.ne_of_lt (blk_lt (g := gb230) (o := .cells #[.int .i64 a0_0, .int .u64 a0_1, .int .u64 a0_2] 99 (0, 0)) BK230.out) : gb230 ≠ gb231)); have n6_ := Aside0.mk ((by rw [hg]; exact Nat.ne_of_gt (blk_lt (g := gb230) (o := .cells #[.int .i64 a0_0, .int .u64 a0_1, .int .u64 a0_2] 99 (0, 0)) BK230.out) : gb231 ≠ gb230)); clear BK230; clear HB; have BK230 := n0_; have HB := n1_; have BK231 := n2_; have NB230_231 := n5_; have NB231_230 := n6_; clear n0_ n1_ n2_ n5_ n6_; clear hb hbox hg; have hcz7_2 : w5.cell? ⟨gb230, 2, none⟩ = some (.int .u64 a0_2) := (blk_cell BK230.out 2).trans rfl; have hcz8_2 : w5.cell? ⟨gb231, 2, none⟩ = some (.int .u64 a1_2) := (blk_cell BK231.out 2).trans rfl))
  go_ret; exact ⟨by rfl, by repeat ((with_reducible exact HB.out))⟩
 ·
  rw [if_neg c3] at H; have c3b0 : decide (a1_2 < a0_2) = false := decide_eq_false c3; clear c3
  by_cases c9 : a0_2 = a1_2
  ·
   rw [if_pos c9] at H; have c9b0 : (a0_2 == a1_2) = true := beq_iff_eq.mpr c9; clear c9; obtain rfl := Option.some.inj H; go_enter Tryz.func89, Tryz.ntmps89
   go_wp2_with (first | ((with_reducible refine gate_dst (N := 2) rfl ?_); refine box_event ?hg (N := 2) ?hd (cs := #[.int .i64 a0_0, .int .u64 a0_1, .int .u64 a0_2]) (t := 99) ?hr ?_; (case hd => rfl); (case hg => rfl); (case hr => go_simp; done); intro gb230 hg w10 hbox hb; have n0_ := Aside0.mk (below_step HB.out hb); have n1_ := Aside0.mk (hbox); have n2_ := Aside0.mk ((by rw [hg]; exact (below_size HB.out) : w.heap.size ≤ gb230)); clear HB; have HB := n0_; have BK230 := n1_; clear n0_ n1_ n2_ ; clear hb hbox hg) | ((with_reducible refine gate_dst (N := 3) rfl ?_); refine box_event ?hg (N := 3) ?hd (cs := #[.int .i64 a1_0, .int .u64 a1_1, .int .u64 a1_2]) (t := 99) ?hr ?_; (case hd => rfl); (case hg => rfl); (case hr => go_simp; done); intro gb231 hg w11 hbox hb; have n0_ := Aside0.mk (blk_below (g := gb230) (o := .cells #[.int .i64 a0_0, .int .u64 a0_1, .int .u64 a0_2] 99 (0, 0)) BK230.out hb); have n1_ := Aside0.mk (below_step HB.out hb); have n2_ := Aside0.mk (hbox); have n5_ := Aside0.mk ((by rw [hg]; exact Nat.ne_of_lt (blk_lt (g := gb230) (o := .cells #[.int .i64 a0_0, .int .u64 a0_1, .int .u64 a0_2] 99 (0, 0)) BK230.out) : gb230 ≠ gb231)); have n6_ := Aside0.mk ((by rw [hg]; exact Nat.ne_of_gt (blk_lt (g := gb230) (o := .cells #[.int .i64 a0_0, .int .u64 a0_1, .int .u64 a0_2] 99 (0, 0)) BK230.out) : gb231 ≠ gb230)); clear BK230; clear HB; have BK230 := n0_; have HB := n1_; have BK231 := n2_; have NB230_231 := n5_; have NB231_230 := n6_; clear n0_ n1_ n2_ n5_ n6_; clear hb hbox hg; have hcz13_1 : w11.cell? ⟨gb230, 1, none⟩ = some (.int .u64 a0_1) := (blk_cell BK230.out 1).trans rfl; have hcz13_2 : w11.cell? ⟨gb230, 2, none⟩ = some (.int .u64 a0_2) := (blk_cell BK230.out 2).trans rfl; have hcz14_1 : w11.cell? ⟨gb231, 1, none⟩ = some (.int .u64 a1_1) := (blk_cell BK231.out 1).trans rfl; have hcz14_2 : w11.cell? ⟨gb231, 2, none⟩ = some (.int .u64 a1_2) := (blk_cell BK231.out 2).trans rfl))
   go_ret; exact ⟨by rfl, by repeat ((with_reducible exact HB.out))⟩
  ·
   rw [if_neg c9] at H; have c9b0 : (a0_2 == a1_2) = false := beq_eq_false_iff_ne.mpr c9; obtain rfl := Option.some.inj H; go_enter Tryz.func89, Tryz.ntmps89
   go_wp2_with (first | ((with_reducible refine gate_dst (N := 2) rfl ?_); refine box_event ?hg (N := 2) ?hd (cs := #[.int .i64 a0_0, .int .u64 a0_1, .int .u64 a0_2]) (t := 99) ?hr ?_; (case hd => rfl); (case hg => rfl); (case hr => go_simp; done); intro gb230 hg w15 hbox hb; have n0_ := Aside0.mk (below_step HB.out hb); have n1_ := Aside0.mk (hbox); have n2_ := Aside0.mk ((by rw [hg]; exact (below_size HB.out) : w.heap.size ≤ gb230)); clear HB; have HB := n0_; have BK230 := n1_; clear n0_ n1_ n2_ ; clear hb hbox hg) | ((with_reducible refine gate_dst (N := 3) rfl ?_); refine box_event ?hg (N := 3) ?hd (cs := #[.int .i64 a1_0, .int .u64 a1_1, .int .u64 a1_2]) (t := 99) ?hr ?_; (case hd => rfl); (case hg => rfl); (case hr => go_simp; done); intro gb231 hg w16 hbox hb; have n0_ := Aside0.mk (blk_below (g := gb230) (o := .cells #[.int .i64 a0_0, .int .u64 a0_1, .int .u64 a0_2] 99 (0, 0)) BK230.out hb); have n1_ := Aside0.mk (below_step HB.out hb); have n2_ := Aside0.mk (hbox); have n5_ := Aside0.mk ((by rw [hg]; exact Nat.ne_of_lt (blk_lt (g := gb230) (o := .cells #[.int .i64 a0_0, .int .u64 a0_1, .int .u64 a0_2] 99 (0, 0)) BK230.out) : gb230 ≠ gb231)); have n6_ := Aside0.mk ((by rw [hg]; exact Nat.ne_of_gt (blk_lt (g := gb230) (o := .cells #[.int .i64 a0_0, .int .u64 a0_1, .int .u64 a0_2] 99 (0, 0)) BK230.out) : gb231 ≠ gb230)); clear BK230; clear HB; have BK230 := n0_; have HB := n1_; have BK231 := n2_; have NB230_231 := n5_; have NB231_230 := n6_; clear n0_ n1_ n2_ n5_ n6_; clear hb hbox hg; have hcz18_2 : w16.cell? ⟨gb230, 2, none⟩ = some (.int .u64 a0_2) := (blk_cell BK230.out 2).trans rfl; have hcz19_2 : w16.cell? ⟨gb231, 2, none⟩ = some (.int .u64 a1_2) := (blk_cell BK231.out 2).trans rfl))
   go_ret; exact ⟨by rfl, by repeat ((with_reducible exact HB.out))⟩
end Go.Proofs.YtiinmagnpkfbbaaGreat.QT
end
