-- Laid by wip/tools/myprint.py of this repo. Not trusted: Lean checks it.
import Derived.Test.YtgagcimfkmegnaaQT2
set_option maxHeartbeats 8000000
set_option maxRecDepth 100000
namespace Go.Proofs.Ytgagcimfkmegnaa.QT
open Go.RowKit Go.Proofs.YtgagcimfkmegnaaW.PrintWords Go.Proofs.YtgagcimfkmegnaaW.PrintLast Go.Proofs.YtgagcimfkmegnaaW.PrintMore
attribute [local go_sem] max2_int min2_int max_two min_two max_three min_three max_four min_four   -- for this text's walks alone
set_option linter.unusedVariables false
set_option linter.unusedSimpArgs false
def thermographlaw17_sameSeries.l0 : Nat → List (S65) → List (S65) → Int → Option (Bool)
 | 0, _, _, _ => none
 | k + 1, x0, x1, x5 => if x5 < (x0.length : Int) then (if 0 ≤ x5 then (if x5 < (x1.length : Int) then (if ((rd_T65 x0 x5).f0).toList = ((rd_T65 x1 x5).f0).toList then ((thermographlaw17_same.f k ((rd_T65 x0 x5).f1) ((rd_T65 x1 x5).f1)).bind fun t112 => (if t112 = true then (thermographlaw17_sameSeries.l0 k x0 x1 (wrap64 (x5 + 1))) else (some false))) else (some false)) else (none)) else (none)) else (some true)
def thermographlaw17_sameSeries.f (k : Nat) (l0 : List (S65)) (l1 : List (S65)) : Option (Bool) := if (l0.length : Int) = (l1.length : Int) then (thermographlaw17_sameSeries.l0 k l0 l1 0) else (some false)
theorem thermographlaw17_sameSeries.calls (k : Nat) (A0 : Option Addr) (c0 : Nat) (l0 : List (S65)) (A1 : Option Addr) (c1 : Nat) (l1 : List (S65)) (r : Bool) (w : World) (hr0 : Kd.C k65 w A0 l0.length l0) (hc0 : l0.length ≤ c0) (hr1 : Kd.C k65 w A1 l1.length l1) (hc1 : l1.length ≤ c1) (h : thermographlaw17_sameSeries.f k l0 l1 = some r) :
  Calls Try.prog 19 #[.slice A0 l0.length c0, .slice A1 l1.length c1] w fun e w' => e = .returned (.bool r) ∧ Drawn0 w w' := by
 have HR0 := Aside0.mk hr0; clear hr0 hc0; have HR1 := Aside0.mk hr1; clear hr1 hc1; have H : (if (l0.length : Int) = (l1.length : Int) then (thermographlaw17_sameSeries.l0 k l0 l1 0) else (some false)) = some r := h; clear h
 by_cases c3 : (l0.length : Int) = (l1.length : Int)
 ·
  rw [if_pos c3] at H; have c3b1 : ((l0.length : Int) != (l1.length : Int)) = false := bne_eq_false_iff_eq.mpr c3; clear c3; have H' := Aside0.mk H; clear H; go_enter Try.func19, Try.ntmps19
  go_wp2; go_loopg [5] k (fun kq v5 w' => ∃ (x5_1 : Int), v5 = .int .i64 x5_1 ∧ Aside0 (thermographlaw17_sameSeries.l0 kq l0 l1 x5_1 = some r) ∧ Aside0 (kq ≤ k) ∧ Drawn0 w w')
  case atStart => exact ⟨(0), (by rfl), H', ⟨Nat.le_refl _⟩, by repeat (exact Drawn0.refl _)⟩
  case round =>
   clear H'; try clear c3b1
   obtain ⟨x5_1, rfl, HA, HK1, ⟨m1, rfl⟩⟩ := hrel
   cases gk with
   | zero => exact absurd HA.out (by simp [thermographlaw17_sameSeries.l0])
   | succ k1 =>
    have H := HA.out; clear HA; simp only [thermographlaw17_sameSeries.l0] at H
    by_cases c4 : x5_1 < (l0.length : Int)
    ·
     rw [if_pos c4] at H; have c4b0 : decide (x5_1 < (l0.length : Int)) = true := decide_eq_true c4; clear c4
     by_cases c5 : 0 ≤ x5_1
     ·
      rw [if_pos c5] at H; have c5b0 : decide (0 ≤ x5_1) = true := decide_eq_true c5; clear c5
      by_cases c6 : x5_1 < (l1.length : Int)
      ·
       rw [if_pos c6] at H; have c6b0 : decide (x5_1 < (l1.length : Int)) = true := decide_eq_true c6; clear c6
       by_cases c7 : ((rd_T65 l0 x5_1).f0).toList = ((rd_T65 l1 x5_1).f0).toList
       ·
        rw [if_pos c7] at H; have c7b0 : (((rd_T65 l0 x5_1).f0).toList == ((rd_T65 l1 x5_1).f0).toList) = true := beq_iff_eq.mpr c7; clear c7; replace H := Option.bind_eq_some_iff.mp H; obtain ⟨t112, A80, H⟩ := H; replace H : (if t112 = true then (thermographlaw17_sameSeries.l0 k1 l0 l1 (wrap64 (x5_1 + 1))) else (some false)) = some r := H; have A8 := Aside0.mk A80; clear A80
        by_cases c9 : t112 = true
        ·
         subst c9; have H1 : (thermographlaw17_sameSeries.l0 k1 l0 l1 (wrap64 (x5_1 + 1))) = some r := by rw [if_pos rfl] at H; exact H
         clear H; have H := H1; clear H1; have H' := Aside0.mk H; clear H; have p108 : 0 ≤ (x5_1 : Int) := of_decide_eq_true (by with_reducible assumption); have q108 : x5_1 < (l0.length : Int) := of_decide_eq_true (by with_reducible assumption); obtain ⟨ad108, A108_1, c108_1, e108, hx108_0, hx108_1, hl108_1, hi108_1⟩ := at_T65 HR0.out x5_1 p108 q108; cases e108; clear hi108_1 hl108_1; replace p108 := eq_true p108; replace q108 := eq_true q108; have p109 : 0 ≤ (x5_1 : Int) := of_decide_eq_true (by with_reducible assumption); have q109 : x5_1 < (l1.length : Int) := of_decide_eq_true (by with_reducible assumption); obtain ⟨ad109, A109_1, c109_1, e109, hx109_0, hx109_1, hl109_1, hi109_1⟩ := at_T65 HR1.out x5_1 p109 q109; cases e109; clear hi109_1 hl109_1; replace p109 := eq_true p109; replace q109 := eq_true q109; have p110 : 0 ≤ (x5_1 : Int) := of_decide_eq_true (by with_reducible assumption); have q110 : x5_1 < (l0.length : Int) := of_decide_eq_true (by with_reducible assumption); obtain ⟨ad110, A110_1, c110_1, e110, hx110_0, hx110_1, hl110_1, hi110_1⟩ := at_T65 HR0.out x5_1 p110 q110
         obtain rfl : ad108 = ad110 := (by injection e110)
         have HR110_1 := Aside0.mk hi110_1; have HC110_1 := Aside0.mk hl110_1; clear hi110_1 hl110_1; replace p110 := eq_true p110; replace q110 := eq_true q110; have ea_ := Option.some.inj (hx108_1.symm.trans hx110_1)
         injection ea_ with ea_ en_ ec_
         subst ea_; subst ec_; clear en_; have p111 : 0 ≤ (x5_1 : Int) := of_decide_eq_true (by with_reducible assumption); have q111 : x5_1 < (l1.length : Int) := of_decide_eq_true (by with_reducible assumption); obtain ⟨ad111, A111_1, c111_1, e111, hx111_0, hx111_1, hl111_1, hi111_1⟩ := at_T65 HR1.out x5_1 p111 q111
         obtain rfl : ad109 = ad111 := (by injection e111)
         have HR111_1 := Aside0.mk hi111_1; have HC111_1 := Aside0.mk hl111_1; clear hi111_1 hl111_1; replace p111 := eq_true p111; replace q111 := eq_true q111; have ea_ := Option.some.inj (hx109_1.symm.trans hx111_1)
         injection ea_ with ea_ en_ ec_
         subst ea_; subst ec_; clear en_
         go_wp2_with (fail)
         repeat (go_quiet ((go_at_call 32; (with_reducible refine (thermographlaw17_same.calls k1 _ _ ((rd_T65 l0 x5_1).f1) _ _ ((rd_T65 l1 x5_1).f1) true _ ?side1 ?side2 ?side3 ?side4 A8.out).mono ?_); (case side1 => repeat (exact HR110_1.out)); (case side2 => exact HC110_1.out); (case side3 => repeat (exact HR111_1.out)); (case side4 => exact HC111_1.out); rintro e w' ⟨rfl, ⟨nd, rfl⟩⟩; (try exact ⟨rfl, _, Eq.trans (World.drewN_drewN _ _ _) (congrArg (World.drewN _) (Nat.add_assoc _ _ _))⟩))); try go_wp2_with (fail))
         go_roundg k1
         case measure => have := HK1.out; omega
         case rel => exact ⟨(wrap64 (x5_1 + 1)), (by rfl), H', ⟨by have := HK1.out; omega⟩, by repeat (first | exact Drawn0.refl _ | apply Drawn0.step)⟩
        ·
         replace c9 := Bool.eq_false_iff.mpr c9; subst c9; have H1 : (some false) = some r := by rw [if_neg (show ¬ (false = true) by decide)] at H; exact H
         clear H; have H := H1; clear H1; obtain rfl := Option.some.inj H; have p108 : 0 ≤ (x5_1 : Int) := of_decide_eq_true (by with_reducible assumption); have q108 : x5_1 < (l0.length : Int) := of_decide_eq_true (by with_reducible assumption); obtain ⟨ad108, A108_1, c108_1, e108, hx108_0, hx108_1, hl108_1, hi108_1⟩ := at_T65 HR0.out x5_1 p108 q108; cases e108; clear hi108_1 hl108_1; replace p108 := eq_true p108; replace q108 := eq_true q108; have p109 : 0 ≤ (x5_1 : Int) := of_decide_eq_true (by with_reducible assumption); have q109 : x5_1 < (l1.length : Int) := of_decide_eq_true (by with_reducible assumption); obtain ⟨ad109, A109_1, c109_1, e109, hx109_0, hx109_1, hl109_1, hi109_1⟩ := at_T65 HR1.out x5_1 p109 q109; cases e109; clear hi109_1 hl109_1; replace p109 := eq_true p109; replace q109 := eq_true q109; have p110 : 0 ≤ (x5_1 : Int) := of_decide_eq_true (by with_reducible assumption); have q110 : x5_1 < (l0.length : Int) := of_decide_eq_true (by with_reducible assumption); obtain ⟨ad110, A110_1, c110_1, e110, hx110_0, hx110_1, hl110_1, hi110_1⟩ := at_T65 HR0.out x5_1 p110 q110
         obtain rfl : ad108 = ad110 := (by injection e110)
         have HR110_1 := Aside0.mk hi110_1; have HC110_1 := Aside0.mk hl110_1; clear hi110_1 hl110_1; replace p110 := eq_true p110; replace q110 := eq_true q110; have ea_ := Option.some.inj (hx108_1.symm.trans hx110_1)
         injection ea_ with ea_ en_ ec_
         subst ea_; subst ec_; clear en_; have p111 : 0 ≤ (x5_1 : Int) := of_decide_eq_true (by with_reducible assumption); have q111 : x5_1 < (l1.length : Int) := of_decide_eq_true (by with_reducible assumption); obtain ⟨ad111, A111_1, c111_1, e111, hx111_0, hx111_1, hl111_1, hi111_1⟩ := at_T65 HR1.out x5_1 p111 q111
         obtain rfl : ad109 = ad111 := (by injection e111)
         have HR111_1 := Aside0.mk hi111_1; have HC111_1 := Aside0.mk hl111_1; clear hi111_1 hl111_1; replace p111 := eq_true p111; replace q111 := eq_true q111; have ea_ := Option.some.inj (hx109_1.symm.trans hx111_1)
         injection ea_ with ea_ en_ ec_
         subst ea_; subst ec_; clear en_
         go_wp2_with (fail)
         repeat (go_quiet ((go_at_call 32; (with_reducible refine (thermographlaw17_same.calls k1 _ _ ((rd_T65 l0 x5_1).f1) _ _ ((rd_T65 l1 x5_1).f1) false _ ?side1 ?side2 ?side3 ?side4 A8.out).mono ?_); (case side1 => repeat (exact HR110_1.out)); (case side2 => exact HC110_1.out); (case side3 => repeat (exact HR111_1.out)); (case side4 => exact HC111_1.out); rintro e w' ⟨rfl, ⟨nd, rfl⟩⟩; (try exact ⟨rfl, _, Eq.trans (World.drewN_drewN _ _ _) (congrArg (World.drewN _) (Nat.add_assoc _ _ _))⟩))); try go_wp2_with (fail))
         go_ret; exact ⟨by rfl, by repeat (first | exact Drawn0.refl _ | apply Drawn0.step)⟩
       ·
        rw [if_neg c7] at H; have c7b0 : (((rd_T65 l0 x5_1).f0).toList == ((rd_T65 l1 x5_1).f0).toList) = false := beq_eq_false_iff_ne.mpr c7; obtain rfl := Option.some.inj H; have p108 : 0 ≤ (x5_1 : Int) := of_decide_eq_true (by with_reducible assumption); have q108 : x5_1 < (l0.length : Int) := of_decide_eq_true (by with_reducible assumption); obtain ⟨ad108, A108_1, c108_1, e108, hx108_0, hx108_1, hl108_1, hi108_1⟩ := at_T65 HR0.out x5_1 p108 q108; cases e108; clear hi108_1 hl108_1; replace p108 := eq_true p108; replace q108 := eq_true q108; have p109 : 0 ≤ (x5_1 : Int) := of_decide_eq_true (by with_reducible assumption); have q109 : x5_1 < (l1.length : Int) := of_decide_eq_true (by with_reducible assumption); obtain ⟨ad109, A109_1, c109_1, e109, hx109_0, hx109_1, hl109_1, hi109_1⟩ := at_T65 HR1.out x5_1 p109 q109; cases e109; clear hi109_1 hl109_1; replace p109 := eq_true p109; replace q109 := eq_true q109; go_wp2; repeat (go_quiet (fail); try go_wp2)
        go_ret; exact ⟨by rfl, by repeat (first | exact Drawn0.refl _ | apply Drawn0.step)⟩
      ·
       rw [if_neg c6] at H; exact absurd H (by simp)
     ·
      rw [if_neg c5] at H; exact absurd H (by simp)
    ·
     rw [if_neg c4] at H; have c4b0 : decide (x5_1 < (l0.length : Int)) = false := decide_eq_false c4; clear c4; obtain rfl := Option.some.inj H; go_wp2; go_ret; exact ⟨by rfl, by repeat (first | exact Drawn0.refl _ | apply Drawn0.step)⟩
 ·
  rw [if_neg c3] at H; have c3b1 : ((l0.length : Int) != (l1.length : Int)) = true := bne_iff_ne.mpr c3; obtain rfl := Option.some.inj H; go_enter Try.func19, Try.ntmps19
  go_wp2; go_ret; exact ⟨by rfl, by repeat (exact Drawn0.refl _)⟩
def merge_Cut.l0 : Nat → List (S42) → List (S42) → Int → Int → Int → Int → Option ((List (S42)))
 | 0, _, _, _, _, _, _ => none
 | k + 1, x5, x8, x9, x10, x114000, x114001 => if x10 < x9 then (if 0 ≤ x10 then (if x10 < (x8.length : Int) then (if x114000 ≤ ((rd_T42 x8 x10).f0) then (if ((rd_T42 x8 x10).f0) < x114001 then (if x5.length < 5864062014805 then (merge_Cut.l0 k (x5 ++ [(⟨(rd_T42 x8 x10).f0, (rd_T42 x8 x10).f1, (rd_T42 x8 x10).f2⟩ : S42)]) x8 x9 (wrap64 (x10 + 1)) x114000 x114001) else (none)) else (merge_Cut.l0 k x5 x8 x9 (wrap64 (x10 + 1)) x114000 x114001)) else (merge_Cut.l0 k x5 x8 x9 (wrap64 (x10 + 1)) x114000 x114001)) else (none)) else (none)) else (some x5)
def merge_Cut.f (k : Nat) (l0 : List (S42)) (a1_0 : Int) (a1_1 : Int) : Option ((List (S42))) := merge_Cut.l0 k ([] : List (S42)) l0 (l0.length : Int) 0 a1_0 a1_1
theorem merge_Cut.calls (k : Nat) (A0 : Option Addr) (c0 : Nat) (l0 : List (S42)) (a1_0 : Int) (a1_1 : Int) (r : List (S42)) (w : World) (hr0 : Kd.C k42 w A0 l0.length l0) (hc0 : l0.length ≤ c0) (h : merge_Cut.f k l0 a1_0 a1_1 = some r) :
  Calls Try.prog 35 #[.slice A0 l0.length c0, .agg #[.int .i64 a1_0, .int .i64 a1_1]] w fun e w' => ∃ v0_ : Value, e = .returned (v0_) ∧ Kd.R k42 42 w' w.heap.size (fun _ => True) v0_ r ∧ Below w.heap.size w w' := by
 have HR0 := Aside0.mk hr0; clear hr0 hc0; have HB := Aside0.mk (Below.refl w.heap.size w); have H : (merge_Cut.l0 k ([] : List (S42)) l0 (l0.length : Int) 0 a1_0 a1_1) = some r := h; clear h; have H' := Aside0.mk H; clear H; go_enter Try.func35, Try.ntmps35
 go_wp2_with (((with_reducible refine gate_dst (N := 3) rfl ?_); refine box_event ?hg (N := 3) ?hd (cs := #[.int .i64 a1_0, .int .i64 a1_1]) (t := 30) ?hr ?_; (case hd => rfl); (case hg => rfl); (case hr => go_simp; done); intro gb113 hg w3 hbox hb; have n0_ := Aside0.mk (below_step HB.out hb); have n1_ := Aside0.mk (hbox); have n2_ := Aside0.mk ((by rw [hg]; exact (below_size HB.out) : w.heap.size ≤ gb113)); have n3_ := Aside0.mk ((by rw [hg]; exact (below_size HB.out) : w.heap.size ≤ gb113)); clear HB; have HB := n0_; have BK113 := n1_; clear n0_ n1_ n2_ n3_; clear hb hbox hg))
 try go_frame
 go_loopg [5, 10] k (fun kq v5 v10 w' => ∃ (x5_1 : List (S42)) (x10_1 : Int), v10 = .int .i64 x10_1 ∧ Aside0 (merge_Cut.l0 kq x5_1 l0 (l0.length : Int) x10_1 a1_0 a1_1 = some r) ∧ Aside0 (kq ≤ k) ∧ Aside0 (Kd.R k42 42 w' w.heap.size (fun _ => True) v5 x5_1) ∧ Aside0 (w'.heap[gb113]? = some (.cells #[.int .i64 a1_0, .int .i64 a1_1] 30 (0, 0))) ∧ Aside0 (Below w.heap.size w w'))
 case atStart => exact ⟨(([] : List (S42))), (0), (by rfl), H', ⟨Nat.le_refl _⟩, ⟨by exact Kd.R_nil _ _ _ _ _⟩, ⟨BK113.out⟩, ⟨HB.out⟩⟩
 case round =>
  clear H'; obtain ⟨x5_1, x10_1, rfl, HA, HK1, HO_5, BK113, HB⟩ := hrel
  cases gk with
  | zero => exact absurd HA.out (by simp [merge_Cut.l0])
  | succ k1 =>
   have H := HA.out; clear HA; simp only [merge_Cut.l0] at H
   by_cases c4 : x10_1 < (l0.length : Int)
   ·
    rw [if_pos c4] at H; have c4b0 : decide (x10_1 < (l0.length : Int)) = true := decide_eq_true c4; clear c4
    by_cases c5 : 0 ≤ x10_1
    ·
     rw [if_pos c5] at H; have c5b0 : decide (0 ≤ x10_1) = true := decide_eq_true c5; clear c5
     by_cases c6 : x10_1 < (l0.length : Int)
     ·
      rw [if_pos c6] at H; have c6b0 : decide (x10_1 < (l0.length : Int)) = true := decide_eq_true c6; clear c6
      by_cases c7 : a1_0 ≤ ((rd_T42 l0 x10_1).f0)
      ·
       rw [if_pos c7] at H; have c7b0 : decide (a1_0 ≤ ((rd_T42 l0 x10_1).f0)) = true := decide_eq_true c7; clear c7
       by_cases c8 : ((rd_T42 l0 x10_1).f0) < a1_1
       ·
        rw [if_pos c8] at H; have c8b0 : decide (((rd_T42 l0 x10_1).f0) < a1_1) = true := decide_eq_true c8; clear c8
        by_cases c9 : x5_1.length < 5864062014805
        ·
         rw [if_pos c9] at H; have LMc9 := Aside0.mk c9; clear c9
         obtain ⟨y116, hy116⟩ : ∃ y_ : List (S42), y_ = (x5_1 ++ [(⟨(rd_T42 l0 x10_1).f0, (rd_T42 l0 x10_1).f1, (rd_T42 l0 x10_1).f2⟩ : S42)]) := ⟨_, rfl⟩
         replace H : (merge_Cut.l0 k1 y116 l0 (l0.length : Int) (wrap64 (x10_1 + 1)) a1_0 a1_1) = some r := by (rw [hy116]; with_reducible exact H)
         have Ny116 := Aside0.mk hy116; clear hy116; have H' := Aside0.mk H; clear H; have p114 : 0 ≤ (x10_1 : Int) := of_decide_eq_true (by with_reducible assumption); have q114 : x10_1 < (l0.length : Int) := of_decide_eq_true (by with_reducible assumption); obtain ⟨ad114, e114, hx114_0, hx114_1, hx114_2⟩ := at_T42 HR0.out x10_1 p114 q114; cases e114; replace hx114_0 := (HB.out.cell (World.block_lt_of_cell? w _ hx114_0)).trans hx114_0; replace hx114_1 := (HB.out.cell (World.block_lt_of_cell? w _ hx114_1)).trans hx114_1; replace hx114_2 := (HB.out.cell (World.block_lt_of_cell? w _ hx114_2)).trans hx114_2; replace p114 := eq_true p114; replace q114 := eq_true q114
         go_wp2_with (first | ((with_reducible refine gate_dst (N := 7) rfl ?_); refine box_event ?hg (N := 7) ?hd (cs := #[.int .i64 0, .int .u64 0, .int .u64 0]) (t := 42) ?hr ?_; (case hd => rfl); (case hg => rfl); (case hr => go_simp; done); intro gb115 hg w10 hbox hb; have n0_ := Aside0.mk (Kd.R_below (Kd.R_elderB HO_5.out gb115 (Nat.le_of_eq hg.symm)) hb); have n1_ := Aside0.mk (blk_below (g := gb113) (o := .cells #[.int .i64 a1_0, .int .i64 a1_1] 30 (0, 0)) BK113.out hb); have n2_ := Aside0.mk (below_step HB.out hb); have n3_ := Aside0.mk (hbox); have n5_ := Aside0.mk ((by rw [hg]; exact (below_size HB.out) : w.heap.size ≤ gb115)); have n6_ := Aside0.mk ((by rw [hg]; exact Nat.ne_of_lt (blk_lt (g := gb113) (o := .cells #[.int .i64 a1_0, .int .i64 a1_1] 30 (0, 0)) BK113.out) : gb113 ≠ gb115)); have n7_ := Aside0.mk ((by rw [hg]; exact Nat.ne_of_gt (blk_lt (g := gb113) (o := .cells #[.int .i64 a1_0, .int .i64 a1_1] 30 (0, 0)) BK113.out) : gb115 ≠ gb113)); clear HO_5; clear BK113; clear HB; have HO_5 := n0_; have BK113 := n1_; have HB := n2_; have BK115 := n3_; have GE115 := n5_; have NB113_115 := n6_; have NB115_113 := n7_; clear n0_ n1_ n2_ n3_ n5_ n6_ n7_; clear hb hbox hg; have hnc11 := NB113_115.out; have hcz12_0 : w10.cell? ⟨gb115, 0, none⟩ = some (.int .i64 0) := (blk_cell BK115.out 0).trans rfl; have hcz12_1 : w10.cell? ⟨gb115, 1, none⟩ = some (.int .u64 0) := (blk_cell BK115.out 1).trans rfl; have hcz12_2 : w10.cell? ⟨gb115, 2, none⟩ = some (.int .u64 0) := (blk_cell BK115.out 2).trans rfl; have hfz12_0 := blk_frozen BK115.out 0; have hfz12_1 := blk_frozen BK115.out 1; have hfz12_2 := blk_frozen BK115.out 2; have hcz13_0 : w10.cell? ⟨gb113, 0, none⟩ = some (.int .i64 a1_0) := (blk_cell BK113.out 0).trans rfl; have hcz13_1 : w10.cell? ⟨gb113, 1, none⟩ = some (.int .i64 a1_1) := (blk_cell BK113.out 1).trans rfl) | ((with_reducible refine gate_builtin (b := .append) (xs := #[.tmp 26, .tmp 28]) rfl ?_); at_builtin; refine Kd.R_append k42 (w0 := w) w.heap.size rfl (.tmp 26) (.tmp 28) 44 42 (.agg #[(.int .i64 0), (.int .u64 0), (.int .u64 0)]) 24 rfl Try.underlying44 info42 rfl (by decide) (by omega) u5 x5_1 (⟨(rd_T42 l0 x10_1).f0, (rd_T42 l0 x10_1).f1, (rd_T42 l0 x10_1).f2⟩ : S42) [.int .i64 ((rd_T42 l0 x10_1).f0), .int .u64 ((rd_T42 l0 x10_1).f1), .int .u64 ((rd_T42 l0 x10_1).f2)] (fun k_ => k_ ≠ gb115) (fun _ => False) rfl (by (go_simp; done)) ?aP (fun _ hk => hk.elim) ?aF ?aO ?aB ?aS ?aL ?_; (case aP => exact k42_mkM _ _ _ (⟨(rd_T42 l0 x10_1).f0, (rd_T42 l0 x10_1).f1, (rd_T42 l0 x10_1).f2⟩ : S42)); (case aB => exact (by repeat ((with_reducible first | exact HB.out | refine below_set ?_ GE115.out)))); (case aF => exact (fun k_ hk => Kd.freshB (g := gb115) (o := .cells #[.int .i64 ((rd_T42 l0 x10_1).f0), .int .u64 ((rd_T42 l0 x10_1).f1), .int .u64 ((rd_T42 l0 x10_1).f2)] 42 (0, 0)) (by refine blk_put (cs := #[.int .i64 ((rd_T42 l0 x10_1).f0), .int .u64 ((rd_T42 l0 x10_1).f1), .int .u64 0]) ?_ 2 _ rfl; refine blk_put (cs := #[.int .i64 ((rd_T42 l0 x10_1).f0), .int .u64 0, .int .u64 0]) ?_ 1 _ rfl; refine blk_put (cs := #[.int .i64 0, .int .u64 0, .int .u64 0]) ?_ 0 _ rfl; exact BK115.out) k_ hk)); (case aO => exact (by exact Kd.R_mono (Kd.R_far (p := ⟨gb115, 2, none⟩) (Kd.R_far (p := ⟨gb115, 1, none⟩) (Kd.R_far (p := ⟨gb115, 0, none⟩) (Kd.R_mono HO_5.out (fun k_ hk => (⟨hk, hk.2⟩ : _ ∧ k_ ≠ gb115))) (fun _ hk => hk.2) (.int .i64 ((rd_T42 l0 x10_1).f0))) (fun _ hk => hk.2) (.int .u64 ((rd_T42 l0 x10_1).f1))) (fun _ hk => hk.2) (.int .u64 ((rd_T42 l0 x10_1).f2))) (fun _ hk => hk.1.2))); (case aS => exact (below_size (by repeat ((with_reducible first | exact HB.out | refine below_set ?_ GE115.out))))); (case aL => have := LMc9.out; omega); intro v117 w14 ho hb hg hat; rw [← Ny116.out] at ho; have n0_ := Aside0.mk (blk_grown (g := gb113) (o := .cells #[.int .i64 a1_0, .int .i64 a1_1] 30 (0, 0)) (by refine blk_far ?_ NB113_115.out _; refine blk_far ?_ NB113_115.out _; refine blk_far ?_ NB113_115.out _; exact BK113.out) hg (Kd.R_ne HO_5.out BK113.out (by decide))); have n1_ := Aside0.mk (blk_grown (g := gb115) (o := .cells #[.int .i64 ((rd_T42 l0 x10_1).f0), .int .u64 ((rd_T42 l0 x10_1).f1), .int .u64 ((rd_T42 l0 x10_1).f2)] 42 (0, 0)) (by refine blk_put (cs := #[.int .i64 ((rd_T42 l0 x10_1).f0), .int .u64 ((rd_T42 l0 x10_1).f1), .int .u64 0]) ?_ 2 _ rfl; refine blk_put (cs := #[.int .i64 ((rd_T42 l0 x10_1).f0), .int .u64 0, .int .u64 0]) ?_ 1 _ rfl; refine blk_put (cs := #[.int .i64 0, .int .u64 0, .int .u64 0]) ?_ 0 _ rfl; exact BK115.out) hg (Kd.R_away HO_5.out (fun _ hk => hk.2))); have n2_ := Aside0.mk (hb); have n3_ := Aside0.mk (ho); clear BK113; clear BK115; clear HB; clear HO_5; have BK113 := n0_; have BK115 := n1_; have HB := n2_; have HO118 := n3_; clear n0_ n1_ n2_ n3_; clear ho hb hg hat))
         go_roundg k1
         case measure => have := HK1.out; omega
         case rel => exact ⟨(y116), (wrap64 (x10_1 + 1)), (by rfl), H', ⟨by have := HK1.out; omega⟩, ⟨by exact Kd.R_mono HO118.out (fun _ hk => trivial)⟩, ⟨BK113.out⟩, ⟨HB.out⟩⟩
        ·
         rw [if_neg c9] at H; exact absurd H (by simp)
       ·
        rw [if_neg c8] at H; have c8b0 : decide (((rd_T42 l0 x10_1).f0) < a1_1) = false := decide_eq_false c8; clear c8; have H' := Aside0.mk H; clear H; have p114 : 0 ≤ (x10_1 : Int) := of_decide_eq_true (by with_reducible assumption); have q114 : x10_1 < (l0.length : Int) := of_decide_eq_true (by with_reducible assumption); obtain ⟨ad114, e114, hx114_0, hx114_1, hx114_2⟩ := at_T42 HR0.out x10_1 p114 q114; cases e114; replace hx114_0 := (HB.out.cell (World.block_lt_of_cell? w _ hx114_0)).trans hx114_0; replace hx114_1 := (HB.out.cell (World.block_lt_of_cell? w _ hx114_1)).trans hx114_1; replace hx114_2 := (HB.out.cell (World.block_lt_of_cell? w _ hx114_2)).trans hx114_2; replace p114 := eq_true p114; replace q114 := eq_true q114
        go_wp2_with (((with_reducible refine gate_dst (N := 7) rfl ?_); refine box_event ?hg (N := 7) ?hd (cs := #[.int .i64 0, .int .u64 0, .int .u64 0]) (t := 42) ?hr ?_; (case hd => rfl); (case hg => rfl); (case hr => go_simp; done); intro gb115 hg w15 hbox hb; have n0_ := Aside0.mk (Kd.R_below (Kd.R_elderB HO_5.out gb115 (Nat.le_of_eq hg.symm)) hb); have n1_ := Aside0.mk (blk_below (g := gb113) (o := .cells #[.int .i64 a1_0, .int .i64 a1_1] 30 (0, 0)) BK113.out hb); have n2_ := Aside0.mk (below_step HB.out hb); have n3_ := Aside0.mk (hbox); have n5_ := Aside0.mk ((by rw [hg]; exact (below_size HB.out) : w.heap.size ≤ gb115)); have n6_ := Aside0.mk ((by rw [hg]; exact Nat.ne_of_lt (blk_lt (g := gb113) (o := .cells #[.int .i64 a1_0, .int .i64 a1_1] 30 (0, 0)) BK113.out) : gb113 ≠ gb115)); have n7_ := Aside0.mk ((by rw [hg]; exact Nat.ne_of_gt (blk_lt (g := gb113) (o := .cells #[.int .i64 a1_0, .int .i64 a1_1] 30 (0, 0)) BK113.out) : gb115 ≠ gb113)); clear HO_5; clear BK113; clear HB; have HO_5 := n0_; have BK113 := n1_; have HB := n2_; have BK115 := n3_; have GE115 := n5_; have NB113_115 := n6_; have NB115_113 := n7_; clear n0_ n1_ n2_ n3_ n5_ n6_ n7_; clear hb hbox hg; have hnc16 := NB113_115.out; have hcz17_0 : w15.cell? ⟨gb115, 0, none⟩ = some (.int .i64 0) := (blk_cell BK115.out 0).trans rfl; have hcz17_1 : w15.cell? ⟨gb115, 1, none⟩ = some (.int .u64 0) := (blk_cell BK115.out 1).trans rfl; have hcz17_2 : w15.cell? ⟨gb115, 2, none⟩ = some (.int .u64 0) := (blk_cell BK115.out 2).trans rfl; have hfz17_0 := blk_frozen BK115.out 0; have hfz17_1 := blk_frozen BK115.out 1; have hfz17_2 := blk_frozen BK115.out 2; have hcz18_0 : w15.cell? ⟨gb113, 0, none⟩ = some (.int .i64 a1_0) := (blk_cell BK113.out 0).trans rfl; have hcz18_1 : w15.cell? ⟨gb113, 1, none⟩ = some (.int .i64 a1_1) := (blk_cell BK113.out 1).trans rfl))
        go_roundg k1
        case measure => have := HK1.out; omega
        case rel => exact ⟨(x5_1), (wrap64 (x10_1 + 1)), (by rfl), H', ⟨by have := HK1.out; omega⟩, ⟨by exact Kd.R_mono (Kd.R_far (p := ⟨gb115, 2, none⟩) (Kd.R_far (p := ⟨gb115, 1, none⟩) (Kd.R_far (p := ⟨gb115, 0, none⟩) (Kd.R_mono HO_5.out (fun k_ hk => (⟨hk, hk.2⟩ : _ ∧ k_ ≠ gb115))) (fun _ hk => hk.2) (.int .i64 ((rd_T42 l0 x10_1).f0))) (fun _ hk => hk.2) (.int .u64 ((rd_T42 l0 x10_1).f1))) (fun _ hk => hk.2) (.int .u64 ((rd_T42 l0 x10_1).f2))) (fun _ hk => trivial)⟩, ⟨by refine blk_far ?_ NB113_115.out _; refine blk_far ?_ NB113_115.out _; refine blk_far ?_ NB113_115.out _; exact BK113.out⟩, ⟨by repeat ((with_reducible first | exact HB.out | refine below_set ?_ GE115.out))⟩⟩
      ·
       rw [if_neg c7] at H; have c7b0 : decide (a1_0 ≤ ((rd_T42 l0 x10_1).f0)) = false := decide_eq_false c7; clear c7; have H' := Aside0.mk H; clear H; have p114 : 0 ≤ (x10_1 : Int) := of_decide_eq_true (by with_reducible assumption); have q114 : x10_1 < (l0.length : Int) := of_decide_eq_true (by with_reducible assumption); obtain ⟨ad114, e114, hx114_0, hx114_1, hx114_2⟩ := at_T42 HR0.out x10_1 p114 q114; cases e114; replace hx114_0 := (HB.out.cell (World.block_lt_of_cell? w _ hx114_0)).trans hx114_0; replace hx114_1 := (HB.out.cell (World.block_lt_of_cell? w _ hx114_1)).trans hx114_1; replace hx114_2 := (HB.out.cell (World.block_lt_of_cell? w _ hx114_2)).trans hx114_2; replace p114 := eq_true p114; replace q114 := eq_true q114
       go_wp2_with (((with_reducible refine gate_dst (N := 7) rfl ?_); refine box_event ?hg (N := 7) ?hd (cs := #[.int .i64 0, .int .u64 0, .int .u64 0]) (t := 42) ?hr ?_; (case hd => rfl); (case hg => rfl); (case hr => go_simp; done); intro gb115 hg w19 hbox hb; have n0_ := Aside0.mk (Kd.R_below (Kd.R_elderB HO_5.out gb115 (Nat.le_of_eq hg.symm)) hb); have n1_ := Aside0.mk (blk_below (g := gb113) (o := .cells #[.int .i64 a1_0, .int .i64 a1_1] 30 (0, 0)) BK113.out hb); have n2_ := Aside0.mk (below_step HB.out hb); have n3_ := Aside0.mk (hbox); have n5_ := Aside0.mk ((by rw [hg]; exact (below_size HB.out) : w.heap.size ≤ gb115)); have n6_ := Aside0.mk ((by rw [hg]; exact Nat.ne_of_lt (blk_lt (g := gb113) (o := .cells #[.int .i64 a1_0, .int .i64 a1_1] 30 (0, 0)) BK113.out) : gb113 ≠ gb115)); have n7_ := Aside0.mk ((by rw [hg]; exact Nat.ne_of_gt (blk_lt (g := gb113) (o := .cells #[.int .i64 a1_0, .int .i64 a1_1] 30 (0, 0)) BK113.out) : gb115 ≠ gb113)); clear HO_5; clear BK113; clear HB; have HO_5 := n0_; have BK113 := n1_; have HB := n2_; have BK115 := n3_; have GE115 := n5_; have NB113_115 := n6_; have NB115_113 := n7_; clear n0_ n1_ n2_ n3_ n5_ n6_ n7_; clear hb hbox hg; have hnc20 := NB113_115.out; have hcz21_0 : w19.cell? ⟨gb115, 0, none⟩ = some (.int .i64 0) := (blk_cell BK115.out 0).trans rfl; have hcz21_1 : w19.cell? ⟨gb115, 1, none⟩ = some (.int .u64 0) := (blk_cell BK115.out 1).trans rfl; have hcz21_2 : w19.cell? ⟨gb115, 2, none⟩ = some (.int .u64 0) := (blk_cell BK115.out 2).trans rfl; have hfz21_0 := blk_frozen BK115.out 0; have hfz21_1 := blk_frozen BK115.out 1; have hfz21_2 := blk_frozen BK115.out 2; have hcz22_0 : w19.cell? ⟨gb113, 0, none⟩ = some (.int .i64 a1_0) := (blk_cell BK113.out 0).trans rfl))
       go_roundg k1
       case measure => have := HK1.out; omega
       case rel => exact ⟨(x5_1), (wrap64 (x10_1 + 1)), (by rfl), H', ⟨by have := HK1.out; omega⟩, ⟨by exact Kd.R_mono (Kd.R_far (p := ⟨gb115, 2, none⟩) (Kd.R_far (p := ⟨gb115, 1, none⟩) (Kd.R_far (p := ⟨gb115, 0, none⟩) (Kd.R_mono HO_5.out (fun k_ hk => (⟨hk, hk.2⟩ : _ ∧ k_ ≠ gb115))) (fun _ hk => hk.2) (.int .i64 ((rd_T42 l0 x10_1).f0))) (fun _ hk => hk.2) (.int .u64 ((rd_T42 l0 x10_1).f1))) (fun _ hk => hk.2) (.int .u64 ((rd_T42 l0 x10_1).f2))) (fun _ hk => trivial)⟩, ⟨by refine blk_far ?_ NB113_115.out _; refine blk_far ?_ NB113_115.out _; refine blk_far ?_ NB113_115.out _; exact BK113.out⟩, ⟨by repeat ((with_reducible first | exact HB.out | refine below_set ?_ GE115.out))⟩⟩
     ·
      rw [if_neg c6] at H; exact absurd H (by simp)
    ·
     rw [if_neg c5] at H; exact absurd H (by simp)
   ·
    rw [if_neg c4] at H; have c4b0 : decide (x10_1 < (l0.length : Int)) = false := decide_eq_false c4; clear c4; obtain rfl := Option.some.inj H; go_wp2; go_ret; exact ⟨_, by rfl, by exact HO_5.out, by repeat ((with_reducible exact HB.out))⟩
mutual
def tsz_Check.l0 : Nat → Int → List (S42) → Int → Int → Option (Int)
 | 0, _, _, _, _ => none
 | k + 1, x3, x9, x10, x11 => if x11 < x10 then (if 0 ≤ x11 then (if x11 < (x9.length : Int) then (if ((rd_T42 x9 x11).f0) < 0 then (tsz_Check.j1 k x3 x9 x10 x11 true ((rd_T42 x9 x11).f0) ((rd_T42 x9 x11).f1) ((rd_T42 x9 x11).f2)) else (tsz_Check.j1 k x3 x9 x10 x11 (decide (((rd_T42 x9 x11).f0) > 1099511627776)) ((rd_T42 x9 x11).f0) ((rd_T42 x9 x11).f1) ((rd_T42 x9 x11).f2))) else (none)) else (none)) else (some 0)
def tsz_Check.j1 : Nat → Int → List (S42) → Int → Int → Bool → Int → Int → Int → Option (Int)
 | 0, _, _, _, _, _, _, _, _ => none
 | k + 1, x3, x9, x10, x11, x15, x121000, x121001, x121002 => if x15 = true then (some 1) else (if x121000 ≤ x3 then (some 51) else (tsz_Check.l0 k x121000 x9 x10 (wrap64 (x11 + 1))))
end
def tsz_Check.f (k : Nat) (l0 : List (S42)) : Option (Int) := if (l0.length : Int) > 512 then (some 52) else (tsz_Check.l0 k (-1) l0 (l0.length : Int) 0)
theorem tsz_Check.calls (k : Nat) (A0 : Option Addr) (c0 : Nat) (l0 : List (S42)) (r : Int) (w : World) (hr0 : Kd.C k42 w A0 l0.length l0) (hc0 : l0.length ≤ c0) (h : tsz_Check.f k l0 = some r) :
  Calls Try.prog 62 #[.slice A0 l0.length c0] w fun e w' => e = .returned (.int .i64 r) ∧ Below w.heap.size w w' := by
 have HR0 := Aside0.mk hr0; clear hr0 hc0; have HB := Aside0.mk (Below.refl w.heap.size w); have H : (if (l0.length : Int) > 512 then (some 52) else (tsz_Check.l0 k (-1) l0 (l0.length : Int) 0)) = some r := h; clear h
 by_cases c2 : (l0.length : Int) > 512
 ·
  rw [if_pos c2] at H; have c2b0 : decide (512 < (l0.length : Int)) = true := decide_eq_true c2; clear c2; obtain rfl := Option.some.inj H; go_enter Try.func62, Try.ntmps62
  go_wp2; go_ret; exact ⟨by rfl, by repeat ((with_reducible exact HB.out))⟩
 ·
  rw [if_neg c2] at H; have c2b0 : decide (512 < (l0.length : Int)) = false := decide_eq_false c2; clear c2; have H' := Aside0.mk H; clear H; go_enter Try.func62, Try.ntmps62
  go_wp2; go_loopg [3, 11] k (fun kq v3 v11 w' => ∃ (x3_1 : Int) (x11_1 : Int), v3 = .int .i64 x3_1 ∧ v11 = .int .i64 x11_1 ∧ Aside0 (tsz_Check.l0 kq x3_1 l0 (l0.length : Int) x11_1 = some r) ∧ Aside0 (kq ≤ k) ∧ Aside0 (Below w.heap.size w w'))
  case atStart => exact ⟨((-1)), (0), (by rfl), (by rfl), H', ⟨Nat.le_refl _⟩, ⟨HB.out⟩⟩
  case round =>
   clear H'; try clear c2b0
   obtain ⟨x3_1, x11_1, rfl, rfl, HA, HK1, HB⟩ := hrel
   cases gk with
   | zero => exact absurd HA.out (by simp [tsz_Check.l0])
   | succ k1 =>
    have H := HA.out; clear HA; simp only [tsz_Check.l0] at H
    by_cases c3 : x11_1 < (l0.length : Int)
    ·
     rw [if_pos c3] at H; have c3b0 : decide (x11_1 < (l0.length : Int)) = true := decide_eq_true c3; clear c3
     by_cases c4 : 0 ≤ x11_1
     ·
      rw [if_pos c4] at H; have c4b0 : decide (0 ≤ x11_1) = true := decide_eq_true c4; clear c4
      by_cases c5 : x11_1 < (l0.length : Int)
      ·
       rw [if_pos c5] at H; have c5b0 : decide (x11_1 < (l0.length : Int)) = true := decide_eq_true c5; clear c5; have HC6 := Aside0.mk H; clear H; have p119 : 0 ≤ (x11_1 : Int) := of_decide_eq_true (by with_reducible assumption); have q119 : x11_1 < (l0.length : Int) := of_decide_eq_true (by with_reducible assumption); obtain ⟨ad119, e119, hx119_0, hx119_1, hx119_2⟩ := at_T42 HR0.out x11_1 p119 q119; cases e119; replace hx119_0 := (HB.out.cell (World.block_lt_of_cell? w _ hx119_0)).trans hx119_0; replace hx119_1 := (HB.out.cell (World.block_lt_of_cell? w _ hx119_1)).trans hx119_1; replace hx119_2 := (HB.out.cell (World.block_lt_of_cell? w _ hx119_2)).trans hx119_2; replace p119 := eq_true p119; replace q119 := eq_true q119
       go_upto_region 7 with (((with_reducible refine gate_dst (N := 5) rfl ?_); refine box_event ?hg (N := 5) ?hd (cs := #[.int .i64 0, .int .u64 0, .int .u64 0]) (t := 42) ?hr ?_; (case hd => rfl); (case hg => rfl); (case hr => go_simp; done); intro gb120 hg w7 hbox hb; have n0_ := Aside0.mk (below_step HB.out hb); have n1_ := Aside0.mk (hbox); have n3_ := Aside0.mk ((by rw [hg]; exact (below_size HB.out) : w.heap.size ≤ gb120)); clear HB; have HB := n0_; have BK120 := n1_; have GE120 := n3_; clear n0_ n1_ n3_; clear hb hbox hg; have hcz8_0 : w7.cell? ⟨gb120, 0, none⟩ = some (.int .i64 0) := (blk_cell BK120.out 0).trans rfl; have hcz8_1 : w7.cell? ⟨gb120, 1, none⟩ = some (.int .u64 0) := (blk_cell BK120.out 1).trans rfl; have hcz8_2 : w7.cell? ⟨gb120, 2, none⟩ = some (.int .u64 0) := (blk_cell BK120.out 2).trans rfl; have hfz8_0 := blk_frozen BK120.out 0; have hfz8_1 := blk_frozen BK120.out 1; have hfz8_2 := blk_frozen BK120.out 2))
       (try simp only [Act.put, List.setIfInBounds_toArray, List.set_cons_zero, List.set_cons_succ])
       go_cut [15] (fun v15 wc => ∃ (kq : Nat) (x15_5 : Bool), v15 = .bool x15_5 ∧ Aside0 (tsz_Check.j1 kq x3_1 l0 (l0.length : Int) x11_1 x15_5 ((rd_T42 l0 x11_1).f0) ((rd_T42 l0 x11_1).f1) ((rd_T42 l0 x11_1).f2) = some r) ∧ Aside0 (kq ≤ k1) ∧ Aside0 (wc.heap[gb120]? = some (.cells #[.int .i64 ((rd_T42 l0 x11_1).f0), .int .u64 ((rd_T42 l0 x11_1).f1), .int .u64 ((rd_T42 l0 x11_1).f2)] 42 (0, 0))) ∧ Aside0 (Below w.heap.size w wc))
       case first =>
        have H := HC6.out; clear HC6
        by_cases c9 : ((rd_T42 l0 x11_1).f0) < 0
        ·
         rw [if_pos c9] at H; have c9b0 : decide (((rd_T42 l0 x11_1).f0) < 0) = true := decide_eq_true c9; clear c9
         ((skip))
         have H' := Aside0.mk H; clear H; go_wp2; go_meet
         case rel => exact ⟨_, (true), (by rfl), H', ⟨by have := HK1.out; omega⟩, ⟨by refine blk_put (cs := #[.int .i64 ((rd_T42 l0 x11_1).f0), .int .u64 ((rd_T42 l0 x11_1).f1), .int .u64 0]) ?_ 2 _ rfl; refine blk_put (cs := #[.int .i64 ((rd_T42 l0 x11_1).f0), .int .u64 0, .int .u64 0]) ?_ 1 _ rfl; refine blk_put (cs := #[.int .i64 0, .int .u64 0, .int .u64 0]) ?_ 0 _ rfl; exact BK120.out⟩, ⟨by repeat ((with_reducible first | exact HB.out | refine below_set ?_ GE120.out))⟩⟩
        ·
         rw [if_neg c9] at H; have c9b0 : decide (((rd_T42 l0 x11_1).f0) < 0) = false := decide_eq_false c9; clear c9
         ((skip))
         have H' := Aside0.mk H; clear H; go_wp2; go_meet
         case rel => exact ⟨_, (decide (((rd_T42 l0 x11_1).f0) > 1099511627776)), (by rfl), H', ⟨by have := HK1.out; omega⟩, ⟨by refine blk_put (cs := #[.int .i64 ((rd_T42 l0 x11_1).f0), .int .u64 ((rd_T42 l0 x11_1).f1), .int .u64 0]) ?_ 2 _ rfl; refine blk_put (cs := #[.int .i64 ((rd_T42 l0 x11_1).f0), .int .u64 0, .int .u64 0]) ?_ 1 _ rfl; refine blk_put (cs := #[.int .i64 0, .int .u64 0, .int .u64 0]) ?_ 0 _ rfl; exact BK120.out⟩, ⟨by repeat ((with_reducible first | exact HB.out | refine below_set ?_ GE120.out))⟩⟩
       case rest =>
        clear HC6; try clear c3b0
        try clear c4b0
        try clear c5b0
        try clear hcz8_0
        try clear hcz8_1
        try clear hcz8_2
        try clear hfz8_0
        try clear hfz8_1
        try clear hfz8_2
        try clear hx119_0
        try clear hx119_1
        try clear hx119_2
        try clear p119
        try clear q119
        obtain ⟨kq, x15_5, rfl, HA, HJ5, BK120, HB⟩ := hcut
        cases kq with
        | zero => exact absurd HA.out (by simp [tsz_Check.j1])
        | succ kj5 =>
         have H := HA.out; clear HA; simp only [tsz_Check.j1] at H
         by_cases c12 : x15_5 = true
         ·
          subst c12; have H1 : (some 1) = some r := by rw [if_pos rfl] at H; exact H
          clear H; have H := H1; clear H1; obtain rfl := Option.some.inj H; go_wp2; go_ret; exact ⟨by rfl, by repeat ((with_reducible exact HB.out))⟩
         ·
          replace c12 := Bool.eq_false_iff.mpr c12; subst c12; have H1 : (if ((rd_T42 l0 x11_1).f0) ≤ x3_1 then (some 51) else (tsz_Check.l0 kj5 ((rd_T42 l0 x11_1).f0) l0 (l0.length : Int) (wrap64 (x11_1 + 1)))) = some r := by rw [if_neg (show ¬ (false = true) by decide)] at H; exact H
          clear H; have H := H1; clear H1
          by_cases c13 : ((rd_T42 l0 x11_1).f0) ≤ x3_1
          ·
           rw [if_pos c13] at H; have c13b0 : decide (((rd_T42 l0 x11_1).f0) ≤ x3_1) = true := decide_eq_true c13; clear c13; obtain rfl := Option.some.inj H; have hcz14_0 : wc.cell? ⟨gb120, 0, none⟩ = some (.int .i64 ((rd_T42 l0 x11_1).f0)) := (blk_cell BK120.out 0).trans rfl; go_wp2; go_ret; exact ⟨by rfl, by repeat ((with_reducible exact HB.out))⟩
          ·
           rw [if_neg c13] at H; have c13b0 : decide (((rd_T42 l0 x11_1).f0) ≤ x3_1) = false := decide_eq_false c13; clear c13; have H' := Aside0.mk H; clear H; have hcz15_0 : wc.cell? ⟨gb120, 0, none⟩ = some (.int .i64 ((rd_T42 l0 x11_1).f0)) := (blk_cell BK120.out 0).trans rfl; go_wp2; go_roundg kj5
           case measure => have := HK1.out; have := HJ5.out; omega
           case rel => exact ⟨(((rd_T42 l0 x11_1).f0)), (wrap64 (x11_1 + 1)), (by rfl), (by rfl), H', ⟨by have := HK1.out; have := HJ5.out; omega⟩, ⟨HB.out⟩⟩
      ·
       rw [if_neg c5] at H; exact absurd H (by simp)
     ·
      rw [if_neg c4] at H; exact absurd H (by simp)
    ·
     rw [if_neg c3] at H; have c3b0 : decide (x11_1 < (l0.length : Int)) = false := decide_eq_false c3; clear c3; obtain rfl := Option.some.inj H; go_wp2; go_ret; exact ⟨by rfl, by repeat ((with_reducible exact HB.out))⟩
end Go.Proofs.Ytgagcimfkmegnaa.QT
