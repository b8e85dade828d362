/- slices.Grow(nil, n) at Points: an empty row of the call's own. -/
import Derived.Shelf.SlIter.Nil
import Derived.Shelf.SortM.Plain
import Derived.Shelf.SortM.SortNone
import Derived.Test.YtgagcimfkmegnaaPSt
section
set_option maxHeartbeats 8000000
set_option maxRecDepth 100000
namespace Go.Proofs.Ytgagcimfkmegnaa.QP
open Go.Proofs.Ytgagcimfkmegnaa.QT
open Go.RowKit Go.Proofs.YtgagcimfkmegnaaW.PrintWords Go.Proofs.YtgagcimfkmegnaaW.PrintLast Go.Proofs.YtgagcimfkmegnaaW.PrintMore
attribute [local go_sem] max2_int min2_int max_two min_two max_three min_three max_four min_four   -- for this text's walks alone
set_option linter.unusedVariables false
set_option linter.unusedSimpArgs false
def thermographref06_Cut.l0 : Nat → List (S42) → List (S42) → Int → Int → Int → Option ((List (S42)))
 | 0, _, _, _, _, _ => none
 | k + 1, x0, x5, x6, x102000, x102001 => if x6 < (x0.length : Int) then (if 0 ≤ x6 then (if ((rd_T42 x0 x6).f0) ≥ x102000 then (if ((rd_T42 x0 x6).f0) < x102001 then (if x5.length < 5864062014805 then (thermographref06_Cut.l0 k x0 (x5 ++ [(⟨(rd_T42 x0 x6).f0, (rd_T42 x0 x6).f1, (rd_T42 x0 x6).f2⟩ : S42)]) (wrap64 (x6 + 1)) x102000 x102001) else (none)) else (thermographref06_Cut.l0 k x0 x5 (wrap64 (x6 + 1)) x102000 x102001)) else (thermographref06_Cut.l0 k x0 x5 (wrap64 (x6 + 1)) x102000 x102001)) else (none)) else (some x5)
def thermographref06_Cut.f (k : Nat) (l0 : List (S42)) (a1_0 : Int) (a1_1 : Int) : Option ((List (S42))) := thermographref06_Cut.l0 k l0 (([] : List (S42))) 0 a1_0 a1_1
theorem thermographref06_Cut.calls (k : Nat) (A0 : Option Addr) (c0 : Nat) (l0 : List (S42)) (a1_0 : Int) (a1_1 : Int) (r : List (S42)) (w : World) (hr0 : Kd.C k42 w A0 l0.length l0) (hc0 : l0.length ≤ c0) (h : thermographref06_Cut.f k l0 a1_0 a1_1 = some r) :
  Calls Try.prog 38 #[.slice A0 l0.length c0, .agg #[.int .i64 a1_0, .int .i64 a1_1]] w fun e w' => ∃ v0_ : Value, e = .returned (v0_) ∧ Kd.R k42 42 w' w.heap.size (fun _ => True) v0_ r ∧ Below w.heap.size w w' := by
 have HR0 := Aside0.mk hr0; clear hr0 hc0; have HB := Aside0.mk (Below.refl w.heap.size w); have H : (thermographref06_Cut.l0 k l0 (([] : List (S42))) 0 a1_0 a1_1) = some r := h; clear h
 obtain ⟨y102, hy102⟩ : ∃ y_ : List (S42), y_ = (([] : List (S42))) := ⟨_, rfl⟩
 replace H : (thermographref06_Cut.l0 k l0 y102 0 a1_0 a1_1) = some r := by (rw [hy102]; with_reducible exact H)
 have Ny102 := Aside0.mk hy102; clear hy102; have H' := Aside0.mk H; clear H; go_enter Try.func38, Try.ntmps38
 go_wp2_with (first | ((with_reducible refine gate_dst (N := 3) rfl ?_); refine box_event ?hg (N := 3) ?hd (cs := #[.int .i64 a1_0, .int .i64 a1_1]) (t := 30) ?hr ?_; (case hd => rfl); (case hg => rfl); (case hr => go_simp; done); intro gb101 hg w3 hbox hb; have n0_ := Aside0.mk (below_step HB.out hb); have n1_ := Aside0.mk (hbox); have n2_ := Aside0.mk ((by rw [hg]; exact (below_size HB.out) : w.heap.size ≤ gb101)); clear HB; have HB := n0_; have BK101 := n1_; clear n0_ n1_ n2_ ; clear hb hbox hg) | ((with_reducible refine gate_dst (N := 7) rfl ?_); refine Kd.R_lit k42 _ 42 ?hg (N := 7) ?hd (xs := ([] : List (S42))) (inner := []) (ok := fun _ => True) (okp := fun _ => True) ?hr ?hp (fun _ hk => hk) trivial (Below.refl _ _) (Nat.le_refl _) (by simp) ?_; (case hd => rfl); (case hg => rfl); (case hr => go_simp; done); (case hp => exact (Reps.none _ _)); intro v103 w4 ho5 hb hg_ hnew_; clear hg_ hnew_; ((rw [← Ny102.out] at ho5)); have n0_ := Aside0.mk (Kd.R_lower ho5 (below_size HB.out)); have n1_ := Aside0.mk (blk_below (g := gb101) (o := .cells #[.int .i64 a1_0, .int .i64 a1_1] 30 (0, 0)) BK101.out hb); have n2_ := Aside0.mk (below_step HB.out hb); clear BK101; clear HB; have HO104 := n0_; have BK101 := n1_; have HB := n2_; clear n0_ n1_ n2_; clear hb ho5))
 try go_frame
 go_loopg [5, 6] k (fun kq v5 v6 w' => ∃ (x5_1 : List (S42)) (x6_1 : Int), v6 = .int .i64 x6_1 ∧ Aside0 (thermographref06_Cut.l0 kq l0 x5_1 x6_1 a1_0 a1_1 = some r) ∧ Aside0 (kq ≤ k) ∧ Aside0 (Kd.R k42 42 w' w.heap.size (fun _ => True) v5 x5_1) ∧ Aside0 (w'.heap[gb101]? = some (.cells #[.int .i64 a1_0, .int .i64 a1_1] 30 (0, 0))) ∧ Aside0 (Below w.heap.size w w'))
 case atStart => exact ⟨(y102), (0), (by rfl), H', ⟨Nat.le_refl _⟩, ⟨HO104.out⟩, ⟨BK101.out⟩, ⟨HB.out⟩⟩
 case round =>
  clear H'; obtain ⟨x5_1, x6_1, rfl, HA, HK1, HO_5, BK101, HB⟩ := hrel
  cases gk with
  | zero => exact absurd HA.out (by simp [thermographref06_Cut.l0])
  | succ k1 =>
   have H := HA.out; clear HA; simp only [thermographref06_Cut.l0] at H
   by_cases c6 : x6_1 < (l0.length : Int)
   ·
    rw [if_pos c6] at H; have c6b0 : decide (x6_1 < (l0.length : Int)) = true := decide_eq_true c6; clear c6
    by_cases c7 : 0 ≤ x6_1
    ·
     rw [if_pos c7] at H; have c7b0 : decide (0 ≤ x6_1) = true := decide_eq_true c7; clear c7
     by_cases c8 : ((rd_T42 l0 x6_1).f0) ≥ a1_0
     ·
      rw [if_pos c8] at H; have c8b0 : decide (a1_0 ≤ ((rd_T42 l0 x6_1).f0)) = true := decide_eq_true c8; clear c8
      by_cases c9 : ((rd_T42 l0 x6_1).f0) < a1_1
      ·
       rw [if_pos c9] at H; have c9b0 : decide (((rd_T42 l0 x6_1).f0) < a1_1) = true := decide_eq_true c9; clear c9
       by_cases c10 : x5_1.length < 5864062014805
       ·
        rw [if_pos c10] at H; have LMc10 := Aside0.mk c10; clear c10
        obtain ⟨y108, hy108⟩ : ∃ y_ : List (S42), y_ = (x5_1 ++ [(⟨(rd_T42 l0 x6_1).f0, (rd_T42 l0 x6_1).f1, (rd_T42 l0 x6_1).f2⟩ : S42)]) := ⟨_, rfl⟩
        replace H : (thermographref06_Cut.l0 k1 l0 y108 (wrap64 (x6_1 + 1)) a1_0 a1_1) = some r := by (rw [hy108]; with_reducible exact H)
        have Ny108 := Aside0.mk hy108; clear hy108; have H' := Aside0.mk H; clear H; have p105 : 0 ≤ (x6_1 : Int) := of_decide_eq_true (by with_reducible assumption); have q105 : x6_1 < (l0.length : Int) := of_decide_eq_true (by with_reducible assumption); obtain ⟨ad105, e105, hx105_0, hx105_1, hx105_2⟩ := at_T42 HR0.out x6_1 p105 q105; cases e105; replace hx105_0 := (HB.out.cell (World.block_lt_of_cell? w _ hx105_0)).trans hx105_0; replace hx105_1 := (HB.out.cell (World.block_lt_of_cell? w _ hx105_1)).trans hx105_1; replace hx105_2 := (HB.out.cell (World.block_lt_of_cell? w _ hx105_2)).trans hx105_2; replace p105 := eq_true p105; replace q105 := eq_true q105; have hcz11_0 : wr.cell? ⟨gb101, 0, none⟩ = some (.int .i64 a1_0) := (blk_cell BK101.out 0).trans rfl; have hcz11_1 : wr.cell? ⟨gb101, 1, none⟩ = some (.int .i64 a1_1) := (blk_cell BK101.out 1).trans rfl; have p106 : 0 ≤ (x6_1 : Int) := of_decide_eq_true (by with_reducible assumption); have q106 : x6_1 < (l0.length : Int) := of_decide_eq_true (by with_reducible assumption); obtain ⟨ad106, e106, hx106_0, hx106_1, hx106_2⟩ := at_T42 HR0.out x6_1 p106 q106
        obtain rfl : ad105 = ad106 := (by injection e106)
        replace hx106_0 := (HB.out.cell (World.block_lt_of_cell? w _ hx106_0)).trans hx106_0; replace hx106_1 := (HB.out.cell (World.block_lt_of_cell? w _ hx106_1)).trans hx106_1; replace hx106_2 := (HB.out.cell (World.block_lt_of_cell? w _ hx106_2)).trans hx106_2; replace p106 := eq_true p106; replace q106 := eq_true q106; have p107 : 0 ≤ (x6_1 : Int) := of_decide_eq_true (by with_reducible assumption); have q107 : x6_1 < (l0.length : Int) := of_decide_eq_true (by with_reducible assumption); obtain ⟨ad107, e107, hx107_0, hx107_1, hx107_2⟩ := at_T42 HR0.out x6_1 p107 q107
        obtain rfl : ad105 = ad107 := (by injection e107)
        replace hx107_0 := (HB.out.cell (World.block_lt_of_cell? w _ hx107_0)).trans hx107_0; replace hx107_1 := (HB.out.cell (World.block_lt_of_cell? w _ hx107_1)).trans hx107_1; replace hx107_2 := (HB.out.cell (World.block_lt_of_cell? w _ hx107_2)).trans hx107_2; replace p107 := eq_true p107; replace q107 := eq_true q107
        go_wp2_with (fail)
        repeat (go_quiet (fail); try go_wp2_with (((with_reducible refine gate_builtin (b := .append) (xs := #[.tmp 32, .tmp 37]) rfl ?_); at_builtin; refine Kd.R_append k42 (w0 := w) w.heap.size rfl (.tmp 32) (.tmp 37) 44 42 (.agg #[(.int .i64 0), (.int .u64 0), (.int .u64 0)]) 24 rfl Try.underlying44 info42 rfl (by decide) (by omega) u5 x5_1 (⟨(rd_T42 l0 x6_1).f0, (rd_T42 l0 x6_1).f1, (rd_T42 l0 x6_1).f2⟩ : S42) [.int .i64 ((rd_T42 l0 x6_1).f0), .int .u64 ((rd_T42 l0 x6_1).f1), .int .u64 ((rd_T42 l0 x6_1).f2)] (fun _ => True) (fun _ => False) rfl rfl ?aP (fun _ hk => hk.elim) ?aF ?aO ?aB ?aS ?aL ?_; (case aP => exact k42_mkM _ _ _ (⟨(rd_T42 l0 x6_1).f0, (rd_T42 l0 x6_1).f1, (rd_T42 l0 x6_1).f2⟩ : S42)); (case aB => exact (by repeat ((with_reducible first | exact HB.out | apply pw_below_drewN)))); (case aF => exact (fun _ _ => trivial)); (case aO => exact (by (with_reducible repeat (apply Kd.R_drewN)); exact HO_5.out)); (case aS => exact (below_size (by repeat ((with_reducible first | exact HB.out | apply pw_below_drewN))))); (case aL => have := LMc10.out; omega); intro v109 w12 ho hb hg hat; rw [← Ny108.out] at ho; have n0_ := Aside0.mk (blk_grown (g := gb101) (o := .cells #[.int .i64 a1_0, .int .i64 a1_1] 30 (0, 0)) (by (with_reducible repeat (refine blk_drewN ?_ _)); exact BK101.out) hg (Kd.R_ne HO_5.out BK101.out (by decide))); have n1_ := Aside0.mk (hb); have n2_ := Aside0.mk (ho); clear BK101; clear HB; clear HO_5; have BK101 := n0_; have HB := n1_; have HO110 := n2_; clear n0_ n1_ n2_; clear ho hb hg hat)))
        go_roundg k1
        case measure => have := HK1.out; omega
        case rel => exact ⟨(y108), (wrap64 (x6_1 + 1)), (by rfl), H', ⟨by have := HK1.out; omega⟩, ⟨HO110.out⟩, ⟨BK101.out⟩, ⟨HB.out⟩⟩
       ·
        rw [if_neg c10] at H; exact absurd H (by simp)
      ·
       rw [if_neg c9] at H; have c9b0 : decide (((rd_T42 l0 x6_1).f0) < a1_1) = false := decide_eq_false c9; clear c9; have H' := Aside0.mk H; clear H; have p105 : 0 ≤ (x6_1 : Int) := of_decide_eq_true (by with_reducible assumption); have q105 : x6_1 < (l0.length : Int) := of_decide_eq_true (by with_reducible assumption); obtain ⟨ad105, e105, hx105_0, hx105_1, hx105_2⟩ := at_T42 HR0.out x6_1 p105 q105; cases e105; replace hx105_0 := (HB.out.cell (World.block_lt_of_cell? w _ hx105_0)).trans hx105_0; replace hx105_1 := (HB.out.cell (World.block_lt_of_cell? w _ hx105_1)).trans hx105_1; replace hx105_2 := (HB.out.cell (World.block_lt_of_cell? w _ hx105_2)).trans hx105_2; replace p105 := eq_true p105; replace q105 := eq_true q105; have hcz13_0 : wr.cell? ⟨gb101, 0, none⟩ = some (.int .i64 a1_0) := (blk_cell BK101.out 0).trans rfl; have hcz13_1 : wr.cell? ⟨gb101, 1, none⟩ = some (.int .i64 a1_1) := (blk_cell BK101.out 1).trans rfl; have p106 : 0 ≤ (x6_1 : Int) := of_decide_eq_true (by with_reducible assumption); have q106 : x6_1 < (l0.length : Int) := of_decide_eq_true (by with_reducible assumption); obtain ⟨ad106, e106, hx106_0, hx106_1, hx106_2⟩ := at_T42 HR0.out x6_1 p106 q106
       obtain rfl : ad105 = ad106 := (by injection e106)
       replace hx106_0 := (HB.out.cell (World.block_lt_of_cell? w _ hx106_0)).trans hx106_0; replace hx106_1 := (HB.out.cell (World.block_lt_of_cell? w _ hx106_1)).trans hx106_1; replace hx106_2 := (HB.out.cell (World.block_lt_of_cell? w _ hx106_2)).trans hx106_2; replace p106 := eq_true p106; replace q106 := eq_true q106; go_wp2; repeat (go_quiet (fail); try go_wp2)
       go_roundg k1
       case measure => have := HK1.out; omega
       case rel => exact ⟨(x5_1), (wrap64 (x6_1 + 1)), (by rfl), H', ⟨by have := HK1.out; omega⟩, ⟨by (with_reducible repeat (apply Kd.R_drewN)); exact HO_5.out⟩, ⟨by (with_reducible repeat (refine blk_drewN ?_ _)); exact BK101.out⟩, ⟨by repeat ((with_reducible first | exact HB.out | apply pw_below_drewN))⟩⟩
     ·
      rw [if_neg c8] at H; have c8b0 : decide (a1_0 ≤ ((rd_T42 l0 x6_1).f0)) = false := decide_eq_false c8; clear c8; have H' := Aside0.mk H; clear H; have p105 : 0 ≤ (x6_1 : Int) := of_decide_eq_true (by with_reducible assumption); have q105 : x6_1 < (l0.length : Int) := of_decide_eq_true (by with_reducible assumption); obtain ⟨ad105, e105, hx105_0, hx105_1, hx105_2⟩ := at_T42 HR0.out x6_1 p105 q105; cases e105; replace hx105_0 := (HB.out.cell (World.block_lt_of_cell? w _ hx105_0)).trans hx105_0; replace hx105_1 := (HB.out.cell (World.block_lt_of_cell? w _ hx105_1)).trans hx105_1; replace hx105_2 := (HB.out.cell (World.block_lt_of_cell? w _ hx105_2)).trans hx105_2; replace p105 := eq_true p105; replace q105 := eq_true q105; have hcz14_0 : wr.cell? ⟨gb101, 0, none⟩ = some (.int .i64 a1_0) := (blk_cell BK101.out 0).trans rfl; go_wp2; repeat (go_quiet (fail); try go_wp2)
      go_roundg k1
      case measure => have := HK1.out; omega
      case rel => exact ⟨(x5_1), (wrap64 (x6_1 + 1)), (by rfl), H', ⟨by have := HK1.out; omega⟩, ⟨by (with_reducible repeat (apply Kd.R_drewN)); exact HO_5.out⟩, ⟨by (with_reducible repeat (refine blk_drewN ?_ _)); exact BK101.out⟩, ⟨by repeat ((with_reducible first | exact HB.out | apply pw_below_drewN))⟩⟩
    ·
     rw [if_neg c7] at H; exact absurd H (by simp)
   ·
    rw [if_neg c6] at H; have c6b0 : decide (x6_1 < (l0.length : Int)) = false := decide_eq_false c6; clear c6; obtain rfl := Option.some.inj H; go_wp2; go_ret; exact ⟨_, by rfl, by exact HO_5.out, by repeat ((with_reducible exact HB.out))⟩
def thermographlaw17_points.l0 : Nat → List (S65) → ByteArray → Int → Int → Option ((List (S42)))
 | 0, _, _, _, _ => none
 | k + 1, x0, x1, x2, x7 => if x7 < (x0.length : Int) then (if 0 ≤ x7 then (if ((rd_T65 x0 x7).f0).toList = x1.toList then ((thermographref06_Cut.f k ((rd_T65 x0 x7).f1) x2 (wrap64 (x2 + 60))).bind fun t113 => (some t113)) else (thermographlaw17_points.l0 k x0 x1 x2 (wrap64 (x7 + 1)))) else (none)) else (some ([] : List (S42)))
def thermographlaw17_points.f (k : Nat) (l0 : List (S65)) (a1 : ByteArray) (a2 : Int) : Option ((List (S42))) := thermographlaw17_points.l0 k l0 a1 a2 0
theorem thermographlaw17_points.calls (k : Nat) (A0 : Option Addr) (c0 : Nat) (l0 : List (S65)) (a1 : ByteArray) (a2 : Int) (r : List (S42)) (w : World) (hr0 : Kd.C k65 w A0 l0.length l0) (hc0 : l0.length ≤ c0) (h : thermographlaw17_points.f k l0 a1 a2 = some r) :
  Calls Try.prog 23 #[.slice A0 l0.length c0, .string a1, .int .i64 a2] w fun e w' => ∃ v0_ : Value, e = .returned (v0_) ∧ Kd.R k42 42 w' w.heap.size (fun _ => True) v0_ r ∧ Below w.heap.size w w' := by
 have HR0 := Aside0.mk hr0; clear hr0 hc0; have HB := Aside0.mk (Below.refl w.heap.size w); have H : (thermographlaw17_points.l0 k l0 a1 a2 0) = some r := h; clear h; have H' := Aside0.mk H; clear H; go_enter Try.func23, Try.ntmps23
 go_wp2; go_loopg [7] k (fun kq v7 w' => ∃ (x7_1 : Int), v7 = .int .i64 x7_1 ∧ Aside0 (thermographlaw17_points.l0 kq l0 a1 a2 x7_1 = some r) ∧ Aside0 (kq ≤ k) ∧ Aside0 (Below w.heap.size w w'))
 case atStart => exact ⟨(0), (by rfl), H', ⟨Nat.le_refl _⟩, ⟨HB.out⟩⟩
 case round =>
  clear H'; obtain ⟨x7_1, rfl, HA, HK1, HB⟩ := hrel
  cases gk with
  | zero => exact absurd HA.out (by simp [thermographlaw17_points.l0])
  | succ k1 =>
   have H := HA.out; clear HA; simp only [thermographlaw17_points.l0] at H
   by_cases c4 : x7_1 < (l0.length : Int)
   ·
    rw [if_pos c4] at H; have c4b0 : decide (x7_1 < (l0.length : Int)) = true := decide_eq_true c4; clear c4
    by_cases c5 : 0 ≤ x7_1
    ·
     rw [if_pos c5] at H; have c5b0 : decide (0 ≤ x7_1) = true := decide_eq_true c5; clear c5
     by_cases c6 : ((rd_T65 l0 x7_1).f0).toList = a1.toList
     ·
      rw [if_pos c6] at H; have c6b0 : (((rd_T65 l0 x7_1).f0).toList == a1.toList) = true := beq_iff_eq.mpr c6; clear c6; replace H := Option.bind_eq_some_iff.mp H; obtain ⟨t113, A70, H⟩ := H; replace H : (some t113) = some r := H; have A7 := Aside0.mk A70; clear A70; obtain rfl := Option.some.inj H; have p111 : 0 ≤ (x7_1 : Int) := of_decide_eq_true (by with_reducible assumption); have q111 : x7_1 < (l0.length : Int) := of_decide_eq_true (by with_reducible assumption); obtain ⟨ad111, A111_1, c111_1, e111, hx111_0, hx111_1, hl111_1, hi111_1⟩ := at_T65 HR0.out x7_1 p111 q111; cases e111; replace hx111_0 := (HB.out.cell (World.block_lt_of_cell? w _ hx111_0)).trans hx111_0; replace hx111_1 := (HB.out.cell (World.block_lt_of_cell? w _ hx111_1)).trans hx111_1; clear hi111_1 hl111_1; replace p111 := eq_true p111; replace q111 := eq_true q111; have p112 : 0 ≤ (x7_1 : Int) := of_decide_eq_true (by with_reducible assumption); have q112 : x7_1 < (l0.length : Int) := of_decide_eq_true (by with_reducible assumption); obtain ⟨ad112, A112_1, c112_1, e112, hx112_0, hx112_1, hl112_1, hi112_1⟩ := at_T65 HR0.out x7_1 p112 q112
      obtain rfl : ad111 = ad112 := (by injection e112)
      replace hx112_0 := (HB.out.cell (World.block_lt_of_cell? w _ hx112_0)).trans hx112_0; replace hx112_1 := (HB.out.cell (World.block_lt_of_cell? w _ hx112_1)).trans hx112_1; have HR112_1 := Aside0.mk hi112_1; have HC112_1 := Aside0.mk hl112_1; clear hi112_1 hl112_1; replace p112 := eq_true p112; replace q112 := eq_true q112; have ea_ := Option.some.inj (hx111_1.symm.trans hx112_1)
      injection ea_ with ea_ en_ ec_
      subst ea_; subst ec_; clear en_
      go_wp2_with (((with_reducible refine gate_callee (f := 38) rfl ?_); refine goesL_ (some 30) rfl rfl Try.func38 (by kernel_rfl) rfl #[.slice A111_1 ((rd_T65 l0 x7_1).f1).length c111_1, .agg #[.int .i64 a2, .int .i64 (wrap64 (a2 + 60))]] rfl (by (try simp only [List.map_toArray, List.map_cons, List.map_nil]); rfl) ?_; (with_reducible refine (thermographref06_Cut.calls k1 _ _ ((rd_T65 l0 x7_1).f1) a2 (wrap64 (a2 + 60)) t113 _ ?side1 ?side2 A7.out).mono ?_); (case side1 => repeat (exact (Kd.C_below HR112_1.out HB.out))); (case side2 => exact HC112_1.out); rintro e w8 ⟨v114, rfl, ho0, hb⟩; refine ⟨_, rfl, ?_⟩; have n0_ := Aside0.mk (Kd.R_lower ho0 (below_size HB.out)); have n1_ := Aside0.mk (below_step HB.out hb); clear HB; have HO115 := n0_; have HB := n1_; clear n0_ n1_; (try clear hb); (try clear hb2); (try clear hk); (try clear hi); (try clear ho0)))
      go_ret; exact ⟨_, by rfl, by exact HO115.out, by repeat ((with_reducible exact HB.out))⟩
     ·
      rw [if_neg c6] at H; have c6b0 : (((rd_T65 l0 x7_1).f0).toList == a1.toList) = false := beq_eq_false_iff_ne.mpr c6; have H' := Aside0.mk H; clear H; have p111 : 0 ≤ (x7_1 : Int) := of_decide_eq_true (by with_reducible assumption); have q111 : x7_1 < (l0.length : Int) := of_decide_eq_true (by with_reducible assumption); obtain ⟨ad111, A111_1, c111_1, e111, hx111_0, hx111_1, hl111_1, hi111_1⟩ := at_T65 HR0.out x7_1 p111 q111; cases e111; replace hx111_0 := (HB.out.cell (World.block_lt_of_cell? w _ hx111_0)).trans hx111_0; replace hx111_1 := (HB.out.cell (World.block_lt_of_cell? w _ hx111_1)).trans hx111_1; clear hi111_1 hl111_1; replace p111 := eq_true p111; replace q111 := eq_true q111; go_wp2; go_roundg k1
      case measure => have := HK1.out; omega
      case rel => exact ⟨(wrap64 (x7_1 + 1)), (by rfl), H', ⟨by have := HK1.out; omega⟩, ⟨HB.out⟩⟩
    ·
     rw [if_neg c5] at H; exact absurd H (by simp)
   ·
    rw [if_neg c4] at H; have c4b0 : decide (x7_1 < (l0.length : Int)) = false := decide_eq_false c4; clear c4; obtain rfl := Option.some.inj H; go_wp2; go_ret; exact ⟨_, by rfl, by exact Kd.R_nil _ _ _ _ _, by repeat ((with_reducible exact HB.out))⟩
end Go.Proofs.Ytgagcimfkmegnaa.QP
end
section
namespace Go.Proofs
open Go.Shelf
def Try.keysL_ren : Go.Shelf.Ren := ⟨fun | 7 => 34 | 10 => 50 | n => n, fun | 23 => 74 | 26 => 9 | 3 => 44 | 28 => 83 | 0 => 0 | 27 => 82 | 33 => 98 | 4 => 4 | n => n, fun | n => n⟩
theorem Try.keysL : Go.Proofs.SlLaysZ.n7 Try.prog Try.keysL_ren := {
 mixed := by kernel_rfl
 f7 := ⟨Try.f34.name, by decide, Try.func34.trans (congrArg some (by kernel_rfl))⟩
 f10 := ⟨Try.f50.name, by decide, Try.func50.trans (congrArg some (by kernel_rfl))⟩
 t0 := Try.underlying0
 a0 := Try.isAgg0
 z0 := Try.sizeOf0
 v0 := Try.zeroValue0
 t4 := Try.underlying4
 a4 := Try.isAgg4
 z4 := Try.sizeOf4
 v4 := Try.zeroValue4
 t23 := Try.underlying74
 a23 := Try.isAgg74
 z23 := Try.sizeOf74
 v23 := Try.zeroValue74
 t26 := Try.underlying9
 a26 := Try.isAgg9
 z26 := Try.sizeOf9
 v26 := Try.zeroValue9
 t27 := Try.underlying82
 a27 := Try.isAgg82
 z27 := Try.sizeOf82
 v27 := Try.zeroValue82
 t28 := Try.underlying83
 a28 := Try.isAgg83
 z28 := Try.sizeOf83
 v28 := Try.zeroValue83
 t33 := Try.underlying98
 a33 := Try.isAgg98
 z33 := Try.sizeOf98
 v33 := Try.zeroValue98 }
def Try.sortedL_ren : Go.Shelf.Ren := ⟨fun | 6 => 33 | 8 => 48 | 9 => 49 | 11 => 65 | 13 => 67 | 12 => 66 | 23 => 82 | 24 => 83 | 14 => 73 | 15 => 74 | 16 => 75 | 17 => 76 | 18 => 77 | 19 => 78 | 20 => 79 | 21 => 80 | 22 => 81 | 25 => 93 | 26 => 94 | 27 => 95 | 28 => 96 | 29 => 97 | 30 => 58 | 31 => 101 | n => n, fun | 26 => 9 | 28 => 83 | 24 => 80 | 0 => 0 | 3 => 3 | 37 => 114 | 48 => 23 | 50 => 40 | 4 => 4 | 40 => 120 | 39 => 119 | 45 => 125 | 5 => 5 | 9 => 9 | 51 => 134 | 55 => 138 | 57 => 142 | 58 => 143 | 33 => 98 | n => n, fun | n => n⟩
theorem Try.sortedL : Go.Proofs.SlLaysZ.n6 Try.prog Try.sortedL_ren := {
 mixed := by kernel_rfl
 f6 := ⟨Try.f33.name, by decide, Try.func33.trans (congrArg some (by kernel_rfl))⟩
 f8 := ⟨Try.f48.name, by decide, Try.func48.trans (congrArg some (by kernel_rfl))⟩
 f11 := ⟨Try.f65.name, by decide, Try.func65.trans (congrArg some (by kernel_rfl))⟩
 t0 := Try.underlying0
 a0 := Try.isAgg0
 z0 := Try.sizeOf0
 v0 := Try.zeroValue0
 t24 := Try.underlying80
 a24 := Try.isAgg80
 z24 := Try.sizeOf80
 v24 := Try.zeroValue80
 t26 := Try.underlying9
 a26 := Try.isAgg9
 z26 := Try.sizeOf9
 v26 := Try.zeroValue9
 t28 := Try.underlying83
 a28 := Try.isAgg83
 z28 := Try.sizeOf83
 v28 := Try.zeroValue83
 i26 := by kernel_rfl }
def Try.sortL_ren : Go.Shelf.Ren := ⟨fun | 6 => 49 | 8 => 67 | 9 => 66 | 19 => 82 | 20 => 83 | 21 => 73 | 22 => 74 | 23 => 75 | 24 => 76 | 25 => 77 | 26 => 78 | 27 => 79 | 28 => 80 | 29 => 81 | 36 => 93 | 31 => 94 | 32 => 95 | 37 => 96 | 38 => 97 | 39 => 58 | 41 => 101 | n => n, fun | 27 => 80 | 29 => 9 | 3 => 3 | 32 => 114 | 26 => 80 | 0 => 0 | 44 => 23 | 46 => 40 | 4 => 4 | 36 => 120 | 35 => 119 | 41 => 125 | 5 => 5 | 9 => 9 | 53 => 134 | 57 => 138 | 63 => 142 | 64 => 143 | n => n, fun | n => n⟩
theorem Try.sortL : Go.Proofs.SlLaysM.n6 Try.prog Try.sortL_ren := {
 mixed := by kernel_rfl
 f6 := ⟨Try.f49.name, by decide, Try.func49.trans (congrArg some (by kernel_rfl))⟩
 f8 := Try.func67.trans (congrArg some (by kernel_rfl))
 f9 := ⟨Try.f66.name, by decide, Try.func66.trans (congrArg some (by kernel_rfl))⟩
 f19 := Try.func82.trans (congrArg some (by kernel_rfl))
 f20 := Try.func83.trans (congrArg some (by kernel_rfl))
 f21 := ⟨Try.f73.name, by decide, Try.func73.trans (congrArg some (by kernel_rfl))⟩
 f22 := ⟨Try.f74.name, by decide, Try.func74.trans (congrArg some (by kernel_rfl))⟩
 f23 := ⟨Try.f75.name, by decide, Try.func75.trans (congrArg some (by kernel_rfl))⟩
 f24 := ⟨Try.f76.name, by decide, Try.func76.trans (congrArg some (by kernel_rfl))⟩
 f25 := ⟨Try.f77.name, by decide, Try.func77.trans (congrArg some (by kernel_rfl))⟩
 f26 := ⟨Try.f78.name, by decide, Try.func78.trans (congrArg some (by kernel_rfl))⟩
 f27 := ⟨Try.f79.name, by decide, Try.func79.trans (congrArg some (by kernel_rfl))⟩
 f28 := ⟨Try.f80.name, by decide, Try.func80.trans (congrArg some (by kernel_rfl))⟩
 f29 := ⟨Try.f81.name, by decide, Try.func81.trans (congrArg some (by kernel_rfl))⟩
 f31 := Try.func94.trans (congrArg some (by kernel_rfl))
 f32 := Try.func95.trans (congrArg some (by kernel_rfl))
 f36 := ⟨Try.f93.name, by decide, Try.func93.trans (congrArg some (by kernel_rfl))⟩
 f37 := ⟨Try.f96.name, by decide, Try.func96.trans (congrArg some (by kernel_rfl))⟩
 f38 := ⟨Try.f97.name, by decide, Try.func97.trans (congrArg some (by kernel_rfl))⟩
 f39 := ⟨Try.f58.name, by decide, Try.func58.trans (congrArg some (by kernel_rfl))⟩
 f41 := ⟨Try.f101.name, by decide, Try.func101.trans (congrArg some (by kernel_rfl))⟩
 t0 := Try.underlying0
 a0 := Try.isAgg0
 z0 := Try.sizeOf0
 v0 := Try.zeroValue0
 t3 := Try.underlying3
 a3 := Try.isAgg3
 z3 := Try.sizeOf3
 v3 := Try.zeroValue3
 t4 := Try.underlying4
 a4 := Try.isAgg4
 z4 := Try.sizeOf4
 v4 := Try.zeroValue4
 t5 := Try.underlying5
 a5 := Try.isAgg5
 z5 := Try.sizeOf5
 v5 := Try.zeroValue5
 t9 := Try.underlying9
 a9 := Try.isAgg9
 z9 := Try.sizeOf9
 v9 := Try.zeroValue9
 t26 := Try.underlying80
 a26 := Try.isAgg80
 z26 := Try.sizeOf80
 v26 := Try.zeroValue80
 t27 := Try.underlying80
 a27 := Try.isAgg80
 z27 := Try.sizeOf80
 v27 := Try.zeroValue80
 t29 := Try.underlying9
 a29 := Try.isAgg9
 z29 := Try.sizeOf9
 v29 := Try.zeroValue9
 t32 := Try.underlying114
 a32 := Try.isAgg114
 z32 := Try.sizeOf114
 v32 := Try.zeroValue114
 t35 := Try.underlying119
 a35 := Try.isAgg119
 z35 := Try.sizeOf119
 v35 := Try.zeroValue119
 t36 := Try.underlying120
 a36 := Try.isAgg120
 z36 := Try.sizeOf120
 v36 := Try.zeroValue120
 t41 := Try.underlying125
 a41 := Try.isAgg125
 z41 := Try.sizeOf125
 v41 := Try.zeroValue125
 t44 := Try.underlying23
 a44 := Try.isAgg23
 z44 := Try.sizeOf23
 v44 := Try.zeroValue23
 t46 := Try.underlying40
 a46 := Try.isAgg40
 z46 := Try.sizeOf40
 v46 := Try.zeroValue40
 t53 := Try.underlying134
 a53 := Try.isAgg134
 z53 := Try.sizeOf134
 v53 := Try.zeroValue134
 t57 := Try.underlying138
 a57 := Try.isAgg138
 z57 := Try.sizeOf138
 v57 := Try.zeroValue138
 t63 := Try.underlying142
 a63 := Try.isAgg142
 z63 := Try.sizeOf142
 v63 := Try.zeroValue142
 t64 := Try.underlying143
 a64 := Try.isAgg143
 z64 := Try.sizeOf143
 v64 := Try.zeroValue143 }
end Go.Proofs
end
section
set_option maxHeartbeats 1000000
namespace Go.Proofs
open Go.RowKit Go.Maps Go.Sort Go.Shelf
/-- slices.Sort's two contracts at this dump, at the fence that asks nothing. -/
theorem Try.sortsK (m : Nat) : AnyZ.SortsIn Try.prog Try.sortedL_ren Fence.wide m :=
  ⟨fun blk off cap ss W hH hblk hsz => callsIn_wide.2 (AnyM.slices_Sort_string Try.sortL blk off cap ss W hH hblk hsz),
   fun p cap W => callsIn_wide.2 (AnyM.slices_Sort_string_none Try.sortL p cap W)⟩
/-- **maps.Keys[map[string][]thermograph/api.Point,string,[]thermograph/api.Point], at whatever map, the nil one too:** a function value over ONE NEW BLOCK, which holds the map. -/
theorem Try.maps_Keys (mb : Option Nat) (W : World) : CallsIn Fence.wide 5 Try.prog 34 #[.map mb] W fun e w' => e = .returned (.func (.func 50) #[] #[.pointer (some ⟨W.heap.size, 0, none⟩)]) ∧ w' = W.alloc (.cells #[.map mb] 74) :=
  AnyZ.keys_in Try.keysL Fence.wide 5 trivial rfl mb W
/-- **slices.Sorted[string] AT WHAT maps.Keys[map[string][]thermograph/api.Point,string,[]thermograph/api.Point] HANDED BACK FOR A MAP THAT IS NOT nil** ('w': the world AHEAD of maps.Keys' call): A NEW SLICE THAT HOLDS THE MAP's KEYS, SORTED; nil just where it has none; nothing that lay before has turned. -/
theorem Try.slices_Sorted_keys {H : Type} (b nn : Nat) (D0 : DataW H) (R : Value → Option (DataW H × List MemPlace)) (w : World) (hown : w.ownsMap Try.prog 9 R b nn D0) (hmax : Maps.size D0 ≤ maxLen) (hbytes : Maps.size D0 * 16 ≤ 140737488355328) :
    CallsIn Fence.wide 5 Try.prog 33 #[.func (.func 50) #[] #[.pointer (some ⟨w.heap.size, 0, none⟩)]] (w.alloc (.cells #[.map (some b)] 74)) fun e w' => ∃ (v : Value) (ss : List (List UInt8)), e = .returned v ∧ ss.Perm (strKeys D0) ∧
      w'.ownsRow (w.alloc (.cells #[.map (some b)] 74)).heap.size 9 1 v ss.length ((ss.mergeSort (fun x y => decide (x ≤ y))).map encStr) ∧ (v = .slice none 0 0 ↔ ss = []) ∧ Below (w.alloc (.cells #[.map (some b)] 74)).heap.size (w.alloc (.cells #[.map (some b)] 74)) w' := by
  have hbl := hown.lt
  have hseq : SeqGives Fence.wide 2 Try.prog 50 #[.pointer (some ⟨w.heap.size, 0, none⟩)] encStr (fun ss => ss.Perm (strKeys D0)) (Maps.size D0) (w.alloc (.cells #[.map (some b)] 74)) :=
    AnyZ.keys_gives (ρ := Try.keysL_ren) { Try.keysL with } Fence.wide _ trivial rfl (by omega) w.heap.size b nn D0 _ (by simp) (by simp) (by
      obtain ⟨es, clock, hb, Ft, hs, hD⟩ := hown
      exact ⟨es, clock, (Below.heap_alloc _ _ b hbl).trans hb, Ft, hs, hD⟩)
  exact AnyZ.sorted_in Try.sortedL Fence.wide 5 trivial trivial trivial trivial rfl (by omega) (Try.sortsK _) (enters_of Try.func49 (by kernel_rfl) rfl) 50 #[.pointer (some ⟨w.heap.size, 0, none⟩)] trivial (enters_of Try.func50 (by kernel_rfl) rfl) _ _ hmax hbytes _ hseq
end Go.Proofs
end
section
namespace Go.Proofs.Ytgagcimfkmegnaa
set_option linter.unusedVariables false
set_option linter.unusedSimpArgs false
open Go.RowKit Go.Proofs.YtgagcimfkmegnaaW.PrintWords Go.Proofs.YtgagcimfkmegnaaW.PrintLast Go.Proofs.YtgagcimfkmegnaaW.PrintMore Go.Proofs.Ytgagcimfkmegnaa.QT Go.Sort
namespace Hm
theorem key_of {s : ByteArray} (h : XM.IsK Try.prog 9 Bt.ekS s) : keyOf Try.prog 9 (.string s) = some (.string s.data.toList) := by
 obtain ⟨kl, hk⟩ := h; have hk : keyOf Try.prog 9 (.string s) = some kl := hk; obtain ⟨x, h1, h2, _⟩ := Maps.keyOf_str Try.underlying9 hk
 have e : s.data.toList = x := by
  have h3 : Value.string s = .string ⟨x.toArray⟩ := h1; cases h3; simp
 rw [hk, h2, e]
theorem own_of {w : World} {b : Nat} {gm : Hp} (h : HMap w b gm) : ∃ D0 : DataW Unit, w.ownsMap Try.prog 9 (fun _ => some (.nil, [])) b gm.length D0 ∧ (strKeys D0).Perm (gm.map (·.1.data.toList)) ∧ Maps.size D0 = gm.length := by
 obtain ⟨es, clock, hb, hs, hst, hm, hk⟩ := h; have hlen : es.size = gm.length := by have := congrArg List.length hm; simpa using this
 have hrg : ∀ x ∈ es.toList, ∃ s : ByteArray, x.key = .string s ∧ WideElems.rd Try.prog 9 (fun _ => some ((.nil : DataW Unit), [])) x = some (.string s.data.toList, .nil) := by
  intro x hx; have h1 : XM.me x ∈ gm.map (XM.pe Bt.ekS evH) := by rw [← hm]; exact List.mem_map.2 ⟨x, hx, rfl⟩
  obtain ⟨p, hp, he⟩ := List.mem_map.1 h1; have hkey : x.key = .string p.1 := (congrArg Prod.fst he).symm; refine ⟨p.1, hkey, ?_⟩; unfold WideElems.rd; rw [hkey, key_of (hk p hp)]; rfl
 refine ⟨.map ((es.toList.map (WideElems.rg Try.prog 9 (fun _ => some (.nil, [])))).foldr DataW.insert []), ⟨es, clock, hb, ⟨hs, hst, fun x hx => ?_⟩, by omega, rfl⟩, ?_, ?_⟩
 ·
  obtain ⟨s, _, h2⟩ := hrg x hx; exact ⟨_, h2⟩
 ·
  have hp := WideShapes.sorted_perm (es.toList.map (WideElems.rg Try.prog 9 (fun _ => some ((.nil : DataW Unit), [])))); refine (hp.map _).trans ?_; rw [List.map_map]
  have e1 : es.toList.map ((fun p : Lit × DataW Unit => strOf p.1) ∘ WideElems.rg Try.prog 9 (fun _ => some (.nil, []))) = (es.toList.map XM.me).map (fun p => match p.1 with | .string s => s.data.toList | _ => []) := by
   rw [List.map_map]; refine List.map_congr_left (fun x hx => ?_); obtain ⟨s, h1, h2⟩ := hrg x hx; simp only [Function.comp, WideElems.rg, h2, XM.me, h1]; rfl
  rw [e1, hm, List.map_map]; exact List.Perm.of_eq (List.map_congr_left (fun p _ => rfl))
 ·
  rw [Maps.size_eq, (WideShapes.sorted_perm _).length_eq]; simp [hlen]
def leN (a b : ByteArray) : Prop := a.data.toList ≤ b.data.toList
/-- The sorted keys of a map with names as keys. -/
theorem keys_calls (w : World) (mb : Nat) (gm : Hp) (h : HMap w mb gm) (hl : gm.length ≤ 1000000) :
  Calls Try.prog 33 #[.func (.func 50) #[] #[.pointer (some ⟨w.heap.size, 0, none⟩)]] (w.alloc (.cells #[.map (some mb)] 74)) fun e w' => ∃ (v : Value) (ns : List ByteArray), e = .returned v ∧ ns.Perm (gm.map (·.1)) ∧ ns.Pairwise leN ∧
   Kd.R Kd.string 9 w' w.heap.size (fun _ => True) v ns ∧ Below w.heap.size w w' := by
 obtain ⟨D0, h1, h2, h3⟩ := own_of h; refine (callsIn_wide.1 (Try.slices_Sorted_keys (H := Unit) mb gm.length D0 _ w h1 (by rw [h3]; unfold maxLen; omega) (by rw [h3]; omega))).mono ?_; rintro e w' ⟨v, ss, rfl, hs, hr, hn, hb⟩; have hperm := List.mergeSort_perm ss (fun x y => decide (x ≤ y))
 have hpw : (ss.mergeSort (fun x y => decide (x ≤ y))).Pairwise (fun a b => a ≤ b) := by
  have := List.pairwise_mergeSort (le := fun x y : List UInt8 => decide (x ≤ y)) (fun a b c h1 h2 => by simp only [decide_eq_true_eq] at *; exact List.le_trans h1 h2) (fun a b => by simp only [Bool.or_eq_true, decide_eq_true_eq]; exact List.le_total a b) ss; exact this.imp (fun h => of_decide_eq_true h)
 have hsz : w.heap.size ≤ (w.alloc (.cells #[.map (some mb)] 74)).heap.size := by simp
 refine ⟨v, (ss.mergeSort (fun x y => decide (x ≤ y))).map (fun l => ⟨l.toArray⟩), rfl, ?_, ?_, ?_, below_then (below_alloc (Below.refl _ _) _) hsz hb⟩
 ·
  have hp2 := (hperm.trans (hs.trans h2)).map (fun l : List UInt8 => (⟨l.toArray⟩ : ByteArray)); rw [List.map_map] at hp2; refine hp2.trans (List.Perm.of_eq (List.map_congr_left (fun p _ => ?_))); simp
 ·
  rw [List.pairwise_map]; exact hpw.imp (fun h => by unfold leN; simpa using h)
 ·
  refine Kd.R_lower (Kd.R_of_own (h1 := fun _ => rfl) ?_ (fun _ _ => trivial)) hsz; have hln : ((ss.mergeSort (fun x y => decide (x ≤ y))).map (fun l : List UInt8 => (⟨l.toArray⟩ : ByteArray))).length = ss.length := by rw [List.length_map, hperm.length_eq]
  rw [hln]
  have e1 : encs Value.string ((ss.mergeSort (fun x y => decide (x ≤ y))).map (fun l : List UInt8 => (⟨l.toArray⟩ : ByteArray))) = (ss.mergeSort (fun x y => decide (x ≤ y))).map encStr := by
   unfold encs; rw [List.map_map]; exact List.map_congr_left (fun l _ => rfl)
  rw [e1]; exact hr
end Hm
end Go.Proofs.Ytgagcimfkmegnaa
end
section
set_option maxHeartbeats 2000000
set_option maxRecDepth 100000
namespace Go.Proofs.Ytgagcimfkmegnaa
set_option linter.unusedVariables false
set_option linter.unusedSimpArgs false
open Go.RowKit Go.Proofs.YtgagcimfkmegnaaW.PrintWords Go.Proofs.YtgagcimfkmegnaaW.PrintLast Go.Proofs.YtgagcimfkmegnaaW.PrintMore Go.Proofs.Ytgagcimfkmegnaa.QT
theorem grow_nil (n : Int) (h0 : 0 ≤ n) (hb : n ≤ 1099511627776) (w : World) :
  Calls Try.prog 68 #[.slice none 0 0, .int .i64 n] w fun e w' => ∃ v, e = .returned v ∧ Kd.R k42 42 w' w.heap.size (fun _ => True) v [] ∧ Below w.heap.size w w' := by
 have HB := Aside0.mk (Below.refl w.heap.size w); have hn0 : decide (n < 0) = false := decide_eq_false (by omega); have hs0 : IntKind.i64.wrap (n - 0) = n := by rw [Int.sub_zero]; exact (i64_w n).trans (by unfold wrap64; omega)
 have hs1 : IntKind.i64.wrap n = n := (i64_w n).trans (by unfold wrap64; omega)
 by_cases h : n > 0
 ·
  have hd : decide (n > 0) = true := decide_eq_true h; go_enter Try.func68, Try.ntmps68
  go_wp2_with (at_builtin; refine Kd.R_append_zeros k42 (w0 := w) w.heap.size rfl (.tmp 20) (.tmp 21) 44 3 42 (.agg #[.int .i64 0, .int .u64 0, .int .u64 0]) 24 rfl Try.underlying44 Try.underlying3 info42 rfl (by decide) (by omega) (.slice none 0 0) [] z42 n (fun _ => True) rfl rfl (k42_mkM _ _ _ _) (fun _ _ => trivial) (Kd.R_nil _ _ _ _ _) h0 HB.out (Nat.le_refl _) (by simp; omega) ?_; intro v1 w1 hR hB hg hat; obtain ⟨A1, c1, rfl⟩ := Kd.R_slice hR; have HR := Aside0.mk hR; have HB1 := Aside0.mk hB; clear hR hB hg hat)
  go_ret; exact ⟨_, rfl, by have := Kd.R_take (m := 0) HR.out (Nat.zero_le _); simpa using this, HB1.out⟩
 ·
  have hd : decide (n > 0) = false := decide_eq_false h; go_enter Try.func68, Try.ntmps68
  go_wp2; go_ret; exact ⟨_, rfl, Kd.R_nil _ _ _ _ _, HB.out⟩
end Go.Proofs.Ytgagcimfkmegnaa
end
