-- Laid by wip/tools/myprint.py of this repo. Not trusted: Lean checks it.
import Derived.Test.YtiinmagnpkfbbaaGreatQT3
set_option maxHeartbeats 8000000
set_option maxRecDepth 100000
namespace Go.Proofs.YtiinmagnpkfbbaaGreat.QT
open Go.RowKit Go.Proofs.YtiinmagnpkfbbaaGreatW.PrintWords Go.Proofs.YtiinmagnpkfbbaaGreatW.PrintLast Go.Proofs.YtiinmagnpkfbbaaGreatW.PrintMore
attribute [local go_sem] max2_int min2_int max_two min_two max_three min_three max_four min_four   -- for this text's walks alone
set_option linter.unusedVariables false
set_option linter.unusedSimpArgs false
mutual
def thermographref14_shard.l0 : Nat → List (S57) → Int → Int → Int → List Int → List (List (S57)) → Option (Bool)
 | 0, _, _, _, _, _, _ => none
 | k + 1, x1, x5, x6, x108000, x108001, x108002 => if x6 < (x1.length : Int) then (if 0 ≤ x6 then ((thermographref14_node.f ((rd_T57 x1 x6).f0)).bind fun t110 => (if t110 = true then (if x6 > 0 then (if 0 ≤ (wrap64 (x6 - 1)) then (if (wrap64 (x6 - 1)) < (x1.length : Int) then (if ((rd_T57 x1 (wrap64 (x6 - 1))).f0) ≥ ((rd_T57 x1 x6).f0) then (thermographref14_shard.j1 k x1 x5 x6 true x108000 x108001 x108002 ((rd_T57 x1 x6).f0) ((rd_T57 x1 x6).f1) ((rd_T57 x1 x6).f2)) else (if ((rd_T57 x1 x6).f1) < 1 then (thermographref14_shard.j1 k x1 x5 x6 true x108000 x108001 x108002 ((rd_T57 x1 x6).f0) ((rd_T57 x1 x6).f1) ((rd_T57 x1 x6).f2)) else (thermographref14_shard.j1 k x1 x5 x6 (decide (((rd_T57 x1 x6).f1) > 3)) x108000 x108001 x108002 ((rd_T57 x1 x6).f0) ((rd_T57 x1 x6).f1) ((rd_T57 x1 x6).f2)))) else (none)) else (none)) else (if ((rd_T57 x1 x6).f1) < 1 then (thermographref14_shard.j1 k x1 x5 x6 true x108000 x108001 x108002 ((rd_T57 x1 x6).f0) ((rd_T57 x1 x6).f1) ((rd_T57 x1 x6).f2)) else (thermographref14_shard.j1 k x1 x5 x6 (decide (((rd_T57 x1 x6).f1) > 3)) x108000 x108001 x108002 ((rd_T57 x1 x6).f0) ((rd_T57 x1 x6).f1) ((rd_T57 x1 x6).f2)))) else (thermographref14_shard.j1 k x1 x5 x6 true x108000 x108001 x108002 ((rd_T57 x1 x6).f0) ((rd_T57 x1 x6).f1) ((rd_T57 x1 x6).f2)))) else (none)) else (some (x5 == 3))
def thermographref14_shard.j1 : Nat → List (S57) → Int → Int → Bool → Int → List Int → List (List (S57)) → Int → Int → Int → Option (Bool)
 | 0, _, _, _, _, _, _, _, _, _, _ => none
 | k + 1, x1, x5, x6, x49, x108000, x108001, x108002, x110000, x110001, x110002 => if x49 = true then (some false) else (thermographref14_shard.l1 k x1 x5 x6 0 0 0 x108000 x108001 x108002 x110000 x110001 x110002)
def thermographref14_shard.l1 : Nat → List (S57) → Int → Int → Int → Int → Int → Int → List Int → List (List (S57)) → Int → Int → Int → Option (Bool)
 | 0, _, _, _, _, _, _, _, _, _, _, _, _ => none
 | k + 1, x1, x5, x6, x8, x9, x10, x108000, x108001, x108002, x110000, x110001, x110002 => if x10 < (x1.length : Int) then (if 0 ≤ x10 then (if ((rd_T57 x1 x10).f1) = 3 then (thermographref14_shard.j3 k x1 x5 x6 x8 x9 x10 (((rd_T57 x1 x10).f0) == x110002) x108000 x108001 x108002 x110000 x110001 x110002) else (thermographref14_shard.j3 k x1 x5 x6 x8 x9 x10 false x108000 x108001 x108002 x110000 x110001 x110002)) else (none)) else (if x110001 = 3 then (if x110001 = 1 then (if x8 = 1 then (if x9 = 1 then (thermographref14_shard.l0 k x1 x5 (wrap64 (x6 + 1)) x108000 x108001 x108002) else (some false)) else (some false)) else (if x110002 = (-1) then (if x9 = 1 then (thermographref14_shard.l0 k x1 x5 (wrap64 (x6 + 1)) x108000 x108001 x108002) else (some false)) else (some false))) else ((thermographref14_has.f k x108001 x110000).bind fun t118 => (if t118 = true then (if x110001 = 1 then (if x8 = 1 then (thermographref14_shard.l0 k x1 (wrap64 (x5 + 1)) (wrap64 (x6 + 1)) x108000 x108001 x108002) else (some false)) else (if x110002 = (-1) then (thermographref14_shard.l0 k x1 (wrap64 (x5 + 1)) (wrap64 (x6 + 1)) x108000 x108001 x108002) else (some false))) else (some false))))
def thermographref14_shard.j3 : Nat → List (S57) → Int → Int → Int → Int → Int → Bool → Int → List Int → List (List (S57)) → Int → Int → Int → Option (Bool)
 | 0, _, _, _, _, _, _, _, _, _, _, _, _, _ => none
 | k + 1, x1, x5, x6, x8, x9, x10, x71, x108000, x108001, x108002, x110000, x110001, x110002 => if x71 = true then (if 0 ≤ x10 then (if x10 < (x1.length : Int) then (if ((rd_T57 x1 x10).f1) = 1 then (if ((rd_T57 x1 x10).f2) = x110000 then (thermographref14_shard.l1 k x1 x5 x6 (wrap64 (x8 + 1)) (wrap64 (x9 + 1)) (wrap64 (x10 + 1)) x108000 x108001 x108002 x110000 x110001 x110002) else (thermographref14_shard.l1 k x1 x5 x6 (wrap64 (x8 + 1)) x9 (wrap64 (x10 + 1)) x108000 x108001 x108002 x110000 x110001 x110002)) else (thermographref14_shard.l1 k x1 x5 x6 (wrap64 (x8 + 1)) x9 (wrap64 (x10 + 1)) x108000 x108001 x108002 x110000 x110001 x110002)) else (none)) else (none)) else (if 0 ≤ x10 then (if x10 < (x1.length : Int) then (if ((rd_T57 x1 x10).f1) = 1 then (if ((rd_T57 x1 x10).f2) = x110000 then (thermographref14_shard.l1 k x1 x5 x6 x8 (wrap64 (x9 + 1)) (wrap64 (x10 + 1)) x108000 x108001 x108002 x110000 x110001 x110002) else (thermographref14_shard.l1 k x1 x5 x6 x8 x9 (wrap64 (x10 + 1)) x108000 x108001 x108002 x110000 x110001 x110002)) else (thermographref14_shard.l1 k x1 x5 x6 x8 x9 (wrap64 (x10 + 1)) x108000 x108001 x108002 x110000 x110001 x110002)) else (none)) else (none))
end
def thermographref14_shard.f (k : Nat) (a0_0 : Int) (l0_1 : List Int) (l0_2 : List (List (S57))) (l1 : List (S57)) : Option (Bool) := thermographref14_shard.l0 k l1 0 0 a0_0 l0_1 l0_2
theorem thermographref14_shard.calls (k : Nat) (a0_0 : Int) (A0_1 : Option Addr) (c0_1 : Nat) (l0_1 : List Int) (A0_2 : Option Addr) (c0_2 : Nat) (l0_2 : List (List (S57))) (A1 : Option Addr) (c1 : Nat) (l1 : List (S57)) (r : Bool) (w : World) (hr0_1 : Kd.C (Kd.int .i64) w A0_1 l0_1.length l0_1) (hc0_1 : l0_1.length ≤ c0_1) (hr0_2 : Kd.C (Kd.slice 57 k57) w A0_2 l0_2.length l0_2) (hc0_2 : l0_2.length ≤ c0_2) (hr1 : Kd.C k57 w A1 l1.length l1) (hc1 : l1.length ≤ c1) (h : thermographref14_shard.f k a0_0 l0_1 l0_2 l1 = some r) :
  Calls Tryz.prog 58 #[.agg #[.int .i64 a0_0, .slice A0_1 l0_1.length c0_1, .slice A0_2 l0_2.length c0_2], .slice A1 l1.length c1] w fun e w' => e = .returned (.bool r) ∧ Below w.heap.size w w' := by
 have HR0_1 := Aside0.mk hr0_1; have HC0_1 := Aside0.mk hc0_1; clear hr0_1 hc0_1; clear hr0_2 hc0_2; have HR1 := Aside0.mk hr1; clear hr1 hc1; have HB := Aside0.mk (Below.refl w.heap.size w); have H : (thermographref14_shard.l0 k l1 0 0 a0_0 l0_1 l0_2) = some r := h; clear h; have H' := Aside0.mk H; clear H; go_enter Tryz.func58, Tryz.ntmps58
 go_wp2_with (((with_reducible refine gate_dst (N := 2) rfl ?_); refine box_event ?hg (N := 2) ?hd (cs := #[.int .i64 a0_0, .slice A0_1 l0_1.length c0_1, .slice A0_2 l0_2.length c0_2]) (t := 25) ?hr ?_; (case hd => rfl); (case hg => rfl); (case hr => go_simp; done); intro gb107 hg w3 hbox hb; have n0_ := Aside0.mk (below_step HB.out hb); have n1_ := Aside0.mk (hbox); have n2_ := Aside0.mk ((by rw [hg]; exact (below_size HB.out) : w.heap.size ≤ gb107)); have n3_ := Aside0.mk ((by rw [hg]; exact (below_size HB.out) : w.heap.size ≤ gb107)); clear HB; have HB := n0_; have BK107 := n1_; clear n0_ n1_ n2_ n3_; clear hb hbox hg))
 try go_frame
 go_loopg [5, 6] k (fun kq v5 v6 w' => ∃ (x5_1 : Int) (x6_1 : Int), v5 = .int .i64 x5_1 ∧ v6 = .int .i64 x6_1 ∧ Aside0 (thermographref14_shard.l0 kq l1 x5_1 x6_1 a0_0 l0_1 l0_2 = some r) ∧ Aside0 (kq ≤ k) ∧ Aside0 (w'.heap[gb107]? = some (.cells #[.int .i64 a0_0, (.slice A0_1 l0_1.length c0_1), (.slice A0_2 l0_2.length c0_2)] 25 (0, 0))) ∧ Aside0 (Below w.heap.size w w'))
 case atStart => exact ⟨(0), (0), (by rfl), (by rfl), H', ⟨Nat.le_refl _⟩, ⟨BK107.out⟩, ⟨HB.out⟩⟩
 case round =>
  clear H'; obtain ⟨x5_1, x6_1, rfl, rfl, HA, HK1, BK107, HB⟩ := hrel
  cases gk with
  | zero => exact absurd HA.out (by simp [thermographref14_shard.l0])
  | succ k1 =>
   have H := HA.out; clear HA; simp only [thermographref14_shard.l0] at H
   by_cases c4 : x6_1 < (l1.length : Int)
   ·
    rw [if_pos c4] at H; have c4b0 : decide (x6_1 < (l1.length : Int)) = true := decide_eq_true c4; clear c4
    by_cases c5 : 0 ≤ x6_1
    ·
     rw [if_pos c5] at H; have c5b0 : decide (0 ≤ x6_1) = true := decide_eq_true c5; clear c5; have HC6 := Aside0.mk H; clear H; have p108 : 0 ≤ (x6_1 : Int) := of_decide_eq_true (by with_reducible assumption); have q108 : x6_1 < (l1.length : Int) := of_decide_eq_true (by with_reducible assumption); obtain ⟨ad108, e108, hx108_0, hx108_1, hx108_2⟩ := at_T57 HR1.out x6_1 p108 q108; cases e108; replace hx108_0 := (HB.out.cell (World.block_lt_of_cell? w _ hx108_0)).trans hx108_0; replace hx108_1 := (HB.out.cell (World.block_lt_of_cell? w _ hx108_1)).trans hx108_1; replace hx108_2 := (HB.out.cell (World.block_lt_of_cell? w _ hx108_2)).trans hx108_2; replace p108 := eq_true p108; replace q108 := eq_true q108
     go_upto_region 6 with (((with_reducible refine gate_dst (N := 7) rfl ?_); refine box_event ?hg (N := 7) ?hd (cs := #[.int .i64 0, .int .i64 0, .int .i64 0]) (t := 57) ?hr ?_; (case hd => rfl); (case hg => rfl); (case hr => go_simp; done); intro gb109 hg w7 hbox hb; have n0_ := Aside0.mk (blk_below (g := gb107) (o := .cells #[.int .i64 a0_0, .slice A0_1 l0_1.length c0_1, .slice A0_2 l0_2.length c0_2] 25 (0, 0)) BK107.out hb); have n1_ := Aside0.mk (below_step HB.out hb); have n2_ := Aside0.mk (hbox); have n3_ := Aside0.mk ((by rw [hg]; exact (below_size HB.out) : w.heap.size ≤ gb109)); have n4_ := Aside0.mk ((by rw [hg]; exact (below_size HB.out) : w.heap.size ≤ gb109)); have n5_ := Aside0.mk ((by rw [hg]; exact Nat.ne_of_lt (blk_lt (g := gb107) (o := .cells #[.int .i64 a0_0, .slice A0_1 l0_1.length c0_1, .slice A0_2 l0_2.length c0_2] 25 (0, 0)) BK107.out) : gb107 ≠ gb109)); have n6_ := Aside0.mk ((by rw [hg]; exact Nat.ne_of_gt (blk_lt (g := gb107) (o := .cells #[.int .i64 a0_0, .slice A0_1 l0_1.length c0_1, .slice A0_2 l0_2.length c0_2] 25 (0, 0)) BK107.out) : gb109 ≠ gb107)); clear BK107; clear HB; have BK107 := n0_; have HB := n1_; have BK109 := n2_; have GW109 := n3_; have GE109 := n4_; have NB107_109 := n5_; have NB109_107 := n6_; clear n0_ n1_ n2_ n3_ n4_ n5_ n6_; clear hb hbox hg; have hcz9_0 : w7.cell? ⟨gb109, 0, none⟩ = some (.int .i64 0) := (blk_cell BK109.out 0).trans rfl; have hcz9_1 : w7.cell? ⟨gb109, 1, none⟩ = some (.int .i64 0) := (blk_cell BK109.out 1).trans rfl; have hcz9_2 : w7.cell? ⟨gb109, 2, none⟩ = some (.int .i64 0) := (blk_cell BK109.out 2).trans rfl; have hfz9_0 := blk_frozen BK109.out 0; have hfz9_1 := blk_frozen BK109.out 1; have hfz9_2 := blk_frozen BK109.out 2))
     (try simp only [Act.put, List.setIfInBounds_toArray, List.set_cons_zero, List.set_cons_succ])
     go_cut [49] (fun v49 wc => ∃ (kq : Nat) (x49_5 : Bool), v49 = .bool x49_5 ∧ Aside0 (thermographref14_shard.j1 kq l1 x5_1 x6_1 x49_5 a0_0 l0_1 l0_2 ((rd_T57 l1 x6_1).f0) ((rd_T57 l1 x6_1).f1) ((rd_T57 l1 x6_1).f2) = some r) ∧ Aside0 (kq ≤ k1) ∧ Aside0 (wc.heap[gb107]? = some (.cells #[.int .i64 a0_0, (.slice A0_1 l0_1.length c0_1), (.slice A0_2 l0_2.length c0_2)] 25 (0, 0))) ∧ Aside0 (wc.heap[gb109]? = some (.cells #[.int .i64 ((rd_T57 l1 x6_1).f0), .int .i64 ((rd_T57 l1 x6_1).f1), .int .i64 ((rd_T57 l1 x6_1).f2)] 57 (0, 0))) ∧ Aside0 (Below w.heap.size w wc))
     case first =>
      have H := HC6.out; clear HC6; replace H := Option.bind_eq_some_iff.mp H; obtain ⟨t110, A100, H⟩ := H; replace H : (if t110 = true then (if x6_1 > 0 then (if 0 ≤ (wrap64 (x6_1 - 1)) then (if (wrap64 (x6_1 - 1)) < (l1.length : Int) then (if ((rd_T57 l1 (wrap64 (x6_1 - 1))).f0) ≥ ((rd_T57 l1 x6_1).f0) then (thermographref14_shard.j1 k1 l1 x5_1 x6_1 true a0_0 l0_1 l0_2 ((rd_T57 l1 x6_1).f0) ((rd_T57 l1 x6_1).f1) ((rd_T57 l1 x6_1).f2)) else (if ((rd_T57 l1 x6_1).f1) < 1 then (thermographref14_shard.j1 k1 l1 x5_1 x6_1 true a0_0 l0_1 l0_2 ((rd_T57 l1 x6_1).f0) ((rd_T57 l1 x6_1).f1) ((rd_T57 l1 x6_1).f2)) else (thermographref14_shard.j1 k1 l1 x5_1 x6_1 (decide (((rd_T57 l1 x6_1).f1) > 3)) a0_0 l0_1 l0_2 ((rd_T57 l1 x6_1).f0) ((rd_T57 l1 x6_1).f1) ((rd_T57 l1 x6_1).f2)))) else (none)) else (none)) else (if ((rd_T57 l1 x6_1).f1) < 1 then (thermographref14_shard.j1 k1 l1 x5_1 x6_1 true a0_0 l0_1 l0_2 ((rd_T57 l1 x6_1).f0) ((rd_T57 l1 x6_1).f1) ((rd_T57 l1 x6_1).f2)) else (thermographref14_shard.j1 k1 l1 x5_1 x6_1 (decide (((rd_T57 l1 x6_1).f1) > 3)) a0_0 l0_1 l0_2 ((rd_T57 l1 x6_1).f0) ((rd_T57 l1 x6_1).f1) ((rd_T57 l1 x6_1).f2)))) else (thermographref14_shard.j1 k1 l1 x5_1 x6_1 true a0_0 l0_1 l0_2 ((rd_T57 l1 x6_1).f0) ((rd_T57 l1 x6_1).f1) ((rd_T57 l1 x6_1).f2))) = some r := H; have A10 := Aside0.mk A100; clear A100
      by_cases c11 : t110 = true
      ·
       subst c11; have H1 : (if x6_1 > 0 then (if 0 ≤ (wrap64 (x6_1 - 1)) then (if (wrap64 (x6_1 - 1)) < (l1.length : Int) then (if ((rd_T57 l1 (wrap64 (x6_1 - 1))).f0) ≥ ((rd_T57 l1 x6_1).f0) then (thermographref14_shard.j1 k1 l1 x5_1 x6_1 true a0_0 l0_1 l0_2 ((rd_T57 l1 x6_1).f0) ((rd_T57 l1 x6_1).f1) ((rd_T57 l1 x6_1).f2)) else (if ((rd_T57 l1 x6_1).f1) < 1 then (thermographref14_shard.j1 k1 l1 x5_1 x6_1 true a0_0 l0_1 l0_2 ((rd_T57 l1 x6_1).f0) ((rd_T57 l1 x6_1).f1) ((rd_T57 l1 x6_1).f2)) else (thermographref14_shard.j1 k1 l1 x5_1 x6_1 (decide (((rd_T57 l1 x6_1).f1) > 3)) a0_0 l0_1 l0_2 ((rd_T57 l1 x6_1).f0) ((rd_T57 l1 x6_1).f1) ((rd_T57 l1 x6_1).f2)))) else (none)) else (none)) else (if ((rd_T57 l1 x6_1).f1) < 1 then (thermographref14_shard.j1 k1 l1 x5_1 x6_1 true a0_0 l0_1 l0_2 ((rd_T57 l1 x6_1).f0) ((rd_T57 l1 x6_1).f1) ((rd_T57 l1 x6_1).f2)) else (thermographref14_shard.j1 k1 l1 x5_1 x6_1 (decide (((rd_T57 l1 x6_1).f1) > 3)) a0_0 l0_1 l0_2 ((rd_T57 l1 x6_1).f0) ((rd_T57 l1 x6_1).f1) ((rd_T57 l1 x6_1).f2)))) = some r := by rw [if_pos rfl] at H; exact H
       clear H; have H := H1; clear H1
       by_cases c12 : x6_1 > 0
       ·
        rw [if_pos c12] at H; have c12b0 : decide (0 < x6_1) = true := decide_eq_true c12; clear c12
        ((skip))
        obtain ⟨ji13, hji13⟩ : ∃ j_ : Int, (wrap64 (x6_1 - 1)) = j_ := ⟨_, rfl⟩
        replace H : (if 0 ≤ (ji13) then (if (ji13) < (l1.length : Int) then (if ((rd_T57 l1 (ji13)).f0) ≥ ((rd_T57 l1 x6_1).f0) then (thermographref14_shard.j1 k1 l1 x5_1 x6_1 true a0_0 l0_1 l0_2 ((rd_T57 l1 x6_1).f0) ((rd_T57 l1 x6_1).f1) ((rd_T57 l1 x6_1).f2)) else (if ((rd_T57 l1 x6_1).f1) < 1 then (thermographref14_shard.j1 k1 l1 x5_1 x6_1 true a0_0 l0_1 l0_2 ((rd_T57 l1 x6_1).f0) ((rd_T57 l1 x6_1).f1) ((rd_T57 l1 x6_1).f2)) else (thermographref14_shard.j1 k1 l1 x5_1 x6_1 (decide (((rd_T57 l1 x6_1).f1) > 3)) a0_0 l0_1 l0_2 ((rd_T57 l1 x6_1).f0) ((rd_T57 l1 x6_1).f1) ((rd_T57 l1 x6_1).f2)))) else (none)) else (none)) = some r := by (rw [hji13] at H; exact H)
        (try rw [hji13] at A10)
        have hji13w : (IntKind.i64.wrap (x6_1 - 1)) = ji13 := (i64_w _).trans hji13
        by_cases c14 : 0 ≤ (ji13)
        ·
         rw [if_pos c14] at H; have c14b0 : decide (0 ≤ (ji13)) = true := decide_eq_true c14; clear c14
         by_cases c15 : (ji13) < (l1.length : Int)
         ·
          rw [if_pos c15] at H; have c15b0 : decide ((ji13) < (l1.length : Int)) = true := decide_eq_true c15; clear c15
          by_cases c16 : ((rd_T57 l1 (ji13)).f0) ≥ ((rd_T57 l1 x6_1).f0)
          ·
           rw [if_pos c16] at H; have c16b0 : decide (((rd_T57 l1 x6_1).f0) ≤ ((rd_T57 l1 (ji13)).f0)) = true := decide_eq_true c16; clear c16; have H' := Aside0.mk H; clear H
           go_wp2_with (fail)
           repeat (go_quiet ((go_at_call 57; (with_reducible refine (thermographref14_node.calls ((rd_T57 l1 x6_1).f0) true _ A10.out).mono ?_); rintro e w' ⟨rfl, ⟨nd, rfl⟩⟩; (try exact ⟨rfl, _, World.drewN_drewN _ _ _⟩); have p111 : 0 ≤ ((ji13) : Int) := of_decide_eq_true (by with_reducible assumption); have q111 : (ji13) < (l1.length : Int) := of_decide_eq_true (by with_reducible assumption); obtain ⟨ad111, e111, hx111_0, hx111_1, hx111_2⟩ := at_T57 HR1.out (ji13) p111 q111; obtain rfl : ad108 = ad111 := (by injection e111); have hn111_0 : ad108.block ≠ gb109 := Nat.ne_of_lt (Nat.lt_of_lt_of_le (by have := World.block_lt_of_cell? _ _ hx111_0; (rwa [add_block] at this)) GW109.out); have hn111_1 : ad108.block ≠ gb109 := Nat.ne_of_lt (Nat.lt_of_lt_of_le (by have := World.block_lt_of_cell? _ _ hx111_0; (rwa [add_block] at this)) GW109.out); have hn111_2 : ad108.block ≠ gb109 := Nat.ne_of_lt (Nat.lt_of_lt_of_le (by have := World.block_lt_of_cell? _ _ hx111_0; (rwa [add_block] at this)) GW109.out); replace hx111_0 := (HB.out.cell (World.block_lt_of_cell? w _ hx111_0)).trans hx111_0; replace hx111_1 := (HB.out.cell (World.block_lt_of_cell? w _ hx111_1)).trans hx111_1; replace hx111_2 := (HB.out.cell (World.block_lt_of_cell? w _ hx111_2)).trans hx111_2; replace hx111_0 := (cell_far (p := ⟨gb109, 0, none⟩) (by (rw [add_block]; exact hn111_0)) (.int .i64 ((rd_T57 l1 x6_1).f0))).trans hx111_0; replace hx111_1 := (cell_far (p := ⟨gb109, 0, none⟩) (by (rw [add_block]; exact hn111_0)) (.int .i64 ((rd_T57 l1 x6_1).f0))).trans hx111_1; replace hx111_2 := (cell_far (p := ⟨gb109, 0, none⟩) (by (rw [add_block]; exact hn111_0)) (.int .i64 ((rd_T57 l1 x6_1).f0))).trans hx111_2; replace hx111_0 := (cell_far (p := ⟨gb109, 1, none⟩) (by (rw [add_block]; exact hn111_1)) (.int .i64 ((rd_T57 l1 x6_1).f1))).trans hx111_0; replace hx111_1 := (cell_far (p := ⟨gb109, 1, none⟩) (by (rw [add_block]; exact hn111_1)) (.int .i64 ((rd_T57 l1 x6_1).f1))).trans hx111_1; replace hx111_2 := (cell_far (p := ⟨gb109, 1, none⟩) (by (rw [add_block]; exact hn111_1)) (.int .i64 ((rd_T57 l1 x6_1).f1))).trans hx111_2; replace hx111_0 := (cell_far (p := ⟨gb109, 2, none⟩) (by (rw [add_block]; exact hn111_2)) (.int .i64 ((rd_T57 l1 x6_1).f2))).trans hx111_0; replace hx111_1 := (cell_far (p := ⟨gb109, 2, none⟩) (by (rw [add_block]; exact hn111_2)) (.int .i64 ((rd_T57 l1 x6_1).f2))).trans hx111_1; replace hx111_2 := (cell_far (p := ⟨gb109, 2, none⟩) (by (rw [add_block]; exact hn111_2)) (.int .i64 ((rd_T57 l1 x6_1).f2))).trans hx111_2; (try have hy111_0 := fun (n_ : Nat) => (show (((((w7.drewN n_).setCell ⟨gb109, 0, none⟩ (.int .i64 ((rd_T57 l1 x6_1).f0))).setCell ⟨gb109, 1, none⟩ (.int .i64 ((rd_T57 l1 x6_1).f1))).setCell ⟨gb109, 2, none⟩ (.int .i64 ((rd_T57 l1 x6_1).f2)))).cell? _ = some _ from hx111_0)); (try have hy111_1 := fun (n_ : Nat) => (show (((((w7.drewN n_).setCell ⟨gb109, 0, none⟩ (.int .i64 ((rd_T57 l1 x6_1).f0))).setCell ⟨gb109, 1, none⟩ (.int .i64 ((rd_T57 l1 x6_1).f1))).setCell ⟨gb109, 2, none⟩ (.int .i64 ((rd_T57 l1 x6_1).f2)))).cell? _ = some _ from hx111_1)); (try have hy111_2 := fun (n_ : Nat) => (show (((((w7.drewN n_).setCell ⟨gb109, 0, none⟩ (.int .i64 ((rd_T57 l1 x6_1).f0))).setCell ⟨gb109, 1, none⟩ (.int .i64 ((rd_T57 l1 x6_1).f1))).setCell ⟨gb109, 2, none⟩ (.int .i64 ((rd_T57 l1 x6_1).f2)))).cell? _ = some _ from hx111_2)); clear hn111_0; clear hn111_1; clear hn111_2; replace p111 := eq_true p111; replace q111 := eq_true q111)); try go_wp2_with (fail))
           go_meet
           case rel => exact ⟨_, (true), (by rfl), H', ⟨by have := HK1.out; omega⟩, ⟨by (with_reducible repeat (refine blk_drewN ?_ _)); refine blk_far ?_ NB107_109.out _; refine blk_far ?_ NB107_109.out _; refine blk_far ?_ NB107_109.out _; exact BK107.out⟩, ⟨by (with_reducible repeat (refine blk_drewN ?_ _)); refine blk_put (cs := #[.int .i64 ((rd_T57 l1 x6_1).f0), .int .i64 ((rd_T57 l1 x6_1).f1), .int .i64 0]) ?_ 2 _ rfl; refine blk_put (cs := #[.int .i64 ((rd_T57 l1 x6_1).f0), .int .i64 0, .int .i64 0]) ?_ 1 _ rfl; refine blk_put (cs := #[.int .i64 0, .int .i64 0, .int .i64 0]) ?_ 0 _ rfl; exact BK109.out⟩, ⟨by repeat ((with_reducible first | exact HB.out | apply pw_below_drewN | refine below_set ?_ GE109.out))⟩⟩
          ·
           rw [if_neg c16] at H; have c16b0 : decide (((rd_T57 l1 x6_1).f0) ≤ ((rd_T57 l1 (ji13)).f0)) = false := decide_eq_false c16; clear c16
           by_cases c19 : ((rd_T57 l1 x6_1).f1) < 1
           ·
            rw [if_pos c19] at H; have c19b0 : decide (((rd_T57 l1 x6_1).f1) < 1) = true := decide_eq_true c19; clear c19; have H' := Aside0.mk H; clear H
            go_wp2_with (fail)
            repeat (go_quiet ((go_at_call 57; (with_reducible refine (thermographref14_node.calls ((rd_T57 l1 x6_1).f0) true _ A10.out).mono ?_); rintro e w' ⟨rfl, ⟨nd, rfl⟩⟩; (try exact ⟨rfl, _, World.drewN_drewN _ _ _⟩); have p111 : 0 ≤ ((ji13) : Int) := of_decide_eq_true (by with_reducible assumption); have q111 : (ji13) < (l1.length : Int) := of_decide_eq_true (by with_reducible assumption); obtain ⟨ad111, e111, hx111_0, hx111_1, hx111_2⟩ := at_T57 HR1.out (ji13) p111 q111; obtain rfl : ad108 = ad111 := (by injection e111); have hn111_0 : ad108.block ≠ gb109 := Nat.ne_of_lt (Nat.lt_of_lt_of_le (by have := World.block_lt_of_cell? _ _ hx111_0; (rwa [add_block] at this)) GW109.out); have hn111_1 : ad108.block ≠ gb109 := Nat.ne_of_lt (Nat.lt_of_lt_of_le (by have := World.block_lt_of_cell? _ _ hx111_0; (rwa [add_block] at this)) GW109.out); have hn111_2 : ad108.block ≠ gb109 := Nat.ne_of_lt (Nat.lt_of_lt_of_le (by have := World.block_lt_of_cell? _ _ hx111_0; (rwa [add_block] at this)) GW109.out); replace hx111_0 := (HB.out.cell (World.block_lt_of_cell? w _ hx111_0)).trans hx111_0; replace hx111_1 := (HB.out.cell (World.block_lt_of_cell? w _ hx111_1)).trans hx111_1; replace hx111_2 := (HB.out.cell (World.block_lt_of_cell? w _ hx111_2)).trans hx111_2; replace hx111_0 := (cell_far (p := ⟨gb109, 0, none⟩) (by (rw [add_block]; exact hn111_0)) (.int .i64 ((rd_T57 l1 x6_1).f0))).trans hx111_0; replace hx111_1 := (cell_far (p := ⟨gb109, 0, none⟩) (by (rw [add_block]; exact hn111_0)) (.int .i64 ((rd_T57 l1 x6_1).f0))).trans hx111_1; replace hx111_2 := (cell_far (p := ⟨gb109, 0, none⟩) (by (rw [add_block]; exact hn111_0)) (.int .i64 ((rd_T57 l1 x6_1).f0))).trans hx111_2; replace hx111_0 := (cell_far (p := ⟨gb109, 1, none⟩) (by (rw [add_block]; exact hn111_1)) (.int .i64 ((rd_T57 l1 x6_1).f1))).trans hx111_0; replace hx111_1 := (cell_far (p := ⟨gb109, 1, none⟩) (by (rw [add_block]; exact hn111_1)) (.int .i64 ((rd_T57 l1 x6_1).f1))).trans hx111_1; replace hx111_2 := (cell_far (p := ⟨gb109, 1, none⟩) (by (rw [add_block]; exact hn111_1)) (.int .i64 ((rd_T57 l1 x6_1).f1))).trans hx111_2; replace hx111_0 := (cell_far (p := ⟨gb109, 2, none⟩) (by (rw [add_block]; exact hn111_2)) (.int .i64 ((rd_T57 l1 x6_1).f2))).trans hx111_0; replace hx111_1 := (cell_far (p := ⟨gb109, 2, none⟩) (by (rw [add_block]; exact hn111_2)) (.int .i64 ((rd_T57 l1 x6_1).f2))).trans hx111_1; replace hx111_2 := (cell_far (p := ⟨gb109, 2, none⟩) (by (rw [add_block]; exact hn111_2)) (.int .i64 ((rd_T57 l1 x6_1).f2))).trans hx111_2; (try have hy111_0 := fun (n_ : Nat) => (show (((((w7.drewN n_).setCell ⟨gb109, 0, none⟩ (.int .i64 ((rd_T57 l1 x6_1).f0))).setCell ⟨gb109, 1, none⟩ (.int .i64 ((rd_T57 l1 x6_1).f1))).setCell ⟨gb109, 2, none⟩ (.int .i64 ((rd_T57 l1 x6_1).f2)))).cell? _ = some _ from hx111_0)); (try have hy111_1 := fun (n_ : Nat) => (show (((((w7.drewN n_).setCell ⟨gb109, 0, none⟩ (.int .i64 ((rd_T57 l1 x6_1).f0))).setCell ⟨gb109, 1, none⟩ (.int .i64 ((rd_T57 l1 x6_1).f1))).setCell ⟨gb109, 2, none⟩ (.int .i64 ((rd_T57 l1 x6_1).f2)))).cell? _ = some _ from hx111_1)); (try have hy111_2 := fun (n_ : Nat) => (show (((((w7.drewN n_).setCell ⟨gb109, 0, none⟩ (.int .i64 ((rd_T57 l1 x6_1).f0))).setCell ⟨gb109, 1, none⟩ (.int .i64 ((rd_T57 l1 x6_1).f1))).setCell ⟨gb109, 2, none⟩ (.int .i64 ((rd_T57 l1 x6_1).f2)))).cell? _ = some _ from hx111_2)); clear hn111_0; clear hn111_1; clear hn111_2; replace p111 := eq_true p111; replace q111 := eq_true q111)); try go_wp2_with (fail))
            go_meet
            case rel => exact ⟨_, (true), (by rfl), H', ⟨by have := HK1.out; omega⟩, ⟨by (with_reducible repeat (refine blk_drewN ?_ _)); refine blk_far ?_ NB107_109.out _; refine blk_far ?_ NB107_109.out _; refine blk_far ?_ NB107_109.out _; exact BK107.out⟩, ⟨by (with_reducible repeat (refine blk_drewN ?_ _)); refine blk_put (cs := #[.int .i64 ((rd_T57 l1 x6_1).f0), .int .i64 ((rd_T57 l1 x6_1).f1), .int .i64 0]) ?_ 2 _ rfl; refine blk_put (cs := #[.int .i64 ((rd_T57 l1 x6_1).f0), .int .i64 0, .int .i64 0]) ?_ 1 _ rfl; refine blk_put (cs := #[.int .i64 0, .int .i64 0, .int .i64 0]) ?_ 0 _ rfl; exact BK109.out⟩, ⟨by repeat ((with_reducible first | exact HB.out | apply pw_below_drewN | refine below_set ?_ GE109.out))⟩⟩
           ·
            rw [if_neg c19] at H; have c19b0 : decide (((rd_T57 l1 x6_1).f1) < 1) = false := decide_eq_false c19; clear c19; have H' := Aside0.mk H; clear H
            go_wp2_with (fail)
            repeat (go_quiet ((go_at_call 57; (with_reducible refine (thermographref14_node.calls ((rd_T57 l1 x6_1).f0) true _ A10.out).mono ?_); rintro e w' ⟨rfl, ⟨nd, rfl⟩⟩; (try exact ⟨rfl, _, World.drewN_drewN _ _ _⟩); have p111 : 0 ≤ ((ji13) : Int) := of_decide_eq_true (by with_reducible assumption); have q111 : (ji13) < (l1.length : Int) := of_decide_eq_true (by with_reducible assumption); obtain ⟨ad111, e111, hx111_0, hx111_1, hx111_2⟩ := at_T57 HR1.out (ji13) p111 q111; obtain rfl : ad108 = ad111 := (by injection e111); have hn111_0 : ad108.block ≠ gb109 := Nat.ne_of_lt (Nat.lt_of_lt_of_le (by have := World.block_lt_of_cell? _ _ hx111_0; (rwa [add_block] at this)) GW109.out); have hn111_1 : ad108.block ≠ gb109 := Nat.ne_of_lt (Nat.lt_of_lt_of_le (by have := World.block_lt_of_cell? _ _ hx111_0; (rwa [add_block] at this)) GW109.out); have hn111_2 : ad108.block ≠ gb109 := Nat.ne_of_lt (Nat.lt_of_lt_of_le (by have := World.block_lt_of_cell? _ _ hx111_0; (rwa [add_block] at this)) GW109.out); replace hx111_0 := (HB.out.cell (World.block_lt_of_cell? w _ hx111_0)).trans hx111_0; replace hx111_1 := (HB.out.cell (World.block_lt_of_cell? w _ hx111_1)).trans hx111_1; replace hx111_2 := (HB.out.cell (World.block_lt_of_cell? w _ hx111_2)).trans hx111_2; replace hx111_0 := (cell_far (p := ⟨gb109, 0, none⟩) (by (rw [add_block]; exact hn111_0)) (.int .i64 ((rd_T57 l1 x6_1).f0))).trans hx111_0; replace hx111_1 := (cell_far (p := ⟨gb109, 0, none⟩) (by (rw [add_block]; exact hn111_0)) (.int .i64 ((rd_T57 l1 x6_1).f0))).trans hx111_1; replace hx111_2 := (cell_far (p := ⟨gb109, 0, none⟩) (by (rw [add_block]; exact hn111_0)) (.int .i64 ((rd_T57 l1 x6_1).f0))).trans hx111_2; replace hx111_0 := (cell_far (p := ⟨gb109, 1, none⟩) (by (rw [add_block]; exact hn111_1)) (.int .i64 ((rd_T57 l1 x6_1).f1))).trans hx111_0; replace hx111_1 := (cell_far (p := ⟨gb109, 1, none⟩) (by (rw [add_block]; exact hn111_1)) (.int .i64 ((rd_T57 l1 x6_1).f1))).trans hx111_1; replace hx111_2 := (cell_far (p := ⟨gb109, 1, none⟩) (by (rw [add_block]; exact hn111_1)) (.int .i64 ((rd_T57 l1 x6_1).f1))).trans hx111_2; replace hx111_0 := (cell_far (p := ⟨gb109, 2, none⟩) (by (rw [add_block]; exact hn111_2)) (.int .i64 ((rd_T57 l1 x6_1).f2))).trans hx111_0; replace hx111_1 := (cell_far (p := ⟨gb109, 2, none⟩) (by (rw [add_block]; exact hn111_2)) (.int .i64 ((rd_T57 l1 x6_1).f2))).trans hx111_1; replace hx111_2 := (cell_far (p := ⟨gb109, 2, none⟩) (by (rw [add_block]; exact hn111_2)) (.int .i64 ((rd_T57 l1 x6_1).f2))).trans hx111_2; (try have hy111_0 := fun (n_ : Nat) => (show (((((w7.drewN n_).setCell ⟨gb109, 0, none⟩ (.int .i64 ((rd_T57 l1 x6_1).f0))).setCell ⟨gb109, 1, none⟩ (.int .i64 ((rd_T57 l1 x6_1).f1))).setCell ⟨gb109, 2, none⟩ (.int .i64 ((rd_T57 l1 x6_1).f2)))).cell? _ = some _ from hx111_0)); (try have hy111_1 := fun (n_ : Nat) => (show (((((w7.drewN n_).setCell ⟨gb109, 0, none⟩ (.int .i64 ((rd_T57 l1 x6_1).f0))).setCell ⟨gb109, 1, none⟩ (.int .i64 ((rd_T57 l1 x6_1).f1))).setCell ⟨gb109, 2, none⟩ (.int .i64 ((rd_T57 l1 x6_1).f2)))).cell? _ = some _ from hx111_1)); (try have hy111_2 := fun (n_ : Nat) => (show (((((w7.drewN n_).setCell ⟨gb109, 0, none⟩ (.int .i64 ((rd_T57 l1 x6_1).f0))).setCell ⟨gb109, 1, none⟩ (.int .i64 ((rd_T57 l1 x6_1).f1))).setCell ⟨gb109, 2, none⟩ (.int .i64 ((rd_T57 l1 x6_1).f2)))).cell? _ = some _ from hx111_2)); clear hn111_0; clear hn111_1; clear hn111_2; replace p111 := eq_true p111; replace q111 := eq_true q111)); try go_wp2_with (fail))
            go_meet
            case rel => exact ⟨_, (decide (((rd_T57 l1 x6_1).f1) > 3)), (by rfl), H', ⟨by have := HK1.out; omega⟩, ⟨by (with_reducible repeat (refine blk_drewN ?_ _)); refine blk_far ?_ NB107_109.out _; refine blk_far ?_ NB107_109.out _; refine blk_far ?_ NB107_109.out _; exact BK107.out⟩, ⟨by (with_reducible repeat (refine blk_drewN ?_ _)); refine blk_put (cs := #[.int .i64 ((rd_T57 l1 x6_1).f0), .int .i64 ((rd_T57 l1 x6_1).f1), .int .i64 0]) ?_ 2 _ rfl; refine blk_put (cs := #[.int .i64 ((rd_T57 l1 x6_1).f0), .int .i64 0, .int .i64 0]) ?_ 1 _ rfl; refine blk_put (cs := #[.int .i64 0, .int .i64 0, .int .i64 0]) ?_ 0 _ rfl; exact BK109.out⟩, ⟨by repeat ((with_reducible first | exact HB.out | apply pw_below_drewN | refine below_set ?_ GE109.out))⟩⟩
         ·
          rw [if_neg c15] at H; exact absurd H (by simp)
        ·
         rw [if_neg c14] at H; exact absurd H (by simp)
       ·
        rw [if_neg c12] at H; have c12b0 : decide (0 < x6_1) = false := decide_eq_false c12; clear c12
        ((skip))
        by_cases c24 : ((rd_T57 l1 x6_1).f1) < 1
        ·
         rw [if_pos c24] at H; have c24b0 : decide (((rd_T57 l1 x6_1).f1) < 1) = true := decide_eq_true c24; clear c24; have H' := Aside0.mk H; clear H
         go_wp2_with (fail)
         repeat (go_quiet ((go_at_call 57; (with_reducible refine (thermographref14_node.calls ((rd_T57 l1 x6_1).f0) true _ A10.out).mono ?_); rintro e w' ⟨rfl, ⟨nd, rfl⟩⟩; (try exact ⟨rfl, _, World.drewN_drewN _ _ _⟩))); try go_wp2_with (fail))
         go_meet
         case rel => exact ⟨_, (true), (by rfl), H', ⟨by have := HK1.out; omega⟩, ⟨by (with_reducible repeat (refine blk_drewN ?_ _)); refine blk_far ?_ NB107_109.out _; refine blk_far ?_ NB107_109.out _; refine blk_far ?_ NB107_109.out _; exact BK107.out⟩, ⟨by (with_reducible repeat (refine blk_drewN ?_ _)); refine blk_put (cs := #[.int .i64 ((rd_T57 l1 x6_1).f0), .int .i64 ((rd_T57 l1 x6_1).f1), .int .i64 0]) ?_ 2 _ rfl; refine blk_put (cs := #[.int .i64 ((rd_T57 l1 x6_1).f0), .int .i64 0, .int .i64 0]) ?_ 1 _ rfl; refine blk_put (cs := #[.int .i64 0, .int .i64 0, .int .i64 0]) ?_ 0 _ rfl; exact BK109.out⟩, ⟨by repeat ((with_reducible first | exact HB.out | apply pw_below_drewN | refine below_set ?_ GE109.out))⟩⟩
        ·
         rw [if_neg c24] at H; have c24b0 : decide (((rd_T57 l1 x6_1).f1) < 1) = false := decide_eq_false c24; clear c24; have H' := Aside0.mk H; clear H
         go_wp2_with (fail)
         repeat (go_quiet ((go_at_call 57; (with_reducible refine (thermographref14_node.calls ((rd_T57 l1 x6_1).f0) true _ A10.out).mono ?_); rintro e w' ⟨rfl, ⟨nd, rfl⟩⟩; (try exact ⟨rfl, _, World.drewN_drewN _ _ _⟩))); try go_wp2_with (fail))
         go_meet
         case rel => exact ⟨_, (decide (((rd_T57 l1 x6_1).f1) > 3)), (by rfl), H', ⟨by have := HK1.out; omega⟩, ⟨by (with_reducible repeat (refine blk_drewN ?_ _)); refine blk_far ?_ NB107_109.out _; refine blk_far ?_ NB107_109.out _; refine blk_far ?_ NB107_109.out _; exact BK107.out⟩, ⟨by (with_reducible repeat (refine blk_drewN ?_ _)); refine blk_put (cs := #[.int .i64 ((rd_T57 l1 x6_1).f0), .int .i64 ((rd_T57 l1 x6_1).f1), .int .i64 0]) ?_ 2 _ rfl; refine blk_put (cs := #[.int .i64 ((rd_T57 l1 x6_1).f0), .int .i64 0, .int .i64 0]) ?_ 1 _ rfl; refine blk_put (cs := #[.int .i64 0, .int .i64 0, .int .i64 0]) ?_ 0 _ rfl; exact BK109.out⟩, ⟨by repeat ((with_reducible first | exact HB.out | apply pw_below_drewN | refine below_set ?_ GE109.out))⟩⟩
      ·
       replace c11 := Bool.eq_false_iff.mpr c11; subst c11; have H1 : (thermographref14_shard.j1 k1 l1 x5_1 x6_1 true a0_0 l0_1 l0_2 ((rd_T57 l1 x6_1).f0) ((rd_T57 l1 x6_1).f1) ((rd_T57 l1 x6_1).f2)) = some r := by rw [if_neg (show ¬ (false = true) by decide)] at H; exact H
       clear H; have H := H1; clear H1; have H' := Aside0.mk H; clear H
       go_wp2_with (fail)
       repeat (go_quiet ((go_at_call 57; (with_reducible refine (thermographref14_node.calls ((rd_T57 l1 x6_1).f0) false _ A10.out).mono ?_); rintro e w' ⟨rfl, ⟨nd, rfl⟩⟩; (try exact ⟨rfl, _, World.drewN_drewN _ _ _⟩))); try go_wp2_with (fail))
       go_meet
       case rel => exact ⟨_, (true), (by rfl), H', ⟨by have := HK1.out; omega⟩, ⟨by (with_reducible repeat (refine blk_drewN ?_ _)); refine blk_far ?_ NB107_109.out _; refine blk_far ?_ NB107_109.out _; refine blk_far ?_ NB107_109.out _; exact BK107.out⟩, ⟨by (with_reducible repeat (refine blk_drewN ?_ _)); refine blk_put (cs := #[.int .i64 ((rd_T57 l1 x6_1).f0), .int .i64 ((rd_T57 l1 x6_1).f1), .int .i64 0]) ?_ 2 _ rfl; refine blk_put (cs := #[.int .i64 ((rd_T57 l1 x6_1).f0), .int .i64 0, .int .i64 0]) ?_ 1 _ rfl; refine blk_put (cs := #[.int .i64 0, .int .i64 0, .int .i64 0]) ?_ 0 _ rfl; exact BK109.out⟩, ⟨by repeat ((with_reducible first | exact HB.out | apply pw_below_drewN | refine below_set ?_ GE109.out))⟩⟩
     case rest =>
      clear HC6; try clear c4b0
      try clear c5b0
      try clear hcz9_0
      try clear hcz9_1
      try clear hcz9_2
      try clear hfz9_0
      try clear hfz9_1
      try clear hfz9_2
      try clear hx108_0
      try clear hx108_1
      try clear hx108_2
      try clear p108
      try clear q108
      obtain ⟨kq, x49_5, rfl, HA, HJ5, BK107, BK109, HB⟩ := hcut
      cases kq with
      | zero => exact absurd HA.out (by simp [thermographref14_shard.j1])
      | succ kj5 =>
       have H := HA.out; clear HA; simp only [thermographref14_shard.j1] at H
       by_cases c31 : x49_5 = true
       ·
        subst c31; have H1 : (some false) = some r := by rw [if_pos rfl] at H; exact H
        clear H; have H := H1; clear H1; obtain rfl := Option.some.inj H; go_wp2; go_ret; exact ⟨by rfl, by repeat ((with_reducible exact HB.out))⟩
       ·
        replace c31 := Bool.eq_false_iff.mpr c31; subst c31; have H1 : (thermographref14_shard.l1 kj5 l1 x5_1 x6_1 0 0 0 a0_0 l0_1 l0_2 ((rd_T57 l1 x6_1).f0) ((rd_T57 l1 x6_1).f1) ((rd_T57 l1 x6_1).f2)) = some r := by rw [if_neg (show ¬ (false = true) by decide)] at H; exact H
        clear H; have H := H1; clear H1; have H' := Aside0.mk H; clear H; go_wp2; go_loopg [8, 9, 10] kj5 (fun kq v8 v9 v10 w' => ∃ (x8_3 : Int) (x9_3 : Int) (x10_3 : Int), v8 = .int .i64 x8_3 ∧ v9 = .int .i64 x9_3 ∧ v10 = .int .i64 x10_3 ∧ Aside0 (thermographref14_shard.l1 kq l1 x5_1 x6_1 x8_3 x9_3 x10_3 a0_0 l0_1 l0_2 ((rd_T57 l1 x6_1).f0) ((rd_T57 l1 x6_1).f1) ((rd_T57 l1 x6_1).f2) = some r) ∧ Aside0 (kq ≤ kj5) ∧ Aside0 (w'.heap[gb107]? = some (.cells #[.int .i64 a0_0, (.slice A0_1 l0_1.length c0_1), (.slice A0_2 l0_2.length c0_2)] 25 (0, 0))) ∧ Aside0 (w'.heap[gb109]? = some (.cells #[.int .i64 ((rd_T57 l1 x6_1).f0), .int .i64 ((rd_T57 l1 x6_1).f1), .int .i64 ((rd_T57 l1 x6_1).f2)] 57 (0, 0))) ∧ Aside0 (Below w.heap.size w w'))
        case atStart => exact ⟨(0), (0), (0), (by rfl), (by rfl), (by rfl), H', ⟨Nat.le_refl _⟩, ⟨BK107.out⟩, ⟨BK109.out⟩, ⟨HB.out⟩⟩
        case round =>
         clear H'; obtain ⟨x8_3, x9_3, x10_3, rfl, rfl, rfl, HA, HK3, BK107, BK109, HB⟩ := hrel
         cases gk with
         | zero => exact absurd HA.out (by simp [thermographref14_shard.l1])
         | succ k3 =>
          have H := HA.out; clear HA; simp only [thermographref14_shard.l1] at H
          by_cases c32 : x10_3 < (l1.length : Int)
          ·
           rw [if_pos c32] at H; have c32b0 : decide (x10_3 < (l1.length : Int)) = true := decide_eq_true c32; clear c32; have HC33 := Aside0.mk H; clear H
           go_upto_region 13 with (fail)
           go_cut [71] (fun v71 wc => ∃ (kq : Nat) (x71_32 : Bool), v71 = .bool x71_32 ∧ Aside0 (thermographref14_shard.j3 kq l1 x5_1 x6_1 x8_3 x9_3 x10_3 x71_32 a0_0 l0_1 l0_2 ((rd_T57 l1 x6_1).f0) ((rd_T57 l1 x6_1).f1) ((rd_T57 l1 x6_1).f2) = some r) ∧ Aside0 (kq ≤ k3) ∧ Aside0 (wc.heap[gb107]? = some (.cells #[.int .i64 a0_0, (.slice A0_1 l0_1.length c0_1), (.slice A0_2 l0_2.length c0_2)] 25 (0, 0))) ∧ Aside0 (wc.heap[gb109]? = some (.cells #[.int .i64 ((rd_T57 l1 x6_1).f0), .int .i64 ((rd_T57 l1 x6_1).f1), .int .i64 ((rd_T57 l1 x6_1).f2)] 57 (0, 0))) ∧ Aside0 (Below w.heap.size w wc))
           case first =>
            have H := HC33.out; clear HC33
            by_cases c34 : 0 ≤ x10_3
            ·
             rw [if_pos c34] at H; have c34b0 : decide (0 ≤ x10_3) = true := decide_eq_true c34; clear c34
             ((skip))
             by_cases c35 : ((rd_T57 l1 x10_3).f1) = 3
             ·
              rw [if_pos c35] at H; have c35b0 : (((rd_T57 l1 x10_3).f1) == 3) = true := beq_iff_eq.mpr c35; clear c35; have H' := Aside0.mk H; clear H; have p112 : 0 ≤ (x10_3 : Int) := of_decide_eq_true (by with_reducible assumption); have q112 : x10_3 < (l1.length : Int) := of_decide_eq_true (by with_reducible assumption); obtain ⟨ad112, e112, hx112_0, hx112_1, hx112_2⟩ := at_T57 HR1.out x10_3 p112 q112
              obtain rfl : ad108 = ad112 := (by injection e112)
              replace hx112_0 := (HB.out.cell (World.block_lt_of_cell? w _ hx112_0)).trans hx112_0; replace hx112_1 := (HB.out.cell (World.block_lt_of_cell? w _ hx112_1)).trans hx112_1; replace hx112_2 := (HB.out.cell (World.block_lt_of_cell? w _ hx112_2)).trans hx112_2; replace p112 := eq_true p112; replace q112 := eq_true q112; have p113 : 0 ≤ (x10_3 : Int) := of_decide_eq_true (by with_reducible assumption); have q113 : x10_3 < (l1.length : Int) := of_decide_eq_true (by with_reducible assumption); obtain ⟨ad113, e113, hx113_0, hx113_1, hx113_2⟩ := at_T57 HR1.out x10_3 p113 q113
              obtain rfl : ad108 = ad113 := (by injection e113)
              replace hx113_0 := (HB.out.cell (World.block_lt_of_cell? w _ hx113_0)).trans hx113_0; replace hx113_1 := (HB.out.cell (World.block_lt_of_cell? w _ hx113_1)).trans hx113_1; replace hx113_2 := (HB.out.cell (World.block_lt_of_cell? w _ hx113_2)).trans hx113_2; replace p113 := eq_true p113; replace q113 := eq_true q113; have hcz37_2 : wr.cell? ⟨gb109, 2, none⟩ = some (.int .i64 ((rd_T57 l1 x6_1).f2)) := (blk_cell BK109.out 2).trans rfl; go_wp2; repeat (go_quiet (fail); try go_wp2)
              go_meet
              case rel => exact ⟨_, ((((rd_T57 l1 x10_3).f0) == ((rd_T57 l1 x6_1).f2))), (by rfl), H', ⟨by have := HK1.out; have := HJ5.out; have := HK3.out; omega⟩, ⟨by (with_reducible repeat (refine blk_drewN ?_ _)); exact BK107.out⟩, ⟨by (with_reducible repeat (refine blk_drewN ?_ _)); exact BK109.out⟩, ⟨by repeat ((with_reducible first | exact HB.out | apply pw_below_drewN))⟩⟩
             ·
              rw [if_neg c35] at H; have c35b0 : (((rd_T57 l1 x10_3).f1) == 3) = false := beq_eq_false_iff_ne.mpr c35; have H' := Aside0.mk H; clear H; have p112 : 0 ≤ (x10_3 : Int) := of_decide_eq_true (by with_reducible assumption); have q112 : x10_3 < (l1.length : Int) := of_decide_eq_true (by with_reducible assumption); obtain ⟨ad112, e112, hx112_0, hx112_1, hx112_2⟩ := at_T57 HR1.out x10_3 p112 q112
              obtain rfl : ad108 = ad112 := (by injection e112)
              replace hx112_0 := (HB.out.cell (World.block_lt_of_cell? w _ hx112_0)).trans hx112_0; replace hx112_1 := (HB.out.cell (World.block_lt_of_cell? w _ hx112_1)).trans hx112_1; replace hx112_2 := (HB.out.cell (World.block_lt_of_cell? w _ hx112_2)).trans hx112_2; replace p112 := eq_true p112; replace q112 := eq_true q112; go_wp2; repeat (go_quiet (fail); try go_wp2)
              go_meet
              case rel => exact ⟨_, (false), (by rfl), H', ⟨by have := HK1.out; have := HJ5.out; have := HK3.out; omega⟩, ⟨by (with_reducible repeat (refine blk_drewN ?_ _)); exact BK107.out⟩, ⟨by (with_reducible repeat (refine blk_drewN ?_ _)); exact BK109.out⟩, ⟨by repeat ((with_reducible first | exact HB.out | apply pw_below_drewN))⟩⟩
            ·
             rw [if_neg c34] at H; exact absurd H (by simp)
           case rest =>
            clear HC33; try clear c32b0
            obtain ⟨kq, x71_32, rfl, HA, HJ32, BK107, BK109, HB⟩ := hcut
            cases kq with
            | zero => exact absurd HA.out (by simp [thermographref14_shard.j3])
            | succ kj32 =>
             have H := HA.out; clear HA; simp only [thermographref14_shard.j3] at H
             by_cases c38 : x71_32 = true
             ·
              subst c38; have H1 : (if 0 ≤ x10_3 then (if x10_3 < (l1.length : Int) then (if ((rd_T57 l1 x10_3).f1) = 1 then (if ((rd_T57 l1 x10_3).f2) = ((rd_T57 l1 x6_1).f0) then (thermographref14_shard.l1 kj32 l1 x5_1 x6_1 (wrap64 (x8_3 + 1)) (wrap64 (x9_3 + 1)) (wrap64 (x10_3 + 1)) a0_0 l0_1 l0_2 ((rd_T57 l1 x6_1).f0) ((rd_T57 l1 x6_1).f1) ((rd_T57 l1 x6_1).f2)) else (thermographref14_shard.l1 kj32 l1 x5_1 x6_1 (wrap64 (x8_3 + 1)) x9_3 (wrap64 (x10_3 + 1)) a0_0 l0_1 l0_2 ((rd_T57 l1 x6_1).f0) ((rd_T57 l1 x6_1).f1) ((rd_T57 l1 x6_1).f2))) else (thermographref14_shard.l1 kj32 l1 x5_1 x6_1 (wrap64 (x8_3 + 1)) x9_3 (wrap64 (x10_3 + 1)) a0_0 l0_1 l0_2 ((rd_T57 l1 x6_1).f0) ((rd_T57 l1 x6_1).f1) ((rd_T57 l1 x6_1).f2))) else (none)) else (none)) = some r := by rw [if_pos rfl] at H; exact H
              clear H; have H := H1; clear H1
              by_cases c39 : 0 ≤ x10_3
              ·
               rw [if_pos c39] at H; have c39b0 : decide (0 ≤ x10_3) = true := decide_eq_true c39; clear c39
               by_cases c40 : x10_3 < (l1.length : Int)
               ·
                rw [if_pos c40] at H; have c40b0 : decide (x10_3 < (l1.length : Int)) = true := decide_eq_true c40; clear c40
                by_cases c41 : ((rd_T57 l1 x10_3).f1) = 1
                ·
                 rw [if_pos c41] at H; have c41b0 : (((rd_T57 l1 x10_3).f1) == 1) = true := beq_iff_eq.mpr c41; clear c41
                 by_cases c42 : ((rd_T57 l1 x10_3).f2) = ((rd_T57 l1 x6_1).f0)
                 ·
                  rw [if_pos c42] at H; have c42b0 : (((rd_T57 l1 x10_3).f2) == ((rd_T57 l1 x6_1).f0)) = true := beq_iff_eq.mpr c42; clear c42; have H' := Aside0.mk H; clear H; have p114 : 0 ≤ (x10_3 : Int) := of_decide_eq_true (by with_reducible assumption); have q114 : x10_3 < (l1.length : Int) := of_decide_eq_true (by with_reducible assumption); obtain ⟨ad114, e114, hx114_0, hx114_1, hx114_2⟩ := at_T57 HR1.out x10_3 p114 q114
                  obtain rfl : ad108 = ad114 := (by injection e114)
                  replace hx114_0 := (HB.out.cell (World.block_lt_of_cell? w _ hx114_0)).trans hx114_0; replace hx114_1 := (HB.out.cell (World.block_lt_of_cell? w _ hx114_1)).trans hx114_1; replace hx114_2 := (HB.out.cell (World.block_lt_of_cell? w _ hx114_2)).trans hx114_2; replace p114 := eq_true p114; replace q114 := eq_true q114; have p115 : 0 ≤ (x10_3 : Int) := of_decide_eq_true (by with_reducible assumption); have q115 : x10_3 < (l1.length : Int) := of_decide_eq_true (by with_reducible assumption); obtain ⟨ad115, e115, hx115_0, hx115_1, hx115_2⟩ := at_T57 HR1.out x10_3 p115 q115
                  obtain rfl : ad108 = ad115 := (by injection e115)
                  replace hx115_0 := (HB.out.cell (World.block_lt_of_cell? w _ hx115_0)).trans hx115_0; replace hx115_1 := (HB.out.cell (World.block_lt_of_cell? w _ hx115_1)).trans hx115_1; replace hx115_2 := (HB.out.cell (World.block_lt_of_cell? w _ hx115_2)).trans hx115_2; replace p115 := eq_true p115; replace q115 := eq_true q115; have hcz44_0 : wc.cell? ⟨gb109, 0, none⟩ = some (.int .i64 ((rd_T57 l1 x6_1).f0)) := (blk_cell BK109.out 0).trans rfl; go_wp2; repeat (go_quiet (fail); try go_wp2)
                  go_roundg kj32
                  case measure => have := HK1.out; have := HJ5.out; have := HK3.out; have := HJ32.out; omega
                  case rel => exact ⟨(wrap64 (x8_3 + 1)), (wrap64 (x9_3 + 1)), (wrap64 (x10_3 + 1)), (by rfl), (by rfl), (by rfl), H', ⟨by have := HK1.out; have := HJ5.out; have := HK3.out; have := HJ32.out; omega⟩, ⟨by (with_reducible repeat (refine blk_drewN ?_ _)); exact BK107.out⟩, ⟨by (with_reducible repeat (refine blk_drewN ?_ _)); exact BK109.out⟩, ⟨by repeat ((with_reducible first | exact HB.out | apply pw_below_drewN))⟩⟩
                 ·
                  rw [if_neg c42] at H; have c42b0 : (((rd_T57 l1 x10_3).f2) == ((rd_T57 l1 x6_1).f0)) = false := beq_eq_false_iff_ne.mpr c42; have H' := Aside0.mk H; clear H; have p114 : 0 ≤ (x10_3 : Int) := of_decide_eq_true (by with_reducible assumption); have q114 : x10_3 < (l1.length : Int) := of_decide_eq_true (by with_reducible assumption); obtain ⟨ad114, e114, hx114_0, hx114_1, hx114_2⟩ := at_T57 HR1.out x10_3 p114 q114
                  obtain rfl : ad108 = ad114 := (by injection e114)
                  replace hx114_0 := (HB.out.cell (World.block_lt_of_cell? w _ hx114_0)).trans hx114_0; replace hx114_1 := (HB.out.cell (World.block_lt_of_cell? w _ hx114_1)).trans hx114_1; replace hx114_2 := (HB.out.cell (World.block_lt_of_cell? w _ hx114_2)).trans hx114_2; replace p114 := eq_true p114; replace q114 := eq_true q114; have p115 : 0 ≤ (x10_3 : Int) := of_decide_eq_true (by with_reducible assumption); have q115 : x10_3 < (l1.length : Int) := of_decide_eq_true (by with_reducible assumption); obtain ⟨ad115, e115, hx115_0, hx115_1, hx115_2⟩ := at_T57 HR1.out x10_3 p115 q115
                  obtain rfl : ad108 = ad115 := (by injection e115)
                  replace hx115_0 := (HB.out.cell (World.block_lt_of_cell? w _ hx115_0)).trans hx115_0; replace hx115_1 := (HB.out.cell (World.block_lt_of_cell? w _ hx115_1)).trans hx115_1; replace hx115_2 := (HB.out.cell (World.block_lt_of_cell? w _ hx115_2)).trans hx115_2; replace p115 := eq_true p115; replace q115 := eq_true q115; have hcz46_0 : wc.cell? ⟨gb109, 0, none⟩ = some (.int .i64 ((rd_T57 l1 x6_1).f0)) := (blk_cell BK109.out 0).trans rfl; go_wp2; repeat (go_quiet (fail); try go_wp2)
                  go_roundg kj32
                  case measure => have := HK1.out; have := HJ5.out; have := HK3.out; have := HJ32.out; omega
                  case rel => exact ⟨(wrap64 (x8_3 + 1)), (x9_3), (wrap64 (x10_3 + 1)), (by rfl), (by rfl), (by rfl), H', ⟨by have := HK1.out; have := HJ5.out; have := HK3.out; have := HJ32.out; omega⟩, ⟨by (with_reducible repeat (refine blk_drewN ?_ _)); exact BK107.out⟩, ⟨by (with_reducible repeat (refine blk_drewN ?_ _)); exact BK109.out⟩, ⟨by repeat ((with_reducible first | exact HB.out | apply pw_below_drewN))⟩⟩
                ·
                 rw [if_neg c41] at H; have c41b0 : (((rd_T57 l1 x10_3).f1) == 1) = false := beq_eq_false_iff_ne.mpr c41; have H' := Aside0.mk H; clear H; have p114 : 0 ≤ (x10_3 : Int) := of_decide_eq_true (by with_reducible assumption); have q114 : x10_3 < (l1.length : Int) := of_decide_eq_true (by with_reducible assumption); obtain ⟨ad114, e114, hx114_0, hx114_1, hx114_2⟩ := at_T57 HR1.out x10_3 p114 q114
                 obtain rfl : ad108 = ad114 := (by injection e114)
                 replace hx114_0 := (HB.out.cell (World.block_lt_of_cell? w _ hx114_0)).trans hx114_0; replace hx114_1 := (HB.out.cell (World.block_lt_of_cell? w _ hx114_1)).trans hx114_1; replace hx114_2 := (HB.out.cell (World.block_lt_of_cell? w _ hx114_2)).trans hx114_2; replace p114 := eq_true p114; replace q114 := eq_true q114; go_wp2; repeat (go_quiet (fail); try go_wp2)
                 go_roundg kj32
                 case measure => have := HK1.out; have := HJ5.out; have := HK3.out; have := HJ32.out; omega
                 case rel => exact ⟨(wrap64 (x8_3 + 1)), (x9_3), (wrap64 (x10_3 + 1)), (by rfl), (by rfl), (by rfl), H', ⟨by have := HK1.out; have := HJ5.out; have := HK3.out; have := HJ32.out; omega⟩, ⟨by (with_reducible repeat (refine blk_drewN ?_ _)); exact BK107.out⟩, ⟨by (with_reducible repeat (refine blk_drewN ?_ _)); exact BK109.out⟩, ⟨by repeat ((with_reducible first | exact HB.out | apply pw_below_drewN))⟩⟩
               ·
                rw [if_neg c40] at H; exact absurd H (by simp)
              ·
               rw [if_neg c39] at H; exact absurd H (by simp)
             ·
              replace c38 := Bool.eq_false_iff.mpr c38; subst c38; have H1 : (if 0 ≤ x10_3 then (if x10_3 < (l1.length : Int) then (if ((rd_T57 l1 x10_3).f1) = 1 then (if ((rd_T57 l1 x10_3).f2) = ((rd_T57 l1 x6_1).f0) then (thermographref14_shard.l1 kj32 l1 x5_1 x6_1 x8_3 (wrap64 (x9_3 + 1)) (wrap64 (x10_3 + 1)) a0_0 l0_1 l0_2 ((rd_T57 l1 x6_1).f0) ((rd_T57 l1 x6_1).f1) ((rd_T57 l1 x6_1).f2)) else (thermographref14_shard.l1 kj32 l1 x5_1 x6_1 x8_3 x9_3 (wrap64 (x10_3 + 1)) a0_0 l0_1 l0_2 ((rd_T57 l1 x6_1).f0) ((rd_T57 l1 x6_1).f1) ((rd_T57 l1 x6_1).f2))) else (thermographref14_shard.l1 kj32 l1 x5_1 x6_1 x8_3 x9_3 (wrap64 (x10_3 + 1)) a0_0 l0_1 l0_2 ((rd_T57 l1 x6_1).f0) ((rd_T57 l1 x6_1).f1) ((rd_T57 l1 x6_1).f2))) else (none)) else (none)) = some r := by rw [if_neg (show ¬ (false = true) by decide)] at H; exact H
              clear H; have H := H1; clear H1
              by_cases c47 : 0 ≤ x10_3
              ·
               rw [if_pos c47] at H; have c47b0 : decide (0 ≤ x10_3) = true := decide_eq_true c47; clear c47
               by_cases c48 : x10_3 < (l1.length : Int)
               ·
                rw [if_pos c48] at H; have c48b0 : decide (x10_3 < (l1.length : Int)) = true := decide_eq_true c48; clear c48
                by_cases c49 : ((rd_T57 l1 x10_3).f1) = 1
                ·
                 rw [if_pos c49] at H; have c49b0 : (((rd_T57 l1 x10_3).f1) == 1) = true := beq_iff_eq.mpr c49; clear c49
                 by_cases c50 : ((rd_T57 l1 x10_3).f2) = ((rd_T57 l1 x6_1).f0)
                 ·
                  rw [if_pos c50] at H; have c50b0 : (((rd_T57 l1 x10_3).f2) == ((rd_T57 l1 x6_1).f0)) = true := beq_iff_eq.mpr c50; clear c50; have H' := Aside0.mk H; clear H; have p116 : 0 ≤ (x10_3 : Int) := of_decide_eq_true (by with_reducible assumption); have q116 : x10_3 < (l1.length : Int) := of_decide_eq_true (by with_reducible assumption); obtain ⟨ad116, e116, hx116_0, hx116_1, hx116_2⟩ := at_T57 HR1.out x10_3 p116 q116
                  obtain rfl : ad108 = ad116 := (by injection e116)
                  replace hx116_0 := (HB.out.cell (World.block_lt_of_cell? w _ hx116_0)).trans hx116_0; replace hx116_1 := (HB.out.cell (World.block_lt_of_cell? w _ hx116_1)).trans hx116_1; replace hx116_2 := (HB.out.cell (World.block_lt_of_cell? w _ hx116_2)).trans hx116_2; replace p116 := eq_true p116; replace q116 := eq_true q116; have p117 : 0 ≤ (x10_3 : Int) := of_decide_eq_true (by with_reducible assumption); have q117 : x10_3 < (l1.length : Int) := of_decide_eq_true (by with_reducible assumption); obtain ⟨ad117, e117, hx117_0, hx117_1, hx117_2⟩ := at_T57 HR1.out x10_3 p117 q117
                  obtain rfl : ad108 = ad117 := (by injection e117)
                  replace hx117_0 := (HB.out.cell (World.block_lt_of_cell? w _ hx117_0)).trans hx117_0; replace hx117_1 := (HB.out.cell (World.block_lt_of_cell? w _ hx117_1)).trans hx117_1; replace hx117_2 := (HB.out.cell (World.block_lt_of_cell? w _ hx117_2)).trans hx117_2; replace p117 := eq_true p117; replace q117 := eq_true q117; have hcz52_0 : wc.cell? ⟨gb109, 0, none⟩ = some (.int .i64 ((rd_T57 l1 x6_1).f0)) := (blk_cell BK109.out 0).trans rfl; go_wp2; repeat (go_quiet (fail); try go_wp2)
                  go_roundg kj32
                  case measure => have := HK1.out; have := HJ5.out; have := HK3.out; have := HJ32.out; omega
                  case rel => exact ⟨(x8_3), (wrap64 (x9_3 + 1)), (wrap64 (x10_3 + 1)), (by rfl), (by rfl), (by rfl), H', ⟨by have := HK1.out; have := HJ5.out; have := HK3.out; have := HJ32.out; omega⟩, ⟨by (with_reducible repeat (refine blk_drewN ?_ _)); exact BK107.out⟩, ⟨by (with_reducible repeat (refine blk_drewN ?_ _)); exact BK109.out⟩, ⟨by repeat ((with_reducible first | exact HB.out | apply pw_below_drewN))⟩⟩
                 ·
                  rw [if_neg c50] at H; have c50b0 : (((rd_T57 l1 x10_3).f2) == ((rd_T57 l1 x6_1).f0)) = false := beq_eq_false_iff_ne.mpr c50; have H' := Aside0.mk H; clear H; have p116 : 0 ≤ (x10_3 : Int) := of_decide_eq_true (by with_reducible assumption); have q116 : x10_3 < (l1.length : Int) := of_decide_eq_true (by with_reducible assumption); obtain ⟨ad116, e116, hx116_0, hx116_1, hx116_2⟩ := at_T57 HR1.out x10_3 p116 q116
                  obtain rfl : ad108 = ad116 := (by injection e116)
                  replace hx116_0 := (HB.out.cell (World.block_lt_of_cell? w _ hx116_0)).trans hx116_0; replace hx116_1 := (HB.out.cell (World.block_lt_of_cell? w _ hx116_1)).trans hx116_1; replace hx116_2 := (HB.out.cell (World.block_lt_of_cell? w _ hx116_2)).trans hx116_2; replace p116 := eq_true p116; replace q116 := eq_true q116; have p117 : 0 ≤ (x10_3 : Int) := of_decide_eq_true (by with_reducible assumption); have q117 : x10_3 < (l1.length : Int) := of_decide_eq_true (by with_reducible assumption); obtain ⟨ad117, e117, hx117_0, hx117_1, hx117_2⟩ := at_T57 HR1.out x10_3 p117 q117
                  obtain rfl : ad108 = ad117 := (by injection e117)
                  replace hx117_0 := (HB.out.cell (World.block_lt_of_cell? w _ hx117_0)).trans hx117_0; replace hx117_1 := (HB.out.cell (World.block_lt_of_cell? w _ hx117_1)).trans hx117_1; replace hx117_2 := (HB.out.cell (World.block_lt_of_cell? w _ hx117_2)).trans hx117_2; replace p117 := eq_true p117; replace q117 := eq_true q117; have hcz54_0 : wc.cell? ⟨gb109, 0, none⟩ = some (.int .i64 ((rd_T57 l1 x6_1).f0)) := (blk_cell BK109.out 0).trans rfl; go_wp2; repeat (go_quiet (fail); try go_wp2)
                  go_roundg kj32
                  case measure => have := HK1.out; have := HJ5.out; have := HK3.out; have := HJ32.out; omega
                  case rel => exact ⟨(x8_3), (x9_3), (wrap64 (x10_3 + 1)), (by rfl), (by rfl), (by rfl), H', ⟨by have := HK1.out; have := HJ5.out; have := HK3.out; have := HJ32.out; omega⟩, ⟨by (with_reducible repeat (refine blk_drewN ?_ _)); exact BK107.out⟩, ⟨by (with_reducible repeat (refine blk_drewN ?_ _)); exact BK109.out⟩, ⟨by repeat ((with_reducible first | exact HB.out | apply pw_below_drewN))⟩⟩
                ·
                 rw [if_neg c49] at H; have c49b0 : (((rd_T57 l1 x10_3).f1) == 1) = false := beq_eq_false_iff_ne.mpr c49; have H' := Aside0.mk H; clear H; have p116 : 0 ≤ (x10_3 : Int) := of_decide_eq_true (by with_reducible assumption); have q116 : x10_3 < (l1.length : Int) := of_decide_eq_true (by with_reducible assumption); obtain ⟨ad116, e116, hx116_0, hx116_1, hx116_2⟩ := at_T57 HR1.out x10_3 p116 q116
                 obtain rfl : ad108 = ad116 := (by injection e116)
                 replace hx116_0 := (HB.out.cell (World.block_lt_of_cell? w _ hx116_0)).trans hx116_0; replace hx116_1 := (HB.out.cell (World.block_lt_of_cell? w _ hx116_1)).trans hx116_1; replace hx116_2 := (HB.out.cell (World.block_lt_of_cell? w _ hx116_2)).trans hx116_2; replace p116 := eq_true p116; replace q116 := eq_true q116; go_wp2; repeat (go_quiet (fail); try go_wp2)
                 go_roundg kj32
                 case measure => have := HK1.out; have := HJ5.out; have := HK3.out; have := HJ32.out; omega
                 case rel => exact ⟨(x8_3), (x9_3), (wrap64 (x10_3 + 1)), (by rfl), (by rfl), (by rfl), H', ⟨by have := HK1.out; have := HJ5.out; have := HK3.out; have := HJ32.out; omega⟩, ⟨by (with_reducible repeat (refine blk_drewN ?_ _)); exact BK107.out⟩, ⟨by (with_reducible repeat (refine blk_drewN ?_ _)); exact BK109.out⟩, ⟨by repeat ((with_reducible first | exact HB.out | apply pw_below_drewN))⟩⟩
               ·
                rw [if_neg c48] at H; exact absurd H (by simp)
              ·
               rw [if_neg c47] at H; exact absurd H (by simp)
          ·
           rw [if_neg c32] at H; have c32b0 : decide (x10_3 < (l1.length : Int)) = false := decide_eq_false c32; clear c32
           by_cases c55 : ((rd_T57 l1 x6_1).f1) = 3
           ·
            rw [if_pos c55] at H; have c55b0 : (((rd_T57 l1 x6_1).f1) == 3) = true := beq_iff_eq.mpr c55; have c55b1 : (((rd_T57 l1 x6_1).f1) != 3) = false := bne_eq_false_iff_eq.mpr c55; clear c55
            by_cases c56 : ((rd_T57 l1 x6_1).f1) = 1
            ·
             rw [if_pos c56] at H; have c56b0 : (((rd_T57 l1 x6_1).f1) == 1) = true := beq_iff_eq.mpr c56; have c56b1 : (((rd_T57 l1 x6_1).f1) != 1) = false := bne_eq_false_iff_eq.mpr c56; clear c56
             by_cases c57 : x8_3 = 1
             ·
              rw [if_pos c57] at H; have c57b1 : (x8_3 != 1) = false := bne_eq_false_iff_eq.mpr c57; clear c57
              by_cases c58 : x9_3 = 1
              ·
               rw [if_pos c58] at H; have c58b1 : (x9_3 != 1) = false := bne_eq_false_iff_eq.mpr c58; clear c58; have H' := Aside0.mk H; clear H; have hcz60_1 : wr.cell? ⟨gb109, 1, none⟩ = some (.int .i64 ((rd_T57 l1 x6_1).f1)) := (blk_cell BK109.out 1).trans rfl; go_wp2; go_roundg k3
               case measure => have := HK1.out; have := HJ5.out; have := HK3.out; omega
               case rel => exact ⟨(x5_1), (wrap64 (x6_1 + 1)), (by rfl), (by rfl), H', ⟨by have := HK1.out; have := HJ5.out; have := HK3.out; omega⟩, ⟨BK107.out⟩, ⟨HB.out⟩⟩
              ·
               rw [if_neg c58] at H; have c58b1 : (x9_3 != 1) = true := bne_iff_ne.mpr c58; obtain rfl := Option.some.inj H; have hcz62_1 : wr.cell? ⟨gb109, 1, none⟩ = some (.int .i64 ((rd_T57 l1 x6_1).f1)) := (blk_cell BK109.out 1).trans rfl; go_wp2; go_ret; exact ⟨by rfl, by repeat ((with_reducible exact HB.out))⟩
             ·
              rw [if_neg c57] at H; have c57b1 : (x8_3 != 1) = true := bne_iff_ne.mpr c57; obtain rfl := Option.some.inj H; have hcz64_1 : wr.cell? ⟨gb109, 1, none⟩ = some (.int .i64 ((rd_T57 l1 x6_1).f1)) := (blk_cell BK109.out 1).trans rfl; go_wp2; go_ret; exact ⟨by rfl, by repeat ((with_reducible exact HB.out))⟩
            ·
             rw [if_neg c56] at H; have c56b0 : (((rd_T57 l1 x6_1).f1) == 1) = false := beq_eq_false_iff_ne.mpr c56; have c56b1 : (((rd_T57 l1 x6_1).f1) != 1) = true := bne_iff_ne.mpr c56
             by_cases c65 : ((rd_T57 l1 x6_1).f2) = (-1)
             ·
              rw [if_pos c65] at H; have c65b1 : (((rd_T57 l1 x6_1).f2) != (-1)) = false := bne_eq_false_iff_eq.mpr c65; clear c65
              by_cases c66 : x9_3 = 1
              ·
               rw [if_pos c66] at H; have c66b1 : (x9_3 != 1) = false := bne_eq_false_iff_eq.mpr c66; clear c66; have H' := Aside0.mk H; clear H; have hcz68_1 : wr.cell? ⟨gb109, 1, none⟩ = some (.int .i64 ((rd_T57 l1 x6_1).f1)) := (blk_cell BK109.out 1).trans rfl; have hcz68_2 : wr.cell? ⟨gb109, 2, none⟩ = some (.int .i64 ((rd_T57 l1 x6_1).f2)) := (blk_cell BK109.out 2).trans rfl; go_wp2; go_roundg k3
               case measure => have := HK1.out; have := HJ5.out; have := HK3.out; omega
               case rel => exact ⟨(x5_1), (wrap64 (x6_1 + 1)), (by rfl), (by rfl), H', ⟨by have := HK1.out; have := HJ5.out; have := HK3.out; omega⟩, ⟨BK107.out⟩, ⟨HB.out⟩⟩
              ·
               rw [if_neg c66] at H; have c66b1 : (x9_3 != 1) = true := bne_iff_ne.mpr c66; obtain rfl := Option.some.inj H; have hcz70_1 : wr.cell? ⟨gb109, 1, none⟩ = some (.int .i64 ((rd_T57 l1 x6_1).f1)) := (blk_cell BK109.out 1).trans rfl; have hcz70_2 : wr.cell? ⟨gb109, 2, none⟩ = some (.int .i64 ((rd_T57 l1 x6_1).f2)) := (blk_cell BK109.out 2).trans rfl; go_wp2; go_ret; exact ⟨by rfl, by repeat ((with_reducible exact HB.out))⟩
             ·
              rw [if_neg c65] at H; have c65b1 : (((rd_T57 l1 x6_1).f2) != (-1)) = true := bne_iff_ne.mpr c65; obtain rfl := Option.some.inj H; have hcz72_1 : wr.cell? ⟨gb109, 1, none⟩ = some (.int .i64 ((rd_T57 l1 x6_1).f1)) := (blk_cell BK109.out 1).trans rfl; have hcz72_2 : wr.cell? ⟨gb109, 2, none⟩ = some (.int .i64 ((rd_T57 l1 x6_1).f2)) := (blk_cell BK109.out 2).trans rfl; go_wp2; go_ret; exact ⟨by rfl, by repeat ((with_reducible exact HB.out))⟩
           ·
            rw [if_neg c55] at H; have c55b0 : (((rd_T57 l1 x6_1).f1) == 3) = false := beq_eq_false_iff_ne.mpr c55; have c55b1 : (((rd_T57 l1 x6_1).f1) != 3) = true := bne_iff_ne.mpr c55; replace H := Option.bind_eq_some_iff.mp H; obtain ⟨t118, A730, H⟩ := H; replace H : (if t118 = true then (if ((rd_T57 l1 x6_1).f1) = 1 then (if x8_3 = 1 then (thermographref14_shard.l0 k3 l1 (wrap64 (x5_1 + 1)) (wrap64 (x6_1 + 1)) a0_0 l0_1 l0_2) else (some false)) else (if ((rd_T57 l1 x6_1).f2) = (-1) then (thermographref14_shard.l0 k3 l1 (wrap64 (x5_1 + 1)) (wrap64 (x6_1 + 1)) a0_0 l0_1 l0_2) else (some false))) else (some false)) = some r := H; have A73 := Aside0.mk A730; clear A730
            by_cases c74 : t118 = true
            ·
             subst c74; have H1 : (if ((rd_T57 l1 x6_1).f1) = 1 then (if x8_3 = 1 then (thermographref14_shard.l0 k3 l1 (wrap64 (x5_1 + 1)) (wrap64 (x6_1 + 1)) a0_0 l0_1 l0_2) else (some false)) else (if ((rd_T57 l1 x6_1).f2) = (-1) then (thermographref14_shard.l0 k3 l1 (wrap64 (x5_1 + 1)) (wrap64 (x6_1 + 1)) a0_0 l0_1 l0_2) else (some false))) = some r := by rw [if_pos rfl] at H; exact H
             clear H; have H := H1; clear H1
             by_cases c75 : ((rd_T57 l1 x6_1).f1) = 1
             ·
              rw [if_pos c75] at H; have c75b0 : (((rd_T57 l1 x6_1).f1) == 1) = true := beq_iff_eq.mpr c75; have c75b1 : (((rd_T57 l1 x6_1).f1) != 1) = false := bne_eq_false_iff_eq.mpr c75; clear c75
              by_cases c76 : x8_3 = 1
              ·
               rw [if_pos c76] at H; have c76b1 : (x8_3 != 1) = false := bne_eq_false_iff_eq.mpr c76; clear c76; have H' := Aside0.mk H; clear H; have hcz78_0 : wr.cell? ⟨gb109, 0, none⟩ = some (.int .i64 ((rd_T57 l1 x6_1).f0)) := (blk_cell BK109.out 0).trans rfl; have hcz78_1 : wr.cell? ⟨gb109, 1, none⟩ = some (.int .i64 ((rd_T57 l1 x6_1).f1)) := (blk_cell BK109.out 1).trans rfl; have hcz79_1 : wr.cell? ⟨gb107, 1, none⟩ = some (.slice A0_1 l0_1.length c0_1) := (blk_cell BK107.out 1).trans rfl
               go_wp2_with ((go_at_call 82; (with_reducible refine (thermographref14_has.calls k3 _ _ l0_1 ((rd_T57 l1 x6_1).f0) true _ ?side1 ?side2 A73.out).mono ?_); (case side1 => repeat (exact (Kd.C_below HR0_1.out HB.out))); (case side2 => exact HC0_1.out); rintro e w' ⟨rfl, ⟨nd, rfl⟩⟩; (try fail)))
               go_roundg k3
               case measure => have := HK1.out; have := HJ5.out; have := HK3.out; omega
               case rel => exact ⟨(wrap64 (x5_1 + 1)), (wrap64 (x6_1 + 1)), (by rfl), (by rfl), H', ⟨by have := HK1.out; have := HJ5.out; have := HK3.out; omega⟩, ⟨by (with_reducible repeat (refine blk_drewN ?_ _)); exact BK107.out⟩, ⟨by repeat ((with_reducible first | exact HB.out | apply pw_below_drewN))⟩⟩
              ·
               rw [if_neg c76] at H; have c76b1 : (x8_3 != 1) = true := bne_iff_ne.mpr c76; obtain rfl := Option.some.inj H; have hcz81_0 : wr.cell? ⟨gb109, 0, none⟩ = some (.int .i64 ((rd_T57 l1 x6_1).f0)) := (blk_cell BK109.out 0).trans rfl; have hcz81_1 : wr.cell? ⟨gb109, 1, none⟩ = some (.int .i64 ((rd_T57 l1 x6_1).f1)) := (blk_cell BK109.out 1).trans rfl; have hcz82_1 : wr.cell? ⟨gb107, 1, none⟩ = some (.slice A0_1 l0_1.length c0_1) := (blk_cell BK107.out 1).trans rfl
               go_wp2_with ((go_at_call 82; (with_reducible refine (thermographref14_has.calls k3 _ _ l0_1 ((rd_T57 l1 x6_1).f0) true _ ?side1 ?side2 A73.out).mono ?_); (case side1 => repeat (exact (Kd.C_below HR0_1.out HB.out))); (case side2 => exact HC0_1.out); rintro e w' ⟨rfl, ⟨nd, rfl⟩⟩; (try fail)))
               go_ret; exact ⟨by rfl, by repeat ((with_reducible first | exact HB.out | apply pw_below_drewN))⟩
             ·
              rw [if_neg c75] at H; have c75b0 : (((rd_T57 l1 x6_1).f1) == 1) = false := beq_eq_false_iff_ne.mpr c75; have c75b1 : (((rd_T57 l1 x6_1).f1) != 1) = true := bne_iff_ne.mpr c75
              by_cases c83 : ((rd_T57 l1 x6_1).f2) = (-1)
              ·
               rw [if_pos c83] at H; have c83b1 : (((rd_T57 l1 x6_1).f2) != (-1)) = false := bne_eq_false_iff_eq.mpr c83; clear c83; have H' := Aside0.mk H; clear H; have hcz85_0 : wr.cell? ⟨gb109, 0, none⟩ = some (.int .i64 ((rd_T57 l1 x6_1).f0)) := (blk_cell BK109.out 0).trans rfl; have hcz85_1 : wr.cell? ⟨gb109, 1, none⟩ = some (.int .i64 ((rd_T57 l1 x6_1).f1)) := (blk_cell BK109.out 1).trans rfl; have hcz85_2 : wr.cell? ⟨gb109, 2, none⟩ = some (.int .i64 ((rd_T57 l1 x6_1).f2)) := (blk_cell BK109.out 2).trans rfl; have hcz86_1 : wr.cell? ⟨gb107, 1, none⟩ = some (.slice A0_1 l0_1.length c0_1) := (blk_cell BK107.out 1).trans rfl
               go_wp2_with ((go_at_call 82; (with_reducible refine (thermographref14_has.calls k3 _ _ l0_1 ((rd_T57 l1 x6_1).f0) true _ ?side1 ?side2 A73.out).mono ?_); (case side1 => repeat (exact (Kd.C_below HR0_1.out HB.out))); (case side2 => exact HC0_1.out); rintro e w' ⟨rfl, ⟨nd, rfl⟩⟩; (try fail)))
               go_roundg k3
               case measure => have := HK1.out; have := HJ5.out; have := HK3.out; omega
               case rel => exact ⟨(wrap64 (x5_1 + 1)), (wrap64 (x6_1 + 1)), (by rfl), (by rfl), H', ⟨by have := HK1.out; have := HJ5.out; have := HK3.out; omega⟩, ⟨by (with_reducible repeat (refine blk_drewN ?_ _)); exact BK107.out⟩, ⟨by repeat ((with_reducible first | exact HB.out | apply pw_below_drewN))⟩⟩
              ·
               rw [if_neg c83] at H; have c83b1 : (((rd_T57 l1 x6_1).f2) != (-1)) = true := bne_iff_ne.mpr c83; obtain rfl := Option.some.inj H; have hcz88_0 : wr.cell? ⟨gb109, 0, none⟩ = some (.int .i64 ((rd_T57 l1 x6_1).f0)) := (blk_cell BK109.out 0).trans rfl; have hcz88_1 : wr.cell? ⟨gb109, 1, none⟩ = some (.int .i64 ((rd_T57 l1 x6_1).f1)) := (blk_cell BK109.out 1).trans rfl; have hcz88_2 : wr.cell? ⟨gb109, 2, none⟩ = some (.int .i64 ((rd_T57 l1 x6_1).f2)) := (blk_cell BK109.out 2).trans rfl; have hcz89_1 : wr.cell? ⟨gb107, 1, none⟩ = some (.slice A0_1 l0_1.length c0_1) := (blk_cell BK107.out 1).trans rfl
               go_wp2_with ((go_at_call 82; (with_reducible refine (thermographref14_has.calls k3 _ _ l0_1 ((rd_T57 l1 x6_1).f0) true _ ?side1 ?side2 A73.out).mono ?_); (case side1 => repeat (exact (Kd.C_below HR0_1.out HB.out))); (case side2 => exact HC0_1.out); rintro e w' ⟨rfl, ⟨nd, rfl⟩⟩; (try fail)))
               go_ret; exact ⟨by rfl, by repeat ((with_reducible first | exact HB.out | apply pw_below_drewN))⟩
            ·
             replace c74 := Bool.eq_false_iff.mpr c74; subst c74; have H1 : (some false) = some r := by rw [if_neg (show ¬ (false = true) by decide)] at H; exact H
             clear H; have H := H1; clear H1; obtain rfl := Option.some.inj H; have hcz91_0 : wr.cell? ⟨gb109, 0, none⟩ = some (.int .i64 ((rd_T57 l1 x6_1).f0)) := (blk_cell BK109.out 0).trans rfl; have hcz91_1 : wr.cell? ⟨gb109, 1, none⟩ = some (.int .i64 ((rd_T57 l1 x6_1).f1)) := (blk_cell BK109.out 1).trans rfl; have hcz92_1 : wr.cell? ⟨gb107, 1, none⟩ = some (.slice A0_1 l0_1.length c0_1) := (blk_cell BK107.out 1).trans rfl
             go_wp2_with ((go_at_call 82; (with_reducible refine (thermographref14_has.calls k3 _ _ l0_1 ((rd_T57 l1 x6_1).f0) false _ ?side1 ?side2 A73.out).mono ?_); (case side1 => repeat (exact (Kd.C_below HR0_1.out HB.out))); (case side2 => exact HC0_1.out); rintro e w' ⟨rfl, ⟨nd, rfl⟩⟩; (try fail)))
             go_ret; exact ⟨by rfl, by repeat ((with_reducible first | exact HB.out | apply pw_below_drewN))⟩
    ·
     rw [if_neg c5] at H; exact absurd H (by simp)
   ·
    rw [if_neg c4] at H; have c4b0 : decide (x6_1 < (l1.length : Int)) = false := decide_eq_false c4; clear c4; obtain rfl := Option.some.inj H; go_wp2; go_ret; exact ⟨by rfl, by repeat ((with_reducible exact HB.out))⟩
end Go.Proofs.YtiinmagnpkfbbaaGreat.QT
