-- Laid by wip/tools/myprint.py of this repo. Not trusted: Lean checks it.
import Derived.Test.YtiinmagnpkfbbaaGreatAhead
section
namespace Go.Proofs.YtiinmagnpkfbbaaGreat.QT
open Go.RowKit Go.Proofs.YtiinmagnpkfbbaaGreatW.PrintWords Go.Proofs.YtiinmagnpkfbbaaGreatW.PrintLast Go.Proofs.YtiinmagnpkfbbaaGreatW.PrintMore
attribute [local go_sem] max2_int min2_int max_two min_two max_three min_three max_four min_four   -- for this text's walks alone
set_option linter.unusedVariables false
set_option linter.unusedSimpArgs false
theorem eqA27 (d : Nat) (w : World) (x0 y0 : Int) (x1 y1 : Int) :
  (Op.equalIn (d + 2) 27 (.agg #[.int .i64 x0, .int .i64 x1]) (.agg #[.int .i64 y0, .int .i64 y1])).run Tryz.prog w = .ok (x0 == y0 && (x1 == y1)) w := by
 refine eqA_of Tryz.underlying27 (by kernel_rfl) ?_; refine eqf_cons (by rfl) (by go_simp; rfl) (by go_simp; rfl) (by go_simp) ?_; exact eqf_last (by rfl) (by go_simp; rfl) (by go_simp; rfl) (by go_simp)
end Go.Proofs.YtiinmagnpkfbbaaGreat.QT
end
section
namespace Go.Proofs.YtiinmagnpkfbbaaGreat.QT
open Go.RowKit Go.Proofs.YtiinmagnpkfbbaaGreatW.PrintWords Go.Proofs.YtiinmagnpkfbbaaGreatW.PrintLast Go.Proofs.YtiinmagnpkfbbaaGreatW.PrintMore
attribute [local go_sem] max2_int min2_int max_two min_two max_three min_three max_four min_four   -- for this text's walks alone
set_option linter.unusedVariables false
set_option linter.unusedSimpArgs false
theorem eqA99 (d : Nat) (w : World) (x0 y0 : Int) (x1 y1 : Int) (x2 y2 : Int) :
  (Op.equalIn (d + 2) 99 (.agg #[.int .i64 x0, .int .u64 x1, .int .u64 x2]) (.agg #[.int .i64 y0, .int .u64 y1, .int .u64 y2])).run Tryz.prog w = .ok (x0 == y0 && (x1 == y1 && (x2 == y2))) w := by
 refine eqA_of Tryz.underlying99 (by kernel_rfl) ?_; refine eqf_cons (by rfl) (by go_simp; rfl) (by go_simp; rfl) (by go_simp) ?_; refine eqf_cons (by rfl) (by go_simp; rfl) (by go_simp; rfl) (by go_simp) ?_; exact eqf_last (by rfl) (by go_simp; rfl) (by go_simp; rfl) (by go_simp)
end Go.Proofs.YtiinmagnpkfbbaaGreat.QT
end
section
set_option maxHeartbeats 8000000
set_option maxRecDepth 100000
namespace Go.Proofs.YtiinmagnpkfbbaaGreat.QT
open Go.RowKit Go.Proofs.YtiinmagnpkfbbaaGreatW.PrintWords Go.Proofs.YtiinmagnpkfbbaaGreatW.PrintLast Go.Proofs.YtiinmagnpkfbbaaGreatW.PrintMore
attribute [local go_sem] max2_int min2_int max_two min_two max_three min_three max_four min_four   -- for this text's walks alone
set_option linter.unusedVariables false
set_option linter.unusedSimpArgs false
mutual
def thermographref14_Find.j0 : Nat → Int → Int → Bool → Int → List Int → List (List (S57)) → Option (Int × Int × Int × Bool)
 | 0, _, _, _, _, _, _ => none
 | k + 1, x1, x2, x18, x102000, x102001, x102002 => if x18 = true then (some (0, 0, 0, false)) else (if 0 ≤ x1 then (if x1 < (x102002.length : Int) then (thermographref14_Find.l0 k x2 (rd_L4 x102002 x1) 0) else (none)) else (none))
def thermographref14_Find.l0 : Nat → Int → List (S57) → Int → Option (Int × Int × Int × Bool)
 | 0, _, _, _ => none
 | k + 1, x2, x8, x9 => if x9 < (x8.length : Int) then (if 0 ≤ x9 then (if ((rd_T57 x8 x9).f0) = x2 then (some ((rd_T57 x8 x9).f0, (rd_T57 x8 x9).f1, (rd_T57 x8 x9).f2, true)) else (thermographref14_Find.l0 k x2 x8 (wrap64 (x9 + 1)))) else (none)) else (some (0, 0, 0, false))
end
def thermographref14_Find.f (k : Nat) (a0_0 : Int) (l0_1 : List Int) (l0_2 : List (List (S57))) (a1 : Int) (a2 : Int) : Option (Int × Int × Int × Bool) := if a1 < 0 then (thermographref14_Find.j0 k a1 a2 true a0_0 l0_1 l0_2) else (thermographref14_Find.j0 k a1 a2 (decide (a1 ≥ (l0_2.length : Int))) a0_0 l0_1 l0_2)
theorem thermographref14_Find.calls (k : Nat) (a0_0 : Int) (A0_1 : Option Addr) (c0_1 : Nat) (l0_1 : List Int) (A0_2 : Option Addr) (c0_2 : Nat) (l0_2 : List (List (S57))) (a1 : Int) (a2 : Int) (r1 : Int) (r2 : Int) (r3 : Int) (r4 : Bool) (w : World) (hr0_1 : Kd.C (Kd.int .i64) w A0_1 l0_1.length l0_1) (hc0_1 : l0_1.length ≤ c0_1) (hr0_2 : Kd.C (Kd.slice 57 k57) w A0_2 l0_2.length l0_2) (hc0_2 : l0_2.length ≤ c0_2) (h : thermographref14_Find.f k a0_0 l0_1 l0_2 a1 a2 = some (r1, r2, r3, r4)) :
  Calls Tryz.prog 29 #[.agg #[.int .i64 a0_0, .slice A0_1 l0_1.length c0_1, .slice A0_2 l0_2.length c0_2], .int .i64 a1, .int .i64 a2] w fun e w' => e = .returned (.tuple #[.agg #[.int .i64 r1, .int .i64 r2, .int .i64 r3], .bool r4]) ∧ Below w.heap.size w w' := by
 clear hr0_1 hc0_1; have HR0_2 := Aside0.mk hr0_2; clear hr0_2 hc0_2; have HB := Aside0.mk (Below.refl w.heap.size w); have H : (if a1 < 0 then (thermographref14_Find.j0 k a1 a2 true a0_0 l0_1 l0_2) else (thermographref14_Find.j0 k a1 a2 (decide (a1 ≥ (l0_2.length : Int))) a0_0 l0_1 l0_2)) = some (r1, r2, r3, r4) := h; clear h; have HC4 := Aside0.mk H; clear H; go_enter Tryz.func29, Tryz.ntmps29
 go_upto_region 1 with (first | ((with_reducible refine gate_dst (N := 3) rfl ?_); (try (refine gate_guard (by rfl) ?_; dsimp only)); refine box_event ?hg (N := 3) ?hd (cs := #[.int .i64 a0_0, .slice A0_1 l0_1.length c0_1, .slice A0_2 l0_2.length c0_2]) (t := 25) ?hr ?_; (case hd => rfl); (case hg => rfl); (case hr => go_simp; done); intro gb101 hg w5 hbox hb; have n0_ := Aside0.mk (below_step HB.out hb); have n1_ := Aside0.mk (hbox); have n2_ := Aside0.mk ((by rw [hg]; exact (below_size HB.out) : w.heap.size ≤ gb101)); clear HB; have HB := n0_; have BK101 := n1_; clear n0_ n1_ n2_ ; clear hb hbox hg) | ((with_reducible refine gate_dst (N := 6) rfl ?_); (try (refine gate_guard (by rfl) ?_; dsimp only)); refine box_event ?hg (N := 6) ?hd (cs := #[.int .i64 0, .int .i64 0, .int .i64 0]) (t := 57) ?hr ?_; (case hd => rfl); (case hg => rfl); (case hr => go_simp; done); intro gb102 hg w6 hbox hb; have n0_ := Aside0.mk (blk_below (g := gb101) (o := .cells #[.int .i64 a0_0, .slice A0_1 l0_1.length c0_1, .slice A0_2 l0_2.length c0_2] 25 (0, 0)) BK101.out hb); have n1_ := Aside0.mk (below_step HB.out hb); have n2_ := Aside0.mk (hbox); have n4_ := Aside0.mk ((by rw [hg]; exact (below_size HB.out) : w.heap.size ≤ gb102)); have n5_ := Aside0.mk ((by rw [hg]; exact Nat.ne_of_lt (blk_lt (g := gb101) (o := .cells #[.int .i64 a0_0, .slice A0_1 l0_1.length c0_1, .slice A0_2 l0_2.length c0_2] 25 (0, 0)) BK101.out) : gb101 ≠ gb102)); have n6_ := Aside0.mk ((by rw [hg]; exact Nat.ne_of_gt (blk_lt (g := gb101) (o := .cells #[.int .i64 a0_0, .slice A0_1 l0_1.length c0_1, .slice A0_2 l0_2.length c0_2] 25 (0, 0)) BK101.out) : gb102 ≠ gb101)); clear BK101; clear HB; have BK101 := n0_; have HB := n1_; have BK102 := n2_; have GE102 := n4_; have NB101_102 := n5_; have NB102_101 := n6_; clear n0_ n1_ n2_ n4_ n5_ n6_; clear hb hbox hg))
 (try simp only [Act.put, List.setIfInBounds_toArray, List.set_cons_zero, List.set_cons_succ])
 go_cut [18] (fun v18 wc => ∃ (kq : Nat) (x18_3 : Bool), v18 = .bool x18_3 ∧ Aside0 (thermographref14_Find.j0 kq a1 a2 x18_3 a0_0 l0_1 l0_2 = some (r1, r2, r3, r4)) ∧ Aside0 (kq ≤ k) ∧ Aside0 (wc.heap[gb101]? = some (.cells #[.int .i64 a0_0, (.slice A0_1 l0_1.length c0_1), (.slice A0_2 l0_2.length c0_2)] 25 (0, 0))) ∧ Aside0 (wc.heap[gb102]? = some (.cells #[.int .i64 0, .int .i64 0, .int .i64 0] 57 (0, 0))) ∧ Aside0 (Below w.heap.size w wc))
 case first =>
  have H := HC4.out; clear HC4
  by_cases c7 : a1 < 0
  ·
   rw [if_pos c7] at H; have c7b0 : decide (a1 < 0) = true := decide_eq_true c7; clear c7
   ((skip))
   have H' := Aside0.mk H; clear H; go_wp2; go_meet
   case rel => exact ⟨_, (true), (by rfl), H', ⟨by omega⟩, ⟨BK101.out⟩, ⟨BK102.out⟩, ⟨HB.out⟩⟩
  ·
   rw [if_neg c7] at H; have c7b0 : decide (a1 < 0) = false := decide_eq_false c7; clear c7
   ((skip))
   have H' := Aside0.mk H; clear H; have hcz9_2 : w6.cell? ⟨gb101, 2, none⟩ = some (.slice A0_2 l0_2.length c0_2) := (blk_cell BK101.out 2).trans rfl; go_wp2; go_meet
   case rel => exact ⟨_, (decide (a1 ≥ (l0_2.length : Int))), (by rfl), H', ⟨by omega⟩, ⟨BK101.out⟩, ⟨BK102.out⟩, ⟨HB.out⟩⟩
 case rest =>
  clear HC4; obtain ⟨kq, x18_3, rfl, HA, HJ3, BK101, BK102, HB⟩ := hcut
  cases kq with
  | zero => exact absurd HA.out (by simp [thermographref14_Find.j0])
  | succ kj3 =>
   have H := HA.out; clear HA; simp only [thermographref14_Find.j0] at H
   by_cases c10 : x18_3 = true
   ·
    subst c10; have H1 : (some (0, 0, 0, false)) = some (r1, r2, r3, r4) := by rw [if_pos rfl] at H; exact H
    clear H; have H := H1; clear H1; simp only [Option.some.injEq, Prod.mk.injEq] at H; obtain ⟨rfl, rfl, rfl, rfl⟩ := H; have hcz12_0 : wc.cell? ⟨gb102, 0, none⟩ = some (.int .i64 0) := (blk_cell BK102.out 0).trans rfl; have hcz12_1 : wc.cell? ⟨gb102, 1, none⟩ = some (.int .i64 0) := (blk_cell BK102.out 1).trans rfl; have hcz12_2 : wc.cell? ⟨gb102, 2, none⟩ = some (.int .i64 0) := (blk_cell BK102.out 2).trans rfl; have hfz12_0 := blk_frozen BK102.out 0; have hfz12_1 := blk_frozen BK102.out 1; have hfz12_2 := blk_frozen BK102.out 2; go_wp2; refine bodyPost_ret (results_ct rfl _ _ gb102 57 #[.int .i64 0, .int .i64 0, .int .i64 0] (0, 0) _ rfl (by refine blk_put (cs := #[.int .i64 0, .int .i64 0, .int .i64 0]) ?_ 2 _ rfl; refine blk_put (cs := #[.int .i64 0, .int .i64 0, .int .i64 0]) ?_ 1 _ rfl; refine blk_put (cs := #[.int .i64 0, .int .i64 0, .int .i64 0]) ?_ 0 _ rfl; exact BK102.out) Tryz.underlying57 rfl (by kernel_rfl)) rfl ?_; exact ⟨by rfl, by repeat ((with_reducible first | exact HB.out | refine below_set ?_ GE102.out))⟩
   ·
    replace c10 := Bool.eq_false_iff.mpr c10; subst c10; have H1 : (if 0 ≤ a1 then (if a1 < (l0_2.length : Int) then (thermographref14_Find.l0 kj3 a2 (rd_L4 l0_2 a1) 0) else (none)) else (none)) = some (r1, r2, r3, r4) := by rw [if_neg (show ¬ (false = true) by decide)] at H; exact H
    clear H; have H := H1; clear H1
    by_cases c13 : 0 ≤ a1
    ·
     rw [if_pos c13] at H; have c13b0 : decide (0 ≤ a1) = true := decide_eq_true c13; clear c13
     by_cases c14 : a1 < (l0_2.length : Int)
     ·
      rw [if_pos c14] at H; have c14b0 : decide (a1 < (l0_2.length : Int)) = true := decide_eq_true c14; clear c14; have H' := Aside0.mk H; clear H; have hcz16_2 : wc.cell? ⟨gb101, 2, none⟩ = some (.slice A0_2 l0_2.length c0_2) := (blk_cell BK101.out 2).trans rfl; have p103 : 0 ≤ (a1 : Int) := of_decide_eq_true (by with_reducible assumption); have q103 : a1 < (l0_2.length : Int) := of_decide_eq_true (by with_reducible assumption); obtain ⟨ad103, A103_0, c103_0, e103, hx103_0, hl103_0, hi103_0⟩ := at_L4 HR0_2.out a1 p103 q103; cases e103; replace hx103_0 := (HB.out.cell (World.block_lt_of_cell? w _ hx103_0)).trans hx103_0; have HR103_0 := Aside0.mk hi103_0; clear hi103_0 hl103_0; replace p103 := eq_true p103; replace q103 := eq_true q103; go_wp2; go_loopg [9] kj3 (fun kq v9 w' => ∃ (x9_2 : Int) (x103000_2 : Int) (x103001_2 : Int) (x103002_2 : Int), v9 = .int .i64 x9_2 ∧ Aside0 (thermographref14_Find.l0 kq a2 (rd_L4 l0_2 a1) x9_2 = some (r1, r2, r3, r4)) ∧ Aside0 (kq ≤ kj3) ∧ Aside0 (w'.heap[gb101]? = some (.cells #[.int .i64 a0_0, (.slice A0_1 l0_1.length c0_1), (.slice (some ad103) l0_2.length c0_2)] 25 (0, 0))) ∧ Aside0 (w'.heap[gb102]? = some (.cells #[.int .i64 x103000_2, .int .i64 x103001_2, .int .i64 x103002_2] 57 (0, 0))) ∧ Aside0 (Below w.heap.size w w'))
      case atStart => exact ⟨(0), (0), (0), (0), (by rfl), H', ⟨Nat.le_refl _⟩, ⟨BK101.out⟩, ⟨BK102.out⟩, ⟨HB.out⟩⟩
      case round =>
       clear H'; try clear c13b0
       try clear c14b0
       try clear hcz16_2
       try clear hx103_0
       try clear p103
       try clear q103
       obtain ⟨x9_2, x103000_2, x103001_2, x103002_2, rfl, HA, HK2, BK101, BK102, HB⟩ := hrel
       cases gk with
       | zero => exact absurd HA.out (by simp [thermographref14_Find.l0])
       | succ k2 =>
        have H := HA.out; clear HA; simp only [thermographref14_Find.l0] at H
        by_cases c17 : x9_2 < ((rd_L4 l0_2 a1).length : Int)
        ·
         rw [if_pos c17] at H; have c17b0 : decide (x9_2 < ((rd_L4 l0_2 a1).length : Int)) = true := decide_eq_true c17; clear c17
         by_cases c18 : 0 ≤ x9_2
         ·
          rw [if_pos c18] at H; have c18b0 : decide (0 ≤ x9_2) = true := decide_eq_true c18; clear c18
          by_cases c19 : ((rd_T57 (rd_L4 l0_2 a1) x9_2).f0) = a2
          ·
           rw [if_pos c19] at H; have c19b0 : (((rd_T57 (rd_L4 l0_2 a1) x9_2).f0) == a2) = true := beq_iff_eq.mpr c19; clear c19; simp only [Option.some.injEq, Prod.mk.injEq] at H; obtain ⟨rfl, rfl, rfl, rfl⟩ := H; have p104 : 0 ≤ (x9_2 : Int) := of_decide_eq_true (by with_reducible assumption); have q104 : x9_2 < ((rd_L4 l0_2 a1).length : Int) := of_decide_eq_true (by with_reducible assumption); obtain ⟨ad104, e104, hx104_0, hx104_1, hx104_2⟩ := at_T57 HR103_0.out x9_2 p104 q104; cases e104; replace hx104_0 := (HB.out.cell (World.block_lt_of_cell? w _ hx104_0)).trans hx104_0; replace hx104_1 := (HB.out.cell (World.block_lt_of_cell? w _ hx104_1)).trans hx104_1; replace hx104_2 := (HB.out.cell (World.block_lt_of_cell? w _ hx104_2)).trans hx104_2; replace p104 := eq_true p104; replace q104 := eq_true q104; have p105 : 0 ≤ (x9_2 : Int) := of_decide_eq_true (by with_reducible assumption); have q105 : x9_2 < ((rd_L4 l0_2 a1).length : Int) := of_decide_eq_true (by with_reducible assumption); obtain ⟨ad105, e105, hx105_0, hx105_1, hx105_2⟩ := at_T57 HR103_0.out x9_2 p105 q105
           obtain rfl : ad104 = ad105 := (by injection e105)
           replace hx105_0 := (HB.out.cell (World.block_lt_of_cell? w _ hx105_0)).trans hx105_0; replace hx105_1 := (HB.out.cell (World.block_lt_of_cell? w _ hx105_1)).trans hx105_1; replace hx105_2 := (HB.out.cell (World.block_lt_of_cell? w _ hx105_2)).trans hx105_2; replace p105 := eq_true p105; replace q105 := eq_true q105; have hcz21_0 : wr.cell? ⟨gb102, 0, none⟩ = some (.int .i64 x103000_2) := (blk_cell BK102.out 0).trans rfl; have hcz21_1 : wr.cell? ⟨gb102, 1, none⟩ = some (.int .i64 x103001_2) := (blk_cell BK102.out 1).trans rfl; have hcz21_2 : wr.cell? ⟨gb102, 2, none⟩ = some (.int .i64 x103002_2) := (blk_cell BK102.out 2).trans rfl; have hfz21_0 := blk_frozen BK102.out 0; have hfz21_1 := blk_frozen BK102.out 1; have hfz21_2 := blk_frozen BK102.out 2; go_wp2; refine bodyPost_ret (results_ct rfl _ _ gb102 57 #[.int .i64 ((rd_T57 (rd_L4 l0_2 a1) x9_2).f0), .int .i64 ((rd_T57 (rd_L4 l0_2 a1) x9_2).f1), .int .i64 ((rd_T57 (rd_L4 l0_2 a1) x9_2).f2)] (0, 0) _ rfl (by refine blk_put (cs := #[.int .i64 ((rd_T57 (rd_L4 l0_2 a1) x9_2).f0), .int .i64 ((rd_T57 (rd_L4 l0_2 a1) x9_2).f1), .int .i64 x103002_2]) ?_ 2 _ rfl; refine blk_put (cs := #[.int .i64 ((rd_T57 (rd_L4 l0_2 a1) x9_2).f0), .int .i64 x103001_2, .int .i64 x103002_2]) ?_ 1 _ rfl; refine blk_put (cs := #[.int .i64 x103000_2, .int .i64 x103001_2, .int .i64 x103002_2]) ?_ 0 _ rfl; exact BK102.out) Tryz.underlying57 rfl (by kernel_rfl)) rfl ?_; exact ⟨by rfl, by repeat ((with_reducible first | exact HB.out | refine below_set ?_ GE102.out))⟩
          ·
           rw [if_neg c19] at H; have c19b0 : (((rd_T57 (rd_L4 l0_2 a1) x9_2).f0) == a2) = false := beq_eq_false_iff_ne.mpr c19; have H' := Aside0.mk H; clear H; have p104 : 0 ≤ (x9_2 : Int) := of_decide_eq_true (by with_reducible assumption); have q104 : x9_2 < ((rd_L4 l0_2 a1).length : Int) := of_decide_eq_true (by with_reducible assumption); obtain ⟨ad104, e104, hx104_0, hx104_1, hx104_2⟩ := at_T57 HR103_0.out x9_2 p104 q104; cases e104; replace hx104_0 := (HB.out.cell (World.block_lt_of_cell? w _ hx104_0)).trans hx104_0; replace hx104_1 := (HB.out.cell (World.block_lt_of_cell? w _ hx104_1)).trans hx104_1; replace hx104_2 := (HB.out.cell (World.block_lt_of_cell? w _ hx104_2)).trans hx104_2; replace p104 := eq_true p104; replace q104 := eq_true q104; go_wp2; go_roundg k2
           case measure => have := HJ3.out; have := HK2.out; omega
           case rel => exact ⟨(wrap64 (x9_2 + 1)), (x103000_2), (x103001_2), (x103002_2), (by rfl), H', ⟨by have := HJ3.out; have := HK2.out; omega⟩, ⟨BK101.out⟩, ⟨BK102.out⟩, ⟨HB.out⟩⟩
         ·
          rw [if_neg c18] at H; exact absurd H (by simp)
        ·
         rw [if_neg c17] at H; have c17b0 : decide (x9_2 < ((rd_L4 l0_2 a1).length : Int)) = false := decide_eq_false c17; clear c17; simp only [Option.some.injEq, Prod.mk.injEq] at H; obtain ⟨rfl, rfl, rfl, rfl⟩ := H; have hcz23_0 : wr.cell? ⟨gb102, 0, none⟩ = some (.int .i64 x103000_2) := (blk_cell BK102.out 0).trans rfl; have hcz23_1 : wr.cell? ⟨gb102, 1, none⟩ = some (.int .i64 x103001_2) := (blk_cell BK102.out 1).trans rfl; have hcz23_2 : wr.cell? ⟨gb102, 2, none⟩ = some (.int .i64 x103002_2) := (blk_cell BK102.out 2).trans rfl; have hfz23_0 := blk_frozen BK102.out 0; have hfz23_1 := blk_frozen BK102.out 1; have hfz23_2 := blk_frozen BK102.out 2; go_wp2; refine bodyPost_ret (results_ct rfl _ _ gb102 57 #[.int .i64 0, .int .i64 0, .int .i64 0] (0, 0) _ rfl (by refine blk_put (cs := #[.int .i64 0, .int .i64 0, .int .i64 x103002_2]) ?_ 2 _ rfl; refine blk_put (cs := #[.int .i64 0, .int .i64 x103001_2, .int .i64 x103002_2]) ?_ 1 _ rfl; refine blk_put (cs := #[.int .i64 x103000_2, .int .i64 x103001_2, .int .i64 x103002_2]) ?_ 0 _ rfl; exact BK102.out) Tryz.underlying57 rfl (by kernel_rfl)) rfl ?_; exact ⟨by rfl, by repeat ((with_reducible first | exact HB.out | refine below_set ?_ GE102.out))⟩
     ·
      rw [if_neg c14] at H; exact absurd H (by simp)
    ·
     rw [if_neg c13] at H; exact absurd H (by simp)
def thermographref14_node.f (a0 : Int) : Option (Bool) := if a0 ≥ 0 then (some (decide (a0 < 8))) else (some false)
theorem thermographref14_node.calls (a0 : Int) (r : Bool) (w : World) (h : thermographref14_node.f a0 = some r) :
  Calls Tryz.prog 57 #[.int .i64 a0] w fun e w' => e = .returned (.bool r) ∧ Drawn0 w w' := by
 have H : (if a0 ≥ 0 then (some (decide (a0 < 8))) else (some false)) = some r := h; clear h
 by_cases c2 : a0 ≥ 0
 ·
  rw [if_pos c2] at H; have c2b0 : decide (0 ≤ a0) = true := decide_eq_true c2; clear c2; obtain rfl := Option.some.inj H; go_enter Tryz.func57, Tryz.ntmps57
  go_wp2; go_ret; exact ⟨by rfl, by repeat (exact Drawn0.refl _)⟩
 ·
  rw [if_neg c2] at H; have c2b0 : decide (0 ≤ a0) = false := decide_eq_false c2; clear c2; obtain rfl := Option.some.inj H; go_enter Tryz.func57, Tryz.ntmps57
  go_wp2; go_ret; exact ⟨by rfl, by repeat (exact Drawn0.refl _)⟩
def thermographref14_has.l0 : Nat → List Int → Int → Int → Option (Bool)
 | 0, _, _, _ => none
 | k + 1, x0, x1, x5 => if x5 < (x0.length : Int) then (if 0 ≤ x5 then (if (rd x0 x5) = x1 then (some true) else (thermographref14_has.l0 k x0 x1 (wrap64 (x5 + 1)))) else (none)) else (some false)
def thermographref14_has.f (k : Nat) (l0 : List Int) (a1 : Int) : Option (Bool) := thermographref14_has.l0 k l0 a1 0
theorem thermographref14_has.calls (k : Nat) (A0 : Option Addr) (c0 : Nat) (l0 : List Int) (a1 : Int) (r : Bool) (w : World) (hr0 : Kd.C (Kd.int .i64) w A0 l0.length l0) (hc0 : l0.length ≤ c0) (h : thermographref14_has.f k l0 a1 = some r) :
  Calls Tryz.prog 82 #[.slice A0 l0.length c0, .int .i64 a1] w fun e w' => e = .returned (.bool r) ∧ Drawn0 w w' := by
 have HR0 := Aside0.mk hr0; clear hr0 hc0; have H : (thermographref14_has.l0 k l0 a1 0) = some r := h; clear h; have H' := Aside0.mk H; clear H; go_enter Tryz.func82, Tryz.ntmps82
 go_wp2; go_loopg [5] k (fun kq v5 w' => ∃ (x5_1 : Int), v5 = .int .i64 x5_1 ∧ Aside0 (thermographref14_has.l0 kq l0 a1 x5_1 = some r) ∧ Aside0 (kq ≤ k) ∧ Drawn0 w w')
 case atStart => exact ⟨(0), (by rfl), H', ⟨Nat.le_refl _⟩, by repeat (exact Drawn0.refl _)⟩
 case round =>
  clear H'; obtain ⟨x5_1, rfl, HA, HK1, ⟨m1, rfl⟩⟩ := hrel
  cases gk with
  | zero => exact absurd HA.out (by simp [thermographref14_has.l0])
  | succ k1 =>
   have H := HA.out; clear HA; simp only [thermographref14_has.l0] at H
   by_cases c3 : x5_1 < (l0.length : Int)
   ·
    rw [if_pos c3] at H; have c3b0 : decide (x5_1 < (l0.length : Int)) = true := decide_eq_true c3; clear c3
    by_cases c4 : 0 ≤ x5_1
    ·
     rw [if_pos c4] at H; have c4b0 : decide (0 ≤ x5_1) = true := decide_eq_true c4; clear c4
     by_cases c5 : (rd l0 x5_1) = a1
     ·
      rw [if_pos c5] at H; have c5b0 : ((rd l0 x5_1) == a1) = true := beq_iff_eq.mpr c5; clear c5; obtain rfl := Option.some.inj H; have p106 : 0 ≤ (x5_1 : Int) := of_decide_eq_true (by with_reducible assumption); have q106 : x5_1 < (l0.length : Int) := of_decide_eq_true (by with_reducible assumption); obtain ⟨ad106, e106, hx106_0⟩ := Kd.at_int HR0.out x5_1 p106 q106; cases e106; replace p106 := eq_true p106; replace q106 := eq_true q106; go_wp2; go_ret; exact ⟨by rfl, by repeat (first | exact Drawn0.refl _ | apply Drawn0.step)⟩
     ·
      rw [if_neg c5] at H; have c5b0 : ((rd l0 x5_1) == a1) = false := beq_eq_false_iff_ne.mpr c5; have H' := Aside0.mk H; clear H; have p106 : 0 ≤ (x5_1 : Int) := of_decide_eq_true (by with_reducible assumption); have q106 : x5_1 < (l0.length : Int) := of_decide_eq_true (by with_reducible assumption); obtain ⟨ad106, e106, hx106_0⟩ := Kd.at_int HR0.out x5_1 p106 q106; cases e106; replace p106 := eq_true p106; replace q106 := eq_true q106; go_wp2; go_roundg k1
      case measure => have := HK1.out; omega
      case rel => exact ⟨(wrap64 (x5_1 + 1)), (by rfl), H', ⟨by have := HK1.out; omega⟩, by repeat (first | exact Drawn0.refl _ | apply Drawn0.step)⟩
    ·
     rw [if_neg c4] at H; exact absurd H (by simp)
   ·
    rw [if_neg c3] at H; have c3b0 : decide (x5_1 < (l0.length : Int)) = false := decide_eq_false c3; clear c3; obtain rfl := Option.some.inj H; go_wp2; go_ret; exact ⟨by rfl, by repeat (first | exact Drawn0.refl _ | apply Drawn0.step)⟩
end Go.Proofs.YtiinmagnpkfbbaaGreat.QT
end
