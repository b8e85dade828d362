-- Laid by wip/tools/myprint.py of this repo. Not trusted: Lean checks it.
import Derived.Test.YtiinmagnpkfbbaaGreatSqu
import Derived.Test.YtiinmagnpkfbbaaGreatQT4
set_option maxHeartbeats 8000000
set_option maxRecDepth 100000
namespace Go.Proofs.YtiinmagnpkfbbaaGreat.QT
open Go.RowKit Go.Proofs.YtiinmagnpkfbbaaGreatW.PrintWords Go.Proofs.YtiinmagnpkfbbaaGreatW.PrintLast Go.Proofs.YtiinmagnpkfbbaaGreatW.PrintMore
attribute [local go_sem] max2_int min2_int max_two min_two max_three min_three max_four min_four   -- for this text's walks alone
set_option linter.unusedVariables false
set_option linter.unusedSimpArgs false
mutual
def thermographref14_Check.j0 : Nat → Bool → Int → List Int → List (List (S57)) → Option (Int)
 | 0, _, _, _, _ => none
 | k + 1, x30, x120000, x120001, x120002 => if x30 = true then (some 50) else (thermographref14_Check.l0 k 0 x120000 x120001 x120002)
def thermographref14_Check.l0 : Nat → Int → Int → List Int → List (List (S57)) → Option (Int)
 | 0, _, _, _, _ => none
 | k + 1, x3, x120000, x120001, x120002 => if x3 < (x120001.length : Int) then (if 0 ≤ x3 then ((thermographref14_node.f (rd x120001 x3)).bind fun t121 => (if t121 = true then (if x3 > 0 then (if 0 ≤ (wrap64 (x3 - 1)) then (if (wrap64 (x3 - 1)) < (x120001.length : Int) then (if (rd x120001 x3) ≤ (rd x120001 (wrap64 (x3 - 1))) then (some 50) else (thermographref14_Check.l0 k (wrap64 (x3 + 1)) x120000 x120001 x120002)) else (none)) else (none)) else (thermographref14_Check.l0 k (wrap64 (x3 + 1)) x120000 x120001 x120002)) else (some 50))) else (none)) else (thermographref14_Check.l1 k 0 x120000 x120001 x120002)
def thermographref14_Check.l1 : Nat → Int → Int → List Int → List (List (S57)) → Option (Int)
 | 0, _, _, _, _ => none
 | k + 1, x4, x120000, x120001, x120002 => if x4 < (x120002.length : Int) then (if 0 ≤ x4 then ((thermographref14_shard.f k x120000 x120001 x120002 (rd_L4 x120002 x4)).bind fun t125 => (if t125 = true then (thermographref14_Check.l1 k (wrap64 (x4 + 1)) x120000 x120001 x120002) else (some 50))) else (none)) else (some 0)
end
def thermographref14_Check.f (k : Nat) (a0_0 : Int) (l0_1 : List Int) (l0_2 : List (List (S57))) : Option (Int) := if a0_0 < 1 then (thermographref14_Check.j0 k true a0_0 l0_1 l0_2) else (if a0_0 > 1099511627776 then (thermographref14_Check.j0 k true a0_0 l0_1 l0_2) else (if (l0_1.length : Int) < 3 then (thermographref14_Check.j0 k true a0_0 l0_1 l0_2) else (if (l0_2.length : Int) < 1 then (thermographref14_Check.j0 k true a0_0 l0_1 l0_2) else (thermographref14_Check.j0 k (decide ((l0_2.length : Int) > 8)) a0_0 l0_1 l0_2))))
def thermographref14_Check.T6 : Bool × List (List Nat × List Nat) := (true, [([], []), ([0], [0]), ([], []), ([1, 2], [1, 2]), ([3], [3]), ([4], [4]), ([5], [5]), ([6, 5], [6]), ([7], [7]), ([8, 7], [7, 8]), ([9, 7, 7], [7, 9]), ([10], [10]), ([11, 10], [10, 11]), ([10], [10]), ([12, 13, 10], [10, 12, 13]), ([14, 10], [10, 14]), ([10], [10]), ([16, 10], [10, 16]), ([10], [10]), ([18, 10], [10, 18]), ([17, 19, 10], [10, 17, 19]), ([20, 10], [10, 20]), ([15, 21, 10], [10, 15, 21]), ([10, 22, 7], [7, 10, 22]), ([7, 23], [7, 23])])
def thermographref14_Check.B6 : List Nat := [0, 1, 0, 7, 15, 31, 63, 127, 255, 511, 1023, 2047, 4095, 2047, 16383, 32767, 2047, 67583, 2047, 264191, 985087, 2033663, 4194303, 8388607, 16777215]
theorem thermographref14_Check.tab6 : rtab .any (opsOf Tryz.f27 6) = thermographref14_Check.T6 := by kernel_rfl
theorem thermographref14_Check.bits6 : waitsOk thermographref14_Check.T6.2 thermographref14_Check.B6 = true := by kernel_rfl
def thermographref14_Check.T11 : Bool × List (List Nat × List Nat) := (true, [([], []), ([], []), ([1], [1]), ([], []), ([2, 3], [2, 3]), ([4], [4]), ([0, 5], [0, 5]), ([6], [6])])
def thermographref14_Check.B11 : List Nat := [0, 0, 2, 0, 14, 30, 63, 127]
theorem thermographref14_Check.tab11 : rtab .any (opsOf Tryz.f27 11) = thermographref14_Check.T11 := by kernel_rfl
theorem thermographref14_Check.bits11 : waitsOk thermographref14_Check.T11.2 thermographref14_Check.B11 = true := by kernel_rfl
theorem thermographref14_Check.calls (k : Nat) (a0_0 : Int) (A0_1 : Option Addr) (c0_1 : Nat) (l0_1 : List Int) (A0_2 : Option Addr) (c0_2 : Nat) (l0_2 : List (List (S57))) (r : Int) (w : World) (hr0_1 : Kd.C (Kd.int .i64) w A0_1 l0_1.length l0_1) (hc0_1 : l0_1.length ≤ c0_1) (hr0_2 : Kd.C (Kd.slice 57 k57) w A0_2 l0_2.length l0_2) (hc0_2 : l0_2.length ≤ c0_2) (h : thermographref14_Check.f k a0_0 l0_1 l0_2 = some r) :
  Calls Tryz.prog 27 #[.agg #[.int .i64 a0_0, .slice A0_1 l0_1.length c0_1, .slice A0_2 l0_2.length c0_2]] w fun e w' => e = .returned (.int .i64 r) ∧ Below w.heap.size w w' := by
 have HR0_1 := Aside0.mk hr0_1; have HC0_1 := Aside0.mk hc0_1; clear hr0_1 hc0_1; have HR0_2 := Aside0.mk hr0_2; have HC0_2 := Aside0.mk hc0_2; clear hr0_2 hc0_2; have HB := Aside0.mk (Below.refl w.heap.size w); have H : (if a0_0 < 1 then (thermographref14_Check.j0 k true a0_0 l0_1 l0_2) else (if a0_0 > 1099511627776 then (thermographref14_Check.j0 k true a0_0 l0_1 l0_2) else (if (l0_1.length : Int) < 3 then (thermographref14_Check.j0 k true a0_0 l0_1 l0_2) else (if (l0_2.length : Int) < 1 then (thermographref14_Check.j0 k true a0_0 l0_1 l0_2) else (thermographref14_Check.j0 k (decide ((l0_2.length : Int) > 8)) a0_0 l0_1 l0_2))))) = some r := h; clear h; have HC2 := Aside0.mk H; clear H; go_enter Tryz.func27, Tryz.ntmps27
 go_upto_region 1 with (((with_reducible refine gate_dst (N := 1) rfl ?_); (try (refine gate_guard (by rfl) ?_; dsimp only)); refine box_event ?hg (N := 1) ?hd (cs := #[.int .i64 a0_0, .slice A0_1 l0_1.length c0_1, .slice A0_2 l0_2.length c0_2]) (t := 25) ?hr ?_; (case hd => rfl); (case hg => rfl); (case hr => go_simp; done); intro gb119 hg w3 hbox hb; have n0_ := Aside0.mk (below_step HB.out hb); have n1_ := Aside0.mk (hbox); clear HB; have HB := n0_; have BK119 := n1_; clear n0_ n1_ ; clear hb hbox hg))
 (try simp only [Act.put, List.setIfInBounds_toArray, List.set_cons_zero, List.set_cons_succ])
 go_cut [30] (fun v30 wc => ∃ (kq : Nat) (x30_1 : Bool), v30 = .bool x30_1 ∧ Aside0 (thermographref14_Check.j0 kq x30_1 a0_0 l0_1 l0_2 = some r) ∧ Aside0 (kq ≤ k) ∧ Aside0 (wc.heap[gb119]? = some (.cells #[.int .i64 a0_0, (.slice A0_1 l0_1.length c0_1), (.slice A0_2 l0_2.length c0_2)] 25 (0, 0))) ∧ Aside0 (Below w.heap.size w wc))
 case first =>
  have H := HC2.out; clear HC2
  by_cases c4 : a0_0 < 1
  ·
   rw [if_pos c4] at H; have c4b0 : decide (a0_0 < 1) = true := decide_eq_true c4; clear c4
   ((skip))
   have H' := Aside0.mk H; clear H; have hcz5_0 : w3.cell? ⟨gb119, 0, none⟩ = some (.int .i64 a0_0) := (blk_cell BK119.out 0).trans rfl; go_wp2; go_meet
   case rel => exact ⟨_, (true), (by rfl), H', ⟨by omega⟩, ⟨BK119.out⟩, ⟨HB.out⟩⟩
  ·
   rw [if_neg c4] at H; have c4b0 : decide (a0_0 < 1) = false := decide_eq_false c4; clear c4
   ((skip))
   by_cases c6 : a0_0 > 1099511627776
   ·
    rw [if_pos c6] at H; have c6b0 : decide (1099511627776 < a0_0) = true := decide_eq_true c6; clear c6; have H' := Aside0.mk H; clear H; have hcz7_0 : w3.cell? ⟨gb119, 0, none⟩ = some (.int .i64 a0_0) := (blk_cell BK119.out 0).trans rfl; go_wp2; go_meet
    case rel => exact ⟨_, (true), (by rfl), H', ⟨by omega⟩, ⟨BK119.out⟩, ⟨HB.out⟩⟩
   ·
    rw [if_neg c6] at H; have c6b0 : decide (1099511627776 < a0_0) = false := decide_eq_false c6; clear c6
    by_cases c8 : (l0_1.length : Int) < 3
    ·
     rw [if_pos c8] at H; have c8b0 : decide ((l0_1.length : Int) < 3) = true := decide_eq_true c8; clear c8; have H' := Aside0.mk H; clear H; have hcz9_0 : w3.cell? ⟨gb119, 0, none⟩ = some (.int .i64 a0_0) := (blk_cell BK119.out 0).trans rfl; have hcz9_1 : w3.cell? ⟨gb119, 1, none⟩ = some (.slice A0_1 l0_1.length c0_1) := (blk_cell BK119.out 1).trans rfl; go_wp2; go_meet
     case rel => exact ⟨_, (true), (by rfl), H', ⟨by omega⟩, ⟨BK119.out⟩, ⟨HB.out⟩⟩
    ·
     rw [if_neg c8] at H; have c8b0 : decide ((l0_1.length : Int) < 3) = false := decide_eq_false c8; clear c8
     by_cases c10 : (l0_2.length : Int) < 1
     ·
      rw [if_pos c10] at H; have c10b0 : decide ((l0_2.length : Int) < 1) = true := decide_eq_true c10; clear c10; have H' := Aside0.mk H; clear H; have hcz11_0 : w3.cell? ⟨gb119, 0, none⟩ = some (.int .i64 a0_0) := (blk_cell BK119.out 0).trans rfl; have hcz11_1 : w3.cell? ⟨gb119, 1, none⟩ = some (.slice A0_1 l0_1.length c0_1) := (blk_cell BK119.out 1).trans rfl; have hcz11_2 : w3.cell? ⟨gb119, 2, none⟩ = some (.slice A0_2 l0_2.length c0_2) := (blk_cell BK119.out 2).trans rfl; go_wp2; go_meet
      case rel => exact ⟨_, (true), (by rfl), H', ⟨by omega⟩, ⟨BK119.out⟩, ⟨HB.out⟩⟩
     ·
      rw [if_neg c10] at H; have c10b0 : decide ((l0_2.length : Int) < 1) = false := decide_eq_false c10; clear c10; have H' := Aside0.mk H; clear H; have hcz12_0 : w3.cell? ⟨gb119, 0, none⟩ = some (.int .i64 a0_0) := (blk_cell BK119.out 0).trans rfl; have hcz12_1 : w3.cell? ⟨gb119, 1, none⟩ = some (.slice A0_1 l0_1.length c0_1) := (blk_cell BK119.out 1).trans rfl; have hcz12_2 : w3.cell? ⟨gb119, 2, none⟩ = some (.slice A0_2 l0_2.length c0_2) := (blk_cell BK119.out 2).trans rfl; go_wp2; go_meet
      case rel => exact ⟨_, (decide ((l0_2.length : Int) > 8)), (by rfl), H', ⟨by omega⟩, ⟨BK119.out⟩, ⟨HB.out⟩⟩
 case rest =>
  clear HC2; obtain ⟨kq, x30_1, rfl, HA, HJ1, BK119, HB⟩ := hcut
  cases kq with
  | zero => exact absurd HA.out (by simp [thermographref14_Check.j0])
  | succ kj1 =>
   have H := HA.out; clear HA; simp only [thermographref14_Check.j0] at H
   by_cases c13 : x30_1 = true
   ·
    subst c13; have H1 : (some 50) = some r := by rw [if_pos rfl] at H; exact H
    clear H; have H := H1; clear H1; obtain rfl := Option.some.inj H; go_wp2; go_ret; exact ⟨by rfl, by repeat ((with_reducible exact HB.out))⟩
   ·
    replace c13 := Bool.eq_false_iff.mpr c13; subst c13; have H1 : (thermographref14_Check.l0 kj1 0 a0_0 l0_1 l0_2) = some r := by rw [if_neg (show ¬ (false = true) by decide)] at H; exact H
    clear H; have H := H1; clear H1; have H' := Aside0.mk H; clear H; go_wp2; go_loopg [3] kj1 (fun kq v3 w' => ∃ (x3_2 : Int), v3 = .int .i64 x3_2 ∧ Aside0 (thermographref14_Check.l0 kq x3_2 a0_0 l0_1 l0_2 = some r) ∧ Aside0 (kq ≤ kj1) ∧ Aside0 (w'.heap[gb119]? = some (.cells #[.int .i64 a0_0, (.slice A0_1 l0_1.length c0_1), (.slice A0_2 l0_2.length c0_2)] 25 (0, 0))) ∧ Aside0 (Below w.heap.size w w'))
    case atStart => exact ⟨(0), (by rfl), H', ⟨Nat.le_refl _⟩, ⟨BK119.out⟩, ⟨HB.out⟩⟩
    case round =>
     clear H'; obtain ⟨x3_2, rfl, HA, HK2, BK119, HB⟩ := hrel
     cases gk with
     | zero => exact absurd HA.out (by simp [thermographref14_Check.l0])
     | succ k2 =>
      have H := HA.out; clear HA; simp only [thermographref14_Check.l0] at H
      by_cases c14 : x3_2 < (l0_1.length : Int)
      ·
       rw [if_pos c14] at H; have c14b0 : decide (x3_2 < (l0_1.length : Int)) = true := decide_eq_true c14; clear c14
       by_cases c15 : 0 ≤ x3_2
       ·
        rw [if_pos c15] at H; have c15b0 : decide (0 ≤ x3_2) = true := decide_eq_true c15; clear c15; replace H := Option.bind_eq_some_iff.mp H; obtain ⟨t121, A160, H⟩ := H; replace H : (if t121 = true then (if x3_2 > 0 then (if 0 ≤ (wrap64 (x3_2 - 1)) then (if (wrap64 (x3_2 - 1)) < (l0_1.length : Int) then (if (rd l0_1 x3_2) ≤ (rd l0_1 (wrap64 (x3_2 - 1))) then (some 50) else (thermographref14_Check.l0 k2 (wrap64 (x3_2 + 1)) a0_0 l0_1 l0_2)) else (none)) else (none)) else (thermographref14_Check.l0 k2 (wrap64 (x3_2 + 1)) a0_0 l0_1 l0_2)) else (some 50)) = some r := H; have A16 := Aside0.mk A160; clear A160
        by_cases c17 : t121 = true
        ·
         subst c17; have H1 : (if x3_2 > 0 then (if 0 ≤ (wrap64 (x3_2 - 1)) then (if (wrap64 (x3_2 - 1)) < (l0_1.length : Int) then (if (rd l0_1 x3_2) ≤ (rd l0_1 (wrap64 (x3_2 - 1))) then (some 50) else (thermographref14_Check.l0 k2 (wrap64 (x3_2 + 1)) a0_0 l0_1 l0_2)) else (none)) else (none)) else (thermographref14_Check.l0 k2 (wrap64 (x3_2 + 1)) a0_0 l0_1 l0_2)) = some r := by rw [if_pos rfl] at H; exact H
         clear H; have H := H1; clear H1
         by_cases c18 : x3_2 > 0
         ·
          rw [if_pos c18] at H; have c18b0 : decide (0 < x3_2) = true := decide_eq_true c18; clear c18
          obtain ⟨ji19, hji19⟩ : ∃ j_ : Int, (wrap64 (x3_2 - 1)) = j_ := ⟨_, rfl⟩
          replace H : (if 0 ≤ (ji19) then (if (ji19) < (l0_1.length : Int) then (if (rd l0_1 x3_2) ≤ (rd l0_1 (ji19)) then (some 50) else (thermographref14_Check.l0 k2 (wrap64 (x3_2 + 1)) a0_0 l0_1 l0_2)) else (none)) else (none)) = some r := by (rw [hji19] at H; exact H)
          (try rw [hji19] at A16)
          have hji19w : (IntKind.i64.wrap (x3_2 - 1)) = ji19 := (i64_w _).trans hji19
          by_cases c20 : 0 ≤ (ji19)
          ·
           rw [if_pos c20] at H; have c20b0 : decide (0 ≤ (ji19)) = true := decide_eq_true c20; clear c20
           by_cases c21 : (ji19) < (l0_1.length : Int)
           ·
            rw [if_pos c21] at H; have c21b0 : decide ((ji19) < (l0_1.length : Int)) = true := decide_eq_true c21; clear c21
            by_cases c22 : (rd l0_1 x3_2) ≤ (rd l0_1 (ji19))
            ·
             rw [if_pos c22] at H; have c22b0 : decide ((rd l0_1 x3_2) ≤ (rd l0_1 (ji19))) = true := decide_eq_true c22; clear c22; obtain rfl := Option.some.inj H; have hcz23_1 : wr.cell? ⟨gb119, 1, none⟩ = some (.slice A0_1 l0_1.length c0_1) := (blk_cell BK119.out 1).trans rfl; try go_wp2
             have n0_ := Aside0.mk (blk_drew BK119.out); have n1_ := Aside0.mk (below_drew1 HB.out); clear BK119; clear HB; have BK119 := n0_; have HB := n1_; clear n0_ n1_; have p120 : 0 ≤ (x3_2 : Int) := of_decide_eq_true (by with_reducible assumption); have q120 : x3_2 < (l0_1.length : Int) := of_decide_eq_true (by with_reducible assumption); obtain ⟨ad120, e120, hx120_0⟩ := Kd.at_int HR0_1.out x3_2 p120 q120; have hw120_0 := hx120_0; cases e120; replace hx120_0 := (HB.out.cell (World.block_lt_of_cell? w _ hx120_0)).trans hx120_0; replace p120 := eq_true p120; replace q120 := eq_true q120; have p122 : 0 ≤ (x3_2 : Int) := of_decide_eq_true (by with_reducible assumption); have q122 : x3_2 < (l0_1.length : Int) := of_decide_eq_true (by with_reducible assumption); obtain ⟨ad122, e122, hx122_0⟩ := Kd.at_int HR0_1.out x3_2 p122 q122; have hw122_0 := hx122_0
             obtain rfl : ad120 = ad122 := (by injection e122)
             replace hx122_0 := (HB.out.cell (World.block_lt_of_cell? w _ hx122_0)).trans hx122_0; replace p122 := eq_true p122; replace q122 := eq_true q122; have p123 : 0 ≤ ((ji19) : Int) := of_decide_eq_true (by with_reducible assumption); have q123 : (ji19) < (l0_1.length : Int) := of_decide_eq_true (by with_reducible assumption); obtain ⟨ad123, e123, hx123_0⟩ := Kd.at_int HR0_1.out (ji19) p123 q123; have hw123_0 := hx123_0
             obtain rfl : ad120 = ad123 := (by injection e123)
             replace hx123_0 := (HB.out.cell (World.block_lt_of_cell? w _ hx123_0)).trans hx123_0; replace p123 := eq_true p123; replace q123 := eq_true q123; refine start_ (n := 25) (S := fun w' => w'.cell? ⟨gb119, 0, none⟩ = some (.int .i64 a0_0) ∧ w'.cell? ⟨gb119, 1, none⟩ = some (.slice (some ad120) l0_1.length c0_1) ∧ w'.cell? ⟨gb119, 2, none⟩ = some (.slice A0_2 l0_2.length c0_2) ∧ w'.cell? (ad120.add (x3_2).toNat) = some (.int .i64 (rd l0_1 x3_2)) ∧ w'.cell? (ad120.add (x3_2).toNat) = some (.int .i64 (rd l0_1 x3_2)) ∧ w'.cell? (ad120.add ((ji19)).toNat) = some (.int .i64 (rd l0_1 (ji19)))) (ds := []) (bs 25 0) (by kernel_rfl) rfl rfl ⟨(blk_cell BK119.out 0).trans rfl, (blk_cell BK119.out 1).trans rfl, (blk_cell BK119.out 2).trans rfl, ((HB.out.cell (World.block_lt_of_cell? w _ hw120_0)).trans hw120_0), ((HB.out.cell (World.block_lt_of_cell? w _ hw122_0)).trans hw122_0), ((HB.out.cell (World.block_lt_of_cell? w _ hw123_0)).trans hw123_0)⟩ (fun hHeld => ?_); refine with_tabW thermographref14_Check.tab6 thermographref14_Check.bits6 (fun HT_ HW_ => ?_); generalize wr.drew = w24 at BK119 HB hx120_0 hx122_0 hx123_0 hHeld ⊢; apply pv 0 38 (bs 25 1) HT_; rfl; rfl; kernel_rfl; exact qq; rfl; intro w'; go_simp; with_reducible rfl; simp only [zz]; rfl
             apply pv 2 40 (bs 25 5) HT_; rfl; rfl; kernel_rfl; exact qq; rfl; intro w'; go_simp; with_reducible rfl; simp only [zz]; rfl
             apply tb 1 39 (bs 25 7) HT_ HW_ hHeld; rfl; rfl; kernel_rfl; exact qq; rfl; rintro w' ⟨s0, s1, s2, s3, s4, s5⟩; go_simp; with_reducible rfl; simp only [zz]; rfl
             apply pv 3 41 (bs 25 15) HT_; rfl; rfl; kernel_rfl; exact qq; rfl; intro w'; go_simp; with_reducible rfl; simp only [zz]; rfl
             apply tb 4 42 (bs 25 31) HT_ HW_ hHeld; rfl; rfl; kernel_rfl; exact qq; rfl; rintro w' ⟨s0, s1, s2, s3, s4, s5⟩; go_simp; with_reducible rfl; simp only [zz]; rfl
             refine one_ (i := 5) (N := some 43) (bs 25 63) rfl rfl (one_of HT_.out (by kernel_rfl)) (by decide) (fun K hK => ?_); refine goes_ Tryz.func57 (by kernel_rfl) rfl #[.int .i64 (rd l0_1 x3_2)] (by rfl) rfl rfl (by (try simp only [List.map_toArray, List.map_cons, List.map_nil]); rfl) ?_; with_reducible refine (thermographref14_node.calls (rd l0_1 x3_2) true _ A16.out).mono ?_
             rintro e w' ⟨rfl, ⟨nd, rfl⟩⟩; refine ⟨_, rfl, ?_⟩; refine hK.out _ _ ⟨(blk_cell BK119.out 0).trans rfl, (blk_cell BK119.out 1).trans rfl, (blk_cell BK119.out 2).trans rfl, ((HB.out.cell (World.block_lt_of_cell? w _ hw120_0)).trans hw120_0), ((HB.out.cell (World.block_lt_of_cell? w _ hw122_0)).trans hw122_0), ((HB.out.cell (World.block_lt_of_cell? w _ hw123_0)).trans hw123_0)⟩ (fun hHeld => ?_); clear hK K; refine norm_ (a' := ?_) ?_ ?_; rotate_left
             ·
              show Act.put _ (some 43) _ = _; simp only [Act.put, List.setIfInBounds_toArray, List.set_cons_zero, List.set_cons_succ, i64_w, i32_w]; rfl
             apply pv 6 44 (bs 25 127) HT_; rfl; rfl; kernel_rfl; exact qq; rfl; intro w'; go_simp; with_reducible rfl; simp only [zz]; rfl
             apply pv 7 45 (bs 25 255) HT_; rfl; rfl; kernel_rfl; exact qq; rfl; intro w'; go_simp; with_reducible rfl; simp only [zz]; rfl
             apply pv 8 46 (bs 25 511) HT_; rfl; rfl; kernel_rfl; exact qq; rfl; intro w'; go_simp; with_reducible rfl; simp only [zz]; rfl
             apply pv 9 47 (bs 25 1023) HT_; rfl; rfl; kernel_rfl; exact qq; rfl; intro w'; go_simp; with_reducible rfl; simp only [zz]; rfl
             apply pv 10 48 (bs 25 2047) HT_; rfl; rfl; kernel_rfl; exact qq; rfl; intro w'; go_simp; with_reducible rfl; simp only [zz]; rfl
             apply pv 11 49 (bs 25 4095) HT_; rfl; rfl; kernel_rfl; exact qq; rfl; intro w'; go_simp; with_reducible rfl; simp only [zz]; rfl
             apply pv 13 51 (bs 25 12287) HT_; rfl; rfl; kernel_rfl; exact qq; rfl; intro w'; go_simp; with_reducible rfl; simp only [zz]; rfl
             apply pv 16 54 (bs 25 77823) HT_; rfl; rfl; kernel_rfl; exact qq; rfl; intro w'; go_simp; with_reducible rfl; simp only [zz]; rfl
             apply pv 18 56 (bs 25 339967) HT_; rfl; rfl; kernel_rfl; exact qq; rfl; intro w'; go_simp; with_reducible rfl; simp only [zz]; rfl
             apply pv 19 57 (bs 25 864255) HT_; rfl; rfl; kernel_rfl; exact qq; rfl; intro w'; go_simp; with_reducible rfl; simp only [zz]; rfl
             apply tb 12 50 (bs 25 868351) HT_ HW_ hHeld; rfl; rfl; kernel_rfl; exact qq; rfl; rintro w' ⟨s0, s1, s2, s3, s4, s5⟩; go_simp; with_reducible rfl; simp only [zz]; rfl
             apply pv 14 52 (bs 25 884735) HT_; rfl; rfl; kernel_rfl; exact qq; rfl; intro w'; go_simp; with_reducible rfl; simp only [zz]; rfl
             apply tb 15 53 (bs 25 917503) HT_ HW_ hHeld; rfl; rfl; kernel_rfl; exact qq; rfl; rintro w' ⟨s0, s1, s2, s3, s4, s5⟩; go_simp; with_reducible rfl; simp only [zz]; rfl
             apply tb 17 55 (bs 25 1048575) HT_ HW_ hHeld; rfl; rfl; kernel_rfl; exact qq; rfl; rintro w' ⟨s0, s1, s2, s3, s4, s5⟩; go_simp; with_reducible rfl; simp only [zz]; rfl
             apply pv 20 58 (bs 25 2097151) HT_; rfl; rfl; kernel_rfl; exact qq; rfl; intro w'; go_simp; with_reducible rfl; simp only [zz]; rfl
             apply tb 21 59 (bs 25 4194303) HT_ HW_ hHeld; rfl; rfl; kernel_rfl; exact qq; rfl; rintro w' ⟨s0, s1, s2, s3, s4, s5⟩; go_simp; with_reducible rfl; simp only [zz]; rfl
             apply pv 22 60 (bs 25 8388607) HT_; rfl; rfl; kernel_rfl; exact qq; rfl; intro w'; go_simp; with_reducible rfl; simp only [zz]; rfl
             apply pv 23 61 (bs 25 16777215) HT_; rfl; rfl; kernel_rfl; exact qq; rfl; intro w'; go_simp; with_reducible rfl; simp only [zz]; rfl
             apply pv 24 62 (bs 25 33554431) HT_; rfl; rfl; kernel_rfl; exact qq; rfl; intro w'; go_simp; with_reducible rfl; simp only [zz]; rfl
             refine done_ (done_of HT_.out (by kernel_rfl)) ?_; try go_wp2
             go_ret; exact ⟨by rfl, by repeat ((with_reducible first | exact HB.out | apply pw_below_drewN))⟩
            ·
             rw [if_neg c22] at H; have c22b0 : decide ((rd l0_1 x3_2) ≤ (rd l0_1 (ji19))) = false := decide_eq_false c22; clear c22; have H' := Aside0.mk H; clear H; have hcz25_1 : wr.cell? ⟨gb119, 1, none⟩ = some (.slice A0_1 l0_1.length c0_1) := (blk_cell BK119.out 1).trans rfl; try go_wp2
             have n0_ := Aside0.mk (blk_drew BK119.out); have n1_ := Aside0.mk (below_drew1 HB.out); clear BK119; clear HB; have BK119 := n0_; have HB := n1_; clear n0_ n1_; have p120 : 0 ≤ (x3_2 : Int) := of_decide_eq_true (by with_reducible assumption); have q120 : x3_2 < (l0_1.length : Int) := of_decide_eq_true (by with_reducible assumption); obtain ⟨ad120, e120, hx120_0⟩ := Kd.at_int HR0_1.out x3_2 p120 q120; have hw120_0 := hx120_0; cases e120; replace hx120_0 := (HB.out.cell (World.block_lt_of_cell? w _ hx120_0)).trans hx120_0; replace p120 := eq_true p120; replace q120 := eq_true q120; have p122 : 0 ≤ (x3_2 : Int) := of_decide_eq_true (by with_reducible assumption); have q122 : x3_2 < (l0_1.length : Int) := of_decide_eq_true (by with_reducible assumption); obtain ⟨ad122, e122, hx122_0⟩ := Kd.at_int HR0_1.out x3_2 p122 q122; have hw122_0 := hx122_0
             obtain rfl : ad120 = ad122 := (by injection e122)
             replace hx122_0 := (HB.out.cell (World.block_lt_of_cell? w _ hx122_0)).trans hx122_0; replace p122 := eq_true p122; replace q122 := eq_true q122; have p123 : 0 ≤ ((ji19) : Int) := of_decide_eq_true (by with_reducible assumption); have q123 : (ji19) < (l0_1.length : Int) := of_decide_eq_true (by with_reducible assumption); obtain ⟨ad123, e123, hx123_0⟩ := Kd.at_int HR0_1.out (ji19) p123 q123; have hw123_0 := hx123_0
             obtain rfl : ad120 = ad123 := (by injection e123)
             replace hx123_0 := (HB.out.cell (World.block_lt_of_cell? w _ hx123_0)).trans hx123_0; replace p123 := eq_true p123; replace q123 := eq_true q123; refine start_ (n := 25) (S := fun w' => w'.cell? ⟨gb119, 0, none⟩ = some (.int .i64 a0_0) ∧ w'.cell? ⟨gb119, 1, none⟩ = some (.slice (some ad120) l0_1.length c0_1) ∧ w'.cell? ⟨gb119, 2, none⟩ = some (.slice A0_2 l0_2.length c0_2) ∧ w'.cell? (ad120.add (x3_2).toNat) = some (.int .i64 (rd l0_1 x3_2)) ∧ w'.cell? (ad120.add (x3_2).toNat) = some (.int .i64 (rd l0_1 x3_2)) ∧ w'.cell? (ad120.add ((ji19)).toNat) = some (.int .i64 (rd l0_1 (ji19)))) (ds := []) (bs 25 0) (by kernel_rfl) rfl rfl ⟨(blk_cell BK119.out 0).trans rfl, (blk_cell BK119.out 1).trans rfl, (blk_cell BK119.out 2).trans rfl, ((HB.out.cell (World.block_lt_of_cell? w _ hw120_0)).trans hw120_0), ((HB.out.cell (World.block_lt_of_cell? w _ hw122_0)).trans hw122_0), ((HB.out.cell (World.block_lt_of_cell? w _ hw123_0)).trans hw123_0)⟩ (fun hHeld => ?_); refine with_tabW thermographref14_Check.tab6 thermographref14_Check.bits6 (fun HT_ HW_ => ?_); generalize wr.drew = w26 at BK119 HB hx120_0 hx122_0 hx123_0 hHeld ⊢; apply pv 0 38 (bs 25 1) HT_; rfl; rfl; kernel_rfl; exact qq; rfl; intro w'; go_simp; with_reducible rfl; simp only [zz]; rfl
             apply pv 2 40 (bs 25 5) HT_; rfl; rfl; kernel_rfl; exact qq; rfl; intro w'; go_simp; with_reducible rfl; simp only [zz]; rfl
             apply tb 1 39 (bs 25 7) HT_ HW_ hHeld; rfl; rfl; kernel_rfl; exact qq; rfl; rintro w' ⟨s0, s1, s2, s3, s4, s5⟩; go_simp; with_reducible rfl; simp only [zz]; rfl
             apply pv 3 41 (bs 25 15) HT_; rfl; rfl; kernel_rfl; exact qq; rfl; intro w'; go_simp; with_reducible rfl; simp only [zz]; rfl
             apply tb 4 42 (bs 25 31) HT_ HW_ hHeld; rfl; rfl; kernel_rfl; exact qq; rfl; rintro w' ⟨s0, s1, s2, s3, s4, s5⟩; go_simp; with_reducible rfl; simp only [zz]; rfl
             refine one_ (i := 5) (N := some 43) (bs 25 63) rfl rfl (one_of HT_.out (by kernel_rfl)) (by decide) (fun K hK => ?_); refine goes_ Tryz.func57 (by kernel_rfl) rfl #[.int .i64 (rd l0_1 x3_2)] (by rfl) rfl rfl (by (try simp only [List.map_toArray, List.map_cons, List.map_nil]); rfl) ?_; with_reducible refine (thermographref14_node.calls (rd l0_1 x3_2) true _ A16.out).mono ?_
             rintro e w' ⟨rfl, ⟨nd, rfl⟩⟩; refine ⟨_, rfl, ?_⟩; refine hK.out _ _ ⟨(blk_cell BK119.out 0).trans rfl, (blk_cell BK119.out 1).trans rfl, (blk_cell BK119.out 2).trans rfl, ((HB.out.cell (World.block_lt_of_cell? w _ hw120_0)).trans hw120_0), ((HB.out.cell (World.block_lt_of_cell? w _ hw122_0)).trans hw122_0), ((HB.out.cell (World.block_lt_of_cell? w _ hw123_0)).trans hw123_0)⟩ (fun hHeld => ?_); clear hK K; refine norm_ (a' := ?_) ?_ ?_; rotate_left
             ·
              show Act.put _ (some 43) _ = _; simp only [Act.put, List.setIfInBounds_toArray, List.set_cons_zero, List.set_cons_succ, i64_w, i32_w]; rfl
             apply pv 6 44 (bs 25 127) HT_; rfl; rfl; kernel_rfl; exact qq; rfl; intro w'; go_simp; with_reducible rfl; simp only [zz]; rfl
             apply pv 7 45 (bs 25 255) HT_; rfl; rfl; kernel_rfl; exact qq; rfl; intro w'; go_simp; with_reducible rfl; simp only [zz]; rfl
             apply pv 8 46 (bs 25 511) HT_; rfl; rfl; kernel_rfl; exact qq; rfl; intro w'; go_simp; with_reducible rfl; simp only [zz]; rfl
             apply pv 9 47 (bs 25 1023) HT_; rfl; rfl; kernel_rfl; exact qq; rfl; intro w'; go_simp; with_reducible rfl; simp only [zz]; rfl
             apply pv 10 48 (bs 25 2047) HT_; rfl; rfl; kernel_rfl; exact qq; rfl; intro w'; go_simp; with_reducible rfl; simp only [zz]; rfl
             apply pv 11 49 (bs 25 4095) HT_; rfl; rfl; kernel_rfl; exact qq; rfl; intro w'; go_simp; with_reducible rfl; simp only [zz]; rfl
             apply pv 13 51 (bs 25 12287) HT_; rfl; rfl; kernel_rfl; exact qq; rfl; intro w'; go_simp; with_reducible rfl; simp only [zz]; rfl
             apply pv 16 54 (bs 25 77823) HT_; rfl; rfl; kernel_rfl; exact qq; rfl; intro w'; go_simp; with_reducible rfl; simp only [zz]; rfl
             apply pv 18 56 (bs 25 339967) HT_; rfl; rfl; kernel_rfl; exact qq; rfl; intro w'; go_simp; with_reducible rfl; simp only [zz]; rfl
             apply pv 19 57 (bs 25 864255) HT_; rfl; rfl; kernel_rfl; exact qq; rfl; intro w'; go_simp; with_reducible rfl; simp only [zz]; rfl
             apply tb 12 50 (bs 25 868351) HT_ HW_ hHeld; rfl; rfl; kernel_rfl; exact qq; rfl; rintro w' ⟨s0, s1, s2, s3, s4, s5⟩; go_simp; with_reducible rfl; simp only [zz]; rfl
             apply pv 14 52 (bs 25 884735) HT_; rfl; rfl; kernel_rfl; exact qq; rfl; intro w'; go_simp; with_reducible rfl; simp only [zz]; rfl
             apply tb 15 53 (bs 25 917503) HT_ HW_ hHeld; rfl; rfl; kernel_rfl; exact qq; rfl; rintro w' ⟨s0, s1, s2, s3, s4, s5⟩; go_simp; with_reducible rfl; simp only [zz]; rfl
             apply tb 17 55 (bs 25 1048575) HT_ HW_ hHeld; rfl; rfl; kernel_rfl; exact qq; rfl; rintro w' ⟨s0, s1, s2, s3, s4, s5⟩; go_simp; with_reducible rfl; simp only [zz]; rfl
             apply pv 20 58 (bs 25 2097151) HT_; rfl; rfl; kernel_rfl; exact qq; rfl; intro w'; go_simp; with_reducible rfl; simp only [zz]; rfl
             apply tb 21 59 (bs 25 4194303) HT_ HW_ hHeld; rfl; rfl; kernel_rfl; exact qq; rfl; rintro w' ⟨s0, s1, s2, s3, s4, s5⟩; go_simp; with_reducible rfl; simp only [zz]; rfl
             apply pv 22 60 (bs 25 8388607) HT_; rfl; rfl; kernel_rfl; exact qq; rfl; intro w'; go_simp; with_reducible rfl; simp only [zz]; rfl
             apply pv 23 61 (bs 25 16777215) HT_; rfl; rfl; kernel_rfl; exact qq; rfl; intro w'; go_simp; with_reducible rfl; simp only [zz]; rfl
             apply pv 24 62 (bs 25 33554431) HT_; rfl; rfl; kernel_rfl; exact qq; rfl; intro w'; go_simp; with_reducible rfl; simp only [zz]; rfl
             refine done_ (done_of HT_.out (by kernel_rfl)) ?_; try go_wp2
             go_roundg k2
             case measure => have := HJ1.out; have := HK2.out; omega
             case rel => exact ⟨(wrap64 (x3_2 + 1)), (by rfl), H', ⟨by have := HJ1.out; have := HK2.out; omega⟩, ⟨by (with_reducible repeat (refine blk_drewN ?_ _)); exact BK119.out⟩, ⟨by repeat ((with_reducible first | exact HB.out | apply pw_below_drewN))⟩⟩
           ·
            rw [if_neg c21] at H; exact absurd H (by simp)
          ·
           rw [if_neg c20] at H; exact absurd H (by simp)
         ·
          rw [if_neg c18] at H; have c18b0 : decide (0 < x3_2) = false := decide_eq_false c18; clear c18; have H' := Aside0.mk H; clear H; have hcz27_1 : wr.cell? ⟨gb119, 1, none⟩ = some (.slice A0_1 l0_1.length c0_1) := (blk_cell BK119.out 1).trans rfl; try go_wp2
          have n0_ := Aside0.mk (blk_drew BK119.out); have n1_ := Aside0.mk (below_drew1 HB.out); clear BK119; clear HB; have BK119 := n0_; have HB := n1_; clear n0_ n1_; have p120 : 0 ≤ (x3_2 : Int) := of_decide_eq_true (by with_reducible assumption); have q120 : x3_2 < (l0_1.length : Int) := of_decide_eq_true (by with_reducible assumption); obtain ⟨ad120, e120, hx120_0⟩ := Kd.at_int HR0_1.out x3_2 p120 q120; have hw120_0 := hx120_0; cases e120; replace hx120_0 := (HB.out.cell (World.block_lt_of_cell? w _ hx120_0)).trans hx120_0; replace p120 := eq_true p120; replace q120 := eq_true q120; refine start_ (n := 25) (S := fun w' => w'.cell? ⟨gb119, 0, none⟩ = some (.int .i64 a0_0) ∧ w'.cell? ⟨gb119, 1, none⟩ = some (.slice (some ad120) l0_1.length c0_1) ∧ w'.cell? ⟨gb119, 2, none⟩ = some (.slice A0_2 l0_2.length c0_2) ∧ w'.cell? (ad120.add (x3_2).toNat) = some (.int .i64 (rd l0_1 x3_2))) (ds := []) (bs 25 0) (by kernel_rfl) rfl rfl ⟨(blk_cell BK119.out 0).trans rfl, (blk_cell BK119.out 1).trans rfl, (blk_cell BK119.out 2).trans rfl, ((HB.out.cell (World.block_lt_of_cell? w _ hw120_0)).trans hw120_0)⟩ (fun hHeld => ?_); refine with_tabW thermographref14_Check.tab6 thermographref14_Check.bits6 (fun HT_ HW_ => ?_); generalize wr.drew = w28 at BK119 HB hx120_0 hHeld ⊢; apply pv 0 38 (bs 25 1) HT_; rfl; rfl; kernel_rfl; exact qq; rfl; intro w'; go_simp; with_reducible rfl; simp only [zz]; rfl
          apply pv 2 40 (bs 25 5) HT_; rfl; rfl; kernel_rfl; exact qq; rfl; intro w'; go_simp; with_reducible rfl; simp only [zz]; rfl
          apply tb 1 39 (bs 25 7) HT_ HW_ hHeld; rfl; rfl; kernel_rfl; exact qq; rfl; rintro w' ⟨s0, s1, s2, s3⟩; go_simp; with_reducible rfl; simp only [zz]; rfl
          apply pv 3 41 (bs 25 15) HT_; rfl; rfl; kernel_rfl; exact qq; rfl; intro w'; go_simp; with_reducible rfl; simp only [zz]; rfl
          apply tb 4 42 (bs 25 31) HT_ HW_ hHeld; rfl; rfl; kernel_rfl; exact qq; rfl; rintro w' ⟨s0, s1, s2, s3⟩; go_simp; with_reducible rfl; simp only [zz]; rfl
          refine one_ (i := 5) (N := some 43) (bs 25 63) rfl rfl (one_of HT_.out (by kernel_rfl)) (by decide) (fun K hK => ?_); refine goes_ Tryz.func57 (by kernel_rfl) rfl #[.int .i64 (rd l0_1 x3_2)] (by rfl) rfl rfl (by (try simp only [List.map_toArray, List.map_cons, List.map_nil]); rfl) ?_; with_reducible refine (thermographref14_node.calls (rd l0_1 x3_2) true _ A16.out).mono ?_
          rintro e w' ⟨rfl, ⟨nd, rfl⟩⟩; refine ⟨_, rfl, ?_⟩; refine hK.out _ _ ⟨(blk_cell BK119.out 0).trans rfl, (blk_cell BK119.out 1).trans rfl, (blk_cell BK119.out 2).trans rfl, ((HB.out.cell (World.block_lt_of_cell? w _ hw120_0)).trans hw120_0)⟩ (fun hHeld => ?_); clear hK K; refine norm_ (a' := ?_) ?_ ?_; rotate_left
          ·
           show Act.put _ (some 43) _ = _; simp only [Act.put, List.setIfInBounds_toArray, List.set_cons_zero, List.set_cons_succ, i64_w, i32_w]; rfl
          apply pv 6 44 (bs 25 127) HT_; rfl; rfl; kernel_rfl; exact qq; rfl; intro w'; go_simp; with_reducible rfl; simp only [zz]; rfl
          apply pv 7 45 (bs 25 255) HT_; rfl; rfl; kernel_rfl; exact qq; rfl; intro w'; go_simp; with_reducible rfl; simp only [zz]; rfl
          apply pv 8 46 (bs 25 511) HT_; rfl; rfl; kernel_rfl; exact qq; rfl; intro w'; go_simp; with_reducible rfl; simp only [zz]; rfl
          apply pv 9 47 (bs 25 1023) HT_; rfl; rfl; kernel_rfl; exact qq; rfl; intro w'; go_simp; with_reducible rfl; simp only [zz]; rfl
          apply pv 10 48 (bs 25 2047) HT_; rfl; rfl; kernel_rfl; exact qq; rfl; intro w'; go_simp; with_reducible rfl; simp only [zz]; rfl
          apply py 11 49 (bs 25 4095) HT_; rfl; rfl; kernel_rfl; exact qq; rfl; simp only [zz]; rfl; apply py 12 50 (bs 25 8191) HT_; rfl; rfl; kernel_rfl; exact qq; rfl; simp only [zz]; rfl; apply py 13 51 (bs 25 16383) HT_; rfl; rfl; kernel_rfl; exact qq; rfl; simp only [zz]; rfl; apply py 14 52 (bs 25 32767) HT_; rfl; rfl; kernel_rfl; exact qq; rfl; simp only [zz]; rfl; apply py 15 53 (bs 25 65535) HT_; rfl; rfl; kernel_rfl; exact qq; rfl; simp only [zz]; rfl; apply py 16 54 (bs 25 131071) HT_; rfl; rfl; kernel_rfl; exact qq; rfl; simp only [zz]; rfl; apply py 17 55 (bs 25 262143) HT_; rfl; rfl; kernel_rfl; exact qq; rfl; simp only [zz]; rfl; apply py 18 56 (bs 25 524287) HT_; rfl; rfl; kernel_rfl; exact qq; rfl; simp only [zz]; rfl; apply py 19 57 (bs 25 1048575) HT_; rfl; rfl; kernel_rfl; exact qq; rfl; simp only [zz]; rfl; apply py 20 58 (bs 25 2097151) HT_; rfl; rfl; kernel_rfl; exact qq; rfl; simp only [zz]; rfl; apply py 21 59 (bs 25 4194303) HT_; rfl; rfl; kernel_rfl; exact qq; rfl; simp only [zz]; rfl; apply py 22 60 (bs 25 8388607) HT_; rfl; rfl; kernel_rfl; exact qq; rfl; simp only [zz]; rfl; apply pv 23 61 (bs 25 16777215) HT_; rfl; rfl; kernel_rfl; exact qq; rfl; intro w'; go_simp; with_reducible rfl; simp only [zz]; rfl
          apply pv 24 62 (bs 25 33554431) HT_; rfl; rfl; kernel_rfl; exact qq; rfl; intro w'; go_simp; with_reducible rfl; simp only [zz]; rfl
          refine done_ (done_of HT_.out (by kernel_rfl)) ?_; try go_wp2
          go_roundg k2
          case measure => have := HJ1.out; have := HK2.out; omega
          case rel => exact ⟨(wrap64 (x3_2 + 1)), (by rfl), H', ⟨by have := HJ1.out; have := HK2.out; omega⟩, ⟨by (with_reducible repeat (refine blk_drewN ?_ _)); exact BK119.out⟩, ⟨by repeat ((with_reducible first | exact HB.out | apply pw_below_drewN))⟩⟩
        ·
         replace c17 := Bool.eq_false_iff.mpr c17; subst c17; have H1 : (some 50) = some r := by rw [if_neg (show ¬ (false = true) by decide)] at H; exact H
         clear H; have H := H1; clear H1; obtain rfl := Option.some.inj H; have hcz29_1 : wr.cell? ⟨gb119, 1, none⟩ = some (.slice A0_1 l0_1.length c0_1) := (blk_cell BK119.out 1).trans rfl; try go_wp2
         have n0_ := Aside0.mk (blk_drew BK119.out); have n1_ := Aside0.mk (below_drew1 HB.out); clear BK119; clear HB; have BK119 := n0_; have HB := n1_; clear n0_ n1_; have p120 : 0 ≤ (x3_2 : Int) := of_decide_eq_true (by with_reducible assumption); have q120 : x3_2 < (l0_1.length : Int) := of_decide_eq_true (by with_reducible assumption); obtain ⟨ad120, e120, hx120_0⟩ := Kd.at_int HR0_1.out x3_2 p120 q120; have hw120_0 := hx120_0; cases e120; replace hx120_0 := (HB.out.cell (World.block_lt_of_cell? w _ hx120_0)).trans hx120_0; replace p120 := eq_true p120; replace q120 := eq_true q120; refine start_ (n := 25) (S := fun w' => w'.cell? ⟨gb119, 0, none⟩ = some (.int .i64 a0_0) ∧ w'.cell? ⟨gb119, 1, none⟩ = some (.slice (some ad120) l0_1.length c0_1) ∧ w'.cell? ⟨gb119, 2, none⟩ = some (.slice A0_2 l0_2.length c0_2) ∧ w'.cell? (ad120.add (x3_2).toNat) = some (.int .i64 (rd l0_1 x3_2))) (ds := []) (bs 25 0) (by kernel_rfl) rfl rfl ⟨(blk_cell BK119.out 0).trans rfl, (blk_cell BK119.out 1).trans rfl, (blk_cell BK119.out 2).trans rfl, ((HB.out.cell (World.block_lt_of_cell? w _ hw120_0)).trans hw120_0)⟩ (fun hHeld => ?_); refine with_tabW thermographref14_Check.tab6 thermographref14_Check.bits6 (fun HT_ HW_ => ?_); generalize wr.drew = w30 at BK119 HB hx120_0 hHeld ⊢; apply pv 0 38 (bs 25 1) HT_; rfl; rfl; kernel_rfl; exact qq; rfl; intro w'; go_simp; with_reducible rfl; simp only [zz]; rfl
         apply pv 2 40 (bs 25 5) HT_; rfl; rfl; kernel_rfl; exact qq; rfl; intro w'; go_simp; with_reducible rfl; simp only [zz]; rfl
         apply tb 1 39 (bs 25 7) HT_ HW_ hHeld; rfl; rfl; kernel_rfl; exact qq; rfl; rintro w' ⟨s0, s1, s2, s3⟩; go_simp; with_reducible rfl; simp only [zz]; rfl
         apply pv 3 41 (bs 25 15) HT_; rfl; rfl; kernel_rfl; exact qq; rfl; intro w'; go_simp; with_reducible rfl; simp only [zz]; rfl
         apply tb 4 42 (bs 25 31) HT_ HW_ hHeld; rfl; rfl; kernel_rfl; exact qq; rfl; rintro w' ⟨s0, s1, s2, s3⟩; go_simp; with_reducible rfl; simp only [zz]; rfl
         refine one_ (i := 5) (N := some 43) (bs 25 63) rfl rfl (one_of HT_.out (by kernel_rfl)) (by decide) (fun K hK => ?_); refine goes_ Tryz.func57 (by kernel_rfl) rfl #[.int .i64 (rd l0_1 x3_2)] (by rfl) rfl rfl (by (try simp only [List.map_toArray, List.map_cons, List.map_nil]); rfl) ?_; with_reducible refine (thermographref14_node.calls (rd l0_1 x3_2) false _ A16.out).mono ?_
         rintro e w' ⟨rfl, ⟨nd, rfl⟩⟩; refine ⟨_, rfl, ?_⟩; refine hK.out _ _ ⟨(blk_cell BK119.out 0).trans rfl, (blk_cell BK119.out 1).trans rfl, (blk_cell BK119.out 2).trans rfl, ((HB.out.cell (World.block_lt_of_cell? w _ hw120_0)).trans hw120_0)⟩ (fun hHeld => ?_); clear hK K; refine norm_ (a' := ?_) ?_ ?_; rotate_left
         ·
          show Act.put _ (some 43) _ = _; simp only [Act.put, List.setIfInBounds_toArray, List.set_cons_zero, List.set_cons_succ, i64_w, i32_w]; rfl
         apply pv 6 44 (bs 25 127) HT_; rfl; rfl; kernel_rfl; exact qq; rfl; intro w'; go_simp; with_reducible rfl; simp only [zz]; rfl
         apply pv 7 45 (bs 25 255) HT_; rfl; rfl; kernel_rfl; exact qq; rfl; intro w'; go_simp; with_reducible rfl; simp only [zz]; rfl
         apply py 8 46 (bs 25 511) HT_; rfl; rfl; kernel_rfl; exact qq; rfl; simp only [zz]; rfl; apply py 9 47 (bs 25 1023) HT_; rfl; rfl; kernel_rfl; exact qq; rfl; simp only [zz]; rfl; apply py 10 48 (bs 25 2047) HT_; rfl; rfl; kernel_rfl; exact qq; rfl; simp only [zz]; rfl; apply py 11 49 (bs 25 4095) HT_; rfl; rfl; kernel_rfl; exact qq; rfl; simp only [zz]; rfl; apply py 12 50 (bs 25 8191) HT_; rfl; rfl; kernel_rfl; exact qq; rfl; simp only [zz]; rfl; apply py 13 51 (bs 25 16383) HT_; rfl; rfl; kernel_rfl; exact qq; rfl; simp only [zz]; rfl; apply py 14 52 (bs 25 32767) HT_; rfl; rfl; kernel_rfl; exact qq; rfl; simp only [zz]; rfl; apply py 15 53 (bs 25 65535) HT_; rfl; rfl; kernel_rfl; exact qq; rfl; simp only [zz]; rfl; apply py 16 54 (bs 25 131071) HT_; rfl; rfl; kernel_rfl; exact qq; rfl; simp only [zz]; rfl; apply py 17 55 (bs 25 262143) HT_; rfl; rfl; kernel_rfl; exact qq; rfl; simp only [zz]; rfl; apply py 18 56 (bs 25 524287) HT_; rfl; rfl; kernel_rfl; exact qq; rfl; simp only [zz]; rfl; apply py 19 57 (bs 25 1048575) HT_; rfl; rfl; kernel_rfl; exact qq; rfl; simp only [zz]; rfl; apply py 20 58 (bs 25 2097151) HT_; rfl; rfl; kernel_rfl; exact qq; rfl; simp only [zz]; rfl; apply py 21 59 (bs 25 4194303) HT_; rfl; rfl; kernel_rfl; exact qq; rfl; simp only [zz]; rfl; apply py 22 60 (bs 25 8388607) HT_; rfl; rfl; kernel_rfl; exact qq; rfl; simp only [zz]; rfl; apply py 23 61 (bs 25 16777215) HT_; rfl; rfl; kernel_rfl; exact qq; rfl; simp only [zz]; rfl; apply pv 24 62 (bs 25 33554431) HT_; rfl; rfl; kernel_rfl; exact qq; rfl; intro w'; go_simp; with_reducible rfl; simp only [zz]; rfl
         refine done_ (done_of HT_.out (by kernel_rfl)) ?_; try go_wp2
         go_ret; exact ⟨by rfl, by repeat ((with_reducible first | exact HB.out | apply pw_below_drewN))⟩
       ·
        rw [if_neg c15] at H; exact absurd H (by simp)
      ·
       rw [if_neg c14] at H; have c14b0 : decide (x3_2 < (l0_1.length : Int)) = false := decide_eq_false c14; clear c14; have H' := Aside0.mk H; clear H; have hcz31_1 : wr.cell? ⟨gb119, 1, none⟩ = some (.slice A0_1 l0_1.length c0_1) := (blk_cell BK119.out 1).trans rfl; go_wp2; go_loopg [4] k2 (fun kq v4 w' => ∃ (x4_3 : Int), v4 = .int .i64 x4_3 ∧ Aside0 (thermographref14_Check.l1 kq x4_3 a0_0 l0_1 l0_2 = some r) ∧ Aside0 (kq ≤ k2) ∧ Aside0 (w'.heap[gb119]? = some (.cells #[.int .i64 a0_0, (.slice A0_1 l0_1.length c0_1), (.slice A0_2 l0_2.length c0_2)] 25 (0, 0))) ∧ Aside0 (Below w.heap.size w w'))
       case atStart => exact ⟨(0), (by rfl), H', ⟨Nat.le_refl _⟩, ⟨BK119.out⟩, ⟨HB.out⟩⟩
       case round =>
        clear H'; try clear c14b0
        try clear hcz31_1
        obtain ⟨x4_3, rfl, HA, HK3, BK119, HB⟩ := hrel
        cases gk with
        | zero => exact absurd HA.out (by simp [thermographref14_Check.l1])
        | succ k3 =>
         have H := HA.out; clear HA; simp only [thermographref14_Check.l1] at H
         by_cases c32 : x4_3 < (l0_2.length : Int)
         ·
          rw [if_pos c32] at H; have c32b0 : decide (x4_3 < (l0_2.length : Int)) = true := decide_eq_true c32; clear c32
          by_cases c33 : 0 ≤ x4_3
          ·
           rw [if_pos c33] at H; have c33b0 : decide (0 ≤ x4_3) = true := decide_eq_true c33; clear c33; replace H := Option.bind_eq_some_iff.mp H; obtain ⟨t125, A340, H⟩ := H; replace H : (if t125 = true then (thermographref14_Check.l1 k3 (wrap64 (x4_3 + 1)) a0_0 l0_1 l0_2) else (some 50)) = some r := H; have A34 := Aside0.mk A340; clear A340
           by_cases c35 : t125 = true
           ·
            subst c35; have H1 : (thermographref14_Check.l1 k3 (wrap64 (x4_3 + 1)) a0_0 l0_1 l0_2) = some r := by rw [if_pos rfl] at H; exact H
            clear H; have H := H1; clear H1; have H' := Aside0.mk H; clear H; have hcz36_2 : wr.cell? ⟨gb119, 2, none⟩ = some (.slice A0_2 l0_2.length c0_2) := (blk_cell BK119.out 2).trans rfl; try go_wp2
            have n0_ := Aside0.mk (blk_drew BK119.out); have n1_ := Aside0.mk (below_drew1 HB.out); clear BK119; clear HB; have BK119 := n0_; have HB := n1_; clear n0_ n1_; have p124 : 0 ≤ (x4_3 : Int) := of_decide_eq_true (by with_reducible assumption); have q124 : x4_3 < (l0_2.length : Int) := of_decide_eq_true (by with_reducible assumption); obtain ⟨ad124, A124_0, c124_0, e124, hx124_0, hl124_0, hi124_0⟩ := at_L4 HR0_2.out x4_3 p124 q124; have hw124_0 := hx124_0; cases e124; replace hx124_0 := (HB.out.cell (World.block_lt_of_cell? w _ hx124_0)).trans hx124_0; have HR124_0 := Aside0.mk hi124_0; have HC124_0 := Aside0.mk hl124_0; clear hi124_0 hl124_0; replace p124 := eq_true p124; replace q124 := eq_true q124; refine start_ (n := 8) (S := fun w' => w'.cell? ⟨gb119, 0, none⟩ = some (.int .i64 a0_0) ∧ w'.cell? ⟨gb119, 1, none⟩ = some (.slice A0_1 l0_1.length c0_1) ∧ w'.cell? ⟨gb119, 2, none⟩ = some (.slice (some ad124) l0_2.length c0_2) ∧ w'.cell? (ad124.add (x4_3).toNat) = some (.slice A124_0 (rd_L4 l0_2 x4_3).length c124_0)) (ds := []) (bs 8 0) (by kernel_rfl) rfl rfl ⟨(blk_cell BK119.out 0).trans rfl, (blk_cell BK119.out 1).trans rfl, (blk_cell BK119.out 2).trans rfl, ((HB.out.cell (World.block_lt_of_cell? w _ hw124_0)).trans hw124_0)⟩ (fun hHeld => ?_); refine with_tabW thermographref14_Check.tab11 thermographref14_Check.bits11 (fun HT_ HW_ => ?_); generalize wr.drew = w37 at BK119 HB HR124_0 hx124_0 hHeld ⊢; apply pv 1 71 (bs 8 2) HT_; rfl; rfl; kernel_rfl; exact qq; rfl; intro w'; go_simp; with_reducible rfl; simp only [zz]; rfl
            apply pv 3 73 (bs 8 10) HT_; rfl; rfl; kernel_rfl; exact qq; rfl; intro w'; go_simp; with_reducible rfl; simp only [zz]; rfl
            apply tb 0 70 (bs 8 11) HT_ HW_ hHeld; rfl; rfl; kernel_rfl; exact qq; rfl; rintro w' ⟨s0, s1, s2, s3⟩; go_simp; with_reducible rfl; simp only [zz]; rfl
            apply tb 2 72 (bs 8 15) HT_ HW_ hHeld; rfl; rfl; kernel_rfl; exact qq; rfl; rintro w' ⟨s0, s1, s2, s3⟩; go_simp; with_reducible rfl; simp only [zz]; rfl
            apply pv 4 74 (bs 8 31) HT_; rfl; rfl; kernel_rfl; exact qq; rfl; intro w'; go_simp; with_reducible rfl; simp only [zz]; rfl
            apply tb 5 75 (bs 8 63) HT_ HW_ hHeld; rfl; rfl; kernel_rfl; exact qq; rfl; rintro w' ⟨s0, s1, s2, s3⟩; go_simp; with_reducible rfl; simp only [zz]; rfl
            refine one_ (i := 6) (N := some 76) (bs 8 127) rfl rfl (one_of HT_.out (by kernel_rfl)) (by decide) (fun K hK => ?_); refine goes_ Tryz.func58 (by kernel_rfl) rfl #[.agg #[.int .i64 a0_0, .slice A0_1 l0_1.length c0_1, .slice (some ad124) l0_2.length c0_2], .slice A124_0 (rd_L4 l0_2 x4_3).length c124_0] (by rfl) rfl rfl (by (try simp only [List.map_toArray, List.map_cons, List.map_nil]); rfl) ?_; with_reducible refine (thermographref14_shard.calls k3 a0_0 _ _ l0_1 _ _ l0_2 _ _ (rd_L4 l0_2 x4_3) true _ ?side1 ?side2 ?side3 ?side4 ?side5 ?side6 A34.out).mono ?_
            (case side1 => repeat (exact (Kd.C_below HR0_1.out HB.out)))
            (case side2 => exact HC0_1.out)
            (case side3 => repeat (exact (Kd.C_below HR0_2.out HB.out)))
            (case side4 => exact HC0_2.out)
            (case side5 => repeat (exact (Kd.C_below HR124_0.out HB.out)))
            (case side6 => exact HC124_0.out)
            rintro e w38 ⟨rfl, hb⟩; refine ⟨_, rfl, ?_⟩; have n0_ := Aside0.mk (blk_below (g := gb119) (o := .cells #[.int .i64 a0_0, .slice A0_1 l0_1.length c0_1, .slice (some ad124) l0_2.length c0_2] 25 (0, 0)) BK119.out hb); have n1_ := Aside0.mk (below_step HB.out hb); clear BK119; clear HB; have BK119 := n0_; have HB := n1_; clear n0_ n1_
            (try clear hb)
            (try clear hb2)
            (try clear hk)
            (try clear hi)
            refine hK.out _ _ ⟨(blk_cell BK119.out 0).trans rfl, (blk_cell BK119.out 1).trans rfl, (blk_cell BK119.out 2).trans rfl, ((HB.out.cell (World.block_lt_of_cell? w _ hw124_0)).trans hw124_0)⟩ (fun hHeld => ?_); clear hK K; refine norm_ (a' := ?_) ?_ ?_; rotate_left
            ·
             show Act.put _ (some 76) _ = _; simp only [Act.put, List.setIfInBounds_toArray, List.set_cons_zero, List.set_cons_succ, i64_w, i32_w]; rfl
            apply pv 7 77 (bs 8 255) HT_; rfl; rfl; kernel_rfl; exact qq; rfl; intro w'; go_simp; with_reducible rfl; simp only [zz]; rfl
            refine done_ (done_of HT_.out (by kernel_rfl)) ?_; try go_wp2
            go_roundg k3
            case measure => have := HJ1.out; have := HK2.out; have := HK3.out; omega
            case rel => exact ⟨(wrap64 (x4_3 + 1)), (by rfl), H', ⟨by have := HJ1.out; have := HK2.out; have := HK3.out; omega⟩, ⟨BK119.out⟩, ⟨HB.out⟩⟩
           ·
            replace c35 := Bool.eq_false_iff.mpr c35; subst c35; have H1 : (some 50) = some r := by rw [if_neg (show ¬ (false = true) by decide)] at H; exact H
            clear H; have H := H1; clear H1; obtain rfl := Option.some.inj H; have hcz39_2 : wr.cell? ⟨gb119, 2, none⟩ = some (.slice A0_2 l0_2.length c0_2) := (blk_cell BK119.out 2).trans rfl; try go_wp2
            have n0_ := Aside0.mk (blk_drew BK119.out); have n1_ := Aside0.mk (below_drew1 HB.out); clear BK119; clear HB; have BK119 := n0_; have HB := n1_; clear n0_ n1_; have p124 : 0 ≤ (x4_3 : Int) := of_decide_eq_true (by with_reducible assumption); have q124 : x4_3 < (l0_2.length : Int) := of_decide_eq_true (by with_reducible assumption); obtain ⟨ad124, A124_0, c124_0, e124, hx124_0, hl124_0, hi124_0⟩ := at_L4 HR0_2.out x4_3 p124 q124; have hw124_0 := hx124_0; cases e124; replace hx124_0 := (HB.out.cell (World.block_lt_of_cell? w _ hx124_0)).trans hx124_0; have HR124_0 := Aside0.mk hi124_0; have HC124_0 := Aside0.mk hl124_0; clear hi124_0 hl124_0; replace p124 := eq_true p124; replace q124 := eq_true q124; refine start_ (n := 8) (S := fun w' => w'.cell? ⟨gb119, 0, none⟩ = some (.int .i64 a0_0) ∧ w'.cell? ⟨gb119, 1, none⟩ = some (.slice A0_1 l0_1.length c0_1) ∧ w'.cell? ⟨gb119, 2, none⟩ = some (.slice (some ad124) l0_2.length c0_2) ∧ w'.cell? (ad124.add (x4_3).toNat) = some (.slice A124_0 (rd_L4 l0_2 x4_3).length c124_0)) (ds := []) (bs 8 0) (by kernel_rfl) rfl rfl ⟨(blk_cell BK119.out 0).trans rfl, (blk_cell BK119.out 1).trans rfl, (blk_cell BK119.out 2).trans rfl, ((HB.out.cell (World.block_lt_of_cell? w _ hw124_0)).trans hw124_0)⟩ (fun hHeld => ?_); refine with_tabW thermographref14_Check.tab11 thermographref14_Check.bits11 (fun HT_ HW_ => ?_); generalize wr.drew = w40 at BK119 HB HR124_0 hx124_0 hHeld ⊢; apply pv 1 71 (bs 8 2) HT_; rfl; rfl; kernel_rfl; exact qq; rfl; intro w'; go_simp; with_reducible rfl; simp only [zz]; rfl
            apply pv 3 73 (bs 8 10) HT_; rfl; rfl; kernel_rfl; exact qq; rfl; intro w'; go_simp; with_reducible rfl; simp only [zz]; rfl
            apply tb 0 70 (bs 8 11) HT_ HW_ hHeld; rfl; rfl; kernel_rfl; exact qq; rfl; rintro w' ⟨s0, s1, s2, s3⟩; go_simp; with_reducible rfl; simp only [zz]; rfl
            apply tb 2 72 (bs 8 15) HT_ HW_ hHeld; rfl; rfl; kernel_rfl; exact qq; rfl; rintro w' ⟨s0, s1, s2, s3⟩; go_simp; with_reducible rfl; simp only [zz]; rfl
            apply pv 4 74 (bs 8 31) HT_; rfl; rfl; kernel_rfl; exact qq; rfl; intro w'; go_simp; with_reducible rfl; simp only [zz]; rfl
            apply tb 5 75 (bs 8 63) HT_ HW_ hHeld; rfl; rfl; kernel_rfl; exact qq; rfl; rintro w' ⟨s0, s1, s2, s3⟩; go_simp; with_reducible rfl; simp only [zz]; rfl
            refine one_ (i := 6) (N := some 76) (bs 8 127) rfl rfl (one_of HT_.out (by kernel_rfl)) (by decide) (fun K hK => ?_); refine goes_ Tryz.func58 (by kernel_rfl) rfl #[.agg #[.int .i64 a0_0, .slice A0_1 l0_1.length c0_1, .slice (some ad124) l0_2.length c0_2], .slice A124_0 (rd_L4 l0_2 x4_3).length c124_0] (by rfl) rfl rfl (by (try simp only [List.map_toArray, List.map_cons, List.map_nil]); rfl) ?_; with_reducible refine (thermographref14_shard.calls k3 a0_0 _ _ l0_1 _ _ l0_2 _ _ (rd_L4 l0_2 x4_3) false _ ?side1 ?side2 ?side3 ?side4 ?side5 ?side6 A34.out).mono ?_
            (case side1 => repeat (exact (Kd.C_below HR0_1.out HB.out)))
            (case side2 => exact HC0_1.out)
            (case side3 => repeat (exact (Kd.C_below HR0_2.out HB.out)))
            (case side4 => exact HC0_2.out)
            (case side5 => repeat (exact (Kd.C_below HR124_0.out HB.out)))
            (case side6 => exact HC124_0.out)
            rintro e w41 ⟨rfl, hb⟩; refine ⟨_, rfl, ?_⟩; have n0_ := Aside0.mk (blk_below (g := gb119) (o := .cells #[.int .i64 a0_0, .slice A0_1 l0_1.length c0_1, .slice (some ad124) l0_2.length c0_2] 25 (0, 0)) BK119.out hb); have n1_ := Aside0.mk (below_step HB.out hb); clear BK119; clear HB; have BK119 := n0_; have HB := n1_; clear n0_ n1_
            (try clear hb)
            (try clear hb2)
            (try clear hk)
            (try clear hi)
            refine hK.out _ _ ⟨(blk_cell BK119.out 0).trans rfl, (blk_cell BK119.out 1).trans rfl, (blk_cell BK119.out 2).trans rfl, ((HB.out.cell (World.block_lt_of_cell? w _ hw124_0)).trans hw124_0)⟩ (fun hHeld => ?_); clear hK K; refine norm_ (a' := ?_) ?_ ?_; rotate_left
            ·
             show Act.put _ (some 76) _ = _; simp only [Act.put, List.setIfInBounds_toArray, List.set_cons_zero, List.set_cons_succ, i64_w, i32_w]; rfl
            apply pv 7 77 (bs 8 255) HT_; rfl; rfl; kernel_rfl; exact qq; rfl; intro w'; go_simp; with_reducible rfl; simp only [zz]; rfl
            refine done_ (done_of HT_.out (by kernel_rfl)) ?_; try go_wp2
            go_ret; exact ⟨by rfl, by repeat ((with_reducible exact HB.out))⟩
          ·
           rw [if_neg c33] at H; exact absurd H (by simp)
         ·
          rw [if_neg c32] at H; have c32b0 : decide (x4_3 < (l0_2.length : Int)) = false := decide_eq_false c32; clear c32; obtain rfl := Option.some.inj H; have hcz42_2 : wr.cell? ⟨gb119, 2, none⟩ = some (.slice A0_2 l0_2.length c0_2) := (blk_cell BK119.out 2).trans rfl; go_wp2; go_ret; exact ⟨by rfl, by repeat ((with_reducible exact HB.out))⟩
end Go.Proofs.YtiinmagnpkfbbaaGreat.QT
