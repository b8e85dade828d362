-- Laid by wip/tools/myprint.py of this repo. Not trusted: Lean checks it.
import Derived.Test.YtiinmagnpkfbbaaGreatSqu
import Derived.Test.YtiinmagnpkfbbaaGreatQT10
set_option maxHeartbeats 8000000
set_option maxRecDepth 100000
namespace Go.Proofs.YtiinmagnpkfbbaaGreat.QT
open Go.RowKit Go.Proofs.YtiinmagnpkfbbaaGreatW.PrintWords Go.Proofs.YtiinmagnpkfbbaaGreatW.PrintLast Go.Proofs.YtiinmagnpkfbbaaGreatW.PrintMore
attribute [local go_sem] max2_int min2_int max_two min_two max_three min_three max_four min_four   -- for this text's walks alone
set_option linter.unusedVariables false
set_option linter.unusedSimpArgs false
mutual
def thermographref06_Add.j1 : Nat → List (S99) → Int → Int → Int → Int → Option ((List (S99)))
 | 0, _, _, _, _, _ => none
 | k + 1, x0, x5, x233000, x233001, x233002 => (some (([] : List (S99)) : List (S99))).bind fun y234 => (if 0 ≤ x5 then (if x5 ≤ (x0.length : Int) then ((some (x0.take (x5 : Int).toNat : List (S99))).bind fun y237 => (if y234.length + y237.length < 5864062014805 then ((some (y234 ++ y237 : List (S99))).bind fun y241 => (if x5 < (x0.length : Int) then (thermographref06_Add.j2 k x0 x5 y241 (((rd_T99 x0 x5).f0) == x233000) x233000 x233001 x233002) else (thermographref06_Add.j2 k x0 x5 y241 false x233000 x233001 x233002))) else (none))) else (none)) else (none))
def thermographref06_Add.j2 : Nat → List (S99) → Int → List (S99) → Bool → Int → Int → Int → Option ((List (S99)))
 | 0, _, _, _, _, _, _, _ => none
 | k + 1, x0, x5, x6, x42, x233000, x233001, x233002 => if x42 = true then (if 0 ≤ x5 then (if x5 < (x0.length : Int) then ((thermographref06_Wins.f ((rd_T99 x0 x5).f0) ((rd_T99 x0 x5).f1) ((rd_T99 x0 x5).f2) x233000 x233001 x233002).bind fun t246 => (if t246 = true then (if x6.length < 5864062014805 then ((some (x6 ++ [(⟨(rd_T99 x0 x5).f0, (rd_T99 x0 x5).f1, (rd_T99 x0 x5).f2⟩ : S99)] : List (S99))).bind fun y248 => (if 0 ≤ (wrap64 (x5 + 1)) then (if (wrap64 (x5 + 1)) ≤ (x0.length : Int) then ((some (x0.drop ((wrap64 (x5 + 1)) : Int).toNat : List (S99))).bind fun y251 => (if y248.length + y251.length < 5864062014805 then (some (y248 ++ y251)) else (none))) else (none)) else (none))) else (none)) else (if x6.length < 5864062014805 then ((some (x6 ++ [(⟨x233000, x233001, x233002⟩ : S99)] : List (S99))).bind fun y258 => (if 0 ≤ (wrap64 (x5 + 1)) then (if (wrap64 (x5 + 1)) ≤ (x0.length : Int) then ((some (x0.drop ((wrap64 (x5 + 1)) : Int).toNat : List (S99))).bind fun y261 => (if y258.length + y261.length < 5864062014805 then (some (y258 ++ y261)) else (none))) else (none)) else (none))) else (none)))) else (none)) else (none)) else (if x6.length < 5864062014805 then ((some (x6 ++ [(⟨x233000, x233001, x233002⟩ : S99)] : List (S99))).bind fun y268 => (if 0 ≤ x5 then (if x5 ≤ (x0.length : Int) then ((some (x0.drop (x5 : Int).toNat : List (S99))).bind fun y271 => (if y268.length + y271.length < 5864062014805 then (some (y268 ++ y271)) else (none))) else (none)) else (none))) else (none))
def thermographref06_Add.l0 : Nat → List (S99) → Int → Int → Int → Int → Option ((List (S99)))
 | 0, _, _, _, _, _ => none
 | k + 1, x0, x5, x233000, x233001, x233002 => if x5 < (x0.length : Int) then (if 0 ≤ x5 then (if ((rd_T99 x0 x5).f0) < x233000 then (thermographref06_Add.l0 k x0 (wrap64 (x5 + 1)) x233000 x233001 x233002) else (thermographref06_Add.j1 k x0 x5 x233000 x233001 x233002)) else (none)) else (thermographref06_Add.j1 k x0 x5 x233000 x233001 x233002)
end
def thermographref06_Add.f (k : Nat) (l0 : List (S99)) (a1_0 : Int) (a1_1 : Int) (a1_2 : Int) : Option ((List (S99))) := thermographref06_Add.l0 k l0 0 a1_0 a1_1 a1_2
def thermographref06_Add.T2 : Bool × List (List Nat × List Nat) := (true, [([], []), ([], []), ([1], [1]), ([0, 2], [0, 2]), ([3], [3]), ([4], [4]), ([4], [4]), ([5, 6, 4], [4, 5, 6]), ([7, 4], [4, 7]), ([8, 4], [4, 8]), ([4], [4]), ([10, 4], [4, 10]), ([9, 11, 4], [4, 9, 11]), ([4, 12], [4, 12])])
def thermographref06_Add.B2 : List Nat := [0, 0, 2, 7, 15, 31, 31, 127, 255, 511, 31, 1055, 4095, 8191]
theorem thermographref06_Add.tab2 : rtab .any (opsOf Tryz.f83 2) = thermographref06_Add.T2 := by kernel_rfl
theorem thermographref06_Add.bits2 : waitsOk thermographref06_Add.T2.2 thermographref06_Add.B2 = true := by kernel_rfl
def thermographref06_Add.T6 : Bool × List (List Nat × List Nat) := (true, [([], []), ([], []), ([1], [1]), ([0, 2], [0, 2]), ([3], [3]), ([4], [4]), ([4], [4]), ([5, 6, 4], [4, 5, 6]), ([7, 4], [4, 7]), ([8, 4], [4, 8]), ([4], [4]), ([10, 4], [4, 10]), ([9, 11, 4], [4, 9, 11]), ([4, 12], [4, 12])])
def thermographref06_Add.B6 : List Nat := [0, 0, 2, 7, 15, 31, 31, 127, 255, 511, 31, 1055, 4095, 8191]
theorem thermographref06_Add.tab6 : rtab .any (opsOf Tryz.f83 6) = thermographref06_Add.T6 := by kernel_rfl
theorem thermographref06_Add.bits6 : waitsOk thermographref06_Add.T6.2 thermographref06_Add.B6 = true := by kernel_rfl
theorem thermographref06_Add.calls (k : Nat) (A0 : Option Addr) (c0 : Nat) (l0 : List (S99)) (a1_0 : Int) (a1_1 : Int) (a1_2 : Int) (r : List (S99)) (w : World) (hr0 : Kd.C k99 w A0 l0.length l0) (hc0 : l0.length ≤ c0) (h : thermographref06_Add.f k l0 a1_0 a1_1 a1_2 = some r) :
  Calls Tryz.prog 83 #[.slice A0 l0.length c0, .agg #[.int .i64 a1_0, .int .u64 a1_1, .int .u64 a1_2]] w fun e w' => ∃ v0_ : Value, e = .returned (v0_) ∧ Kd.R k99 99 w' w.heap.size (fun _ => True) v0_ r ∧ Below w.heap.size w w' := by
 have HR0 := Aside0.mk hr0; have HC0 := Aside0.mk hc0; clear hr0 hc0; have HB := Aside0.mk (Below.refl w.heap.size w); have H : (thermographref06_Add.l0 k l0 0 a1_0 a1_1 a1_2) = some r := h; clear h; have HC3 := Aside0.mk H; clear H; go_enter Tryz.func83, Tryz.ntmps83
 go_upto_block 0 with (((with_reducible refine gate_dst (N := 3) rfl ?_); refine box_event ?hg (N := 3) ?hd (cs := #[.int .i64 a1_0, .int .u64 a1_1, .int .u64 a1_2]) (t := 99) ?hr ?_; (case hd => rfl); (case hg => rfl); (case hr => go_simp; done); intro gb232 hg w4 hbox hb; have n0_ := Aside0.mk (below_step HB.out hb); have n1_ := Aside0.mk (hbox); have n2_ := Aside0.mk ((by rw [hg]; exact (below_size HB.out) : w.heap.size ≤ gb232)); have n3_ := Aside0.mk ((by rw [hg]; exact (below_size HB.out) : w.heap.size ≤ gb232)); clear HB; have HB := n0_; have BK232 := n1_; have GE232 := n3_; clear n0_ n1_ n2_ n3_; clear hb hbox hg))
 (try simp only [Act.put, List.setIfInBounds_toArray, List.set_cons_zero, List.set_cons_succ])
 go_cut [5] (fun v5 wc => ∃ (kq : Nat) (x5_2 : Int), v5 = .int .i64 x5_2 ∧ Aside0 (thermographref06_Add.j1 kq l0 x5_2 a1_0 a1_1 a1_2 = some r) ∧ Aside0 (kq ≤ k) ∧ Aside0 (wc.heap[gb232]? = some (.cells #[.int .i64 a1_0, .int .u64 a1_1, .int .u64 a1_2] 99 (0, 0))) ∧ Aside0 (Below w.heap.size w wc))
 case first =>
  have H := HC3.out; clear HC3; have H' := Aside0.mk H; clear H; go_wp2; go_loopg [5] k (fun kq v5 w' => ∃ (x5_1 : Int), v5 = .int .i64 x5_1 ∧ Aside0 (thermographref06_Add.l0 kq l0 x5_1 a1_0 a1_1 a1_2 = some r) ∧ Aside0 (kq ≤ k) ∧ Aside0 (w'.heap[gb232]? = some (.cells #[.int .i64 a1_0, .int .u64 a1_1, .int .u64 a1_2] 99 (0, 0))) ∧ Aside0 (Below w.heap.size w w'))
  case atStart => exact ⟨(0), (by rfl), H', ⟨Nat.le_refl _⟩, ⟨BK232.out⟩, ⟨HB.out⟩⟩
  case round =>
   clear H'; obtain ⟨x5_1, rfl, HA, HK1, BK232, HB⟩ := hrel
   cases gk with
   | zero => exact absurd HA.out (by simp [thermographref06_Add.l0])
   | succ k1 =>
    have H := HA.out; clear HA; simp only [thermographref06_Add.l0] at H
    by_cases c5 : x5_1 < (l0.length : Int)
    ·
     rw [if_pos c5] at H; have c5b0 : decide (x5_1 < (l0.length : Int)) = true := decide_eq_true c5; clear c5
     ((skip))
     by_cases c6 : 0 ≤ x5_1
     ·
      rw [if_pos c6] at H; have c6b0 : decide (0 ≤ x5_1) = true := decide_eq_true c6; clear c6
      by_cases c7 : ((rd_T99 l0 x5_1).f0) < a1_0
      ·
       rw [if_pos c7] at H; have c7b0 : decide (((rd_T99 l0 x5_1).f0) < a1_0) = true := decide_eq_true c7; clear c7; have H' := Aside0.mk H; clear H; try go_wp2
       have n0_ := Aside0.mk (blk_drew BK232.out); have n1_ := Aside0.mk (below_drew1 HB.out); clear BK232; clear HB; have BK232 := n0_; have HB := n1_; clear n0_ n1_; have p233 : 0 ≤ (x5_1 : Int) := of_decide_eq_true (by with_reducible assumption); have q233 : x5_1 < (l0.length : Int) := of_decide_eq_true (by with_reducible assumption); obtain ⟨ad233, e233, hx233_0, hx233_1, hx233_2⟩ := at_T99 HR0.out x5_1 p233 q233; have hw233_2 := hx233_2; have hw233_1 := hx233_1; have hw233_0 := hx233_0; cases e233; replace hx233_0 := (HB.out.cell (World.block_lt_of_cell? w _ hx233_0)).trans hx233_0; replace hx233_1 := (HB.out.cell (World.block_lt_of_cell? w _ hx233_1)).trans hx233_1; replace hx233_2 := (HB.out.cell (World.block_lt_of_cell? w _ hx233_2)).trans hx233_2; replace p233 := eq_true p233; replace q233 := eq_true q233; refine start_ (n := 14) (S := fun w' => w'.cell? ⟨gb232, 0, none⟩ = some (.int .i64 a1_0) ∧ w'.cell? ⟨gb232, 1, none⟩ = some (.int .u64 a1_1) ∧ w'.cell? ⟨gb232, 2, none⟩ = some (.int .u64 a1_2) ∧ w'.cell? (ad233.add ((x5_1).toNat * 3)) = some (.int .i64 ((rd_T99 l0 x5_1).f0)) ∧ w'.cell? ⟨(ad233.add ((x5_1).toNat * 3)).block, (ad233.add ((x5_1).toNat * 3)).off + 1, none⟩ = some (.int .u64 ((rd_T99 l0 x5_1).f1)) ∧ w'.cell? ⟨(ad233.add ((x5_1).toNat * 3)).block, (ad233.add ((x5_1).toNat * 3)).off + 2, none⟩ = some (.int .u64 ((rd_T99 l0 x5_1).f2))) (ds := []) (bs 14 0) (by kernel_rfl) rfl rfl ⟨(blk_cell BK232.out 0).trans rfl, (blk_cell BK232.out 1).trans rfl, (blk_cell BK232.out 2).trans rfl, ((HB.out.cell (World.block_lt_of_cell? w _ hw233_0)).trans hw233_0), ((HB.out.cell (World.block_lt_of_cell? w _ hw233_1)).trans hw233_1), ((HB.out.cell (World.block_lt_of_cell? w _ hw233_2)).trans hw233_2)⟩ (fun hHeld => ?_); refine with_tabW thermographref06_Add.tab2 thermographref06_Add.bits2 (fun HT_ HW_ => ?_); generalize wr.drew = w8 at BK232 HB hx233_0 hx233_1 hx233_2 hHeld ⊢; apply pv 0 7 (bs 14 1) HT_; rfl; rfl; kernel_rfl; exact qq; rfl; intro w'; go_simp; with_reducible rfl; simp only [zz]; rfl
       apply pv 1 8 (bs 14 3) HT_; rfl; rfl; kernel_rfl; exact qq; rfl; intro w'; go_simp; with_reducible rfl; simp only [zz]; rfl
       apply pv 2 9 (bs 14 7) HT_; rfl; rfl; kernel_rfl; exact qq; rfl; intro w'; go_simp; with_reducible rfl; simp only [zz]; rfl
       apply pv 3 10 (bs 14 15) HT_; rfl; rfl; kernel_rfl; exact qq; rfl; intro w'; go_simp; with_reducible rfl; simp only [zz]; rfl
       apply pv 4 11 (bs 14 31) HT_; rfl; rfl; kernel_rfl; exact qq; rfl; intro w'; go_simp; with_reducible rfl; simp only [zz]; rfl
       apply pv 5 12 (bs 14 63) HT_; rfl; rfl; kernel_rfl; exact qq; rfl; intro w'; go_simp; with_reducible rfl; simp only [zz]; rfl
       apply pv 6 13 (bs 14 127) HT_; rfl; rfl; kernel_rfl; exact qq; rfl; intro w'; go_simp; with_reducible rfl; simp only [zz]; rfl
       apply pv 7 14 (bs 14 255) HT_; rfl; rfl; kernel_rfl; exact qq; rfl; intro w'; go_simp; with_reducible rfl; simp only [zz]; rfl
       apply pv 8 15 (bs 14 511) HT_; rfl; rfl; kernel_rfl; exact qq; rfl; intro w'; go_simp; with_reducible rfl; simp only [zz]; rfl
       apply pv 10 17 (bs 14 1535) HT_; rfl; rfl; kernel_rfl; exact qq; rfl; intro w'; go_simp; with_reducible rfl; simp only [zz]; rfl
       apply tb 9 16 (bs 14 2047) HT_ HW_ hHeld; rfl; rfl; kernel_rfl; exact qq; rfl; rintro w' ⟨s0, s1, s2, s3, s4, s5⟩; go_simp; with_reducible rfl; simp only [zz]; rfl
       apply tb 11 18 (bs 14 4095) HT_ HW_ hHeld; rfl; rfl; kernel_rfl; exact qq; rfl; rintro w' ⟨s0, s1, s2, s3, s4, s5⟩; go_simp; with_reducible rfl; simp only [zz]; rfl
       apply pv 12 19 (bs 14 8191) HT_; rfl; rfl; kernel_rfl; exact qq; rfl; intro w'; go_simp; with_reducible rfl; simp only [zz]; rfl
       apply pv 13 20 (bs 14 16383) HT_; rfl; rfl; kernel_rfl; exact qq; rfl; intro w'; go_simp; with_reducible rfl; simp only [zz]; rfl
       refine done_ (done_of HT_.out (by kernel_rfl)) ?_; try go_wp2
       go_roundg k1
       case measure => have := HK1.out; omega
       case rel => exact ⟨(wrap64 (x5_1 + 1)), (by rfl), H', ⟨by have := HK1.out; omega⟩, ⟨BK232.out⟩, ⟨HB.out⟩⟩
      ·
       rw [if_neg c7] at H; have c7b0 : decide (((rd_T99 l0 x5_1).f0) < a1_0) = false := decide_eq_false c7; clear c7; have H' := Aside0.mk H; clear H; try go_wp2
       have n0_ := Aside0.mk (blk_drew BK232.out); have n1_ := Aside0.mk (below_drew1 HB.out); clear BK232; clear HB; have BK232 := n0_; have HB := n1_; clear n0_ n1_; have p233 : 0 ≤ (x5_1 : Int) := of_decide_eq_true (by with_reducible assumption); have q233 : x5_1 < (l0.length : Int) := of_decide_eq_true (by with_reducible assumption); obtain ⟨ad233, e233, hx233_0, hx233_1, hx233_2⟩ := at_T99 HR0.out x5_1 p233 q233; have hw233_2 := hx233_2; have hw233_1 := hx233_1; have hw233_0 := hx233_0; cases e233; replace hx233_0 := (HB.out.cell (World.block_lt_of_cell? w _ hx233_0)).trans hx233_0; replace hx233_1 := (HB.out.cell (World.block_lt_of_cell? w _ hx233_1)).trans hx233_1; replace hx233_2 := (HB.out.cell (World.block_lt_of_cell? w _ hx233_2)).trans hx233_2; replace p233 := eq_true p233; replace q233 := eq_true q233; refine start_ (n := 14) (S := fun w' => w'.cell? ⟨gb232, 0, none⟩ = some (.int .i64 a1_0) ∧ w'.cell? ⟨gb232, 1, none⟩ = some (.int .u64 a1_1) ∧ w'.cell? ⟨gb232, 2, none⟩ = some (.int .u64 a1_2) ∧ w'.cell? (ad233.add ((x5_1).toNat * 3)) = some (.int .i64 ((rd_T99 l0 x5_1).f0)) ∧ w'.cell? ⟨(ad233.add ((x5_1).toNat * 3)).block, (ad233.add ((x5_1).toNat * 3)).off + 1, none⟩ = some (.int .u64 ((rd_T99 l0 x5_1).f1)) ∧ w'.cell? ⟨(ad233.add ((x5_1).toNat * 3)).block, (ad233.add ((x5_1).toNat * 3)).off + 2, none⟩ = some (.int .u64 ((rd_T99 l0 x5_1).f2))) (ds := []) (bs 14 0) (by kernel_rfl) rfl rfl ⟨(blk_cell BK232.out 0).trans rfl, (blk_cell BK232.out 1).trans rfl, (blk_cell BK232.out 2).trans rfl, ((HB.out.cell (World.block_lt_of_cell? w _ hw233_0)).trans hw233_0), ((HB.out.cell (World.block_lt_of_cell? w _ hw233_1)).trans hw233_1), ((HB.out.cell (World.block_lt_of_cell? w _ hw233_2)).trans hw233_2)⟩ (fun hHeld => ?_); refine with_tabW thermographref06_Add.tab2 thermographref06_Add.bits2 (fun HT_ HW_ => ?_); generalize wr.drew = w9 at BK232 HB hx233_0 hx233_1 hx233_2 hHeld ⊢; apply pv 0 7 (bs 14 1) HT_; rfl; rfl; kernel_rfl; exact qq; rfl; intro w'; go_simp; with_reducible rfl; simp only [zz]; rfl
       apply pv 1 8 (bs 14 3) HT_; rfl; rfl; kernel_rfl; exact qq; rfl; intro w'; go_simp; with_reducible rfl; simp only [zz]; rfl
       apply pv 2 9 (bs 14 7) HT_; rfl; rfl; kernel_rfl; exact qq; rfl; intro w'; go_simp; with_reducible rfl; simp only [zz]; rfl
       apply pv 3 10 (bs 14 15) HT_; rfl; rfl; kernel_rfl; exact qq; rfl; intro w'; go_simp; with_reducible rfl; simp only [zz]; rfl
       apply pv 4 11 (bs 14 31) HT_; rfl; rfl; kernel_rfl; exact qq; rfl; intro w'; go_simp; with_reducible rfl; simp only [zz]; rfl
       apply pv 5 12 (bs 14 63) HT_; rfl; rfl; kernel_rfl; exact qq; rfl; intro w'; go_simp; with_reducible rfl; simp only [zz]; rfl
       apply pv 6 13 (bs 14 127) HT_; rfl; rfl; kernel_rfl; exact qq; rfl; intro w'; go_simp; with_reducible rfl; simp only [zz]; rfl
       apply pv 7 14 (bs 14 255) HT_; rfl; rfl; kernel_rfl; exact qq; rfl; intro w'; go_simp; with_reducible rfl; simp only [zz]; rfl
       apply pv 8 15 (bs 14 511) HT_; rfl; rfl; kernel_rfl; exact qq; rfl; intro w'; go_simp; with_reducible rfl; simp only [zz]; rfl
       apply pv 10 17 (bs 14 1535) HT_; rfl; rfl; kernel_rfl; exact qq; rfl; intro w'; go_simp; with_reducible rfl; simp only [zz]; rfl
       apply tb 9 16 (bs 14 2047) HT_ HW_ hHeld; rfl; rfl; kernel_rfl; exact qq; rfl; rintro w' ⟨s0, s1, s2, s3, s4, s5⟩; go_simp; with_reducible rfl; simp only [zz]; rfl
       apply tb 11 18 (bs 14 4095) HT_ HW_ hHeld; rfl; rfl; kernel_rfl; exact qq; rfl; rintro w' ⟨s0, s1, s2, s3, s4, s5⟩; go_simp; with_reducible rfl; simp only [zz]; rfl
       apply pv 12 19 (bs 14 8191) HT_; rfl; rfl; kernel_rfl; exact qq; rfl; intro w'; go_simp; with_reducible rfl; simp only [zz]; rfl
       apply pv 13 20 (bs 14 16383) HT_; rfl; rfl; kernel_rfl; exact qq; rfl; intro w'; go_simp; with_reducible rfl; simp only [zz]; rfl
       refine done_ (done_of HT_.out (by kernel_rfl)) ?_; try go_wp2
       go_meet
       case rel => exact ⟨_, (x5_1), (by rfl), H', ⟨by have := HK1.out; omega⟩, ⟨BK232.out⟩, ⟨HB.out⟩⟩
     ·
      rw [if_neg c6] at H; exact absurd H (by simp)
    ·
     rw [if_neg c5] at H; have c5b0 : decide (x5_1 < (l0.length : Int)) = false := decide_eq_false c5; clear c5
     ((skip))
     have H' := Aside0.mk H; clear H; try go_wp2
     have n0_ := Aside0.mk (blk_drew BK232.out); have n1_ := Aside0.mk (below_drew1 HB.out); clear BK232; clear HB; have BK232 := n0_; have HB := n1_; clear n0_ n1_; refine start_ (n := 14) (S := fun w' => True) (ds := []) (bs 14 0) (by kernel_rfl) rfl rfl trivial (fun hHeld => ?_); refine with_tabW thermographref06_Add.tab2 thermographref06_Add.bits2 (fun HT_ HW_ => ?_); generalize wr.drew = w10 at BK232 HB hHeld ⊢; apply pv 0 7 (bs 14 1) HT_; rfl; rfl; kernel_rfl; exact qq; rfl; intro w'; go_simp; with_reducible rfl; simp only [zz]; rfl
     apply pv 1 8 (bs 14 3) HT_; rfl; rfl; kernel_rfl; exact qq; rfl; intro w'; go_simp; with_reducible rfl; simp only [zz]; rfl
     apply pv 2 9 (bs 14 7) HT_; rfl; rfl; kernel_rfl; exact qq; rfl; intro w'; go_simp; with_reducible rfl; simp only [zz]; rfl
     apply pv 3 10 (bs 14 15) HT_; rfl; rfl; kernel_rfl; exact qq; rfl; intro w'; go_simp; with_reducible rfl; simp only [zz]; rfl
     apply pv 4 11 (bs 14 31) HT_; rfl; rfl; kernel_rfl; exact qq; rfl; intro w'; go_simp; with_reducible rfl; simp only [zz]; rfl
     apply py 5 12 (bs 14 63) HT_; rfl; rfl; kernel_rfl; exact qq; rfl; simp only [zz]; rfl; apply py 6 13 (bs 14 127) HT_; rfl; rfl; kernel_rfl; exact qq; rfl; simp only [zz]; rfl; apply py 7 14 (bs 14 255) HT_; rfl; rfl; kernel_rfl; exact qq; rfl; simp only [zz]; rfl; apply py 8 15 (bs 14 511) HT_; rfl; rfl; kernel_rfl; exact qq; rfl; simp only [zz]; rfl; apply py 9 16 (bs 14 1023) HT_; rfl; rfl; kernel_rfl; exact qq; rfl; simp only [zz]; rfl; apply py 10 17 (bs 14 2047) HT_; rfl; rfl; kernel_rfl; exact qq; rfl; simp only [zz]; rfl; apply py 11 18 (bs 14 4095) HT_; rfl; rfl; kernel_rfl; exact qq; rfl; simp only [zz]; rfl; apply py 12 19 (bs 14 8191) HT_; rfl; rfl; kernel_rfl; exact qq; rfl; simp only [zz]; rfl; apply pv 13 20 (bs 14 16383) HT_; rfl; rfl; kernel_rfl; exact qq; rfl; intro w'; go_simp; with_reducible rfl; simp only [zz]; rfl
     refine done_ (done_of HT_.out (by kernel_rfl)) ?_; try go_wp2
     go_meet
     case rel => exact ⟨_, (x5_1), (by rfl), H', ⟨by have := HK1.out; omega⟩, ⟨BK232.out⟩, ⟨HB.out⟩⟩
 case rest =>
  clear HC3; obtain ⟨kq, x5_2, rfl, HA, HJ2, BK232, HB⟩ := hcut
  cases kq with
  | zero => exact absurd HA.out (by simp [thermographref06_Add.j1])
  | succ kj2 =>
   have H := HA.out; clear HA; simp only [thermographref06_Add.j1] at H
   obtain ⟨y234, hy234⟩ : ∃ y_ : List (S99), y_ = (([] : List (S99))) := ⟨_, rfl⟩
   replace H : (if 0 ≤ x5_2 then (if x5_2 ≤ (l0.length : Int) then ((some (l0.take (x5_2 : Int).toNat : List (S99))).bind fun y237 => (if y234.length + y237.length < 5864062014805 then ((some (y234 ++ y237 : List (S99))).bind fun y241 => (if x5_2 < (l0.length : Int) then (thermographref06_Add.j2 kj2 l0 x5_2 y241 (((rd_T99 l0 x5_2).f0) == a1_0) a1_0 a1_1 a1_2) else (thermographref06_Add.j2 kj2 l0 x5_2 y241 false a1_0 a1_1 a1_2))) else (none))) else (none)) else (none)) = some r := by (have H2_ := (Option.bind_some _ _).symm.trans H; rw [hy234]; with_reducible exact H2_)
   have Ny234 := Aside0.mk hy234; clear hy234
   by_cases c11 : 0 ≤ x5_2
   ·
    rw [if_pos c11] at H; have c11b0 := eq_true c11; have c11b1 : decide (0 ≤ x5_2) = true := decide_eq_true c11; clear c11
    by_cases c12 : x5_2 ≤ (l0.length : Int)
    ·
     rw [if_pos c12] at H; have c12b1 : decide (x5_2 ≤ (l0.length : Int)) = true := decide_eq_true c12; clear c12
     obtain ⟨y237, hy237⟩ : ∃ y_ : List (S99), y_ = (l0.take (x5_2 : Int).toNat) := ⟨_, rfl⟩
     replace H : (if y234.length + y237.length < 5864062014805 then ((some (y234 ++ y237 : List (S99))).bind fun y241 => (if x5_2 < (l0.length : Int) then (thermographref06_Add.j2 kj2 l0 x5_2 y241 (((rd_T99 l0 x5_2).f0) == a1_0) a1_0 a1_1 a1_2) else (thermographref06_Add.j2 kj2 l0 x5_2 y241 false a1_0 a1_1 a1_2))) else (none)) = some r := by (have H2_ := (Option.bind_some _ _).symm.trans H; rw [hy237]; with_reducible exact H2_)
     have Ny237 := Aside0.mk hy237; clear hy237
     by_cases c13 : y234.length + y237.length < 5864062014805
     ·
      rw [if_pos c13] at H; have LMc13 := Aside0.mk c13; clear c13
      obtain ⟨y241, hy241⟩ : ∃ y_ : List (S99), y_ = (y234 ++ y237) := ⟨_, rfl⟩
      replace H : (if x5_2 < (l0.length : Int) then (thermographref06_Add.j2 kj2 l0 x5_2 y241 (((rd_T99 l0 x5_2).f0) == a1_0) a1_0 a1_1 a1_2) else (thermographref06_Add.j2 kj2 l0 x5_2 y241 false a1_0 a1_1 a1_2)) = some r := by (have H2_ := (Option.bind_some _ _).symm.trans H; rw [hy241]; with_reducible exact H2_)
      have Ny241 := Aside0.mk hy241; clear hy241; have HC14 := Aside0.mk H; clear H
      go_upto_region 6 with (first | ((with_reducible refine gate_dst (N := 23) rfl ?_); refine Kd.R_lit k99 _ 99 ?hg (N := 23) ?hd (xs := ([] : List (S99))) (inner := []) (ok := fun _ => True) (okp := fun _ => True) ?hr ?hp (fun _ hk => hk) trivial (Below.refl _ _) (Nat.le_refl _) (by simp) ?_; (case hd => rfl); (case hg => rfl); (case hr => go_simp; done); (case hp => exact (Reps.none _ _)); intro v235 w15 ho16 hb hg_ hnew_; clear hg_ hnew_; ((rw [← Ny234.out] at ho16)); have n0_ := Aside0.mk (Kd.R_lower (Kd.R_newB ho16 (g := gb232) (o := .cells #[.int .i64 a1_0, .int .u64 a1_1, .int .u64 a1_2] 99 (0, 0)) BK232.out) (below_size HB.out)); have n1_ := Aside0.mk (blk_below (g := gb232) (o := .cells #[.int .i64 a1_0, .int .u64 a1_1, .int .u64 a1_2] 99 (0, 0)) BK232.out hb); have n2_ := Aside0.mk (below_step HB.out hb); clear BK232; clear HB; have HO236 := n0_; have BK232 := n1_; have HB := n2_; clear n0_ n1_ n2_; clear hb ho16; have q17 : (x5_2 : Int) ≤ ((l0.length : Int) : Int) := of_decide_eq_true (by with_reducible assumption); obtain ⟨i017, hi017, _, hsz17, _⟩ := info_parts info99; have hroom17 : l0.length ≤ c0 := HC0.out; have hC17 : Kd.C k99 _ A0 l0.length l0 := HR0.out; have hcut17 := cut_to (P := Tryz.prog) 53 99 .i64 Tryz.underlying53 hi017 A0 l0.length c0 x5_2 (of_decide_eq_true (by with_reducible assumption)) q17 hroom17; have hr17 := Kd.C_take (m := (x5_2 : Int).toNat) hC17 (by omega); have hy17 : y237.length = (x5_2 : Int).toNat := (by rw [Ny237.out, List.length_take]; omega); rw [← Ny237.out] at hr17; rw [← hy17] at hcut17; have HR240 := Aside0.mk hr17; clear hr17 hC17 hroom17 hi017 hsz17; clear hy17; replace q17 := eq_true q17) | ((with_reducible refine gate_builtin (b := .append) (xs := #[.tmp 24, .tmp 27]) rfl ?_); at_builtin; refine Kd.R_append_rows k99 (w0 := w) w.heap.size rfl (.tmp 24) (.tmp 27) 53 99 (.agg #[(.int .i64 0), (.int .u64 0), (.int .u64 0)]) 24 rfl Tryz.underlying53 info99 rfl (by decide) (by omega) v235 y234 y237 _ _ _ (fun k_ => k_ ≠ gb232) (fun _ => False) rfl rfl ?aO ?aR (fun _ _ h => h) (fun _ h => h.elim) ?aF ?aB ?aS ?aL ?_; (case aR => repeat (exact (Kd.C_below HR240.out HB.out))); (case aB => exact HB.out); (case aF => exact (fun k_ hk => Kd.freshB (g := gb232) (o := .cells #[.int .i64 a1_0, .int .u64 a1_1, .int .u64 a1_2] 99 (0, 0)) BK232.out k_ hk)); (case aO => exact (by exact Kd.R_mono HO236.out (fun _ hk => hk.2))); (case aS => exact (below_size HB.out)); (case aL => have := LMc13.out; omega); intro v242 w18 ho hb hg hat; rw [← Ny241.out] at ho; have n0_ := Aside0.mk (blk_grown (g := gb232) (o := .cells #[.int .i64 a1_0, .int .u64 a1_1, .int .u64 a1_2] 99 (0, 0)) BK232.out hg (Kd.R_away HO236.out (fun _ hk => hk.2))); have n1_ := Aside0.mk (hb); have n2_ := Aside0.mk (ho); clear BK232; clear HB; clear HO236; have BK232 := n0_; have HB := n1_; have HO243 := n2_; clear n0_ n1_ n2_; clear ho hb hg hat))
      (try simp only [Act.put, List.setIfInBounds_toArray, List.set_cons_zero, List.set_cons_succ])
      go_cut [42] (fun v42 wc => ∃ (kq : Nat) (x42_13 : Bool), v42 = .bool x42_13 ∧ Aside0 (thermographref06_Add.j2 kq l0 x5_2 y241 x42_13 a1_0 a1_1 a1_2 = some r) ∧ Aside0 (kq ≤ kj2) ∧ Aside0 (Kd.R k99 99 wc w.heap.size (fun k_ => k_ ≠ gb232) v242 y241) ∧ Aside0 (wc.heap[gb232]? = some (.cells #[.int .i64 a1_0, .int .u64 a1_1, .int .u64 a1_2] 99 (0, 0))) ∧ Aside0 (Below w.heap.size w wc))
      case first =>
       have H := HC14.out; clear HC14
       by_cases c19 : x5_2 < (l0.length : Int)
       ·
        rw [if_pos c19] at H; have c19b0 : decide (x5_2 < (l0.length : Int)) = true := decide_eq_true c19; clear c19
        ((skip))
        have H' := Aside0.mk H; clear H; try go_wp2
        have n0_ := Aside0.mk (Kd.R_drew HO243.out); have n1_ := Aside0.mk (blk_drew BK232.out); have n2_ := Aside0.mk (below_drew1 HB.out); clear HO243; clear BK232; clear HB; have HO243 := n0_; have BK232 := n1_; have HB := n2_; clear n0_ n1_ n2_; have p244 : 0 ≤ (x5_2 : Int) := of_decide_eq_true (by with_reducible assumption); have q244 : x5_2 < (l0.length : Int) := of_decide_eq_true (by with_reducible assumption); obtain ⟨ad244, e244, hx244_0, hx244_1, hx244_2⟩ := at_T99 HR0.out x5_2 p244 q244; have hw244_2 := hx244_2; have hw244_1 := hx244_1; have hw244_0 := hx244_0; cases e244; replace hx244_0 := (HB.out.cell (World.block_lt_of_cell? w _ hx244_0)).trans hx244_0; replace hx244_1 := (HB.out.cell (World.block_lt_of_cell? w _ hx244_1)).trans hx244_1; replace hx244_2 := (HB.out.cell (World.block_lt_of_cell? w _ hx244_2)).trans hx244_2; replace p244 := eq_true p244; replace q244 := eq_true q244; refine start_ (n := 14) (S := fun w' => w'.cell? ⟨gb232, 0, none⟩ = some (.int .i64 a1_0) ∧ w'.cell? ⟨gb232, 1, none⟩ = some (.int .u64 a1_1) ∧ w'.cell? ⟨gb232, 2, none⟩ = some (.int .u64 a1_2) ∧ w'.cell? (ad244.add ((x5_2).toNat * 3)) = some (.int .i64 ((rd_T99 l0 x5_2).f0)) ∧ w'.cell? ⟨(ad244.add ((x5_2).toNat * 3)).block, (ad244.add ((x5_2).toNat * 3)).off + 1, none⟩ = some (.int .u64 ((rd_T99 l0 x5_2).f1)) ∧ w'.cell? ⟨(ad244.add ((x5_2).toNat * 3)).block, (ad244.add ((x5_2).toNat * 3)).off + 2, none⟩ = some (.int .u64 ((rd_T99 l0 x5_2).f2))) (ds := []) (bs 14 0) (by kernel_rfl) rfl rfl ⟨(blk_cell BK232.out 0).trans rfl, (blk_cell BK232.out 1).trans rfl, (blk_cell BK232.out 2).trans rfl, ((HB.out.cell (World.block_lt_of_cell? w _ hw244_0)).trans hw244_0), ((HB.out.cell (World.block_lt_of_cell? w _ hw244_1)).trans hw244_1), ((HB.out.cell (World.block_lt_of_cell? w _ hw244_2)).trans hw244_2)⟩ (fun hHeld => ?_); refine with_tabW thermographref06_Add.tab6 thermographref06_Add.bits6 (fun HT_ HW_ => ?_); generalize w18.drew = w20 at HO243 BK232 HB hx244_0 hx244_1 hx244_2 hHeld ⊢; apply pv 0 29 (bs 14 1) HT_; rfl; rfl; kernel_rfl; exact qq; rfl; intro w'; go_simp; with_reducible rfl; simp only [zz]; rfl
        apply pv 1 30 (bs 14 3) HT_; rfl; rfl; kernel_rfl; exact qq; rfl; intro w'; go_simp; with_reducible rfl; simp only [zz]; rfl
        apply pv 2 31 (bs 14 7) HT_; rfl; rfl; kernel_rfl; exact qq; rfl; intro w'; go_simp; with_reducible rfl; simp only [zz]; rfl
        apply pv 3 32 (bs 14 15) HT_; rfl; rfl; kernel_rfl; exact qq; rfl; intro w'; go_simp; with_reducible rfl; simp only [zz]; rfl
        apply pv 4 33 (bs 14 31) HT_; rfl; rfl; kernel_rfl; exact qq; rfl; intro w'; go_simp; with_reducible rfl; simp only [zz]; rfl
        apply pv 5 34 (bs 14 63) HT_; rfl; rfl; kernel_rfl; exact qq; rfl; intro w'; go_simp; with_reducible rfl; simp only [zz]; rfl
        apply pv 6 35 (bs 14 127) HT_; rfl; rfl; kernel_rfl; exact qq; rfl; intro w'; go_simp; with_reducible rfl; simp only [zz]; rfl
        apply pv 7 36 (bs 14 255) HT_; rfl; rfl; kernel_rfl; exact qq; rfl; intro w'; go_simp; with_reducible rfl; simp only [zz]; rfl
        apply pv 8 37 (bs 14 511) HT_; rfl; rfl; kernel_rfl; exact qq; rfl; intro w'; go_simp; with_reducible rfl; simp only [zz]; rfl
        apply pv 10 39 (bs 14 1535) HT_; rfl; rfl; kernel_rfl; exact qq; rfl; intro w'; go_simp; with_reducible rfl; simp only [zz]; rfl
        apply tb 9 38 (bs 14 2047) HT_ HW_ hHeld; rfl; rfl; kernel_rfl; exact qq; rfl; rintro w' ⟨s0, s1, s2, s3, s4, s5⟩; go_simp; with_reducible rfl; simp only [zz]; rfl
        apply tb 11 40 (bs 14 4095) HT_ HW_ hHeld; rfl; rfl; kernel_rfl; exact qq; rfl; rintro w' ⟨s0, s1, s2, s3, s4, s5⟩; go_simp; with_reducible rfl; simp only [zz]; rfl
        apply pv 12 41 (bs 14 8191) HT_; rfl; rfl; kernel_rfl; exact qq; rfl; intro w'; go_simp; with_reducible rfl; simp only [zz]; rfl
        apply pv 13 42 (bs 14 16383) HT_; rfl; rfl; kernel_rfl; exact qq; rfl; intro w'; go_simp; with_reducible rfl; simp only [zz]; rfl
        refine done_ (done_of HT_.out (by kernel_rfl)) ?_; try go_wp2
        go_meet
        case rel => exact ⟨_, ((((rd_T99 l0 x5_2).f0) == a1_0)), (by rfl), H', ⟨by have := HJ2.out; omega⟩, ⟨HO243.out⟩, ⟨BK232.out⟩, ⟨HB.out⟩⟩
       ·
        rw [if_neg c19] at H; have c19b0 : decide (x5_2 < (l0.length : Int)) = false := decide_eq_false c19; clear c19
        ((skip))
        have H' := Aside0.mk H; clear H; try go_wp2
        have n0_ := Aside0.mk (Kd.R_drew HO243.out); have n1_ := Aside0.mk (blk_drew BK232.out); have n2_ := Aside0.mk (below_drew1 HB.out); clear HO243; clear BK232; clear HB; have HO243 := n0_; have BK232 := n1_; have HB := n2_; clear n0_ n1_ n2_; refine start_ (n := 14) (S := fun w' => True) (ds := []) (bs 14 0) (by kernel_rfl) rfl rfl trivial (fun hHeld => ?_); refine with_tabW thermographref06_Add.tab6 thermographref06_Add.bits6 (fun HT_ HW_ => ?_); generalize w18.drew = w21 at HO243 BK232 HB hHeld ⊢; apply pv 0 29 (bs 14 1) HT_; rfl; rfl; kernel_rfl; exact qq; rfl; intro w'; go_simp; with_reducible rfl; simp only [zz]; rfl
        apply pv 1 30 (bs 14 3) HT_; rfl; rfl; kernel_rfl; exact qq; rfl; intro w'; go_simp; with_reducible rfl; simp only [zz]; rfl
        apply pv 2 31 (bs 14 7) HT_; rfl; rfl; kernel_rfl; exact qq; rfl; intro w'; go_simp; with_reducible rfl; simp only [zz]; rfl
        apply pv 3 32 (bs 14 15) HT_; rfl; rfl; kernel_rfl; exact qq; rfl; intro w'; go_simp; with_reducible rfl; simp only [zz]; rfl
        apply pv 4 33 (bs 14 31) HT_; rfl; rfl; kernel_rfl; exact qq; rfl; intro w'; go_simp; with_reducible rfl; simp only [zz]; rfl
        apply py 5 34 (bs 14 63) HT_; rfl; rfl; kernel_rfl; exact qq; rfl; simp only [zz]; rfl; apply py 6 35 (bs 14 127) HT_; rfl; rfl; kernel_rfl; exact qq; rfl; simp only [zz]; rfl; apply py 7 36 (bs 14 255) HT_; rfl; rfl; kernel_rfl; exact qq; rfl; simp only [zz]; rfl; apply py 8 37 (bs 14 511) HT_; rfl; rfl; kernel_rfl; exact qq; rfl; simp only [zz]; rfl; apply py 9 38 (bs 14 1023) HT_; rfl; rfl; kernel_rfl; exact qq; rfl; simp only [zz]; rfl; apply py 10 39 (bs 14 2047) HT_; rfl; rfl; kernel_rfl; exact qq; rfl; simp only [zz]; rfl; apply py 11 40 (bs 14 4095) HT_; rfl; rfl; kernel_rfl; exact qq; rfl; simp only [zz]; rfl; apply py 12 41 (bs 14 8191) HT_; rfl; rfl; kernel_rfl; exact qq; rfl; simp only [zz]; rfl; apply pv 13 42 (bs 14 16383) HT_; rfl; rfl; kernel_rfl; exact qq; rfl; intro w'; go_simp; with_reducible rfl; simp only [zz]; rfl
        refine done_ (done_of HT_.out (by kernel_rfl)) ?_; try go_wp2
        go_meet
        case rel => exact ⟨_, (false), (by rfl), H', ⟨by have := HJ2.out; omega⟩, ⟨HO243.out⟩, ⟨BK232.out⟩, ⟨HB.out⟩⟩
      case rest =>
       clear HC14; try clear c11b0
       try clear c11b1
       try clear c12b1
       try clear q17
       obtain ⟨kq, x42_13, rfl, HA, HJ13, HO_6, BK232, HB⟩ := hcut
       cases kq with
       | zero => exact absurd HA.out (by simp [thermographref06_Add.j2])
       | succ kj13 =>
        have H := HA.out; clear HA; simp only [thermographref06_Add.j2] at H
        by_cases c22 : x42_13 = true
        ·
         subst c22; have H1 : (if 0 ≤ x5_2 then (if x5_2 < (l0.length : Int) then ((thermographref06_Wins.f ((rd_T99 l0 x5_2).f0) ((rd_T99 l0 x5_2).f1) ((rd_T99 l0 x5_2).f2) a1_0 a1_1 a1_2).bind fun t246 => (if t246 = true then (if y241.length < 5864062014805 then ((some (y241 ++ [(⟨(rd_T99 l0 x5_2).f0, (rd_T99 l0 x5_2).f1, (rd_T99 l0 x5_2).f2⟩ : S99)] : List (S99))).bind fun y248 => (if 0 ≤ (wrap64 (x5_2 + 1)) then (if (wrap64 (x5_2 + 1)) ≤ (l0.length : Int) then ((some (l0.drop ((wrap64 (x5_2 + 1)) : Int).toNat : List (S99))).bind fun y251 => (if y248.length + y251.length < 5864062014805 then (some (y248 ++ y251)) else (none))) else (none)) else (none))) else (none)) else (if y241.length < 5864062014805 then ((some (y241 ++ [(⟨a1_0, a1_1, a1_2⟩ : S99)] : List (S99))).bind fun y258 => (if 0 ≤ (wrap64 (x5_2 + 1)) then (if (wrap64 (x5_2 + 1)) ≤ (l0.length : Int) then ((some (l0.drop ((wrap64 (x5_2 + 1)) : Int).toNat : List (S99))).bind fun y261 => (if y258.length + y261.length < 5864062014805 then (some (y258 ++ y261)) else (none))) else (none)) else (none))) else (none)))) else (none)) else (none)) = some r := by rw [if_pos rfl] at H; exact H
         clear H; have H := H1; clear H1
         by_cases c23 : 0 ≤ x5_2
         ·
          rw [if_pos c23] at H; have c23b0 : decide (0 ≤ x5_2) = true := decide_eq_true c23; clear c23
          by_cases c24 : x5_2 < (l0.length : Int)
          ·
           rw [if_pos c24] at H; have c24b0 : decide (x5_2 < (l0.length : Int)) = true := decide_eq_true c24; clear c24; replace H := Option.bind_eq_some_iff.mp H; obtain ⟨t246, A250, H⟩ := H; replace H : (if t246 = true then (if y241.length < 5864062014805 then ((some (y241 ++ [(⟨(rd_T99 l0 x5_2).f0, (rd_T99 l0 x5_2).f1, (rd_T99 l0 x5_2).f2⟩ : S99)] : List (S99))).bind fun y248 => (if 0 ≤ (wrap64 (x5_2 + 1)) then (if (wrap64 (x5_2 + 1)) ≤ (l0.length : Int) then ((some (l0.drop ((wrap64 (x5_2 + 1)) : Int).toNat : List (S99))).bind fun y251 => (if y248.length + y251.length < 5864062014805 then (some (y248 ++ y251)) else (none))) else (none)) else (none))) else (none)) else (if y241.length < 5864062014805 then ((some (y241 ++ [(⟨a1_0, a1_1, a1_2⟩ : S99)] : List (S99))).bind fun y258 => (if 0 ≤ (wrap64 (x5_2 + 1)) then (if (wrap64 (x5_2 + 1)) ≤ (l0.length : Int) then ((some (l0.drop ((wrap64 (x5_2 + 1)) : Int).toNat : List (S99))).bind fun y261 => (if y258.length + y261.length < 5864062014805 then (some (y258 ++ y261)) else (none))) else (none)) else (none))) else (none))) = some r := H; have A25 := Aside0.mk A250; clear A250
           by_cases c26 : t246 = true
           ·
            subst c26; have H1 : (if y241.length < 5864062014805 then ((some (y241 ++ [(⟨(rd_T99 l0 x5_2).f0, (rd_T99 l0 x5_2).f1, (rd_T99 l0 x5_2).f2⟩ : S99)] : List (S99))).bind fun y248 => (if 0 ≤ (wrap64 (x5_2 + 1)) then (if (wrap64 (x5_2 + 1)) ≤ (l0.length : Int) then ((some (l0.drop ((wrap64 (x5_2 + 1)) : Int).toNat : List (S99))).bind fun y251 => (if y248.length + y251.length < 5864062014805 then (some (y248 ++ y251)) else (none))) else (none)) else (none))) else (none)) = some r := by rw [if_pos rfl] at H; exact H
            clear H; have H := H1; clear H1
            by_cases c27 : y241.length < 5864062014805
            ·
             rw [if_pos c27] at H; have LMc27 := Aside0.mk c27; clear c27
             obtain ⟨y248, hy248⟩ : ∃ y_ : List (S99), y_ = (y241 ++ [(⟨(rd_T99 l0 x5_2).f0, (rd_T99 l0 x5_2).f1, (rd_T99 l0 x5_2).f2⟩ : S99)]) := ⟨_, rfl⟩
             replace H : (if 0 ≤ (wrap64 (x5_2 + 1)) then (if (wrap64 (x5_2 + 1)) ≤ (l0.length : Int) then ((some (l0.drop ((wrap64 (x5_2 + 1)) : Int).toNat : List (S99))).bind fun y251 => (if y248.length + y251.length < 5864062014805 then (some (y248 ++ y251)) else (none))) else (none)) else (none)) = some r := by (have H2_ := (Option.bind_some _ _).symm.trans H; rw [hy248]; with_reducible exact H2_)
             have Ny248 := Aside0.mk hy248; clear hy248
             obtain ⟨ji28, hji28⟩ : ∃ j_ : Int, (wrap64 (x5_2 + 1)) = j_ := ⟨_, rfl⟩
             replace H : (if 0 ≤ (ji28) then (if (ji28) ≤ (l0.length : Int) then ((some (l0.drop ((ji28) : Int).toNat : List (S99))).bind fun y251 => (if y248.length + y251.length < 5864062014805 then (some (y248 ++ y251)) else (none))) else (none)) else (none)) = some r := by (rw [hji28] at H; exact H)
             (try rw [hji28] at A25)
             have hji28w : (IntKind.i64.wrap (x5_2 + 1)) = ji28 := (i64_w _).trans hji28
             by_cases c29 : 0 ≤ (ji28)
             ·
              rw [if_pos c29] at H; have c29b1 : decide (0 ≤ (ji28)) = true := decide_eq_true c29; clear c29
              by_cases c30 : (ji28) ≤ (l0.length : Int)
              ·
               rw [if_pos c30] at H; have c30b1 : decide ((ji28) ≤ (l0.length : Int)) = true := decide_eq_true c30; clear c30
               obtain ⟨y251, hy251⟩ : ∃ y_ : List (S99), y_ = (l0.drop ((ji28) : Int).toNat) := ⟨_, rfl⟩
               replace H : (if y248.length + y251.length < 5864062014805 then (some (y248 ++ y251)) else (none)) = some r := by (have H2_ := (Option.bind_some _ _).symm.trans H; rw [hy251]; with_reducible exact H2_)
               have Ny251 := Aside0.mk hy251; clear hy251
               by_cases c31 : y248.length + y251.length < 5864062014805
               ·
                rw [if_pos c31] at H; have LMc31 := Aside0.mk c31; clear c31
                obtain ⟨y255, hy255⟩ : ∃ y_ : List (S99), y_ = (y248 ++ y251) := ⟨_, rfl⟩
                replace H : (some y255) = some r := by (rw [hy255]; with_reducible exact H)
                have Ny255 := Aside0.mk hy255; clear hy255; obtain rfl := Option.some.inj H; try go_wp2
                have n0_ := Aside0.mk (Kd.R_drew HO_6.out); have n1_ := Aside0.mk (blk_drew BK232.out); have n2_ := Aside0.mk (below_drew1 HB.out); clear HO_6; clear BK232; clear HB; have HO_6 := n0_; have BK232 := n1_; have HB := n2_; clear n0_ n1_ n2_; have p245 : 0 ≤ (x5_2 : Int) := of_decide_eq_true (by with_reducible assumption); have q245 : x5_2 < (l0.length : Int) := of_decide_eq_true (by with_reducible assumption); obtain ⟨ad245, e245, hx245_0, hx245_1, hx245_2⟩ := at_T99 HR0.out x5_2 p245 q245; have hw245_2 := hx245_2; have hw245_1 := hx245_1; have hw245_0 := hx245_0; cases e245; replace hx245_0 := (HB.out.cell (World.block_lt_of_cell? w _ hx245_0)).trans hx245_0; replace hx245_1 := (HB.out.cell (World.block_lt_of_cell? w _ hx245_1)).trans hx245_1; replace hx245_2 := (HB.out.cell (World.block_lt_of_cell? w _ hx245_2)).trans hx245_2; replace p245 := eq_true p245; replace q245 := eq_true q245; refine start_ (n := 6) (S := fun w' => w'.cell? ⟨gb232, 0, none⟩ = some (.int .i64 a1_0) ∧ w'.cell? ⟨gb232, 1, none⟩ = some (.int .u64 a1_1) ∧ w'.cell? ⟨gb232, 2, none⟩ = some (.int .u64 a1_2) ∧ w'.cell? (ad245.add ((x5_2).toNat * 3)) = some (.int .i64 ((rd_T99 l0 x5_2).f0)) ∧ w'.cell? ⟨(ad245.add ((x5_2).toNat * 3)).block, (ad245.add ((x5_2).toNat * 3)).off + 1, none⟩ = some (.int .u64 ((rd_T99 l0 x5_2).f1)) ∧ w'.cell? ⟨(ad245.add ((x5_2).toNat * 3)).block, (ad245.add ((x5_2).toNat * 3)).off + 2, none⟩ = some (.int .u64 ((rd_T99 l0 x5_2).f2))) (ds := []) (bs 6 0) (by kernel_rfl) rfl rfl ⟨(blk_cell BK232.out 0).trans rfl, (blk_cell BK232.out 1).trans rfl, (blk_cell BK232.out 2).trans rfl, ((HB.out.cell (World.block_lt_of_cell? w _ hw245_0)).trans hw245_0), ((HB.out.cell (World.block_lt_of_cell? w _ hw245_1)).trans hw245_1), ((HB.out.cell (World.block_lt_of_cell? w _ hw245_2)).trans hw245_2)⟩ (fun hHeld => ?_); generalize wc.drew = w32 at HO_6 BK232 HB hx245_0 hx245_1 hx245_2 hHeld ⊢; refine pure_ (i := 0) (N := some 43) (v := ?_) (a' := ?_) (bs 6 1) rfl rfl (by kernel_rfl) (fun _ _ _ h => h) (Or.inl ⟨by rfl, ?_⟩) ?_ ?_; rotate_left
                ·
                 intro w'; go_simp; with_reducible rfl
                rotate_left
                ·
                 simp only [Act.put, List.setIfInBounds_toArray, List.set_cons_zero, List.set_cons_succ, i64_w, i32_w]; rfl
                refine pure_ (i := 1) (N := some 44) (v := ?_) (a' := ?_) (bs 6 3) rfl rfl (by kernel_rfl) (fun _ _ _ h => h) (Or.inl ⟨by rfl, ?_⟩) ?_ ?_; rotate_left
                ·
                 intro w'; go_simp; with_reducible rfl
                rotate_left
                ·
                 simp only [Act.put, List.setIfInBounds_toArray, List.set_cons_zero, List.set_cons_succ, i64_w, i32_w]; rfl
                refine pure_ (i := 2) (N := some 45) (v := ?_) (a' := ?_) (bs 6 7) rfl rfl (by kernel_rfl) (fun _ _ _ h => h) (Or.inl ⟨by rfl, ?_⟩) ?_ ?_; rotate_left
                ·
                 intro w'; go_simp; with_reducible rfl
                rotate_left
                ·
                 simp only [Act.put, List.setIfInBounds_toArray, List.set_cons_zero, List.set_cons_succ, i64_w, i32_w]; rfl
                refine take_ (i := 3) (N := some 46) (v := ?_) (a' := ?_) (bs 6 15) rfl rfl (by kernel_rfl) (fun _ _ _ h => h) (Or.inl ⟨by rfl, ?_⟩) hHeld ?_ ?_; rotate_left
                ·
                 rintro w' ⟨s0, s1, s2, s3, s4, s5⟩; go_simp; with_reducible rfl
                rotate_left
                ·
                 simp only [Act.put, List.setIfInBounds_toArray, List.set_cons_zero, List.set_cons_succ, i64_w, i32_w]; rfl
                refine take_ (i := 4) (N := some 47) (v := ?_) (a' := ?_) (bs 6 31) rfl rfl (by kernel_rfl) (fun _ _ _ h => h) (Or.inl ⟨by rfl, ?_⟩) hHeld ?_ ?_; rotate_left
                ·
                 rintro w' ⟨s0, s1, s2, s3, s4, s5⟩; go_simp; with_reducible rfl
                rotate_left
                ·
                 simp only [Act.put, List.setIfInBounds_toArray, List.set_cons_zero, List.set_cons_succ, i64_w, i32_w]; rfl
                refine one_ (i := 5) (N := some 48) (bs 6 63) rfl rfl (by kernel_rfl) (by decide) (fun K hK => ?_); refine goes_ Tryz.func89 (by kernel_rfl) rfl #[.agg #[.int .i64 ((rd_T99 l0 x5_2).f0), .int .u64 ((rd_T99 l0 x5_2).f1), .int .u64 ((rd_T99 l0 x5_2).f2)], .agg #[.int .i64 a1_0, .int .u64 a1_1, .int .u64 a1_2]] (by rfl) rfl rfl (by (try simp only [List.map_toArray, List.map_cons, List.map_nil]); rfl) ?_; with_reducible refine (thermographref06_Wins.calls ((rd_T99 l0 x5_2).f0) ((rd_T99 l0 x5_2).f1) ((rd_T99 l0 x5_2).f2) a1_0 a1_1 a1_2 true _ A25.out).mono ?_
                rintro e w33 ⟨rfl, hb⟩; refine ⟨_, rfl, ?_⟩; have n0_ := Aside0.mk (Kd.R_below HO_6.out hb); have n1_ := Aside0.mk (blk_below (g := gb232) (o := .cells #[.int .i64 a1_0, .int .u64 a1_1, .int .u64 a1_2] 99 (0, 0)) BK232.out hb); have n2_ := Aside0.mk (below_step HB.out hb); clear HO_6; clear BK232; clear HB; have HO_6 := n0_; have BK232 := n1_; have HB := n2_; clear n0_ n1_ n2_
                (try clear hb)
                (try clear hb2)
                (try clear hk)
                (try clear hi)
                refine hK.out _ _ ⟨(blk_cell BK232.out 0).trans rfl, (blk_cell BK232.out 1).trans rfl, (blk_cell BK232.out 2).trans rfl, ((HB.out.cell (World.block_lt_of_cell? w _ hw245_0)).trans hw245_0), ((HB.out.cell (World.block_lt_of_cell? w _ hw245_1)).trans hw245_1), ((HB.out.cell (World.block_lt_of_cell? w _ hw245_2)).trans hw245_2)⟩ (fun hHeld => ?_); clear hK K; refine norm_ (a' := ?_) ?_ ?_; rotate_left
                ·
                 show Act.put _ (some 48) _ = _; simp only [Act.put, List.setIfInBounds_toArray, List.set_cons_zero, List.set_cons_succ, i64_w, i32_w]; rfl
                refine done_ (by kernel_rfl) ?_; have p247 : 0 ≤ (x5_2 : Int) := of_decide_eq_true (by with_reducible assumption); have q247 : x5_2 < (l0.length : Int) := of_decide_eq_true (by with_reducible assumption); obtain ⟨ad247, e247, hx247_0, hx247_1, hx247_2⟩ := at_T99 HR0.out x5_2 p247 q247
                obtain rfl : ad245 = ad247 := (by injection e247)
                replace hx247_0 := (HB.out.cell (World.block_lt_of_cell? w _ hx247_0)).trans hx247_0; replace hx247_1 := (HB.out.cell (World.block_lt_of_cell? w _ hx247_1)).trans hx247_1; replace hx247_2 := (HB.out.cell (World.block_lt_of_cell? w _ hx247_2)).trans hx247_2; replace p247 := eq_true p247; replace q247 := eq_true q247; have hfz34_0 := blk_frozen BK232.out 0; have hfz34_1 := blk_frozen BK232.out 1; have hfz34_2 := blk_frozen BK232.out 2
                try go_wp2_with (first | ((with_reducible refine gate_builtin (b := .append) (xs := #[.tmp 53, .tmp 55]) rfl ?_); at_builtin; refine Kd.R_append k99 (w0 := w) w.heap.size rfl (.tmp 53) (.tmp 55) 53 99 (.agg #[(.int .i64 0), (.int .u64 0), (.int .u64 0)]) 24 rfl Tryz.underlying53 info99 rfl (by decide) (by omega) v242 y241 (⟨(rd_T99 l0 x5_2).f0, (rd_T99 l0 x5_2).f1, (rd_T99 l0 x5_2).f2⟩ : S99) [.int .i64 ((rd_T99 l0 x5_2).f0), .int .u64 ((rd_T99 l0 x5_2).f1), .int .u64 ((rd_T99 l0 x5_2).f2)] (fun k_ => k_ ≠ gb232) (fun _ => False) rfl (by (go_simp; done)) ?aP (fun _ hk => hk.elim) ?aF ?aO ?aB ?aS ?aL ?_; (case aP => exact k99_mkM _ _ _ (⟨(rd_T99 l0 x5_2).f0, (rd_T99 l0 x5_2).f1, (rd_T99 l0 x5_2).f2⟩ : S99)); (case aB => exact (by repeat ((with_reducible first | exact HB.out | refine below_set ?_ GE232.out)))); (case aF => exact (fun k_ hk => Kd.freshB (g := gb232) (o := .cells #[.int .i64 ((rd_T99 l0 x5_2).f0), .int .u64 ((rd_T99 l0 x5_2).f1), .int .u64 ((rd_T99 l0 x5_2).f2)] 99 (0, 0)) (by refine blk_put (cs := #[.int .i64 ((rd_T99 l0 x5_2).f0), .int .u64 ((rd_T99 l0 x5_2).f1), .int .u64 a1_2]) ?_ 2 _ rfl; refine blk_put (cs := #[.int .i64 ((rd_T99 l0 x5_2).f0), .int .u64 a1_1, .int .u64 a1_2]) ?_ 1 _ rfl; refine blk_put (cs := #[.int .i64 a1_0, .int .u64 a1_1, .int .u64 a1_2]) ?_ 0 _ rfl; exact BK232.out) k_ hk)); (case aO => exact (by exact Kd.R_mono (Kd.R_far (p := ⟨gb232, 2, none⟩) (Kd.R_far (p := ⟨gb232, 1, none⟩) (Kd.R_far (p := ⟨gb232, 0, none⟩) (Kd.R_mono HO_6.out (fun k_ hk => (⟨hk, hk⟩ : _ ∧ k_ ≠ gb232))) (fun _ hk => hk.2) (.int .i64 ((rd_T99 l0 x5_2).f0))) (fun _ hk => hk.2) (.int .u64 ((rd_T99 l0 x5_2).f1))) (fun _ hk => hk.2) (.int .u64 ((rd_T99 l0 x5_2).f2))) (fun _ hk => hk.1))); (case aS => exact (below_size (by repeat ((with_reducible first | exact HB.out | refine below_set ?_ GE232.out))))); (case aL => have := LMc27.out; omega); intro v249 w35 ho hb hg hat; rw [← Ny248.out] at ho; have n0_ := Aside0.mk (blk_grown (g := gb232) (o := .cells #[.int .i64 ((rd_T99 l0 x5_2).f0), .int .u64 ((rd_T99 l0 x5_2).f1), .int .u64 ((rd_T99 l0 x5_2).f2)] 99 (0, 0)) (by refine blk_put (cs := #[.int .i64 ((rd_T99 l0 x5_2).f0), .int .u64 ((rd_T99 l0 x5_2).f1), .int .u64 a1_2]) ?_ 2 _ rfl; refine blk_put (cs := #[.int .i64 ((rd_T99 l0 x5_2).f0), .int .u64 a1_1, .int .u64 a1_2]) ?_ 1 _ rfl; refine blk_put (cs := #[.int .i64 a1_0, .int .u64 a1_1, .int .u64 a1_2]) ?_ 0 _ rfl; exact BK232.out) hg (Kd.R_away HO_6.out (fun _ hk => hk))); have n1_ := Aside0.mk (hb); have n2_ := Aside0.mk (ho); clear BK232; clear HB; clear HO_6; have BK232 := n0_; have HB := n1_; have HO250 := n2_; clear n0_ n1_ n2_; clear ho hb hg hat; have q36 : ((ji28) : Int) ≤ ((l0.length : Int) : Int) := of_decide_eq_true (by with_reducible assumption); obtain ⟨i036, hi036, _, hsz36, _⟩ := info_parts info99; have hroom36 : l0.length ≤ c0 := HC0.out; have hC36 : Kd.C k99 _ (some ad245) l0.length l0 := HR0.out; have q036 : (0 : Int) ≤ ((ji28) : Int) := of_decide_eq_true (by with_reducible assumption); have hcut36 := cut_from (P := Tryz.prog) 53 99 .i64 Tryz.underlying53 hi036 3 hsz36 (some ad245) l0.length c0 (ji28) q036 q36; have hr36 := Kd.C_drop (m := ((ji28) : Int).toNat) (c := c0) hC36 (by omega) hroom36; obtain ⟨A36, hA36⟩ : ∃ A1, A1 = (if c0 = ((ji28) : Int).toNat then (some ad245) else ((some ad245) : Option Addr).map (·.add (((ji28) : Int).toNat * 3))) := ⟨_, rfl⟩; obtain ⟨c36, hc36⟩ : ∃ c1, c1 = c0 - ((ji28) : Int).toNat := ⟨_, rfl⟩; have hy36 : y251.length = l0.length - ((ji28) : Int).toNat := (by rw [Ny251.out, List.length_drop] <;> omega); rw [show (l0).drop ((ji28) : Int).toNat = y251 from Ny251.out.symm] at hr36; replace hr36 : Kd.C k99 _ A36 y251.length y251 := (by rw [hA36]; exact hr36); rw [← hy36, ← hA36, ← hc36] at hcut36; have HR254 := Aside0.mk hr36; clear hr36 hC36 hroom36 hi036 hsz36 hc36; clear hy36 hA36; replace q36 := eq_true q36) | ((with_reducible refine gate_builtin (b := .append) (xs := #[.tmp 57, .tmp 61]) rfl ?_); at_builtin; refine Kd.R_append_rows k99 (w0 := w) w.heap.size rfl (.tmp 57) (.tmp 61) 53 99 (.agg #[(.int .i64 0), (.int .u64 0), (.int .u64 0)]) 24 rfl Tryz.underlying53 info99 rfl (by decide) (by omega) v249 y248 y251 _ _ _ (fun k_ => k_ ≠ gb232) (fun _ => False) rfl rfl ?aO ?aR (fun _ _ h => h) (fun _ h => h.elim) ?aF ?aB ?aS ?aL ?_; (case aR => repeat (exact (Kd.C_below HR254.out HB.out))); (case aB => exact HB.out); (case aF => exact (fun k_ hk => Kd.freshB (g := gb232) (o := .cells #[.int .i64 ((rd_T99 l0 x5_2).f0), .int .u64 ((rd_T99 l0 x5_2).f1), .int .u64 ((rd_T99 l0 x5_2).f2)] 99 (0, 0)) BK232.out k_ hk)); (case aO => exact HO250.out); (case aS => exact (below_size HB.out)); (case aL => have := LMc31.out; omega); intro v256 w37 ho hb hg hat; rw [← Ny255.out] at ho; have n0_ := Aside0.mk (blk_grown (g := gb232) (o := .cells #[.int .i64 ((rd_T99 l0 x5_2).f0), .int .u64 ((rd_T99 l0 x5_2).f1), .int .u64 ((rd_T99 l0 x5_2).f2)] 99 (0, 0)) BK232.out hg (Kd.R_away HO250.out (fun _ hk => hk))); have n1_ := Aside0.mk (hb); have n2_ := Aside0.mk (ho); clear BK232; clear HB; clear HO250; have BK232 := n0_; have HB := n1_; have HO257 := n2_; clear n0_ n1_ n2_; clear ho hb hg hat))
                go_ret; exact ⟨_, by rfl, by exact Kd.R_mono HO257.out (fun _ hk => trivial), by repeat ((with_reducible exact HB.out))⟩
               ·
                rw [if_neg c31] at H; exact absurd H (by simp)
              ·
               rw [if_neg c30] at H; exact absurd H (by simp)
             ·
              rw [if_neg c29] at H; exact absurd H (by simp)
            ·
             rw [if_neg c27] at H; exact absurd H (by simp)
           ·
            replace c26 := Bool.eq_false_iff.mpr c26; subst c26; have H1 : (if y241.length < 5864062014805 then ((some (y241 ++ [(⟨a1_0, a1_1, a1_2⟩ : S99)] : List (S99))).bind fun y258 => (if 0 ≤ (wrap64 (x5_2 + 1)) then (if (wrap64 (x5_2 + 1)) ≤ (l0.length : Int) then ((some (l0.drop ((wrap64 (x5_2 + 1)) : Int).toNat : List (S99))).bind fun y261 => (if y258.length + y261.length < 5864062014805 then (some (y258 ++ y261)) else (none))) else (none)) else (none))) else (none)) = some r := by rw [if_neg (show ¬ (false = true) by decide)] at H; exact H
            clear H; have H := H1; clear H1
            by_cases c38 : y241.length < 5864062014805
            ·
             rw [if_pos c38] at H; have LMc38 := Aside0.mk c38; clear c38
             obtain ⟨y258, hy258⟩ : ∃ y_ : List (S99), y_ = (y241 ++ [(⟨a1_0, a1_1, a1_2⟩ : S99)]) := ⟨_, rfl⟩
             replace H : (if 0 ≤ (wrap64 (x5_2 + 1)) then (if (wrap64 (x5_2 + 1)) ≤ (l0.length : Int) then ((some (l0.drop ((wrap64 (x5_2 + 1)) : Int).toNat : List (S99))).bind fun y261 => (if y258.length + y261.length < 5864062014805 then (some (y258 ++ y261)) else (none))) else (none)) else (none)) = some r := by (have H2_ := (Option.bind_some _ _).symm.trans H; rw [hy258]; with_reducible exact H2_)
             have Ny258 := Aside0.mk hy258; clear hy258
             obtain ⟨ji39, hji39⟩ : ∃ j_ : Int, (wrap64 (x5_2 + 1)) = j_ := ⟨_, rfl⟩
             replace H : (if 0 ≤ (ji39) then (if (ji39) ≤ (l0.length : Int) then ((some (l0.drop ((ji39) : Int).toNat : List (S99))).bind fun y261 => (if y258.length + y261.length < 5864062014805 then (some (y258 ++ y261)) else (none))) else (none)) else (none)) = some r := by (rw [hji39] at H; exact H)
             (try rw [hji39] at A25)
             have hji39w : (IntKind.i64.wrap (x5_2 + 1)) = ji39 := (i64_w _).trans hji39
             by_cases c40 : 0 ≤ (ji39)
             ·
              rw [if_pos c40] at H; have c40b1 : decide (0 ≤ (ji39)) = true := decide_eq_true c40; clear c40
              by_cases c41 : (ji39) ≤ (l0.length : Int)
              ·
               rw [if_pos c41] at H; have c41b1 : decide ((ji39) ≤ (l0.length : Int)) = true := decide_eq_true c41; clear c41
               obtain ⟨y261, hy261⟩ : ∃ y_ : List (S99), y_ = (l0.drop ((ji39) : Int).toNat) := ⟨_, rfl⟩
               replace H : (if y258.length + y261.length < 5864062014805 then (some (y258 ++ y261)) else (none)) = some r := by (have H2_ := (Option.bind_some _ _).symm.trans H; rw [hy261]; with_reducible exact H2_)
               have Ny261 := Aside0.mk hy261; clear hy261
               by_cases c42 : y258.length + y261.length < 5864062014805
               ·
                rw [if_pos c42] at H; have LMc42 := Aside0.mk c42; clear c42
                obtain ⟨y265, hy265⟩ : ∃ y_ : List (S99), y_ = (y258 ++ y261) := ⟨_, rfl⟩
                replace H : (some y265) = some r := by (rw [hy265]; with_reducible exact H)
                have Ny265 := Aside0.mk hy265; clear hy265; obtain rfl := Option.some.inj H; try go_wp2
                have n0_ := Aside0.mk (Kd.R_drew HO_6.out); have n1_ := Aside0.mk (blk_drew BK232.out); have n2_ := Aside0.mk (below_drew1 HB.out); clear HO_6; clear BK232; clear HB; have HO_6 := n0_; have BK232 := n1_; have HB := n2_; clear n0_ n1_ n2_; have p245 : 0 ≤ (x5_2 : Int) := of_decide_eq_true (by with_reducible assumption); have q245 : x5_2 < (l0.length : Int) := of_decide_eq_true (by with_reducible assumption); obtain ⟨ad245, e245, hx245_0, hx245_1, hx245_2⟩ := at_T99 HR0.out x5_2 p245 q245; have hw245_2 := hx245_2; have hw245_1 := hx245_1; have hw245_0 := hx245_0; cases e245; replace hx245_0 := (HB.out.cell (World.block_lt_of_cell? w _ hx245_0)).trans hx245_0; replace hx245_1 := (HB.out.cell (World.block_lt_of_cell? w _ hx245_1)).trans hx245_1; replace hx245_2 := (HB.out.cell (World.block_lt_of_cell? w _ hx245_2)).trans hx245_2; replace p245 := eq_true p245; replace q245 := eq_true q245; refine start_ (n := 6) (S := fun w' => w'.cell? ⟨gb232, 0, none⟩ = some (.int .i64 a1_0) ∧ w'.cell? ⟨gb232, 1, none⟩ = some (.int .u64 a1_1) ∧ w'.cell? ⟨gb232, 2, none⟩ = some (.int .u64 a1_2) ∧ w'.cell? (ad245.add ((x5_2).toNat * 3)) = some (.int .i64 ((rd_T99 l0 x5_2).f0)) ∧ w'.cell? ⟨(ad245.add ((x5_2).toNat * 3)).block, (ad245.add ((x5_2).toNat * 3)).off + 1, none⟩ = some (.int .u64 ((rd_T99 l0 x5_2).f1)) ∧ w'.cell? ⟨(ad245.add ((x5_2).toNat * 3)).block, (ad245.add ((x5_2).toNat * 3)).off + 2, none⟩ = some (.int .u64 ((rd_T99 l0 x5_2).f2))) (ds := []) (bs 6 0) (by kernel_rfl) rfl rfl ⟨(blk_cell BK232.out 0).trans rfl, (blk_cell BK232.out 1).trans rfl, (blk_cell BK232.out 2).trans rfl, ((HB.out.cell (World.block_lt_of_cell? w _ hw245_0)).trans hw245_0), ((HB.out.cell (World.block_lt_of_cell? w _ hw245_1)).trans hw245_1), ((HB.out.cell (World.block_lt_of_cell? w _ hw245_2)).trans hw245_2)⟩ (fun hHeld => ?_); generalize wc.drew = w43 at HO_6 BK232 HB hx245_0 hx245_1 hx245_2 hHeld ⊢; refine pure_ (i := 0) (N := some 43) (v := ?_) (a' := ?_) (bs 6 1) rfl rfl (by kernel_rfl) (fun _ _ _ h => h) (Or.inl ⟨by rfl, ?_⟩) ?_ ?_; rotate_left
                ·
                 intro w'; go_simp; with_reducible rfl
                rotate_left
                ·
                 simp only [Act.put, List.setIfInBounds_toArray, List.set_cons_zero, List.set_cons_succ, i64_w, i32_w]; rfl
                refine pure_ (i := 1) (N := some 44) (v := ?_) (a' := ?_) (bs 6 3) rfl rfl (by kernel_rfl) (fun _ _ _ h => h) (Or.inl ⟨by rfl, ?_⟩) ?_ ?_; rotate_left
                ·
                 intro w'; go_simp; with_reducible rfl
                rotate_left
                ·
                 simp only [Act.put, List.setIfInBounds_toArray, List.set_cons_zero, List.set_cons_succ, i64_w, i32_w]; rfl
                refine pure_ (i := 2) (N := some 45) (v := ?_) (a' := ?_) (bs 6 7) rfl rfl (by kernel_rfl) (fun _ _ _ h => h) (Or.inl ⟨by rfl, ?_⟩) ?_ ?_; rotate_left
                ·
                 intro w'; go_simp; with_reducible rfl
                rotate_left
                ·
                 simp only [Act.put, List.setIfInBounds_toArray, List.set_cons_zero, List.set_cons_succ, i64_w, i32_w]; rfl
                refine take_ (i := 3) (N := some 46) (v := ?_) (a' := ?_) (bs 6 15) rfl rfl (by kernel_rfl) (fun _ _ _ h => h) (Or.inl ⟨by rfl, ?_⟩) hHeld ?_ ?_; rotate_left
                ·
                 rintro w' ⟨s0, s1, s2, s3, s4, s5⟩; go_simp; with_reducible rfl
                rotate_left
                ·
                 simp only [Act.put, List.setIfInBounds_toArray, List.set_cons_zero, List.set_cons_succ, i64_w, i32_w]; rfl
                refine take_ (i := 4) (N := some 47) (v := ?_) (a' := ?_) (bs 6 31) rfl rfl (by kernel_rfl) (fun _ _ _ h => h) (Or.inl ⟨by rfl, ?_⟩) hHeld ?_ ?_; rotate_left
                ·
                 rintro w' ⟨s0, s1, s2, s3, s4, s5⟩; go_simp; with_reducible rfl
                rotate_left
                ·
                 simp only [Act.put, List.setIfInBounds_toArray, List.set_cons_zero, List.set_cons_succ, i64_w, i32_w]; rfl
                refine one_ (i := 5) (N := some 48) (bs 6 63) rfl rfl (by kernel_rfl) (by decide) (fun K hK => ?_); refine goes_ Tryz.func89 (by kernel_rfl) rfl #[.agg #[.int .i64 ((rd_T99 l0 x5_2).f0), .int .u64 ((rd_T99 l0 x5_2).f1), .int .u64 ((rd_T99 l0 x5_2).f2)], .agg #[.int .i64 a1_0, .int .u64 a1_1, .int .u64 a1_2]] (by rfl) rfl rfl (by (try simp only [List.map_toArray, List.map_cons, List.map_nil]); rfl) ?_; with_reducible refine (thermographref06_Wins.calls ((rd_T99 l0 x5_2).f0) ((rd_T99 l0 x5_2).f1) ((rd_T99 l0 x5_2).f2) a1_0 a1_1 a1_2 false _ A25.out).mono ?_
                rintro e w44 ⟨rfl, hb⟩; refine ⟨_, rfl, ?_⟩; have n0_ := Aside0.mk (Kd.R_below HO_6.out hb); have n1_ := Aside0.mk (blk_below (g := gb232) (o := .cells #[.int .i64 a1_0, .int .u64 a1_1, .int .u64 a1_2] 99 (0, 0)) BK232.out hb); have n2_ := Aside0.mk (below_step HB.out hb); clear HO_6; clear BK232; clear HB; have HO_6 := n0_; have BK232 := n1_; have HB := n2_; clear n0_ n1_ n2_
                (try clear hb)
                (try clear hb2)
                (try clear hk)
                (try clear hi)
                refine hK.out _ _ ⟨(blk_cell BK232.out 0).trans rfl, (blk_cell BK232.out 1).trans rfl, (blk_cell BK232.out 2).trans rfl, ((HB.out.cell (World.block_lt_of_cell? w _ hw245_0)).trans hw245_0), ((HB.out.cell (World.block_lt_of_cell? w _ hw245_1)).trans hw245_1), ((HB.out.cell (World.block_lt_of_cell? w _ hw245_2)).trans hw245_2)⟩ (fun hHeld => ?_); clear hK K; refine norm_ (a' := ?_) ?_ ?_; rotate_left
                ·
                 show Act.put _ (some 48) _ = _; simp only [Act.put, List.setIfInBounds_toArray, List.set_cons_zero, List.set_cons_succ, i64_w, i32_w]; rfl
                refine done_ (by kernel_rfl) ?_
                try go_wp2_with (first | ((with_reducible refine gate_builtin (b := .append) (xs := #[.tmp 53, .tmp 55]) rfl ?_); at_builtin; refine Kd.R_append k99 (w0 := w) w.heap.size rfl (.tmp 53) (.tmp 55) 53 99 (.agg #[(.int .i64 0), (.int .u64 0), (.int .u64 0)]) 24 rfl Tryz.underlying53 info99 rfl (by decide) (by omega) v242 y241 (⟨a1_0, a1_1, a1_2⟩ : S99) [.int .i64 a1_0, .int .u64 a1_1, .int .u64 a1_2] (fun k_ => k_ ≠ gb232) (fun _ => False) rfl rfl ?aP (fun _ hk => hk.elim) ?aF ?aO ?aB ?aS ?aL ?_; (case aP => exact k99_mkM _ _ _ (⟨a1_0, a1_1, a1_2⟩ : S99)); (case aB => exact HB.out); (case aF => exact (fun k_ hk => Kd.freshB (g := gb232) (o := .cells #[.int .i64 a1_0, .int .u64 a1_1, .int .u64 a1_2] 99 (0, 0)) BK232.out k_ hk)); (case aO => exact HO_6.out); (case aS => exact (below_size HB.out)); (case aL => have := LMc38.out; omega); intro v259 w46 ho hb hg hat; rw [← Ny258.out] at ho; have n0_ := Aside0.mk (blk_grown (g := gb232) (o := .cells #[.int .i64 a1_0, .int .u64 a1_1, .int .u64 a1_2] 99 (0, 0)) BK232.out hg (Kd.R_away HO_6.out (fun _ hk => hk))); have n1_ := Aside0.mk (hb); have n2_ := Aside0.mk (ho); clear BK232; clear HB; clear HO_6; have BK232 := n0_; have HB := n1_; have HO260 := n2_; clear n0_ n1_ n2_; clear ho hb hg hat; have q47 : ((ji39) : Int) ≤ ((l0.length : Int) : Int) := of_decide_eq_true (by with_reducible assumption); obtain ⟨i047, hi047, _, hsz47, _⟩ := info_parts info99; have hroom47 : l0.length ≤ c0 := HC0.out; have hC47 : Kd.C k99 _ (some ad245) l0.length l0 := HR0.out; have q047 : (0 : Int) ≤ ((ji39) : Int) := of_decide_eq_true (by with_reducible assumption); have hcut47 := cut_from (P := Tryz.prog) 53 99 .i64 Tryz.underlying53 hi047 3 hsz47 (some ad245) l0.length c0 (ji39) q047 q47; have hr47 := Kd.C_drop (m := ((ji39) : Int).toNat) (c := c0) hC47 (by omega) hroom47; obtain ⟨A47, hA47⟩ : ∃ A1, A1 = (if c0 = ((ji39) : Int).toNat then (some ad245) else ((some ad245) : Option Addr).map (·.add (((ji39) : Int).toNat * 3))) := ⟨_, rfl⟩; obtain ⟨c47, hc47⟩ : ∃ c1, c1 = c0 - ((ji39) : Int).toNat := ⟨_, rfl⟩; have hy47 : y261.length = l0.length - ((ji39) : Int).toNat := (by rw [Ny261.out, List.length_drop] <;> omega); rw [show (l0).drop ((ji39) : Int).toNat = y261 from Ny261.out.symm] at hr47; replace hr47 : Kd.C k99 _ A47 y261.length y261 := (by rw [hA47]; exact hr47); rw [← hy47, ← hA47, ← hc47] at hcut47; have HR264 := Aside0.mk hr47; clear hr47 hC47 hroom47 hi047 hsz47 hc47; clear hy47 hA47; replace q47 := eq_true q47) | ((with_reducible refine gate_builtin (b := .append) (xs := #[.tmp 57, .tmp 61]) rfl ?_); at_builtin; refine Kd.R_append_rows k99 (w0 := w) w.heap.size rfl (.tmp 57) (.tmp 61) 53 99 (.agg #[(.int .i64 0), (.int .u64 0), (.int .u64 0)]) 24 rfl Tryz.underlying53 info99 rfl (by decide) (by omega) v259 y258 y261 _ _ _ (fun k_ => k_ ≠ gb232) (fun _ => False) rfl rfl ?aO ?aR (fun _ _ h => h) (fun _ h => h.elim) ?aF ?aB ?aS ?aL ?_; (case aR => repeat (exact (Kd.C_below HR264.out HB.out))); (case aB => exact HB.out); (case aF => exact (fun k_ hk => Kd.freshB (g := gb232) (o := .cells #[.int .i64 a1_0, .int .u64 a1_1, .int .u64 a1_2] 99 (0, 0)) BK232.out k_ hk)); (case aO => exact HO260.out); (case aS => exact (below_size HB.out)); (case aL => have := LMc42.out; omega); intro v266 w48 ho hb hg hat; rw [← Ny265.out] at ho; have n0_ := Aside0.mk (blk_grown (g := gb232) (o := .cells #[.int .i64 a1_0, .int .u64 a1_1, .int .u64 a1_2] 99 (0, 0)) BK232.out hg (Kd.R_away HO260.out (fun _ hk => hk))); have n1_ := Aside0.mk (hb); have n2_ := Aside0.mk (ho); clear BK232; clear HB; clear HO260; have BK232 := n0_; have HB := n1_; have HO267 := n2_; clear n0_ n1_ n2_; clear ho hb hg hat))
                go_ret; exact ⟨_, by rfl, by exact Kd.R_mono HO267.out (fun _ hk => trivial), by repeat ((with_reducible exact HB.out))⟩
               ·
                rw [if_neg c42] at H; exact absurd H (by simp)
              ·
               rw [if_neg c41] at H; exact absurd H (by simp)
             ·
              rw [if_neg c40] at H; exact absurd H (by simp)
            ·
             rw [if_neg c38] at H; exact absurd H (by simp)
          ·
           rw [if_neg c24] at H; exact absurd H (by simp)
         ·
          rw [if_neg c23] at H; exact absurd H (by simp)
        ·
         replace c22 := Bool.eq_false_iff.mpr c22; subst c22; have H1 : (if y241.length < 5864062014805 then ((some (y241 ++ [(⟨a1_0, a1_1, a1_2⟩ : S99)] : List (S99))).bind fun y268 => (if 0 ≤ x5_2 then (if x5_2 ≤ (l0.length : Int) then ((some (l0.drop (x5_2 : Int).toNat : List (S99))).bind fun y271 => (if y268.length + y271.length < 5864062014805 then (some (y268 ++ y271)) else (none))) else (none)) else (none))) else (none)) = some r := by rw [if_neg (show ¬ (false = true) by decide)] at H; exact H
         clear H; have H := H1; clear H1
         by_cases c49 : y241.length < 5864062014805
         ·
          rw [if_pos c49] at H; have LMc49 := Aside0.mk c49; clear c49
          obtain ⟨y268, hy268⟩ : ∃ y_ : List (S99), y_ = (y241 ++ [(⟨a1_0, a1_1, a1_2⟩ : S99)]) := ⟨_, rfl⟩
          replace H : (if 0 ≤ x5_2 then (if x5_2 ≤ (l0.length : Int) then ((some (l0.drop (x5_2 : Int).toNat : List (S99))).bind fun y271 => (if y268.length + y271.length < 5864062014805 then (some (y268 ++ y271)) else (none))) else (none)) else (none)) = some r := by (have H2_ := (Option.bind_some _ _).symm.trans H; rw [hy268]; with_reducible exact H2_)
          have Ny268 := Aside0.mk hy268; clear hy268
          by_cases c50 : 0 ≤ x5_2
          ·
           rw [if_pos c50] at H; have c50b1 : decide (0 ≤ x5_2) = true := decide_eq_true c50; clear c50
           by_cases c51 : x5_2 ≤ (l0.length : Int)
           ·
            rw [if_pos c51] at H; have c51b1 : decide (x5_2 ≤ (l0.length : Int)) = true := decide_eq_true c51; clear c51
            obtain ⟨y271, hy271⟩ : ∃ y_ : List (S99), y_ = (l0.drop (x5_2 : Int).toNat) := ⟨_, rfl⟩
            replace H : (if y268.length + y271.length < 5864062014805 then (some (y268 ++ y271)) else (none)) = some r := by (have H2_ := (Option.bind_some _ _).symm.trans H; rw [hy271]; with_reducible exact H2_)
            have Ny271 := Aside0.mk hy271; clear hy271
            by_cases c52 : y268.length + y271.length < 5864062014805
            ·
             rw [if_pos c52] at H; have LMc52 := Aside0.mk c52; clear c52
             obtain ⟨y275, hy275⟩ : ∃ y_ : List (S99), y_ = (y268 ++ y271) := ⟨_, rfl⟩
             replace H : (some y275) = some r := by (rw [hy275]; with_reducible exact H)
             have Ny275 := Aside0.mk hy275; clear hy275; obtain rfl := Option.some.inj H; have hcz53_0 : wc.cell? ⟨gb232, 0, none⟩ = some (.int .i64 a1_0) := (blk_cell BK232.out 0).trans rfl; have hcz53_1 : wc.cell? ⟨gb232, 1, none⟩ = some (.int .u64 a1_1) := (blk_cell BK232.out 1).trans rfl; have hcz53_2 : wc.cell? ⟨gb232, 2, none⟩ = some (.int .u64 a1_2) := (blk_cell BK232.out 2).trans rfl
             go_wp2_with (first | ((with_reducible refine gate_builtin (b := .append) (xs := #[.tmp 63, .tmp 65]) rfl ?_); at_builtin; refine Kd.R_append k99 (w0 := w) w.heap.size rfl (.tmp 63) (.tmp 65) 53 99 (.agg #[(.int .i64 0), (.int .u64 0), (.int .u64 0)]) 24 rfl Tryz.underlying53 info99 rfl (by decide) (by omega) v242 y241 (⟨a1_0, a1_1, a1_2⟩ : S99) [.int .i64 a1_0, .int .u64 a1_1, .int .u64 a1_2] (fun k_ => k_ ≠ gb232) (fun _ => False) rfl rfl ?aP (fun _ hk => hk.elim) ?aF ?aO ?aB ?aS ?aL ?_; (case aP => exact k99_mkM _ _ _ (⟨a1_0, a1_1, a1_2⟩ : S99)); (case aB => exact HB.out); (case aF => exact (fun k_ hk => Kd.freshB (g := gb232) (o := .cells #[.int .i64 a1_0, .int .u64 a1_1, .int .u64 a1_2] 99 (0, 0)) BK232.out k_ hk)); (case aO => exact HO_6.out); (case aS => exact (below_size HB.out)); (case aL => have := LMc49.out; omega); intro v269 w54 ho hb hg hat; rw [← Ny268.out] at ho; have n0_ := Aside0.mk (blk_grown (g := gb232) (o := .cells #[.int .i64 a1_0, .int .u64 a1_1, .int .u64 a1_2] 99 (0, 0)) BK232.out hg (Kd.R_away HO_6.out (fun _ hk => hk))); have n1_ := Aside0.mk (hb); have n2_ := Aside0.mk (ho); clear BK232; clear HB; clear HO_6; have BK232 := n0_; have HB := n1_; have HO270 := n2_; clear n0_ n1_ n2_; clear ho hb hg hat; have q55 : (x5_2 : Int) ≤ ((l0.length : Int) : Int) := of_decide_eq_true (by with_reducible assumption); obtain ⟨i055, hi055, _, hsz55, _⟩ := info_parts info99; have hroom55 : l0.length ≤ c0 := HC0.out; have hC55 : Kd.C k99 _ A0 l0.length l0 := HR0.out; have q055 : (0 : Int) ≤ (x5_2 : Int) := of_decide_eq_true (by with_reducible assumption); have hcut55 := cut_from (P := Tryz.prog) 53 99 .i64 Tryz.underlying53 hi055 3 hsz55 A0 l0.length c0 x5_2 q055 q55; have hr55 := Kd.C_drop (m := (x5_2 : Int).toNat) (c := c0) hC55 (by omega) hroom55; obtain ⟨A55, hA55⟩ : ∃ A1, A1 = (if c0 = (x5_2 : Int).toNat then A0 else (A0 : Option Addr).map (·.add ((x5_2 : Int).toNat * 3))) := ⟨_, rfl⟩; obtain ⟨c55, hc55⟩ : ∃ c1, c1 = c0 - (x5_2 : Int).toNat := ⟨_, rfl⟩; have hy55 : y271.length = l0.length - (x5_2 : Int).toNat := (by rw [Ny271.out, List.length_drop] <;> omega); rw [show (l0).drop (x5_2 : Int).toNat = y271 from Ny271.out.symm] at hr55; replace hr55 : Kd.C k99 _ A55 y271.length y271 := (by rw [hA55]; exact hr55); rw [← hy55, ← hA55, ← hc55] at hcut55; have HR274 := Aside0.mk hr55; clear hr55 hC55 hroom55 hi055 hsz55 hc55; clear hy55 hA55; replace q55 := eq_true q55) | ((with_reducible refine gate_builtin (b := .append) (xs := #[.tmp 67, .tmp 70]) rfl ?_); at_builtin; refine Kd.R_append_rows k99 (w0 := w) w.heap.size rfl (.tmp 67) (.tmp 70) 53 99 (.agg #[(.int .i64 0), (.int .u64 0), (.int .u64 0)]) 24 rfl Tryz.underlying53 info99 rfl (by decide) (by omega) v269 y268 y271 _ _ _ (fun k_ => k_ ≠ gb232) (fun _ => False) rfl rfl ?aO ?aR (fun _ _ h => h) (fun _ h => h.elim) ?aF ?aB ?aS ?aL ?_; (case aR => repeat (exact (Kd.C_below HR274.out HB.out))); (case aB => exact HB.out); (case aF => exact (fun k_ hk => Kd.freshB (g := gb232) (o := .cells #[.int .i64 a1_0, .int .u64 a1_1, .int .u64 a1_2] 99 (0, 0)) BK232.out k_ hk)); (case aO => exact HO270.out); (case aS => exact (below_size HB.out)); (case aL => have := LMc52.out; omega); intro v276 w56 ho hb hg hat; rw [← Ny275.out] at ho; have n0_ := Aside0.mk (blk_grown (g := gb232) (o := .cells #[.int .i64 a1_0, .int .u64 a1_1, .int .u64 a1_2] 99 (0, 0)) BK232.out hg (Kd.R_away HO270.out (fun _ hk => hk))); have n1_ := Aside0.mk (hb); have n2_ := Aside0.mk (ho); clear BK232; clear HB; clear HO270; have BK232 := n0_; have HB := n1_; have HO277 := n2_; clear n0_ n1_ n2_; clear ho hb hg hat))
             go_ret; exact ⟨_, by rfl, by exact Kd.R_mono HO277.out (fun _ hk => trivial), by repeat ((with_reducible exact HB.out))⟩
            ·
             rw [if_neg c52] at H; exact absurd H (by simp)
           ·
            rw [if_neg c51] at H; exact absurd H (by simp)
          ·
           rw [if_neg c50] at H; exact absurd H (by simp)
         ·
          rw [if_neg c49] at H; exact absurd H (by simp)
     ·
      rw [if_neg c13] at H; exact absurd H (by simp)
    ·
     rw [if_neg c12] at H; exact absurd H (by simp)
   ·
    rw [if_neg c11] at H; exact absurd H (by simp)
end Go.Proofs.YtiinmagnpkfbbaaGreat.QT
