-- Laid by wip/tools/myprint.py of this repo. Not trusted: Lean checks it.
import Derived.Test.YtgagcimfkmegnaaSqu
import Derived.Test.YtgagcimfkmegnaaQT4
set_option maxHeartbeats 8000000
set_option maxRecDepth 100000
namespace Go.Proofs.Ytgagcimfkmegnaa.QT
open Go.RowKit Go.Proofs.YtgagcimfkmegnaaW.PrintWords Go.Proofs.YtgagcimfkmegnaaW.PrintLast Go.Proofs.YtgagcimfkmegnaaW.PrintMore
attribute [local go_sem] max2_int min2_int max_two min_two max_three min_three max_four min_four   -- for this text's walks alone
set_option linter.unusedVariables false
set_option linter.unusedSimpArgs false
mutual
def thermographref06_Add.j1 : Nat → List (S42) → Int → Int → Int → Int → Option ((List (S42)))
 | 0, _, _, _, _, _ => none
 | k + 1, x0, x5, x128000, x128001, x128002 => (some (([] : List (S42)) : List (S42))).bind fun y129 => (if 0 ≤ x5 then (if x5 ≤ (x0.length : Int) then ((some (x0.take (x5 : Int).toNat : List (S42))).bind fun y132 => (if y129.length + y132.length < 5864062014805 then ((some (y129 ++ y132 : List (S42))).bind fun y136 => (if x5 < (x0.length : Int) then (thermographref06_Add.j2 k x0 x5 y136 (((rd_T42 x0 x5).f0) == x128000) x128000 x128001 x128002) else (thermographref06_Add.j2 k x0 x5 y136 false x128000 x128001 x128002))) else (none))) else (none)) else (none))
def thermographref06_Add.j2 : Nat → List (S42) → Int → List (S42) → Bool → Int → Int → Int → Option ((List (S42)))
 | 0, _, _, _, _, _, _, _ => none
 | k + 1, x0, x5, x6, x42, x128000, x128001, x128002 => if x42 = true then (if 0 ≤ x5 then (if x5 < (x0.length : Int) then ((thermographref06_Wins.f ((rd_T42 x0 x5).f0) ((rd_T42 x0 x5).f1) ((rd_T42 x0 x5).f2) x128000 x128001 x128002).bind fun t141 => (if t141 = true then (if x6.length < 5864062014805 then ((some (x6 ++ [(⟨(rd_T42 x0 x5).f0, (rd_T42 x0 x5).f1, (rd_T42 x0 x5).f2⟩ : S42)] : List (S42))).bind fun y143 => (if 0 ≤ (wrap64 (x5 + 1)) then (if (wrap64 (x5 + 1)) ≤ (x0.length : Int) then ((some (x0.drop ((wrap64 (x5 + 1)) : Int).toNat : List (S42))).bind fun y146 => (if y143.length + y146.length < 5864062014805 then (some (y143 ++ y146)) else (none))) else (none)) else (none))) else (none)) else (if x6.length < 5864062014805 then ((some (x6 ++ [(⟨x128000, x128001, x128002⟩ : S42)] : List (S42))).bind fun y153 => (if 0 ≤ (wrap64 (x5 + 1)) then (if (wrap64 (x5 + 1)) ≤ (x0.length : Int) then ((some (x0.drop ((wrap64 (x5 + 1)) : Int).toNat : List (S42))).bind fun y156 => (if y153.length + y156.length < 5864062014805 then (some (y153 ++ y156)) else (none))) else (none)) else (none))) else (none)))) else (none)) else (none)) else (if x6.length < 5864062014805 then ((some (x6 ++ [(⟨x128000, x128001, x128002⟩ : S42)] : List (S42))).bind fun y163 => (if 0 ≤ x5 then (if x5 ≤ (x0.length : Int) then ((some (x0.drop (x5 : Int).toNat : List (S42))).bind fun y166 => (if y163.length + y166.length < 5864062014805 then (some (y163 ++ y166)) else (none))) else (none)) else (none))) else (none))
def thermographref06_Add.l0 : Nat → List (S42) → Int → Int → Int → Int → Option ((List (S42)))
 | 0, _, _, _, _, _ => none
 | k + 1, x0, x5, x128000, x128001, x128002 => if x5 < (x0.length : Int) then (if 0 ≤ x5 then (if ((rd_T42 x0 x5).f0) < x128000 then (thermographref06_Add.l0 k x0 (wrap64 (x5 + 1)) x128000 x128001 x128002) else (thermographref06_Add.j1 k x0 x5 x128000 x128001 x128002)) else (none)) else (thermographref06_Add.j1 k x0 x5 x128000 x128001 x128002)
end
def thermographref06_Add.f (k : Nat) (l0 : List (S42)) (a1_0 : Int) (a1_1 : Int) (a1_2 : Int) : Option ((List (S42))) := thermographref06_Add.l0 k l0 0 a1_0 a1_1 a1_2
def thermographref06_Add.T2 : Bool × List (List Nat × List Nat) := (true, [([], []), ([], []), ([1], [1]), ([0, 2], [0, 2]), ([3], [3]), ([4], [4]), ([4], [4]), ([5, 6, 4], [4, 5, 6]), ([7, 4], [4, 7]), ([8, 4], [4, 8]), ([4], [4]), ([10, 4], [4, 10]), ([9, 11, 4], [4, 9, 11]), ([4, 12], [4, 12])])
def thermographref06_Add.B2 : List Nat := [0, 0, 2, 7, 15, 31, 31, 127, 255, 511, 31, 1055, 4095, 8191]
theorem thermographref06_Add.tab2 : rtab .any (opsOf Try.f64 2) = thermographref06_Add.T2 := by kernel_rfl
theorem thermographref06_Add.bits2 : waitsOk thermographref06_Add.T2.2 thermographref06_Add.B2 = true := by kernel_rfl
def thermographref06_Add.T6 : Bool × List (List Nat × List Nat) := (true, [([], []), ([], []), ([1], [1]), ([0, 2], [0, 2]), ([3], [3]), ([4], [4]), ([4], [4]), ([5, 6, 4], [4, 5, 6]), ([7, 4], [4, 7]), ([8, 4], [4, 8]), ([4], [4]), ([10, 4], [4, 10]), ([9, 11, 4], [4, 9, 11]), ([4, 12], [4, 12])])
def thermographref06_Add.B6 : List Nat := [0, 0, 2, 7, 15, 31, 31, 127, 255, 511, 31, 1055, 4095, 8191]
theorem thermographref06_Add.tab6 : rtab .any (opsOf Try.f64 6) = thermographref06_Add.T6 := by kernel_rfl
theorem thermographref06_Add.bits6 : waitsOk thermographref06_Add.T6.2 thermographref06_Add.B6 = true := by kernel_rfl
theorem thermographref06_Add.calls (k : Nat) (A0 : Option Addr) (c0 : Nat) (l0 : List (S42)) (a1_0 : Int) (a1_1 : Int) (a1_2 : Int) (r : List (S42)) (w : World) (hr0 : Kd.C k42 w A0 l0.length l0) (hc0 : l0.length ≤ c0) (h : thermographref06_Add.f k l0 a1_0 a1_1 a1_2 = some r) :
  Calls Try.prog 64 #[.slice A0 l0.length c0, .agg #[.int .i64 a1_0, .int .u64 a1_1, .int .u64 a1_2]] w fun e w' => ∃ v0_ : Value, e = .returned (v0_) ∧ Kd.R k42 42 w' w.heap.size (fun _ => True) v0_ r ∧ Below w.heap.size w w' := by
 have HR0 := Aside0.mk hr0; have HC0 := Aside0.mk hc0; clear hr0 hc0; have HB := Aside0.mk (Below.refl w.heap.size w); have H : (thermographref06_Add.l0 k l0 0 a1_0 a1_1 a1_2) = some r := h; clear h; have HC3 := Aside0.mk H; clear H; go_enter Try.func64, Try.ntmps64
 go_upto_block 0 with (((with_reducible refine gate_dst (N := 3) rfl ?_); refine box_event ?hg (N := 3) ?hd (cs := #[.int .i64 a1_0, .int .u64 a1_1, .int .u64 a1_2]) (t := 42) ?hr ?_; (case hd => rfl); (case hg => rfl); (case hr => go_simp; done); intro gb127 hg w4 hbox hb; have n0_ := Aside0.mk (below_step HB.out hb); have n1_ := Aside0.mk (hbox); have n2_ := Aside0.mk ((by rw [hg]; exact (below_size HB.out) : w.heap.size ≤ gb127)); have n3_ := Aside0.mk ((by rw [hg]; exact (below_size HB.out) : w.heap.size ≤ gb127)); clear HB; have HB := n0_; have BK127 := n1_; have GE127 := n3_; clear n0_ n1_ n2_ n3_; clear hb hbox hg))
 (try simp only [Act.put, List.setIfInBounds_toArray, List.set_cons_zero, List.set_cons_succ])
 go_cut [5] (fun v5 wc => ∃ (kq : Nat) (x5_2 : Int), v5 = .int .i64 x5_2 ∧ Aside0 (thermographref06_Add.j1 kq l0 x5_2 a1_0 a1_1 a1_2 = some r) ∧ Aside0 (kq ≤ k) ∧ Aside0 (wc.heap[gb127]? = some (.cells #[.int .i64 a1_0, .int .u64 a1_1, .int .u64 a1_2] 42 (0, 0))) ∧ Aside0 (Below w.heap.size w wc))
 case first =>
  have H := HC3.out; clear HC3; have H' := Aside0.mk H; clear H; go_wp2; go_loopg [5] k (fun kq v5 w' => ∃ (x5_1 : Int), v5 = .int .i64 x5_1 ∧ Aside0 (thermographref06_Add.l0 kq l0 x5_1 a1_0 a1_1 a1_2 = some r) ∧ Aside0 (kq ≤ k) ∧ Aside0 (w'.heap[gb127]? = some (.cells #[.int .i64 a1_0, .int .u64 a1_1, .int .u64 a1_2] 42 (0, 0))) ∧ Aside0 (Below w.heap.size w w'))
  case atStart => exact ⟨(0), (by rfl), H', ⟨Nat.le_refl _⟩, ⟨BK127.out⟩, ⟨HB.out⟩⟩
  case round =>
   clear H'; obtain ⟨x5_1, rfl, HA, HK1, BK127, HB⟩ := hrel
   cases gk with
   | zero => exact absurd HA.out (by simp [thermographref06_Add.l0])
   | succ k1 =>
    have H := HA.out; clear HA; simp only [thermographref06_Add.l0] at H
    by_cases c5 : x5_1 < (l0.length : Int)
    ·
     rw [if_pos c5] at H; have c5b0 : decide (x5_1 < (l0.length : Int)) = true := decide_eq_true c5; clear c5
     ((skip))
     by_cases c6 : 0 ≤ x5_1
     ·
      rw [if_pos c6] at H; have c6b0 : decide (0 ≤ x5_1) = true := decide_eq_true c6; clear c6
      by_cases c7 : ((rd_T42 l0 x5_1).f0) < a1_0
      ·
       rw [if_pos c7] at H; have c7b0 : decide (((rd_T42 l0 x5_1).f0) < a1_0) = true := decide_eq_true c7; clear c7; have H' := Aside0.mk H; clear H; try go_wp2
       have n0_ := Aside0.mk (blk_drew BK127.out); have n1_ := Aside0.mk (below_drew1 HB.out); clear BK127; clear HB; have BK127 := n0_; have HB := n1_; clear n0_ n1_; have p128 : 0 ≤ (x5_1 : Int) := of_decide_eq_true (by with_reducible assumption); have q128 : x5_1 < (l0.length : Int) := of_decide_eq_true (by with_reducible assumption); obtain ⟨ad128, e128, hx128_0, hx128_1, hx128_2⟩ := at_T42 HR0.out x5_1 p128 q128; have hw128_2 := hx128_2; have hw128_1 := hx128_1; have hw128_0 := hx128_0; cases e128; replace hx128_0 := (HB.out.cell (World.block_lt_of_cell? w _ hx128_0)).trans hx128_0; replace hx128_1 := (HB.out.cell (World.block_lt_of_cell? w _ hx128_1)).trans hx128_1; replace hx128_2 := (HB.out.cell (World.block_lt_of_cell? w _ hx128_2)).trans hx128_2; replace p128 := eq_true p128; replace q128 := eq_true q128; refine start_ (n := 14) (S := fun w' => w'.cell? ⟨gb127, 0, none⟩ = some (.int .i64 a1_0) ∧ w'.cell? ⟨gb127, 1, none⟩ = some (.int .u64 a1_1) ∧ w'.cell? ⟨gb127, 2, none⟩ = some (.int .u64 a1_2) ∧ w'.cell? (ad128.add ((x5_1).toNat * 3)) = some (.int .i64 ((rd_T42 l0 x5_1).f0)) ∧ w'.cell? ⟨(ad128.add ((x5_1).toNat * 3)).block, (ad128.add ((x5_1).toNat * 3)).off + 1, none⟩ = some (.int .u64 ((rd_T42 l0 x5_1).f1)) ∧ w'.cell? ⟨(ad128.add ((x5_1).toNat * 3)).block, (ad128.add ((x5_1).toNat * 3)).off + 2, none⟩ = some (.int .u64 ((rd_T42 l0 x5_1).f2))) (ds := []) (bs 14 0) (by kernel_rfl) rfl rfl ⟨(blk_cell BK127.out 0).trans rfl, (blk_cell BK127.out 1).trans rfl, (blk_cell BK127.out 2).trans rfl, ((HB.out.cell (World.block_lt_of_cell? w _ hw128_0)).trans hw128_0), ((HB.out.cell (World.block_lt_of_cell? w _ hw128_1)).trans hw128_1), ((HB.out.cell (World.block_lt_of_cell? w _ hw128_2)).trans hw128_2)⟩ (fun hHeld => ?_); refine with_tabW thermographref06_Add.tab2 thermographref06_Add.bits2 (fun HT_ HW_ => ?_); generalize wr.drew = w8 at BK127 HB hx128_0 hx128_1 hx128_2 hHeld ⊢; apply pv 0 7 (bs 14 1) HT_; rfl; rfl; kernel_rfl; exact qq; rfl; intro w'; go_simp; with_reducible rfl; simp only [zz]; rfl
       apply pv 1 8 (bs 14 3) HT_; rfl; rfl; kernel_rfl; exact qq; rfl; intro w'; go_simp; with_reducible rfl; simp only [zz]; rfl
       apply pv 2 9 (bs 14 7) HT_; rfl; rfl; kernel_rfl; exact qq; rfl; intro w'; go_simp; with_reducible rfl; simp only [zz]; rfl
       apply pv 3 10 (bs 14 15) HT_; rfl; rfl; kernel_rfl; exact qq; rfl; intro w'; go_simp; with_reducible rfl; simp only [zz]; rfl
       apply pv 4 11 (bs 14 31) HT_; rfl; rfl; kernel_rfl; exact qq; rfl; intro w'; go_simp; with_reducible rfl; simp only [zz]; rfl
       apply pv 5 12 (bs 14 63) HT_; rfl; rfl; kernel_rfl; exact qq; rfl; intro w'; go_simp; with_reducible rfl; simp only [zz]; rfl
       apply pv 6 13 (bs 14 127) HT_; rfl; rfl; kernel_rfl; exact qq; rfl; intro w'; go_simp; with_reducible rfl; simp only [zz]; rfl
       apply pv 7 14 (bs 14 255) HT_; rfl; rfl; kernel_rfl; exact qq; rfl; intro w'; go_simp; with_reducible rfl; simp only [zz]; rfl
       apply pv 8 15 (bs 14 511) HT_; rfl; rfl; kernel_rfl; exact qq; rfl; intro w'; go_simp; with_reducible rfl; simp only [zz]; rfl
       apply pv 10 17 (bs 14 1535) HT_; rfl; rfl; kernel_rfl; exact qq; rfl; intro w'; go_simp; with_reducible rfl; simp only [zz]; rfl
       apply tb 9 16 (bs 14 2047) HT_ HW_ hHeld; rfl; rfl; kernel_rfl; exact qq; rfl; rintro w' ⟨s0, s1, s2, s3, s4, s5⟩; go_simp; with_reducible rfl; simp only [zz]; rfl
       apply tb 11 18 (bs 14 4095) HT_ HW_ hHeld; rfl; rfl; kernel_rfl; exact qq; rfl; rintro w' ⟨s0, s1, s2, s3, s4, s5⟩; go_simp; with_reducible rfl; simp only [zz]; rfl
       apply pv 12 19 (bs 14 8191) HT_; rfl; rfl; kernel_rfl; exact qq; rfl; intro w'; go_simp; with_reducible rfl; simp only [zz]; rfl
       apply pv 13 20 (bs 14 16383) HT_; rfl; rfl; kernel_rfl; exact qq; rfl; intro w'; go_simp; with_reducible rfl; simp only [zz]; rfl
       refine done_ (done_of HT_.out (by kernel_rfl)) ?_; try go_wp2
       go_roundg k1
       case measure => have := HK1.out; omega
       case rel => exact ⟨(wrap64 (x5_1 + 1)), (by rfl), H', ⟨by have := HK1.out; omega⟩, ⟨BK127.out⟩, ⟨HB.out⟩⟩
      ·
       rw [if_neg c7] at H; have c7b0 : decide (((rd_T42 l0 x5_1).f0) < a1_0) = false := decide_eq_false c7; clear c7; have H' := Aside0.mk H; clear H; try go_wp2
       have n0_ := Aside0.mk (blk_drew BK127.out); have n1_ := Aside0.mk (below_drew1 HB.out); clear BK127; clear HB; have BK127 := n0_; have HB := n1_; clear n0_ n1_; have p128 : 0 ≤ (x5_1 : Int) := of_decide_eq_true (by with_reducible assumption); have q128 : x5_1 < (l0.length : Int) := of_decide_eq_true (by with_reducible assumption); obtain ⟨ad128, e128, hx128_0, hx128_1, hx128_2⟩ := at_T42 HR0.out x5_1 p128 q128; have hw128_2 := hx128_2; have hw128_1 := hx128_1; have hw128_0 := hx128_0; cases e128; replace hx128_0 := (HB.out.cell (World.block_lt_of_cell? w _ hx128_0)).trans hx128_0; replace hx128_1 := (HB.out.cell (World.block_lt_of_cell? w _ hx128_1)).trans hx128_1; replace hx128_2 := (HB.out.cell (World.block_lt_of_cell? w _ hx128_2)).trans hx128_2; replace p128 := eq_true p128; replace q128 := eq_true q128; refine start_ (n := 14) (S := fun w' => w'.cell? ⟨gb127, 0, none⟩ = some (.int .i64 a1_0) ∧ w'.cell? ⟨gb127, 1, none⟩ = some (.int .u64 a1_1) ∧ w'.cell? ⟨gb127, 2, none⟩ = some (.int .u64 a1_2) ∧ w'.cell? (ad128.add ((x5_1).toNat * 3)) = some (.int .i64 ((rd_T42 l0 x5_1).f0)) ∧ w'.cell? ⟨(ad128.add ((x5_1).toNat * 3)).block, (ad128.add ((x5_1).toNat * 3)).off + 1, none⟩ = some (.int .u64 ((rd_T42 l0 x5_1).f1)) ∧ w'.cell? ⟨(ad128.add ((x5_1).toNat * 3)).block, (ad128.add ((x5_1).toNat * 3)).off + 2, none⟩ = some (.int .u64 ((rd_T42 l0 x5_1).f2))) (ds := []) (bs 14 0) (by kernel_rfl) rfl rfl ⟨(blk_cell BK127.out 0).trans rfl, (blk_cell BK127.out 1).trans rfl, (blk_cell BK127.out 2).trans rfl, ((HB.out.cell (World.block_lt_of_cell? w _ hw128_0)).trans hw128_0), ((HB.out.cell (World.block_lt_of_cell? w _ hw128_1)).trans hw128_1), ((HB.out.cell (World.block_lt_of_cell? w _ hw128_2)).trans hw128_2)⟩ (fun hHeld => ?_); refine with_tabW thermographref06_Add.tab2 thermographref06_Add.bits2 (fun HT_ HW_ => ?_); generalize wr.drew = w9 at BK127 HB hx128_0 hx128_1 hx128_2 hHeld ⊢; apply pv 0 7 (bs 14 1) HT_; rfl; rfl; kernel_rfl; exact qq; rfl; intro w'; go_simp; with_reducible rfl; simp only [zz]; rfl
       apply pv 1 8 (bs 14 3) HT_; rfl; rfl; kernel_rfl; exact qq; rfl; intro w'; go_simp; with_reducible rfl; simp only [zz]; rfl
       apply pv 2 9 (bs 14 7) HT_; rfl; rfl; kernel_rfl; exact qq; rfl; intro w'; go_simp; with_reducible rfl; simp only [zz]; rfl
       apply pv 3 10 (bs 14 15) HT_; rfl; rfl; kernel_rfl; exact qq; rfl; intro w'; go_simp; with_reducible rfl; simp only [zz]; rfl
       apply pv 4 11 (bs 14 31) HT_; rfl; rfl; kernel_rfl; exact qq; rfl; intro w'; go_simp; with_reducible rfl; simp only [zz]; rfl
       apply pv 5 12 (bs 14 63) HT_; rfl; rfl; kernel_rfl; exact qq; rfl; intro w'; go_simp; with_reducible rfl; simp only [zz]; rfl
       apply pv 6 13 (bs 14 127) HT_; rfl; rfl; kernel_rfl; exact qq; rfl; intro w'; go_simp; with_reducible rfl; simp only [zz]; rfl
       apply pv 7 14 (bs 14 255) HT_; rfl; rfl; kernel_rfl; exact qq; rfl; intro w'; go_simp; with_reducible rfl; simp only [zz]; rfl
       apply pv 8 15 (bs 14 511) HT_; rfl; rfl; kernel_rfl; exact qq; rfl; intro w'; go_simp; with_reducible rfl; simp only [zz]; rfl
       apply pv 10 17 (bs 14 1535) HT_; rfl; rfl; kernel_rfl; exact qq; rfl; intro w'; go_simp; with_reducible rfl; simp only [zz]; rfl
       apply tb 9 16 (bs 14 2047) HT_ HW_ hHeld; rfl; rfl; kernel_rfl; exact qq; rfl; rintro w' ⟨s0, s1, s2, s3, s4, s5⟩; go_simp; with_reducible rfl; simp only [zz]; rfl
       apply tb 11 18 (bs 14 4095) HT_ HW_ hHeld; rfl; rfl; kernel_rfl; exact qq; rfl; rintro w' ⟨s0, s1, s2, s3, s4, s5⟩; go_simp; with_reducible rfl; simp only [zz]; rfl
       apply pv 12 19 (bs 14 8191) HT_; rfl; rfl; kernel_rfl; exact qq; rfl; intro w'; go_simp; with_reducible rfl; simp only [zz]; rfl
       apply pv 13 20 (bs 14 16383) HT_; rfl; rfl; kernel_rfl; exact qq; rfl; intro w'; go_simp; with_reducible rfl; simp only [zz]; rfl
       refine done_ (done_of HT_.out (by kernel_rfl)) ?_; try go_wp2
       go_meet
       case rel => exact ⟨_, (x5_1), (by rfl), H', ⟨by have := HK1.out; omega⟩, ⟨BK127.out⟩, ⟨HB.out⟩⟩
     ·
      rw [if_neg c6] at H; exact absurd H (by simp)
    ·
     rw [if_neg c5] at H; have c5b0 : decide (x5_1 < (l0.length : Int)) = false := decide_eq_false c5; clear c5
     ((skip))
     have H' := Aside0.mk H; clear H; try go_wp2
     have n0_ := Aside0.mk (blk_drew BK127.out); have n1_ := Aside0.mk (below_drew1 HB.out); clear BK127; clear HB; have BK127 := n0_; have HB := n1_; clear n0_ n1_; refine start_ (n := 14) (S := fun w' => True) (ds := []) (bs 14 0) (by kernel_rfl) rfl rfl trivial (fun hHeld => ?_); refine with_tabW thermographref06_Add.tab2 thermographref06_Add.bits2 (fun HT_ HW_ => ?_); generalize wr.drew = w10 at BK127 HB hHeld ⊢; apply pv 0 7 (bs 14 1) HT_; rfl; rfl; kernel_rfl; exact qq; rfl; intro w'; go_simp; with_reducible rfl; simp only [zz]; rfl
     apply pv 1 8 (bs 14 3) HT_; rfl; rfl; kernel_rfl; exact qq; rfl; intro w'; go_simp; with_reducible rfl; simp only [zz]; rfl
     apply pv 2 9 (bs 14 7) HT_; rfl; rfl; kernel_rfl; exact qq; rfl; intro w'; go_simp; with_reducible rfl; simp only [zz]; rfl
     apply pv 3 10 (bs 14 15) HT_; rfl; rfl; kernel_rfl; exact qq; rfl; intro w'; go_simp; with_reducible rfl; simp only [zz]; rfl
     apply pv 4 11 (bs 14 31) HT_; rfl; rfl; kernel_rfl; exact qq; rfl; intro w'; go_simp; with_reducible rfl; simp only [zz]; rfl
     apply py 5 12 (bs 14 63) HT_; rfl; rfl; kernel_rfl; exact qq; rfl; simp only [zz]; rfl; apply py 6 13 (bs 14 127) HT_; rfl; rfl; kernel_rfl; exact qq; rfl; simp only [zz]; rfl; apply py 7 14 (bs 14 255) HT_; rfl; rfl; kernel_rfl; exact qq; rfl; simp only [zz]; rfl; apply py 8 15 (bs 14 511) HT_; rfl; rfl; kernel_rfl; exact qq; rfl; simp only [zz]; rfl; apply py 9 16 (bs 14 1023) HT_; rfl; rfl; kernel_rfl; exact qq; rfl; simp only [zz]; rfl; apply py 10 17 (bs 14 2047) HT_; rfl; rfl; kernel_rfl; exact qq; rfl; simp only [zz]; rfl; apply py 11 18 (bs 14 4095) HT_; rfl; rfl; kernel_rfl; exact qq; rfl; simp only [zz]; rfl; apply py 12 19 (bs 14 8191) HT_; rfl; rfl; kernel_rfl; exact qq; rfl; simp only [zz]; rfl; apply pv 13 20 (bs 14 16383) HT_; rfl; rfl; kernel_rfl; exact qq; rfl; intro w'; go_simp; with_reducible rfl; simp only [zz]; rfl
     refine done_ (done_of HT_.out (by kernel_rfl)) ?_; try go_wp2
     go_meet
     case rel => exact ⟨_, (x5_1), (by rfl), H', ⟨by have := HK1.out; omega⟩, ⟨BK127.out⟩, ⟨HB.out⟩⟩
 case rest =>
  clear HC3; obtain ⟨kq, x5_2, rfl, HA, HJ2, BK127, HB⟩ := hcut
  cases kq with
  | zero => exact absurd HA.out (by simp [thermographref06_Add.j1])
  | succ kj2 =>
   have H := HA.out; clear HA; simp only [thermographref06_Add.j1] at H
   obtain ⟨y129, hy129⟩ : ∃ y_ : List (S42), y_ = (([] : List (S42))) := ⟨_, rfl⟩
   replace H : (if 0 ≤ x5_2 then (if x5_2 ≤ (l0.length : Int) then ((some (l0.take (x5_2 : Int).toNat : List (S42))).bind fun y132 => (if y129.length + y132.length < 5864062014805 then ((some (y129 ++ y132 : List (S42))).bind fun y136 => (if x5_2 < (l0.length : Int) then (thermographref06_Add.j2 kj2 l0 x5_2 y136 (((rd_T42 l0 x5_2).f0) == a1_0) a1_0 a1_1 a1_2) else (thermographref06_Add.j2 kj2 l0 x5_2 y136 false a1_0 a1_1 a1_2))) else (none))) else (none)) else (none)) = some r := by (have H2_ := (Option.bind_some _ _).symm.trans H; rw [hy129]; with_reducible exact H2_)
   have Ny129 := Aside0.mk hy129; clear hy129
   by_cases c11 : 0 ≤ x5_2
   ·
    rw [if_pos c11] at H; have c11b0 := eq_true c11; have c11b1 : decide (0 ≤ x5_2) = true := decide_eq_true c11; clear c11
    by_cases c12 : x5_2 ≤ (l0.length : Int)
    ·
     rw [if_pos c12] at H; have c12b1 : decide (x5_2 ≤ (l0.length : Int)) = true := decide_eq_true c12; clear c12
     obtain ⟨y132, hy132⟩ : ∃ y_ : List (S42), y_ = (l0.take (x5_2 : Int).toNat) := ⟨_, rfl⟩
     replace H : (if y129.length + y132.length < 5864062014805 then ((some (y129 ++ y132 : List (S42))).bind fun y136 => (if x5_2 < (l0.length : Int) then (thermographref06_Add.j2 kj2 l0 x5_2 y136 (((rd_T42 l0 x5_2).f0) == a1_0) a1_0 a1_1 a1_2) else (thermographref06_Add.j2 kj2 l0 x5_2 y136 false a1_0 a1_1 a1_2))) else (none)) = some r := by (have H2_ := (Option.bind_some _ _).symm.trans H; rw [hy132]; with_reducible exact H2_)
     have Ny132 := Aside0.mk hy132; clear hy132
     by_cases c13 : y129.length + y132.length < 5864062014805
     ·
      rw [if_pos c13] at H; have LMc13 := Aside0.mk c13; clear c13
      obtain ⟨y136, hy136⟩ : ∃ y_ : List (S42), y_ = (y129 ++ y132) := ⟨_, rfl⟩
      replace H : (if x5_2 < (l0.length : Int) then (thermographref06_Add.j2 kj2 l0 x5_2 y136 (((rd_T42 l0 x5_2).f0) == a1_0) a1_0 a1_1 a1_2) else (thermographref06_Add.j2 kj2 l0 x5_2 y136 false a1_0 a1_1 a1_2)) = some r := by (have H2_ := (Option.bind_some _ _).symm.trans H; rw [hy136]; with_reducible exact H2_)
      have Ny136 := Aside0.mk hy136; clear hy136; have HC14 := Aside0.mk H; clear H
      go_upto_region 6 with (first | ((with_reducible refine gate_dst (N := 23) rfl ?_); refine Kd.R_lit k42 _ 42 ?hg (N := 23) ?hd (xs := ([] : List (S42))) (inner := []) (ok := fun _ => True) (okp := fun _ => True) ?hr ?hp (fun _ hk => hk) trivial (Below.refl _ _) (Nat.le_refl _) (by simp) ?_; (case hd => rfl); (case hg => rfl); (case hr => go_simp; done); (case hp => exact (Reps.none _ _)); intro v130 w15 ho16 hb hg_ hnew_; clear hg_ hnew_; ((rw [← Ny129.out] at ho16)); have n0_ := Aside0.mk (Kd.R_lower (Kd.R_newB ho16 (g := gb127) (o := .cells #[.int .i64 a1_0, .int .u64 a1_1, .int .u64 a1_2] 42 (0, 0)) BK127.out) (below_size HB.out)); have n1_ := Aside0.mk (blk_below (g := gb127) (o := .cells #[.int .i64 a1_0, .int .u64 a1_1, .int .u64 a1_2] 42 (0, 0)) BK127.out hb); have n2_ := Aside0.mk (below_step HB.out hb); clear BK127; clear HB; have HO131 := n0_; have BK127 := n1_; have HB := n2_; clear n0_ n1_ n2_; clear hb ho16; have q17 : (x5_2 : Int) ≤ ((l0.length : Int) : Int) := of_decide_eq_true (by with_reducible assumption); obtain ⟨i017, hi017, _, hsz17, _⟩ := info_parts info42; have hroom17 : l0.length ≤ c0 := HC0.out; have hC17 : Kd.C k42 _ A0 l0.length l0 := HR0.out; have hcut17 := cut_to (P := Try.prog) 44 42 .i64 Try.underlying44 hi017 A0 l0.length c0 x5_2 (of_decide_eq_true (by with_reducible assumption)) q17 hroom17; have hr17 := Kd.C_take (m := (x5_2 : Int).toNat) hC17 (by omega); have hy17 : y132.length = (x5_2 : Int).toNat := (by rw [Ny132.out, List.length_take]; omega); rw [← Ny132.out] at hr17; rw [← hy17] at hcut17; have HR135 := Aside0.mk hr17; clear hr17 hC17 hroom17 hi017 hsz17; clear hy17; replace q17 := eq_true q17) | ((with_reducible refine gate_builtin (b := .append) (xs := #[.tmp 24, .tmp 27]) rfl ?_); at_builtin; refine Kd.R_append_rows k42 (w0 := w) w.heap.size rfl (.tmp 24) (.tmp 27) 44 42 (.agg #[(.int .i64 0), (.int .u64 0), (.int .u64 0)]) 24 rfl Try.underlying44 info42 rfl (by decide) (by omega) v130 y129 y132 _ _ _ (fun k_ => k_ ≠ gb127) (fun _ => False) rfl rfl ?aO ?aR (fun _ _ h => h) (fun _ h => h.elim) ?aF ?aB ?aS ?aL ?_; (case aR => repeat (exact (Kd.C_below HR135.out HB.out))); (case aB => exact HB.out); (case aF => exact (fun k_ hk => Kd.freshB (g := gb127) (o := .cells #[.int .i64 a1_0, .int .u64 a1_1, .int .u64 a1_2] 42 (0, 0)) BK127.out k_ hk)); (case aO => exact (by exact Kd.R_mono HO131.out (fun _ hk => hk.2))); (case aS => exact (below_size HB.out)); (case aL => have := LMc13.out; omega); intro v137 w18 ho hb hg hat; rw [← Ny136.out] at ho; have n0_ := Aside0.mk (blk_grown (g := gb127) (o := .cells #[.int .i64 a1_0, .int .u64 a1_1, .int .u64 a1_2] 42 (0, 0)) BK127.out hg (Kd.R_away HO131.out (fun _ hk => hk.2))); have n1_ := Aside0.mk (hb); have n2_ := Aside0.mk (ho); clear BK127; clear HB; clear HO131; have BK127 := n0_; have HB := n1_; have HO138 := n2_; clear n0_ n1_ n2_; clear ho hb hg hat))
      (try simp only [Act.put, List.setIfInBounds_toArray, List.set_cons_zero, List.set_cons_succ])
      go_cut [42] (fun v42 wc => ∃ (kq : Nat) (x42_13 : Bool), v42 = .bool x42_13 ∧ Aside0 (thermographref06_Add.j2 kq l0 x5_2 y136 x42_13 a1_0 a1_1 a1_2 = some r) ∧ Aside0 (kq ≤ kj2) ∧ Aside0 (Kd.R k42 42 wc w.heap.size (fun k_ => k_ ≠ gb127) v137 y136) ∧ Aside0 (wc.heap[gb127]? = some (.cells #[.int .i64 a1_0, .int .u64 a1_1, .int .u64 a1_2] 42 (0, 0))) ∧ Aside0 (Below w.heap.size w wc))
      case first =>
       have H := HC14.out; clear HC14
       by_cases c19 : x5_2 < (l0.length : Int)
       ·
        rw [if_pos c19] at H; have c19b0 : decide (x5_2 < (l0.length : Int)) = true := decide_eq_true c19; clear c19
        ((skip))
        have H' := Aside0.mk H; clear H; try go_wp2
        have n0_ := Aside0.mk (Kd.R_drew HO138.out); have n1_ := Aside0.mk (blk_drew BK127.out); have n2_ := Aside0.mk (below_drew1 HB.out); clear HO138; clear BK127; clear HB; have HO138 := n0_; have BK127 := n1_; have HB := n2_; clear n0_ n1_ n2_; have p139 : 0 ≤ (x5_2 : Int) := of_decide_eq_true (by with_reducible assumption); have q139 : x5_2 < (l0.length : Int) := of_decide_eq_true (by with_reducible assumption); obtain ⟨ad139, e139, hx139_0, hx139_1, hx139_2⟩ := at_T42 HR0.out x5_2 p139 q139; have hw139_2 := hx139_2; have hw139_1 := hx139_1; have hw139_0 := hx139_0; cases e139; replace hx139_0 := (HB.out.cell (World.block_lt_of_cell? w _ hx139_0)).trans hx139_0; replace hx139_1 := (HB.out.cell (World.block_lt_of_cell? w _ hx139_1)).trans hx139_1; replace hx139_2 := (HB.out.cell (World.block_lt_of_cell? w _ hx139_2)).trans hx139_2; replace p139 := eq_true p139; replace q139 := eq_true q139; refine start_ (n := 14) (S := fun w' => w'.cell? ⟨gb127, 0, none⟩ = some (.int .i64 a1_0) ∧ w'.cell? ⟨gb127, 1, none⟩ = some (.int .u64 a1_1) ∧ w'.cell? ⟨gb127, 2, none⟩ = some (.int .u64 a1_2) ∧ w'.cell? (ad139.add ((x5_2).toNat * 3)) = some (.int .i64 ((rd_T42 l0 x5_2).f0)) ∧ w'.cell? ⟨(ad139.add ((x5_2).toNat * 3)).block, (ad139.add ((x5_2).toNat * 3)).off + 1, none⟩ = some (.int .u64 ((rd_T42 l0 x5_2).f1)) ∧ w'.cell? ⟨(ad139.add ((x5_2).toNat * 3)).block, (ad139.add ((x5_2).toNat * 3)).off + 2, none⟩ = some (.int .u64 ((rd_T42 l0 x5_2).f2))) (ds := []) (bs 14 0) (by kernel_rfl) rfl rfl ⟨(blk_cell BK127.out 0).trans rfl, (blk_cell BK127.out 1).trans rfl, (blk_cell BK127.out 2).trans rfl, ((HB.out.cell (World.block_lt_of_cell? w _ hw139_0)).trans hw139_0), ((HB.out.cell (World.block_lt_of_cell? w _ hw139_1)).trans hw139_1), ((HB.out.cell (World.block_lt_of_cell? w _ hw139_2)).trans hw139_2)⟩ (fun hHeld => ?_); refine with_tabW thermographref06_Add.tab6 thermographref06_Add.bits6 (fun HT_ HW_ => ?_); generalize w18.drew = w20 at HO138 BK127 HB hx139_0 hx139_1 hx139_2 hHeld ⊢; apply pv 0 29 (bs 14 1) HT_; rfl; rfl; kernel_rfl; exact qq; rfl; intro w'; go_simp; with_reducible rfl; simp only [zz]; rfl
        apply pv 1 30 (bs 14 3) HT_; rfl; rfl; kernel_rfl; exact qq; rfl; intro w'; go_simp; with_reducible rfl; simp only [zz]; rfl
        apply pv 2 31 (bs 14 7) HT_; rfl; rfl; kernel_rfl; exact qq; rfl; intro w'; go_simp; with_reducible rfl; simp only [zz]; rfl
        apply pv 3 32 (bs 14 15) HT_; rfl; rfl; kernel_rfl; exact qq; rfl; intro w'; go_simp; with_reducible rfl; simp only [zz]; rfl
        apply pv 4 33 (bs 14 31) HT_; rfl; rfl; kernel_rfl; exact qq; rfl; intro w'; go_simp; with_reducible rfl; simp only [zz]; rfl
        apply pv 5 34 (bs 14 63) HT_; rfl; rfl; kernel_rfl; exact qq; rfl; intro w'; go_simp; with_reducible rfl; simp only [zz]; rfl
        apply pv 6 35 (bs 14 127) HT_; rfl; rfl; kernel_rfl; exact qq; rfl; intro w'; go_simp; with_reducible rfl; simp only [zz]; rfl
        apply pv 7 36 (bs 14 255) HT_; rfl; rfl; kernel_rfl; exact qq; rfl; intro w'; go_simp; with_reducible rfl; simp only [zz]; rfl
        apply pv 8 37 (bs 14 511) HT_; rfl; rfl; kernel_rfl; exact qq; rfl; intro w'; go_simp; with_reducible rfl; simp only [zz]; rfl
        apply pv 10 39 (bs 14 1535) HT_; rfl; rfl; kernel_rfl; exact qq; rfl; intro w'; go_simp; with_reducible rfl; simp only [zz]; rfl
        apply tb 9 38 (bs 14 2047) HT_ HW_ hHeld; rfl; rfl; kernel_rfl; exact qq; rfl; rintro w' ⟨s0, s1, s2, s3, s4, s5⟩; go_simp; with_reducible rfl; simp only [zz]; rfl
        apply tb 11 40 (bs 14 4095) HT_ HW_ hHeld; rfl; rfl; kernel_rfl; exact qq; rfl; rintro w' ⟨s0, s1, s2, s3, s4, s5⟩; go_simp; with_reducible rfl; simp only [zz]; rfl
        apply pv 12 41 (bs 14 8191) HT_; rfl; rfl; kernel_rfl; exact qq; rfl; intro w'; go_simp; with_reducible rfl; simp only [zz]; rfl
        apply pv 13 42 (bs 14 16383) HT_; rfl; rfl; kernel_rfl; exact qq; rfl; intro w'; go_simp; with_reducible rfl; simp only [zz]; rfl
        refine done_ (done_of HT_.out (by kernel_rfl)) ?_; try go_wp2
        go_meet
        case rel => exact ⟨_, ((((rd_T42 l0 x5_2).f0) == a1_0)), (by rfl), H', ⟨by have := HJ2.out; omega⟩, ⟨HO138.out⟩, ⟨BK127.out⟩, ⟨HB.out⟩⟩
       ·
        rw [if_neg c19] at H; have c19b0 : decide (x5_2 < (l0.length : Int)) = false := decide_eq_false c19; clear c19
        ((skip))
        have H' := Aside0.mk H; clear H; try go_wp2
        have n0_ := Aside0.mk (Kd.R_drew HO138.out); have n1_ := Aside0.mk (blk_drew BK127.out); have n2_ := Aside0.mk (below_drew1 HB.out); clear HO138; clear BK127; clear HB; have HO138 := n0_; have BK127 := n1_; have HB := n2_; clear n0_ n1_ n2_; refine start_ (n := 14) (S := fun w' => True) (ds := []) (bs 14 0) (by kernel_rfl) rfl rfl trivial (fun hHeld => ?_); refine with_tabW thermographref06_Add.tab6 thermographref06_Add.bits6 (fun HT_ HW_ => ?_); generalize w18.drew = w21 at HO138 BK127 HB hHeld ⊢; apply pv 0 29 (bs 14 1) HT_; rfl; rfl; kernel_rfl; exact qq; rfl; intro w'; go_simp; with_reducible rfl; simp only [zz]; rfl
        apply pv 1 30 (bs 14 3) HT_; rfl; rfl; kernel_rfl; exact qq; rfl; intro w'; go_simp; with_reducible rfl; simp only [zz]; rfl
        apply pv 2 31 (bs 14 7) HT_; rfl; rfl; kernel_rfl; exact qq; rfl; intro w'; go_simp; with_reducible rfl; simp only [zz]; rfl
        apply pv 3 32 (bs 14 15) HT_; rfl; rfl; kernel_rfl; exact qq; rfl; intro w'; go_simp; with_reducible rfl; simp only [zz]; rfl
        apply pv 4 33 (bs 14 31) HT_; rfl; rfl; kernel_rfl; exact qq; rfl; intro w'; go_simp; with_reducible rfl; simp only [zz]; rfl
        apply py 5 34 (bs 14 63) HT_; rfl; rfl; kernel_rfl; exact qq; rfl; simp only [zz]; rfl; apply py 6 35 (bs 14 127) HT_; rfl; rfl; kernel_rfl; exact qq; rfl; simp only [zz]; rfl; apply py 7 36 (bs 14 255) HT_; rfl; rfl; kernel_rfl; exact qq; rfl; simp only [zz]; rfl; apply py 8 37 (bs 14 511) HT_; rfl; rfl; kernel_rfl; exact qq; rfl; simp only [zz]; rfl; apply py 9 38 (bs 14 1023) HT_; rfl; rfl; kernel_rfl; exact qq; rfl; simp only [zz]; rfl; apply py 10 39 (bs 14 2047) HT_; rfl; rfl; kernel_rfl; exact qq; rfl; simp only [zz]; rfl; apply py 11 40 (bs 14 4095) HT_; rfl; rfl; kernel_rfl; exact qq; rfl; simp only [zz]; rfl; apply py 12 41 (bs 14 8191) HT_; rfl; rfl; kernel_rfl; exact qq; rfl; simp only [zz]; rfl; apply pv 13 42 (bs 14 16383) HT_; rfl; rfl; kernel_rfl; exact qq; rfl; intro w'; go_simp; with_reducible rfl; simp only [zz]; rfl
        refine done_ (done_of HT_.out (by kernel_rfl)) ?_; try go_wp2
        go_meet
        case rel => exact ⟨_, (false), (by rfl), H', ⟨by have := HJ2.out; omega⟩, ⟨HO138.out⟩, ⟨BK127.out⟩, ⟨HB.out⟩⟩
      case rest =>
       clear HC14; try clear c11b0
       try clear c11b1
       try clear c12b1
       try clear q17
       obtain ⟨kq, x42_13, rfl, HA, HJ13, HO_6, BK127, HB⟩ := hcut
       cases kq with
       | zero => exact absurd HA.out (by simp [thermographref06_Add.j2])
       | succ kj13 =>
        have H := HA.out; clear HA; simp only [thermographref06_Add.j2] at H
        by_cases c22 : x42_13 = true
        ·
         subst c22; have H1 : (if 0 ≤ x5_2 then (if x5_2 < (l0.length : Int) then ((thermographref06_Wins.f ((rd_T42 l0 x5_2).f0) ((rd_T42 l0 x5_2).f1) ((rd_T42 l0 x5_2).f2) a1_0 a1_1 a1_2).bind fun t141 => (if t141 = true then (if y136.length < 5864062014805 then ((some (y136 ++ [(⟨(rd_T42 l0 x5_2).f0, (rd_T42 l0 x5_2).f1, (rd_T42 l0 x5_2).f2⟩ : S42)] : List (S42))).bind fun y143 => (if 0 ≤ (wrap64 (x5_2 + 1)) then (if (wrap64 (x5_2 + 1)) ≤ (l0.length : Int) then ((some (l0.drop ((wrap64 (x5_2 + 1)) : Int).toNat : List (S42))).bind fun y146 => (if y143.length + y146.length < 5864062014805 then (some (y143 ++ y146)) else (none))) else (none)) else (none))) else (none)) else (if y136.length < 5864062014805 then ((some (y136 ++ [(⟨a1_0, a1_1, a1_2⟩ : S42)] : List (S42))).bind fun y153 => (if 0 ≤ (wrap64 (x5_2 + 1)) then (if (wrap64 (x5_2 + 1)) ≤ (l0.length : Int) then ((some (l0.drop ((wrap64 (x5_2 + 1)) : Int).toNat : List (S42))).bind fun y156 => (if y153.length + y156.length < 5864062014805 then (some (y153 ++ y156)) else (none))) else (none)) else (none))) else (none)))) else (none)) else (none)) = some r := by rw [if_pos rfl] at H; exact H
         clear H; have H := H1; clear H1
         by_cases c23 : 0 ≤ x5_2
         ·
          rw [if_pos c23] at H; have c23b0 : decide (0 ≤ x5_2) = true := decide_eq_true c23; clear c23
          by_cases c24 : x5_2 < (l0.length : Int)
          ·
           rw [if_pos c24] at H; have c24b0 : decide (x5_2 < (l0.length : Int)) = true := decide_eq_true c24; clear c24; replace H := Option.bind_eq_some_iff.mp H; obtain ⟨t141, A250, H⟩ := H; replace H : (if t141 = true then (if y136.length < 5864062014805 then ((some (y136 ++ [(⟨(rd_T42 l0 x5_2).f0, (rd_T42 l0 x5_2).f1, (rd_T42 l0 x5_2).f2⟩ : S42)] : List (S42))).bind fun y143 => (if 0 ≤ (wrap64 (x5_2 + 1)) then (if (wrap64 (x5_2 + 1)) ≤ (l0.length : Int) then ((some (l0.drop ((wrap64 (x5_2 + 1)) : Int).toNat : List (S42))).bind fun y146 => (if y143.length + y146.length < 5864062014805 then (some (y143 ++ y146)) else (none))) else (none)) else (none))) else (none)) else (if y136.length < 5864062014805 then ((some (y136 ++ [(⟨a1_0, a1_1, a1_2⟩ : S42)] : List (S42))).bind fun y153 => (if 0 ≤ (wrap64 (x5_2 + 1)) then (if (wrap64 (x5_2 + 1)) ≤ (l0.length : Int) then ((some (l0.drop ((wrap64 (x5_2 + 1)) : Int).toNat : List (S42))).bind fun y156 => (if y153.length + y156.length < 5864062014805 then (some (y153 ++ y156)) else (none))) else (none)) else (none))) else (none))) = some r := H; have A25 := Aside0.mk A250; clear A250
           by_cases c26 : t141 = true
           ·
            subst c26; have H1 : (if y136.length < 5864062014805 then ((some (y136 ++ [(⟨(rd_T42 l0 x5_2).f0, (rd_T42 l0 x5_2).f1, (rd_T42 l0 x5_2).f2⟩ : S42)] : List (S42))).bind fun y143 => (if 0 ≤ (wrap64 (x5_2 + 1)) then (if (wrap64 (x5_2 + 1)) ≤ (l0.length : Int) then ((some (l0.drop ((wrap64 (x5_2 + 1)) : Int).toNat : List (S42))).bind fun y146 => (if y143.length + y146.length < 5864062014805 then (some (y143 ++ y146)) else (none))) else (none)) else (none))) else (none)) = some r := by rw [if_pos rfl] at H; exact H
            clear H; have H := H1; clear H1
            by_cases c27 : y136.length < 5864062014805
            ·
             rw [if_pos c27] at H; have LMc27 := Aside0.mk c27; clear c27
             obtain ⟨y143, hy143⟩ : ∃ y_ : List (S42), y_ = (y136 ++ [(⟨(rd_T42 l0 x5_2).f0, (rd_T42 l0 x5_2).f1, (rd_T42 l0 x5_2).f2⟩ : S42)]) := ⟨_, rfl⟩
             replace H : (if 0 ≤ (wrap64 (x5_2 + 1)) then (if (wrap64 (x5_2 + 1)) ≤ (l0.length : Int) then ((some (l0.drop ((wrap64 (x5_2 + 1)) : Int).toNat : List (S42))).bind fun y146 => (if y143.length + y146.length < 5864062014805 then (some (y143 ++ y146)) else (none))) else (none)) else (none)) = some r := by (have H2_ := (Option.bind_some _ _).symm.trans H; rw [hy143]; with_reducible exact H2_)
             have Ny143 := Aside0.mk hy143; clear hy143
             obtain ⟨ji28, hji28⟩ : ∃ j_ : Int, (wrap64 (x5_2 + 1)) = j_ := ⟨_, rfl⟩
             replace H : (if 0 ≤ (ji28) then (if (ji28) ≤ (l0.length : Int) then ((some (l0.drop ((ji28) : Int).toNat : List (S42))).bind fun y146 => (if y143.length + y146.length < 5864062014805 then (some (y143 ++ y146)) else (none))) else (none)) else (none)) = some r := by (rw [hji28] at H; exact H)
             (try rw [hji28] at A25)
             have hji28w : (IntKind.i64.wrap (x5_2 + 1)) = ji28 := (i64_w _).trans hji28
             by_cases c29 : 0 ≤ (ji28)
             ·
              rw [if_pos c29] at H; have c29b1 : decide (0 ≤ (ji28)) = true := decide_eq_true c29; clear c29
              by_cases c30 : (ji28) ≤ (l0.length : Int)
              ·
               rw [if_pos c30] at H; have c30b1 : decide ((ji28) ≤ (l0.length : Int)) = true := decide_eq_true c30; clear c30
               obtain ⟨y146, hy146⟩ : ∃ y_ : List (S42), y_ = (l0.drop ((ji28) : Int).toNat) := ⟨_, rfl⟩
               replace H : (if y143.length + y146.length < 5864062014805 then (some (y143 ++ y146)) else (none)) = some r := by (have H2_ := (Option.bind_some _ _).symm.trans H; rw [hy146]; with_reducible exact H2_)
               have Ny146 := Aside0.mk hy146; clear hy146
               by_cases c31 : y143.length + y146.length < 5864062014805
               ·
                rw [if_pos c31] at H; have LMc31 := Aside0.mk c31; clear c31
                obtain ⟨y150, hy150⟩ : ∃ y_ : List (S42), y_ = (y143 ++ y146) := ⟨_, rfl⟩
                replace H : (some y150) = some r := by (rw [hy150]; with_reducible exact H)
                have Ny150 := Aside0.mk hy150; clear hy150; obtain rfl := Option.some.inj H; try go_wp2
                have n0_ := Aside0.mk (Kd.R_drew HO_6.out); have n1_ := Aside0.mk (blk_drew BK127.out); have n2_ := Aside0.mk (below_drew1 HB.out); clear HO_6; clear BK127; clear HB; have HO_6 := n0_; have BK127 := n1_; have HB := n2_; clear n0_ n1_ n2_; have p140 : 0 ≤ (x5_2 : Int) := of_decide_eq_true (by with_reducible assumption); have q140 : x5_2 < (l0.length : Int) := of_decide_eq_true (by with_reducible assumption); obtain ⟨ad140, e140, hx140_0, hx140_1, hx140_2⟩ := at_T42 HR0.out x5_2 p140 q140; have hw140_2 := hx140_2; have hw140_1 := hx140_1; have hw140_0 := hx140_0; cases e140; replace hx140_0 := (HB.out.cell (World.block_lt_of_cell? w _ hx140_0)).trans hx140_0; replace hx140_1 := (HB.out.cell (World.block_lt_of_cell? w _ hx140_1)).trans hx140_1; replace hx140_2 := (HB.out.cell (World.block_lt_of_cell? w _ hx140_2)).trans hx140_2; replace p140 := eq_true p140; replace q140 := eq_true q140; refine start_ (n := 6) (S := fun w' => w'.cell? ⟨gb127, 0, none⟩ = some (.int .i64 a1_0) ∧ w'.cell? ⟨gb127, 1, none⟩ = some (.int .u64 a1_1) ∧ w'.cell? ⟨gb127, 2, none⟩ = some (.int .u64 a1_2) ∧ w'.cell? (ad140.add ((x5_2).toNat * 3)) = some (.int .i64 ((rd_T42 l0 x5_2).f0)) ∧ w'.cell? ⟨(ad140.add ((x5_2).toNat * 3)).block, (ad140.add ((x5_2).toNat * 3)).off + 1, none⟩ = some (.int .u64 ((rd_T42 l0 x5_2).f1)) ∧ w'.cell? ⟨(ad140.add ((x5_2).toNat * 3)).block, (ad140.add ((x5_2).toNat * 3)).off + 2, none⟩ = some (.int .u64 ((rd_T42 l0 x5_2).f2))) (ds := []) (bs 6 0) (by kernel_rfl) rfl rfl ⟨(blk_cell BK127.out 0).trans rfl, (blk_cell BK127.out 1).trans rfl, (blk_cell BK127.out 2).trans rfl, ((HB.out.cell (World.block_lt_of_cell? w _ hw140_0)).trans hw140_0), ((HB.out.cell (World.block_lt_of_cell? w _ hw140_1)).trans hw140_1), ((HB.out.cell (World.block_lt_of_cell? w _ hw140_2)).trans hw140_2)⟩ (fun hHeld => ?_); generalize wc.drew = w32 at HO_6 BK127 HB hx140_0 hx140_1 hx140_2 hHeld ⊢; refine pure_ (i := 0) (N := some 43) (v := ?_) (a' := ?_) (bs 6 1) rfl rfl (by kernel_rfl) (fun _ _ _ h => h) (Or.inl ⟨by rfl, ?_⟩) ?_ ?_; rotate_left
                ·
                 intro w'; go_simp; with_reducible rfl
                rotate_left
                ·
                 simp only [Act.put, List.setIfInBounds_toArray, List.set_cons_zero, List.set_cons_succ, i64_w, i32_w]; rfl
                refine pure_ (i := 1) (N := some 44) (v := ?_) (a' := ?_) (bs 6 3) rfl rfl (by kernel_rfl) (fun _ _ _ h => h) (Or.inl ⟨by rfl, ?_⟩) ?_ ?_; rotate_left
                ·
                 intro w'; go_simp; with_reducible rfl
                rotate_left
                ·
                 simp only [Act.put, List.setIfInBounds_toArray, List.set_cons_zero, List.set_cons_succ, i64_w, i32_w]; rfl
                refine pure_ (i := 2) (N := some 45) (v := ?_) (a' := ?_) (bs 6 7) rfl rfl (by kernel_rfl) (fun _ _ _ h => h) (Or.inl ⟨by rfl, ?_⟩) ?_ ?_; rotate_left
                ·
                 intro w'; go_simp; with_reducible rfl
                rotate_left
                ·
                 simp only [Act.put, List.setIfInBounds_toArray, List.set_cons_zero, List.set_cons_succ, i64_w, i32_w]; rfl
                refine take_ (i := 3) (N := some 46) (v := ?_) (a' := ?_) (bs 6 15) rfl rfl (by kernel_rfl) (fun _ _ _ h => h) (Or.inl ⟨by rfl, ?_⟩) hHeld ?_ ?_; rotate_left
                ·
                 rintro w' ⟨s0, s1, s2, s3, s4, s5⟩; go_simp; with_reducible rfl
                rotate_left
                ·
                 simp only [Act.put, List.setIfInBounds_toArray, List.set_cons_zero, List.set_cons_succ, i64_w, i32_w]; rfl
                refine take_ (i := 4) (N := some 47) (v := ?_) (a' := ?_) (bs 6 31) rfl rfl (by kernel_rfl) (fun _ _ _ h => h) (Or.inl ⟨by rfl, ?_⟩) hHeld ?_ ?_; rotate_left
                ·
                 rintro w' ⟨s0, s1, s2, s3, s4, s5⟩; go_simp; with_reducible rfl
                rotate_left
                ·
                 simp only [Act.put, List.setIfInBounds_toArray, List.set_cons_zero, List.set_cons_succ, i64_w, i32_w]; rfl
                refine one_ (i := 5) (N := some 48) (bs 6 63) rfl rfl (by kernel_rfl) (by decide) (fun K hK => ?_); refine goes_ Try.func56 (by kernel_rfl) rfl #[.agg #[.int .i64 ((rd_T42 l0 x5_2).f0), .int .u64 ((rd_T42 l0 x5_2).f1), .int .u64 ((rd_T42 l0 x5_2).f2)], .agg #[.int .i64 a1_0, .int .u64 a1_1, .int .u64 a1_2]] (by rfl) rfl rfl (by (try simp only [List.map_toArray, List.map_cons, List.map_nil]); rfl) ?_; with_reducible refine (thermographref06_Wins.calls ((rd_T42 l0 x5_2).f0) ((rd_T42 l0 x5_2).f1) ((rd_T42 l0 x5_2).f2) a1_0 a1_1 a1_2 true _ A25.out).mono ?_
                rintro e w33 ⟨rfl, hb⟩; refine ⟨_, rfl, ?_⟩; have n0_ := Aside0.mk (Kd.R_below HO_6.out hb); have n1_ := Aside0.mk (blk_below (g := gb127) (o := .cells #[.int .i64 a1_0, .int .u64 a1_1, .int .u64 a1_2] 42 (0, 0)) BK127.out hb); have n2_ := Aside0.mk (below_step HB.out hb); clear HO_6; clear BK127; clear HB; have HO_6 := n0_; have BK127 := n1_; have HB := n2_; clear n0_ n1_ n2_
                (try clear hb)
                (try clear hb2)
                (try clear hk)
                (try clear hi)
                refine hK.out _ _ ⟨(blk_cell BK127.out 0).trans rfl, (blk_cell BK127.out 1).trans rfl, (blk_cell BK127.out 2).trans rfl, ((HB.out.cell (World.block_lt_of_cell? w _ hw140_0)).trans hw140_0), ((HB.out.cell (World.block_lt_of_cell? w _ hw140_1)).trans hw140_1), ((HB.out.cell (World.block_lt_of_cell? w _ hw140_2)).trans hw140_2)⟩ (fun hHeld => ?_); clear hK K; refine norm_ (a' := ?_) ?_ ?_; rotate_left
                ·
                 show Act.put _ (some 48) _ = _; simp only [Act.put, List.setIfInBounds_toArray, List.set_cons_zero, List.set_cons_succ, i64_w, i32_w]; rfl
                refine done_ (by kernel_rfl) ?_; have p142 : 0 ≤ (x5_2 : Int) := of_decide_eq_true (by with_reducible assumption); have q142 : x5_2 < (l0.length : Int) := of_decide_eq_true (by with_reducible assumption); obtain ⟨ad142, e142, hx142_0, hx142_1, hx142_2⟩ := at_T42 HR0.out x5_2 p142 q142
                obtain rfl : ad140 = ad142 := (by injection e142)
                replace hx142_0 := (HB.out.cell (World.block_lt_of_cell? w _ hx142_0)).trans hx142_0; replace hx142_1 := (HB.out.cell (World.block_lt_of_cell? w _ hx142_1)).trans hx142_1; replace hx142_2 := (HB.out.cell (World.block_lt_of_cell? w _ hx142_2)).trans hx142_2; replace p142 := eq_true p142; replace q142 := eq_true q142; have hfz34_0 := blk_frozen BK127.out 0; have hfz34_1 := blk_frozen BK127.out 1; have hfz34_2 := blk_frozen BK127.out 2
                try go_wp2_with (first | ((with_reducible refine gate_builtin (b := .append) (xs := #[.tmp 53, .tmp 55]) rfl ?_); at_builtin; refine Kd.R_append k42 (w0 := w) w.heap.size rfl (.tmp 53) (.tmp 55) 44 42 (.agg #[(.int .i64 0), (.int .u64 0), (.int .u64 0)]) 24 rfl Try.underlying44 info42 rfl (by decide) (by omega) v137 y136 (⟨(rd_T42 l0 x5_2).f0, (rd_T42 l0 x5_2).f1, (rd_T42 l0 x5_2).f2⟩ : S42) [.int .i64 ((rd_T42 l0 x5_2).f0), .int .u64 ((rd_T42 l0 x5_2).f1), .int .u64 ((rd_T42 l0 x5_2).f2)] (fun k_ => k_ ≠ gb127) (fun _ => False) rfl (by (go_simp; done)) ?aP (fun _ hk => hk.elim) ?aF ?aO ?aB ?aS ?aL ?_; (case aP => exact k42_mkM _ _ _ (⟨(rd_T42 l0 x5_2).f0, (rd_T42 l0 x5_2).f1, (rd_T42 l0 x5_2).f2⟩ : S42)); (case aB => exact (by repeat ((with_reducible first | exact HB.out | refine below_set ?_ GE127.out)))); (case aF => exact (fun k_ hk => Kd.freshB (g := gb127) (o := .cells #[.int .i64 ((rd_T42 l0 x5_2).f0), .int .u64 ((rd_T42 l0 x5_2).f1), .int .u64 ((rd_T42 l0 x5_2).f2)] 42 (0, 0)) (by refine blk_put (cs := #[.int .i64 ((rd_T42 l0 x5_2).f0), .int .u64 ((rd_T42 l0 x5_2).f1), .int .u64 a1_2]) ?_ 2 _ rfl; refine blk_put (cs := #[.int .i64 ((rd_T42 l0 x5_2).f0), .int .u64 a1_1, .int .u64 a1_2]) ?_ 1 _ rfl; refine blk_put (cs := #[.int .i64 a1_0, .int .u64 a1_1, .int .u64 a1_2]) ?_ 0 _ rfl; exact BK127.out) k_ hk)); (case aO => exact (by exact Kd.R_mono (Kd.R_far (p := ⟨gb127, 2, none⟩) (Kd.R_far (p := ⟨gb127, 1, none⟩) (Kd.R_far (p := ⟨gb127, 0, none⟩) (Kd.R_mono HO_6.out (fun k_ hk => (⟨hk, hk⟩ : _ ∧ k_ ≠ gb127))) (fun _ hk => hk.2) (.int .i64 ((rd_T42 l0 x5_2).f0))) (fun _ hk => hk.2) (.int .u64 ((rd_T42 l0 x5_2).f1))) (fun _ hk => hk.2) (.int .u64 ((rd_T42 l0 x5_2).f2))) (fun _ hk => hk.1))); (case aS => exact (below_size (by repeat ((with_reducible first | exact HB.out | refine below_set ?_ GE127.out))))); (case aL => have := LMc27.out; omega); intro v144 w35 ho hb hg hat; rw [← Ny143.out] at ho; have n0_ := Aside0.mk (blk_grown (g := gb127) (o := .cells #[.int .i64 ((rd_T42 l0 x5_2).f0), .int .u64 ((rd_T42 l0 x5_2).f1), .int .u64 ((rd_T42 l0 x5_2).f2)] 42 (0, 0)) (by refine blk_put (cs := #[.int .i64 ((rd_T42 l0 x5_2).f0), .int .u64 ((rd_T42 l0 x5_2).f1), .int .u64 a1_2]) ?_ 2 _ rfl; refine blk_put (cs := #[.int .i64 ((rd_T42 l0 x5_2).f0), .int .u64 a1_1, .int .u64 a1_2]) ?_ 1 _ rfl; refine blk_put (cs := #[.int .i64 a1_0, .int .u64 a1_1, .int .u64 a1_2]) ?_ 0 _ rfl; exact BK127.out) hg (Kd.R_away HO_6.out (fun _ hk => hk))); have n1_ := Aside0.mk (hb); have n2_ := Aside0.mk (ho); clear BK127; clear HB; clear HO_6; have BK127 := n0_; have HB := n1_; have HO145 := n2_; clear n0_ n1_ n2_; clear ho hb hg hat; have q36 : ((ji28) : Int) ≤ ((l0.length : Int) : Int) := of_decide_eq_true (by with_reducible assumption); obtain ⟨i036, hi036, _, hsz36, _⟩ := info_parts info42; have hroom36 : l0.length ≤ c0 := HC0.out; have hC36 : Kd.C k42 _ (some ad140) l0.length l0 := HR0.out; have q036 : (0 : Int) ≤ ((ji28) : Int) := of_decide_eq_true (by with_reducible assumption); have hcut36 := cut_from (P := Try.prog) 44 42 .i64 Try.underlying44 hi036 3 hsz36 (some ad140) l0.length c0 (ji28) q036 q36; have hr36 := Kd.C_drop (m := ((ji28) : Int).toNat) (c := c0) hC36 (by omega) hroom36; obtain ⟨A36, hA36⟩ : ∃ A1, A1 = (if c0 = ((ji28) : Int).toNat then (some ad140) else ((some ad140) : Option Addr).map (·.add (((ji28) : Int).toNat * 3))) := ⟨_, rfl⟩; obtain ⟨c36, hc36⟩ : ∃ c1, c1 = c0 - ((ji28) : Int).toNat := ⟨_, rfl⟩; have hy36 : y146.length = l0.length - ((ji28) : Int).toNat := (by rw [Ny146.out, List.length_drop] <;> omega); rw [show (l0).drop ((ji28) : Int).toNat = y146 from Ny146.out.symm] at hr36; replace hr36 : Kd.C k42 _ A36 y146.length y146 := (by rw [hA36]; exact hr36); rw [← hy36, ← hA36, ← hc36] at hcut36; have HR149 := Aside0.mk hr36; clear hr36 hC36 hroom36 hi036 hsz36 hc36; clear hy36 hA36; replace q36 := eq_true q36) | ((with_reducible refine gate_builtin (b := .append) (xs := #[.tmp 57, .tmp 61]) rfl ?_); at_builtin; refine Kd.R_append_rows k42 (w0 := w) w.heap.size rfl (.tmp 57) (.tmp 61) 44 42 (.agg #[(.int .i64 0), (.int .u64 0), (.int .u64 0)]) 24 rfl Try.underlying44 info42 rfl (by decide) (by omega) v144 y143 y146 _ _ _ (fun k_ => k_ ≠ gb127) (fun _ => False) rfl rfl ?aO ?aR (fun _ _ h => h) (fun _ h => h.elim) ?aF ?aB ?aS ?aL ?_; (case aR => repeat (exact (Kd.C_below HR149.out HB.out))); (case aB => exact HB.out); (case aF => exact (fun k_ hk => Kd.freshB (g := gb127) (o := .cells #[.int .i64 ((rd_T42 l0 x5_2).f0), .int .u64 ((rd_T42 l0 x5_2).f1), .int .u64 ((rd_T42 l0 x5_2).f2)] 42 (0, 0)) BK127.out k_ hk)); (case aO => exact HO145.out); (case aS => exact (below_size HB.out)); (case aL => have := LMc31.out; omega); intro v151 w37 ho hb hg hat; rw [← Ny150.out] at ho; have n0_ := Aside0.mk (blk_grown (g := gb127) (o := .cells #[.int .i64 ((rd_T42 l0 x5_2).f0), .int .u64 ((rd_T42 l0 x5_2).f1), .int .u64 ((rd_T42 l0 x5_2).f2)] 42 (0, 0)) BK127.out hg (Kd.R_away HO145.out (fun _ hk => hk))); have n1_ := Aside0.mk (hb); have n2_ := Aside0.mk (ho); clear BK127; clear HB; clear HO145; have BK127 := n0_; have HB := n1_; have HO152 := n2_; clear n0_ n1_ n2_; clear ho hb hg hat))
                go_ret; exact ⟨_, by rfl, by exact Kd.R_mono HO152.out (fun _ hk => trivial), by repeat ((with_reducible exact HB.out))⟩
               ·
                rw [if_neg c31] at H; exact absurd H (by simp)
              ·
               rw [if_neg c30] at H; exact absurd H (by simp)
             ·
              rw [if_neg c29] at H; exact absurd H (by simp)
            ·
             rw [if_neg c27] at H; exact absurd H (by simp)
           ·
            replace c26 := Bool.eq_false_iff.mpr c26; subst c26; have H1 : (if y136.length < 5864062014805 then ((some (y136 ++ [(⟨a1_0, a1_1, a1_2⟩ : S42)] : List (S42))).bind fun y153 => (if 0 ≤ (wrap64 (x5_2 + 1)) then (if (wrap64 (x5_2 + 1)) ≤ (l0.length : Int) then ((some (l0.drop ((wrap64 (x5_2 + 1)) : Int).toNat : List (S42))).bind fun y156 => (if y153.length + y156.length < 5864062014805 then (some (y153 ++ y156)) else (none))) else (none)) else (none))) else (none)) = some r := by rw [if_neg (show ¬ (false = true) by decide)] at H; exact H
            clear H; have H := H1; clear H1
            by_cases c38 : y136.length < 5864062014805
            ·
             rw [if_pos c38] at H; have LMc38 := Aside0.mk c38; clear c38
             obtain ⟨y153, hy153⟩ : ∃ y_ : List (S42), y_ = (y136 ++ [(⟨a1_0, a1_1, a1_2⟩ : S42)]) := ⟨_, rfl⟩
             replace H : (if 0 ≤ (wrap64 (x5_2 + 1)) then (if (wrap64 (x5_2 + 1)) ≤ (l0.length : Int) then ((some (l0.drop ((wrap64 (x5_2 + 1)) : Int).toNat : List (S42))).bind fun y156 => (if y153.length + y156.length < 5864062014805 then (some (y153 ++ y156)) else (none))) else (none)) else (none)) = some r := by (have H2_ := (Option.bind_some _ _).symm.trans H; rw [hy153]; with_reducible exact H2_)
             have Ny153 := Aside0.mk hy153; clear hy153
             obtain ⟨ji39, hji39⟩ : ∃ j_ : Int, (wrap64 (x5_2 + 1)) = j_ := ⟨_, rfl⟩
             replace H : (if 0 ≤ (ji39) then (if (ji39) ≤ (l0.length : Int) then ((some (l0.drop ((ji39) : Int).toNat : List (S42))).bind fun y156 => (if y153.length + y156.length < 5864062014805 then (some (y153 ++ y156)) else (none))) else (none)) else (none)) = some r := by (rw [hji39] at H; exact H)
             (try rw [hji39] at A25)
             have hji39w : (IntKind.i64.wrap (x5_2 + 1)) = ji39 := (i64_w _).trans hji39
             by_cases c40 : 0 ≤ (ji39)
             ·
              rw [if_pos c40] at H; have c40b1 : decide (0 ≤ (ji39)) = true := decide_eq_true c40; clear c40
              by_cases c41 : (ji39) ≤ (l0.length : Int)
              ·
               rw [if_pos c41] at H; have c41b1 : decide ((ji39) ≤ (l0.length : Int)) = true := decide_eq_true c41; clear c41
               obtain ⟨y156, hy156⟩ : ∃ y_ : List (S42), y_ = (l0.drop ((ji39) : Int).toNat) := ⟨_, rfl⟩
               replace H : (if y153.length + y156.length < 5864062014805 then (some (y153 ++ y156)) else (none)) = some r := by (have H2_ := (Option.bind_some _ _).symm.trans H; rw [hy156]; with_reducible exact H2_)
               have Ny156 := Aside0.mk hy156; clear hy156
               by_cases c42 : y153.length + y156.length < 5864062014805
               ·
                rw [if_pos c42] at H; have LMc42 := Aside0.mk c42; clear c42
                obtain ⟨y160, hy160⟩ : ∃ y_ : List (S42), y_ = (y153 ++ y156) := ⟨_, rfl⟩
                replace H : (some y160) = some r := by (rw [hy160]; with_reducible exact H)
                have Ny160 := Aside0.mk hy160; clear hy160; obtain rfl := Option.some.inj H; try go_wp2
                have n0_ := Aside0.mk (Kd.R_drew HO_6.out); have n1_ := Aside0.mk (blk_drew BK127.out); have n2_ := Aside0.mk (below_drew1 HB.out); clear HO_6; clear BK127; clear HB; have HO_6 := n0_; have BK127 := n1_; have HB := n2_; clear n0_ n1_ n2_; have p140 : 0 ≤ (x5_2 : Int) := of_decide_eq_true (by with_reducible assumption); have q140 : x5_2 < (l0.length : Int) := of_decide_eq_true (by with_reducible assumption); obtain ⟨ad140, e140, hx140_0, hx140_1, hx140_2⟩ := at_T42 HR0.out x5_2 p140 q140; have hw140_2 := hx140_2; have hw140_1 := hx140_1; have hw140_0 := hx140_0; cases e140; replace hx140_0 := (HB.out.cell (World.block_lt_of_cell? w _ hx140_0)).trans hx140_0; replace hx140_1 := (HB.out.cell (World.block_lt_of_cell? w _ hx140_1)).trans hx140_1; replace hx140_2 := (HB.out.cell (World.block_lt_of_cell? w _ hx140_2)).trans hx140_2; replace p140 := eq_true p140; replace q140 := eq_true q140; refine start_ (n := 6) (S := fun w' => w'.cell? ⟨gb127, 0, none⟩ = some (.int .i64 a1_0) ∧ w'.cell? ⟨gb127, 1, none⟩ = some (.int .u64 a1_1) ∧ w'.cell? ⟨gb127, 2, none⟩ = some (.int .u64 a1_2) ∧ w'.cell? (ad140.add ((x5_2).toNat * 3)) = some (.int .i64 ((rd_T42 l0 x5_2).f0)) ∧ w'.cell? ⟨(ad140.add ((x5_2).toNat * 3)).block, (ad140.add ((x5_2).toNat * 3)).off + 1, none⟩ = some (.int .u64 ((rd_T42 l0 x5_2).f1)) ∧ w'.cell? ⟨(ad140.add ((x5_2).toNat * 3)).block, (ad140.add ((x5_2).toNat * 3)).off + 2, none⟩ = some (.int .u64 ((rd_T42 l0 x5_2).f2))) (ds := []) (bs 6 0) (by kernel_rfl) rfl rfl ⟨(blk_cell BK127.out 0).trans rfl, (blk_cell BK127.out 1).trans rfl, (blk_cell BK127.out 2).trans rfl, ((HB.out.cell (World.block_lt_of_cell? w _ hw140_0)).trans hw140_0), ((HB.out.cell (World.block_lt_of_cell? w _ hw140_1)).trans hw140_1), ((HB.out.cell (World.block_lt_of_cell? w _ hw140_2)).trans hw140_2)⟩ (fun hHeld => ?_); generalize wc.drew = w43 at HO_6 BK127 HB hx140_0 hx140_1 hx140_2 hHeld ⊢; refine pure_ (i := 0) (N := some 43) (v := ?_) (a' := ?_) (bs 6 1) rfl rfl (by kernel_rfl) (fun _ _ _ h => h) (Or.inl ⟨by rfl, ?_⟩) ?_ ?_; rotate_left
                ·
                 intro w'; go_simp; with_reducible rfl
                rotate_left
                ·
                 simp only [Act.put, List.setIfInBounds_toArray, List.set_cons_zero, List.set_cons_succ, i64_w, i32_w]; rfl
                refine pure_ (i := 1) (N := some 44) (v := ?_) (a' := ?_) (bs 6 3) rfl rfl (by kernel_rfl) (fun _ _ _ h => h) (Or.inl ⟨by rfl, ?_⟩) ?_ ?_; rotate_left
                ·
                 intro w'; go_simp; with_reducible rfl
                rotate_left
                ·
                 simp only [Act.put, List.setIfInBounds_toArray, List.set_cons_zero, List.set_cons_succ, i64_w, i32_w]; rfl
                refine pure_ (i := 2) (N := some 45) (v := ?_) (a' := ?_) (bs 6 7) rfl rfl (by kernel_rfl) (fun _ _ _ h => h) (Or.inl ⟨by rfl, ?_⟩) ?_ ?_; rotate_left
                ·
                 intro w'; go_simp; with_reducible rfl
                rotate_left
                ·
                 simp only [Act.put, List.setIfInBounds_toArray, List.set_cons_zero, List.set_cons_succ, i64_w, i32_w]; rfl
                refine take_ (i := 3) (N := some 46) (v := ?_) (a' := ?_) (bs 6 15) rfl rfl (by kernel_rfl) (fun _ _ _ h => h) (Or.inl ⟨by rfl, ?_⟩) hHeld ?_ ?_; rotate_left
                ·
                 rintro w' ⟨s0, s1, s2, s3, s4, s5⟩; go_simp; with_reducible rfl
                rotate_left
                ·
                 simp only [Act.put, List.setIfInBounds_toArray, List.set_cons_zero, List.set_cons_succ, i64_w, i32_w]; rfl
                refine take_ (i := 4) (N := some 47) (v := ?_) (a' := ?_) (bs 6 31) rfl rfl (by kernel_rfl) (fun _ _ _ h => h) (Or.inl ⟨by rfl, ?_⟩) hHeld ?_ ?_; rotate_left
                ·
                 rintro w' ⟨s0, s1, s2, s3, s4, s5⟩; go_simp; with_reducible rfl
                rotate_left
                ·
                 simp only [Act.put, List.setIfInBounds_toArray, List.set_cons_zero, List.set_cons_succ, i64_w, i32_w]; rfl
                refine one_ (i := 5) (N := some 48) (bs 6 63) rfl rfl (by kernel_rfl) (by decide) (fun K hK => ?_); refine goes_ Try.func56 (by kernel_rfl) rfl #[.agg #[.int .i64 ((rd_T42 l0 x5_2).f0), .int .u64 ((rd_T42 l0 x5_2).f1), .int .u64 ((rd_T42 l0 x5_2).f2)], .agg #[.int .i64 a1_0, .int .u64 a1_1, .int .u64 a1_2]] (by rfl) rfl rfl (by (try simp only [List.map_toArray, List.map_cons, List.map_nil]); rfl) ?_; with_reducible refine (thermographref06_Wins.calls ((rd_T42 l0 x5_2).f0) ((rd_T42 l0 x5_2).f1) ((rd_T42 l0 x5_2).f2) a1_0 a1_1 a1_2 false _ A25.out).mono ?_
                rintro e w44 ⟨rfl, hb⟩; refine ⟨_, rfl, ?_⟩; have n0_ := Aside0.mk (Kd.R_below HO_6.out hb); have n1_ := Aside0.mk (blk_below (g := gb127) (o := .cells #[.int .i64 a1_0, .int .u64 a1_1, .int .u64 a1_2] 42 (0, 0)) BK127.out hb); have n2_ := Aside0.mk (below_step HB.out hb); clear HO_6; clear BK127; clear HB; have HO_6 := n0_; have BK127 := n1_; have HB := n2_; clear n0_ n1_ n2_
                (try clear hb)
                (try clear hb2)
                (try clear hk)
                (try clear hi)
                refine hK.out _ _ ⟨(blk_cell BK127.out 0).trans rfl, (blk_cell BK127.out 1).trans rfl, (blk_cell BK127.out 2).trans rfl, ((HB.out.cell (World.block_lt_of_cell? w _ hw140_0)).trans hw140_0), ((HB.out.cell (World.block_lt_of_cell? w _ hw140_1)).trans hw140_1), ((HB.out.cell (World.block_lt_of_cell? w _ hw140_2)).trans hw140_2)⟩ (fun hHeld => ?_); clear hK K; refine norm_ (a' := ?_) ?_ ?_; rotate_left
                ·
                 show Act.put _ (some 48) _ = _; simp only [Act.put, List.setIfInBounds_toArray, List.set_cons_zero, List.set_cons_succ, i64_w, i32_w]; rfl
                refine done_ (by kernel_rfl) ?_
                try go_wp2_with (first | ((with_reducible refine gate_builtin (b := .append) (xs := #[.tmp 53, .tmp 55]) rfl ?_); at_builtin; refine Kd.R_append k42 (w0 := w) w.heap.size rfl (.tmp 53) (.tmp 55) 44 42 (.agg #[(.int .i64 0), (.int .u64 0), (.int .u64 0)]) 24 rfl Try.underlying44 info42 rfl (by decide) (by omega) v137 y136 (⟨a1_0, a1_1, a1_2⟩ : S42) [.int .i64 a1_0, .int .u64 a1_1, .int .u64 a1_2] (fun k_ => k_ ≠ gb127) (fun _ => False) rfl rfl ?aP (fun _ hk => hk.elim) ?aF ?aO ?aB ?aS ?aL ?_; (case aP => exact k42_mkM _ _ _ (⟨a1_0, a1_1, a1_2⟩ : S42)); (case aB => exact HB.out); (case aF => exact (fun k_ hk => Kd.freshB (g := gb127) (o := .cells #[.int .i64 a1_0, .int .u64 a1_1, .int .u64 a1_2] 42 (0, 0)) BK127.out k_ hk)); (case aO => exact HO_6.out); (case aS => exact (below_size HB.out)); (case aL => have := LMc38.out; omega); intro v154 w46 ho hb hg hat; rw [← Ny153.out] at ho; have n0_ := Aside0.mk (blk_grown (g := gb127) (o := .cells #[.int .i64 a1_0, .int .u64 a1_1, .int .u64 a1_2] 42 (0, 0)) BK127.out hg (Kd.R_away HO_6.out (fun _ hk => hk))); have n1_ := Aside0.mk (hb); have n2_ := Aside0.mk (ho); clear BK127; clear HB; clear HO_6; have BK127 := n0_; have HB := n1_; have HO155 := n2_; clear n0_ n1_ n2_; clear ho hb hg hat; have q47 : ((ji39) : Int) ≤ ((l0.length : Int) : Int) := of_decide_eq_true (by with_reducible assumption); obtain ⟨i047, hi047, _, hsz47, _⟩ := info_parts info42; have hroom47 : l0.length ≤ c0 := HC0.out; have hC47 : Kd.C k42 _ (some ad140) l0.length l0 := HR0.out; have q047 : (0 : Int) ≤ ((ji39) : Int) := of_decide_eq_true (by with_reducible assumption); have hcut47 := cut_from (P := Try.prog) 44 42 .i64 Try.underlying44 hi047 3 hsz47 (some ad140) l0.length c0 (ji39) q047 q47; have hr47 := Kd.C_drop (m := ((ji39) : Int).toNat) (c := c0) hC47 (by omega) hroom47; obtain ⟨A47, hA47⟩ : ∃ A1, A1 = (if c0 = ((ji39) : Int).toNat then (some ad140) else ((some ad140) : Option Addr).map (·.add (((ji39) : Int).toNat * 3))) := ⟨_, rfl⟩; obtain ⟨c47, hc47⟩ : ∃ c1, c1 = c0 - ((ji39) : Int).toNat := ⟨_, rfl⟩; have hy47 : y156.length = l0.length - ((ji39) : Int).toNat := (by rw [Ny156.out, List.length_drop] <;> omega); rw [show (l0).drop ((ji39) : Int).toNat = y156 from Ny156.out.symm] at hr47; replace hr47 : Kd.C k42 _ A47 y156.length y156 := (by rw [hA47]; exact hr47); rw [← hy47, ← hA47, ← hc47] at hcut47; have HR159 := Aside0.mk hr47; clear hr47 hC47 hroom47 hi047 hsz47 hc47; clear hy47 hA47; replace q47 := eq_true q47) | ((with_reducible refine gate_builtin (b := .append) (xs := #[.tmp 57, .tmp 61]) rfl ?_); at_builtin; refine Kd.R_append_rows k42 (w0 := w) w.heap.size rfl (.tmp 57) (.tmp 61) 44 42 (.agg #[(.int .i64 0), (.int .u64 0), (.int .u64 0)]) 24 rfl Try.underlying44 info42 rfl (by decide) (by omega) v154 y153 y156 _ _ _ (fun k_ => k_ ≠ gb127) (fun _ => False) rfl rfl ?aO ?aR (fun _ _ h => h) (fun _ h => h.elim) ?aF ?aB ?aS ?aL ?_; (case aR => repeat (exact (Kd.C_below HR159.out HB.out))); (case aB => exact HB.out); (case aF => exact (fun k_ hk => Kd.freshB (g := gb127) (o := .cells #[.int .i64 a1_0, .int .u64 a1_1, .int .u64 a1_2] 42 (0, 0)) BK127.out k_ hk)); (case aO => exact HO155.out); (case aS => exact (below_size HB.out)); (case aL => have := LMc42.out; omega); intro v161 w48 ho hb hg hat; rw [← Ny160.out] at ho; have n0_ := Aside0.mk (blk_grown (g := gb127) (o := .cells #[.int .i64 a1_0, .int .u64 a1_1, .int .u64 a1_2] 42 (0, 0)) BK127.out hg (Kd.R_away HO155.out (fun _ hk => hk))); have n1_ := Aside0.mk (hb); have n2_ := Aside0.mk (ho); clear BK127; clear HB; clear HO155; have BK127 := n0_; have HB := n1_; have HO162 := n2_; clear n0_ n1_ n2_; clear ho hb hg hat))
                go_ret; exact ⟨_, by rfl, by exact Kd.R_mono HO162.out (fun _ hk => trivial), by repeat ((with_reducible exact HB.out))⟩
               ·
                rw [if_neg c42] at H; exact absurd H (by simp)
              ·
               rw [if_neg c41] at H; exact absurd H (by simp)
             ·
              rw [if_neg c40] at H; exact absurd H (by simp)
            ·
             rw [if_neg c38] at H; exact absurd H (by simp)
          ·
           rw [if_neg c24] at H; exact absurd H (by simp)
         ·
          rw [if_neg c23] at H; exact absurd H (by simp)
        ·
         replace c22 := Bool.eq_false_iff.mpr c22; subst c22; have H1 : (if y136.length < 5864062014805 then ((some (y136 ++ [(⟨a1_0, a1_1, a1_2⟩ : S42)] : List (S42))).bind fun y163 => (if 0 ≤ x5_2 then (if x5_2 ≤ (l0.length : Int) then ((some (l0.drop (x5_2 : Int).toNat : List (S42))).bind fun y166 => (if y163.length + y166.length < 5864062014805 then (some (y163 ++ y166)) else (none))) else (none)) else (none))) else (none)) = some r := by rw [if_neg (show ¬ (false = true) by decide)] at H; exact H
         clear H; have H := H1; clear H1
         by_cases c49 : y136.length < 5864062014805
         ·
          rw [if_pos c49] at H; have LMc49 := Aside0.mk c49; clear c49
          obtain ⟨y163, hy163⟩ : ∃ y_ : List (S42), y_ = (y136 ++ [(⟨a1_0, a1_1, a1_2⟩ : S42)]) := ⟨_, rfl⟩
          replace H : (if 0 ≤ x5_2 then (if x5_2 ≤ (l0.length : Int) then ((some (l0.drop (x5_2 : Int).toNat : List (S42))).bind fun y166 => (if y163.length + y166.length < 5864062014805 then (some (y163 ++ y166)) else (none))) else (none)) else (none)) = some r := by (have H2_ := (Option.bind_some _ _).symm.trans H; rw [hy163]; with_reducible exact H2_)
          have Ny163 := Aside0.mk hy163; clear hy163
          by_cases c50 : 0 ≤ x5_2
          ·
           rw [if_pos c50] at H; have c50b1 : decide (0 ≤ x5_2) = true := decide_eq_true c50; clear c50
           by_cases c51 : x5_2 ≤ (l0.length : Int)
           ·
            rw [if_pos c51] at H; have c51b1 : decide (x5_2 ≤ (l0.length : Int)) = true := decide_eq_true c51; clear c51
            obtain ⟨y166, hy166⟩ : ∃ y_ : List (S42), y_ = (l0.drop (x5_2 : Int).toNat) := ⟨_, rfl⟩
            replace H : (if y163.length + y166.length < 5864062014805 then (some (y163 ++ y166)) else (none)) = some r := by (have H2_ := (Option.bind_some _ _).symm.trans H; rw [hy166]; with_reducible exact H2_)
            have Ny166 := Aside0.mk hy166; clear hy166
            by_cases c52 : y163.length + y166.length < 5864062014805
            ·
             rw [if_pos c52] at H; have LMc52 := Aside0.mk c52; clear c52
             obtain ⟨y170, hy170⟩ : ∃ y_ : List (S42), y_ = (y163 ++ y166) := ⟨_, rfl⟩
             replace H : (some y170) = some r := by (rw [hy170]; with_reducible exact H)
             have Ny170 := Aside0.mk hy170; clear hy170; obtain rfl := Option.some.inj H; have hcz53_0 : wc.cell? ⟨gb127, 0, none⟩ = some (.int .i64 a1_0) := (blk_cell BK127.out 0).trans rfl; have hcz53_1 : wc.cell? ⟨gb127, 1, none⟩ = some (.int .u64 a1_1) := (blk_cell BK127.out 1).trans rfl; have hcz53_2 : wc.cell? ⟨gb127, 2, none⟩ = some (.int .u64 a1_2) := (blk_cell BK127.out 2).trans rfl
             go_wp2_with (first | ((with_reducible refine gate_builtin (b := .append) (xs := #[.tmp 63, .tmp 65]) rfl ?_); at_builtin; refine Kd.R_append k42 (w0 := w) w.heap.size rfl (.tmp 63) (.tmp 65) 44 42 (.agg #[(.int .i64 0), (.int .u64 0), (.int .u64 0)]) 24 rfl Try.underlying44 info42 rfl (by decide) (by omega) v137 y136 (⟨a1_0, a1_1, a1_2⟩ : S42) [.int .i64 a1_0, .int .u64 a1_1, .int .u64 a1_2] (fun k_ => k_ ≠ gb127) (fun _ => False) rfl rfl ?aP (fun _ hk => hk.elim) ?aF ?aO ?aB ?aS ?aL ?_; (case aP => exact k42_mkM _ _ _ (⟨a1_0, a1_1, a1_2⟩ : S42)); (case aB => exact HB.out); (case aF => exact (fun k_ hk => Kd.freshB (g := gb127) (o := .cells #[.int .i64 a1_0, .int .u64 a1_1, .int .u64 a1_2] 42 (0, 0)) BK127.out k_ hk)); (case aO => exact HO_6.out); (case aS => exact (below_size HB.out)); (case aL => have := LMc49.out; omega); intro v164 w54 ho hb hg hat; rw [← Ny163.out] at ho; have n0_ := Aside0.mk (blk_grown (g := gb127) (o := .cells #[.int .i64 a1_0, .int .u64 a1_1, .int .u64 a1_2] 42 (0, 0)) BK127.out hg (Kd.R_away HO_6.out (fun _ hk => hk))); have n1_ := Aside0.mk (hb); have n2_ := Aside0.mk (ho); clear BK127; clear HB; clear HO_6; have BK127 := n0_; have HB := n1_; have HO165 := n2_; clear n0_ n1_ n2_; clear ho hb hg hat; have q55 : (x5_2 : Int) ≤ ((l0.length : Int) : Int) := of_decide_eq_true (by with_reducible assumption); obtain ⟨i055, hi055, _, hsz55, _⟩ := info_parts info42; have hroom55 : l0.length ≤ c0 := HC0.out; have hC55 : Kd.C k42 _ A0 l0.length l0 := HR0.out; have q055 : (0 : Int) ≤ (x5_2 : Int) := of_decide_eq_true (by with_reducible assumption); have hcut55 := cut_from (P := Try.prog) 44 42 .i64 Try.underlying44 hi055 3 hsz55 A0 l0.length c0 x5_2 q055 q55; have hr55 := Kd.C_drop (m := (x5_2 : Int).toNat) (c := c0) hC55 (by omega) hroom55; obtain ⟨A55, hA55⟩ : ∃ A1, A1 = (if c0 = (x5_2 : Int).toNat then A0 else (A0 : Option Addr).map (·.add ((x5_2 : Int).toNat * 3))) := ⟨_, rfl⟩; obtain ⟨c55, hc55⟩ : ∃ c1, c1 = c0 - (x5_2 : Int).toNat := ⟨_, rfl⟩; have hy55 : y166.length = l0.length - (x5_2 : Int).toNat := (by rw [Ny166.out, List.length_drop] <;> omega); rw [show (l0).drop (x5_2 : Int).toNat = y166 from Ny166.out.symm] at hr55; replace hr55 : Kd.C k42 _ A55 y166.length y166 := (by rw [hA55]; exact hr55); rw [← hy55, ← hA55, ← hc55] at hcut55; have HR169 := Aside0.mk hr55; clear hr55 hC55 hroom55 hi055 hsz55 hc55; clear hy55 hA55; replace q55 := eq_true q55) | ((with_reducible refine gate_builtin (b := .append) (xs := #[.tmp 67, .tmp 70]) rfl ?_); at_builtin; refine Kd.R_append_rows k42 (w0 := w) w.heap.size rfl (.tmp 67) (.tmp 70) 44 42 (.agg #[(.int .i64 0), (.int .u64 0), (.int .u64 0)]) 24 rfl Try.underlying44 info42 rfl (by decide) (by omega) v164 y163 y166 _ _ _ (fun k_ => k_ ≠ gb127) (fun _ => False) rfl rfl ?aO ?aR (fun _ _ h => h) (fun _ h => h.elim) ?aF ?aB ?aS ?aL ?_; (case aR => repeat (exact (Kd.C_below HR169.out HB.out))); (case aB => exact HB.out); (case aF => exact (fun k_ hk => Kd.freshB (g := gb127) (o := .cells #[.int .i64 a1_0, .int .u64 a1_1, .int .u64 a1_2] 42 (0, 0)) BK127.out k_ hk)); (case aO => exact HO165.out); (case aS => exact (below_size HB.out)); (case aL => have := LMc52.out; omega); intro v171 w56 ho hb hg hat; rw [← Ny170.out] at ho; have n0_ := Aside0.mk (blk_grown (g := gb127) (o := .cells #[.int .i64 a1_0, .int .u64 a1_1, .int .u64 a1_2] 42 (0, 0)) BK127.out hg (Kd.R_away HO165.out (fun _ hk => hk))); have n1_ := Aside0.mk (hb); have n2_ := Aside0.mk (ho); clear BK127; clear HB; clear HO165; have BK127 := n0_; have HB := n1_; have HO172 := n2_; clear n0_ n1_ n2_; clear ho hb hg hat))
             go_ret; exact ⟨_, by rfl, by exact Kd.R_mono HO172.out (fun _ hk => trivial), by repeat ((with_reducible exact HB.out))⟩
            ·
             rw [if_neg c52] at H; exact absurd H (by simp)
           ·
            rw [if_neg c51] at H; exact absurd H (by simp)
          ·
           rw [if_neg c50] at H; exact absurd H (by simp)
         ·
          rw [if_neg c49] at H; exact absurd H (by simp)
     ·
      rw [if_neg c13] at H; exact absurd H (by simp)
    ·
     rw [if_neg c12] at H; exact absurd H (by simp)
   ·
    rw [if_neg c11] at H; exact absurd H (by simp)
end Go.Proofs.Ytgagcimfkmegnaa.QT
