-- Laid by wip/tools/myprint.py of this repo. Not trusted: Lean checks it.
import Derived.Test.YtgagcimfkmegnaaSqu
import Derived.Test.YtgagcimfkmegnaaQT4
set_option maxHeartbeats 8000000
set_option maxRecDepth 100000
namespace Go.Proofs.Ytgagcimfkmegnaa.QT
open Go.RowKit Go.Proofs.YtgagcimfkmegnaaW.PrintWords Go.Proofs.YtgagcimfkmegnaaW.PrintLast Go.Proofs.YtgagcimfkmegnaaW.PrintMore
attribute [local go_sem] max2_int min2_int max_two min_two max_three min_three max_four min_four   -- for this text's walks alone
set_option linter.unusedVariables false
set_option linter.unusedSimpArgs false
mutual
def thermographref06_half.l0 : Nat → List (S42) → List (S42) → List (S42) → Int → Int → Option ((List (S42)))
 | 0, _, _, _, _, _ => none
 | k + 1, x0, x1, x5, x6, x7 => if x6 < (x0.length : Int) then (thermographref06_half.j1 k x0 x1 x5 x6 x7 true) else (thermographref06_half.j1 k x0 x1 x5 x6 x7 (decide (x7 < (x1.length : Int))))
def thermographref06_half.j1 : Nat → List (S42) → List (S42) → List (S42) → Int → Int → Bool → Option ((List (S42)))
 | 0, _, _, _, _, _, _ => none
 | k + 1, x0, x1, x5, x6, x7, x19 => if x19 = true then (if x7 = (x1.length : Int) then (thermographref06_half.j2 k x0 x1 x5 x6 x7 true) else (if x6 < (x0.length : Int) then (if 0 ≤ x6 then (if 0 ≤ x7 then (if x7 < (x1.length : Int) then (thermographref06_half.j2 k x0 x1 x5 x6 x7 (decide (((rd_T42 x0 x6).f0) < ((rd_T42 x1 x7).f0)))) else (none)) else (none)) else (none)) else (thermographref06_half.j2 k x0 x1 x5 x6 x7 false))) else (some x5)
def thermographref06_half.j2 : Nat → List (S42) → List (S42) → List (S42) → Int → Int → Bool → Option ((List (S42)))
 | 0, _, _, _, _, _, _ => none
 | k + 1, x0, x1, x5, x6, x7, x42 => if x42 = true then (if 0 ≤ x6 then (if x6 < (x0.length : Int) then (if x5.length < 5864062014805 then (thermographref06_half.l0 k x0 x1 (x5 ++ [(⟨(rd_T42 x0 x6).f0, (rd_T42 x0 x6).f1, (rd_T42 x0 x6).f2⟩ : S42)]) (wrap64 (x6 + 1)) x7) else (none)) else (none)) else (none)) else (if x6 = (x0.length : Int) then (thermographref06_half.j3 k x0 x1 x5 x6 x7 true) else (if 0 ≤ x7 then (if x7 < (x1.length : Int) then (if 0 ≤ x6 then (if x6 < (x0.length : Int) then (thermographref06_half.j3 k x0 x1 x5 x6 x7 (decide (((rd_T42 x1 x7).f0) < ((rd_T42 x0 x6).f0)))) else (none)) else (none)) else (none)) else (none)))
def thermographref06_half.j3 : Nat → List (S42) → List (S42) → List (S42) → Int → Int → Bool → Option ((List (S42)))
 | 0, _, _, _, _, _, _ => none
 | k + 1, x0, x1, x5, x6, x7, x75 => if x75 = true then (if 0 ≤ x7 then (if x7 < (x1.length : Int) then (if x5.length < 5864062014805 then (thermographref06_half.l0 k x0 x1 (x5 ++ [(⟨(rd_T42 x1 x7).f0, (rd_T42 x1 x7).f1, (rd_T42 x1 x7).f2⟩ : S42)]) x6 (wrap64 (x7 + 1))) else (none)) else (none)) else (none)) else (if 0 ≤ x6 then (if x6 < (x0.length : Int) then (if 0 ≤ x7 then (if x7 < (x1.length : Int) then ((thermographref06_Wins.f ((rd_T42 x1 x7).f0) ((rd_T42 x1 x7).f1) ((rd_T42 x1 x7).f2) ((rd_T42 x0 x6).f0) ((rd_T42 x0 x6).f1) ((rd_T42 x0 x6).f2)).bind fun t259 => (if t259 = true then (if x5.length < 5864062014805 then (thermographref06_half.l0 k x0 x1 (x5 ++ [(⟨(rd_T42 x1 x7).f0, (rd_T42 x1 x7).f1, (rd_T42 x1 x7).f2⟩ : S42)]) (wrap64 (x6 + 1)) (wrap64 (x7 + 1))) else (none)) else (if x5.length < 5864062014805 then (thermographref06_half.l0 k x0 x1 (x5 ++ [(⟨(rd_T42 x0 x6).f0, (rd_T42 x0 x6).f1, (rd_T42 x0 x6).f2⟩ : S42)]) (wrap64 (x6 + 1)) (wrap64 (x7 + 1))) else (none)))) else (none)) else (none)) else (none)) else (none))
end
def thermographref06_half.f (k : Nat) (l0 : List (S42)) (l1 : List (S42)) : Option ((List (S42))) := thermographref06_half.l0 k l0 l1 (([] : List (S42))) 0 0
def thermographref06_half.T11 : Bool × List (List Nat × List Nat) := (true, [([], []), ([], []), ([1], [1]), ([0, 2], [0, 2]), ([3], [3]), ([4], [4]), ([4], [4]), ([6, 4], [4, 6]), ([5, 7, 4], [4, 5, 7]), ([8, 4, 4], [4, 8]), ([9], [9]), ([9], [9]), ([10, 11, 9], [9, 10, 11]), ([12, 9], [9, 12]), ([13, 9], [9, 13]), ([9], [9]), ([9], [9]), ([15, 16, 9], [9, 15, 16]), ([17, 9], [9, 17]), ([18, 9], [9, 18]), ([14, 19, 9], [9, 14, 19]), ([9, 20, 4], [4, 9, 20]), ([4, 21], [4, 21]), ([22, 9], [22])])
def thermographref06_half.B11 : List Nat := [0, 0, 2, 7, 15, 31, 31, 95, 255, 511, 1023, 1023, 4095, 8191, 16383, 1023, 1023, 99327, 230399, 492543, 1048575, 2097151, 4194303, 8388607]
theorem thermographref06_half.tab11 : rtab .any (opsOf Try.f37 11) = thermographref06_half.T11 := by kernel_rfl
theorem thermographref06_half.bits11 : waitsOk thermographref06_half.T11.2 thermographref06_half.B11 = true := by kernel_rfl
def thermographref06_half.T14 : Bool × List (List Nat × List Nat) := (true, [([], []), ([], []), ([1], [1]), ([0, 2], [0, 2]), ([3], [3]), ([4], [4]), ([4], [4]), ([5, 6, 4], [4, 5, 6]), ([7, 4], [4, 7]), ([8, 4], [4, 8]), ([4], [4]), ([4], [4]), ([10, 11, 4], [4, 10, 11]), ([12, 4], [4, 12]), ([13, 4], [4, 13]), ([9, 14, 4], [4, 9, 14]), ([4, 15], [4, 15]), ([16, 4], [16])])
def thermographref06_half.B14 : List Nat := [0, 0, 2, 7, 15, 31, 31, 127, 255, 511, 31, 31, 3103, 7199, 15391, 32767, 65535, 131071]
theorem thermographref06_half.tab14 : rtab .any (opsOf Try.f37 14) = thermographref06_half.T14 := by kernel_rfl
theorem thermographref06_half.bits14 : waitsOk thermographref06_half.T14.2 thermographref06_half.B14 = true := by kernel_rfl
theorem thermographref06_half.calls (k : Nat) (A0 : Option Addr) (c0 : Nat) (l0 : List (S42)) (A1 : Option Addr) (c1 : Nat) (l1 : List (S42)) (r : List (S42)) (w : World) (hr0 : Kd.C k42 w A0 l0.length l0) (hc0 : l0.length ≤ c0) (hr1 : Kd.C k42 w A1 l1.length l1) (hc1 : l1.length ≤ c1) (h : thermographref06_half.f k l0 l1 = some r) :
  Calls Try.prog 37 #[.slice A0 l0.length c0, .slice A1 l1.length c1] w fun e w' => ∃ v0_ : Value, e = .returned (v0_) ∧ Kd.R k42 42 w' w.heap.size (fun _ => True) v0_ r ∧ Below w.heap.size w w' := by
 have HR0 := Aside0.mk hr0; clear hr0 hc0; have HR1 := Aside0.mk hr1; clear hr1 hc1; have HB := Aside0.mk (Below.refl w.heap.size w); have H : (thermographref06_half.l0 k l0 l1 (([] : List (S42))) 0 0) = some r := h; clear h
 obtain ⟨y241, hy241⟩ : ∃ y_ : List (S42), y_ = (([] : List (S42))) := ⟨_, rfl⟩
 replace H : (thermographref06_half.l0 k l0 l1 y241 0 0) = some r := by (rw [hy241]; with_reducible exact H)
 have Ny241 := Aside0.mk hy241; clear hy241; have H' := Aside0.mk H; clear H; go_enter Try.func37, Try.ntmps37
 go_wp2_with (((with_reducible refine gate_dst (N := 9) rfl ?_); (try (refine gate_guard (by rfl) ?_; dsimp only)); refine Kd.R_lit k42 _ 42 ?hg (N := 9) ?hd (xs := ([] : List (S42))) (inner := []) (ok := fun _ => True) (okp := fun _ => True) ?hr ?hp (fun _ hk => hk) trivial (Below.refl _ _) (Nat.le_refl _) (by simp) ?_; (case hd => rfl); (case hg => rfl); (case hr => go_simp; done); (case hp => exact (Reps.none _ _)); intro v242 w3 ho4 hb hg_ hnew_; clear hg_ hnew_; ((rw [← Ny241.out] at ho4)); have n0_ := Aside0.mk (Kd.R_lower ho4 (below_size HB.out)); have n1_ := Aside0.mk (below_step HB.out hb); clear HB; have HO243 := n0_; have HB := n1_; clear n0_ n1_; clear hb ho4))
 try go_frame
 go_loopg [5, 6, 7] k (fun kq v5 v6 v7 w' => ∃ (x5_1 : List (S42)) (x6_1 : Int) (x7_1 : Int), v6 = .int .i64 x6_1 ∧ v7 = .int .i64 x7_1 ∧ Aside0 (thermographref06_half.l0 kq l0 l1 x5_1 x6_1 x7_1 = some r) ∧ Aside0 (kq ≤ k) ∧ Aside0 (Kd.R k42 42 w' w.heap.size (fun _ => True) v5 x5_1) ∧ Aside0 (Below w.heap.size w w'))
 case atStart => exact ⟨(y241), (0), (0), (by rfl), (by rfl), H', ⟨Nat.le_refl _⟩, ⟨HO243.out⟩, ⟨HB.out⟩⟩
 case round =>
  clear H'; obtain ⟨x5_1, x6_1, x7_1, rfl, rfl, HA, HK1, HO_5, HB⟩ := hrel
  cases gk with
  | zero => exact absurd HA.out (by simp [thermographref06_half.l0])
  | succ k1 =>
   have H := HA.out; clear HA; simp only [thermographref06_half.l0] at H; have HC5 := Aside0.mk H; clear H
   go_upto_region 4 with (fail)
   go_cut [19] (fun v19 wc => ∃ (kq : Nat) (x19_4 : Bool), v19 = .bool x19_4 ∧ Aside0 (thermographref06_half.j1 kq l0 l1 x5_1 x6_1 x7_1 x19_4 = some r) ∧ Aside0 (kq ≤ k1) ∧ Aside0 (Kd.R k42 42 wc w.heap.size (fun _ => True) u5 x5_1) ∧ Aside0 (Below w.heap.size w wc))
   case first =>
    have H := HC5.out; clear HC5
    by_cases c6 : x6_1 < (l0.length : Int)
    ·
     rw [if_pos c6] at H; have c6b0 : decide (x6_1 < (l0.length : Int)) = true := decide_eq_true c6; clear c6
     ((skip))
     have H' := Aside0.mk H; clear H; go_wp2; go_meet
     case rel => exact ⟨_, (true), (by rfl), H', ⟨by have := HK1.out; omega⟩, ⟨HO_5.out⟩, ⟨HB.out⟩⟩
    ·
     rw [if_neg c6] at H; have c6b0 : decide (x6_1 < (l0.length : Int)) = false := decide_eq_false c6; clear c6
     ((skip))
     have H' := Aside0.mk H; clear H; go_wp2; go_meet
     case rel => exact ⟨_, (decide (x7_1 < (l1.length : Int))), (by rfl), H', ⟨by have := HK1.out; omega⟩, ⟨HO_5.out⟩, ⟨HB.out⟩⟩
   case rest =>
    clear HC5; obtain ⟨kq, x19_4, rfl, HA, HJ4, HO_5, HB⟩ := hcut
    cases kq with
    | zero => exact absurd HA.out (by simp [thermographref06_half.j1])
    | succ kj4 =>
     have H := HA.out; clear HA; simp only [thermographref06_half.j1] at H
     by_cases c7 : x19_4 = true
     ·
      subst c7; have H1 : (if x7_1 = (l1.length : Int) then (thermographref06_half.j2 kj4 l0 l1 x5_1 x6_1 x7_1 true) else (if x6_1 < (l0.length : Int) then (if 0 ≤ x6_1 then (if 0 ≤ x7_1 then (if x7_1 < (l1.length : Int) then (thermographref06_half.j2 kj4 l0 l1 x5_1 x6_1 x7_1 (decide (((rd_T42 l0 x6_1).f0) < ((rd_T42 l1 x7_1).f0)))) else (none)) else (none)) else (none)) else (thermographref06_half.j2 kj4 l0 l1 x5_1 x6_1 x7_1 false))) = some r := by rw [if_pos rfl] at H; exact H
      clear H; have H := H1; clear H1; have HC8 := Aside0.mk H; clear H
      go_upto_region 11 with (fail)
      go_cut [42] (fun v42 wc => ∃ (kq : Nat) (x42_7 : Bool), v42 = .bool x42_7 ∧ Aside0 (thermographref06_half.j2 kq l0 l1 x5_1 x6_1 x7_1 x42_7 = some r) ∧ Aside0 (kq ≤ kj4) ∧ Aside0 (Kd.R k42 42 wc w.heap.size (fun _ => True) u5 x5_1) ∧ Aside0 (Below w.heap.size w wc))
      case first =>
       have H := HC8.out; clear HC8
       by_cases c9 : x7_1 = (l1.length : Int)
       ·
        rw [if_pos c9] at H; have c9b0 : (x7_1 == (l1.length : Int)) = true := beq_iff_eq.mpr c9; clear c9
        ((skip))
        have H' := Aside0.mk H; clear H; try go_wp2
        have n0_ := Aside0.mk (Kd.R_drew HO_5.out); have n1_ := Aside0.mk (below_drew1 HB.out); clear HO_5; clear HB; have HO_5 := n0_; have HB := n1_; clear n0_ n1_; refine start_ (n := 24) (S := fun w' => True) (ds := []) (bs 24 0) (by kernel_rfl) rfl rfl trivial (fun hHeld => ?_); refine with_tabW thermographref06_half.tab11 thermographref06_half.bits11 (fun HT_ HW_ => ?_); generalize wc.drew = w10 at HO_5 HB hHeld ⊢; apply pv 0 43 (bs 24 1) HT_; rfl; rfl; kernel_rfl; exact qq; rfl; intro w'; go_simp; with_reducible rfl; simp only [zz]; rfl
        apply pv 1 44 (bs 24 3) HT_; rfl; rfl; kernel_rfl; exact qq; rfl; intro w'; go_simp; with_reducible rfl; simp only [zz]; rfl
        apply pv 2 45 (bs 24 7) HT_; rfl; rfl; kernel_rfl; exact qq; rfl; intro w'; go_simp; with_reducible rfl; simp only [zz]; rfl
        apply pv 3 46 (bs 24 15) HT_; rfl; rfl; kernel_rfl; exact qq; rfl; intro w'; go_simp; with_reducible rfl; simp only [zz]; rfl
        apply pv 4 47 (bs 24 31) HT_; rfl; rfl; kernel_rfl; exact qq; rfl; intro w'; go_simp; with_reducible rfl; simp only [zz]; rfl
        apply py 5 48 (bs 24 63) HT_; rfl; rfl; kernel_rfl; exact qq; rfl; simp only [zz]; rfl; apply py 6 49 (bs 24 127) HT_; rfl; rfl; kernel_rfl; exact qq; rfl; simp only [zz]; rfl; apply py 7 50 (bs 24 255) HT_; rfl; rfl; kernel_rfl; exact qq; rfl; simp only [zz]; rfl; apply py 8 51 (bs 24 511) HT_; rfl; rfl; kernel_rfl; exact qq; rfl; simp only [zz]; rfl; apply py 9 52 (bs 24 1023) HT_; rfl; rfl; kernel_rfl; exact qq; rfl; simp only [zz]; rfl; apply py 10 53 (bs 24 2047) HT_; rfl; rfl; kernel_rfl; exact qq; rfl; simp only [zz]; rfl; apply py 11 54 (bs 24 4095) HT_; rfl; rfl; kernel_rfl; exact qq; rfl; simp only [zz]; rfl; apply py 12 55 (bs 24 8191) HT_; rfl; rfl; kernel_rfl; exact qq; rfl; simp only [zz]; rfl; apply py 13 56 (bs 24 16383) HT_; rfl; rfl; kernel_rfl; exact qq; rfl; simp only [zz]; rfl; apply py 14 57 (bs 24 32767) HT_; rfl; rfl; kernel_rfl; exact qq; rfl; simp only [zz]; rfl; apply py 15 58 (bs 24 65535) HT_; rfl; rfl; kernel_rfl; exact qq; rfl; simp only [zz]; rfl; apply py 16 59 (bs 24 131071) HT_; rfl; rfl; kernel_rfl; exact qq; rfl; simp only [zz]; rfl; apply py 17 60 (bs 24 262143) HT_; rfl; rfl; kernel_rfl; exact qq; rfl; simp only [zz]; rfl; apply py 18 61 (bs 24 524287) HT_; rfl; rfl; kernel_rfl; exact qq; rfl; simp only [zz]; rfl; apply py 19 62 (bs 24 1048575) HT_; rfl; rfl; kernel_rfl; exact qq; rfl; simp only [zz]; rfl; apply py 20 63 (bs 24 2097151) HT_; rfl; rfl; kernel_rfl; exact qq; rfl; simp only [zz]; rfl; apply py 21 64 (bs 24 4194303) HT_; rfl; rfl; kernel_rfl; exact qq; rfl; simp only [zz]; rfl; apply pv 22 65 (bs 24 8388607) HT_; rfl; rfl; kernel_rfl; exact qq; rfl; intro w'; go_simp; with_reducible rfl; simp only [zz]; rfl
        apply pv 23 42 (bs 24 16777215) HT_; rfl; rfl; kernel_rfl; exact qq; rfl; intro w'; go_simp; with_reducible rfl; simp only [zz]; rfl
        refine done_ (done_of HT_.out (by kernel_rfl)) ?_; try go_wp2
        go_meet
        case rel => exact ⟨_, (true), (by rfl), H', ⟨by have := HK1.out; have := HJ4.out; omega⟩, ⟨HO_5.out⟩, ⟨HB.out⟩⟩
       ·
        rw [if_neg c9] at H; have c9b0 : (x7_1 == (l1.length : Int)) = false := beq_eq_false_iff_ne.mpr c9
        ((skip))
        by_cases c11 : x6_1 < (l0.length : Int)
        ·
         rw [if_pos c11] at H; have c11b0 : decide (x6_1 < (l0.length : Int)) = true := decide_eq_true c11; clear c11
         by_cases c12 : 0 ≤ x6_1
         ·
          rw [if_pos c12] at H; have c12b0 : decide (0 ≤ x6_1) = true := decide_eq_true c12; clear c12
          by_cases c13 : 0 ≤ x7_1
          ·
           rw [if_pos c13] at H; have c13b0 : decide (0 ≤ x7_1) = true := decide_eq_true c13; clear c13
           by_cases c14 : x7_1 < (l1.length : Int)
           ·
            rw [if_pos c14] at H; have c14b0 : decide (x7_1 < (l1.length : Int)) = true := decide_eq_true c14; clear c14; have H' := Aside0.mk H; clear H; try go_wp2
            have n0_ := Aside0.mk (Kd.R_drew HO_5.out); have n1_ := Aside0.mk (below_drew1 HB.out); clear HO_5; clear HB; have HO_5 := n0_; have HB := n1_; clear n0_ n1_; have p244 : 0 ≤ (x6_1 : Int) := of_decide_eq_true (by with_reducible assumption); have q244 : x6_1 < (l0.length : Int) := of_decide_eq_true (by with_reducible assumption); obtain ⟨ad244, e244, hx244_0, hx244_1, hx244_2⟩ := at_T42 HR0.out x6_1 p244 q244; have hw244_2 := hx244_2; have hw244_1 := hx244_1; have hw244_0 := hx244_0; cases e244; replace hx244_0 := (HB.out.cell (World.block_lt_of_cell? w _ hx244_0)).trans hx244_0; replace hx244_1 := (HB.out.cell (World.block_lt_of_cell? w _ hx244_1)).trans hx244_1; replace hx244_2 := (HB.out.cell (World.block_lt_of_cell? w _ hx244_2)).trans hx244_2; replace p244 := eq_true p244; replace q244 := eq_true q244; have p245 : 0 ≤ (x7_1 : Int) := of_decide_eq_true (by with_reducible assumption); have q245 : x7_1 < (l1.length : Int) := of_decide_eq_true (by with_reducible assumption); obtain ⟨ad245, e245, hx245_0, hx245_1, hx245_2⟩ := at_T42 HR1.out x7_1 p245 q245; have hw245_2 := hx245_2; have hw245_1 := hx245_1; have hw245_0 := hx245_0; cases e245; replace hx245_0 := (HB.out.cell (World.block_lt_of_cell? w _ hx245_0)).trans hx245_0; replace hx245_1 := (HB.out.cell (World.block_lt_of_cell? w _ hx245_1)).trans hx245_1; replace hx245_2 := (HB.out.cell (World.block_lt_of_cell? w _ hx245_2)).trans hx245_2; replace p245 := eq_true p245; replace q245 := eq_true q245; refine start_ (n := 24) (S := fun w' => w'.cell? (ad244.add ((x6_1).toNat * 3)) = some (.int .i64 ((rd_T42 l0 x6_1).f0)) ∧ w'.cell? ⟨(ad244.add ((x6_1).toNat * 3)).block, (ad244.add ((x6_1).toNat * 3)).off + 1, none⟩ = some (.int .u64 ((rd_T42 l0 x6_1).f1)) ∧ w'.cell? ⟨(ad244.add ((x6_1).toNat * 3)).block, (ad244.add ((x6_1).toNat * 3)).off + 2, none⟩ = some (.int .u64 ((rd_T42 l0 x6_1).f2)) ∧ w'.cell? (ad245.add ((x7_1).toNat * 3)) = some (.int .i64 ((rd_T42 l1 x7_1).f0)) ∧ w'.cell? ⟨(ad245.add ((x7_1).toNat * 3)).block, (ad245.add ((x7_1).toNat * 3)).off + 1, none⟩ = some (.int .u64 ((rd_T42 l1 x7_1).f1)) ∧ w'.cell? ⟨(ad245.add ((x7_1).toNat * 3)).block, (ad245.add ((x7_1).toNat * 3)).off + 2, none⟩ = some (.int .u64 ((rd_T42 l1 x7_1).f2))) (ds := []) (bs 24 0) (by kernel_rfl) rfl rfl ⟨((HB.out.cell (World.block_lt_of_cell? w _ hw244_0)).trans hw244_0), ((HB.out.cell (World.block_lt_of_cell? w _ hw244_1)).trans hw244_1), ((HB.out.cell (World.block_lt_of_cell? w _ hw244_2)).trans hw244_2), ((HB.out.cell (World.block_lt_of_cell? w _ hw245_0)).trans hw245_0), ((HB.out.cell (World.block_lt_of_cell? w _ hw245_1)).trans hw245_1), ((HB.out.cell (World.block_lt_of_cell? w _ hw245_2)).trans hw245_2)⟩ (fun hHeld => ?_); refine with_tabW thermographref06_half.tab11 thermographref06_half.bits11 (fun HT_ HW_ => ?_); generalize wc.drew = w15 at HO_5 HB hx244_0 hx244_1 hx244_2 hx245_0 hx245_1 hx245_2 hHeld ⊢; apply pv 0 43 (bs 24 1) HT_; rfl; rfl; kernel_rfl; exact qq; rfl; intro w'; go_simp; with_reducible rfl; simp only [zz]; rfl
            apply pv 1 44 (bs 24 3) HT_; rfl; rfl; kernel_rfl; exact qq; rfl; intro w'; go_simp; with_reducible rfl; simp only [zz]; rfl
            apply pv 2 45 (bs 24 7) HT_; rfl; rfl; kernel_rfl; exact qq; rfl; intro w'; go_simp; with_reducible rfl; simp only [zz]; rfl
            apply pv 3 46 (bs 24 15) HT_; rfl; rfl; kernel_rfl; exact qq; rfl; intro w'; go_simp; with_reducible rfl; simp only [zz]; rfl
            apply pv 4 47 (bs 24 31) HT_; rfl; rfl; kernel_rfl; exact qq; rfl; intro w'; go_simp; with_reducible rfl; simp only [zz]; rfl
            apply pv 5 48 (bs 24 63) HT_; rfl; rfl; kernel_rfl; exact qq; rfl; intro w'; go_simp; with_reducible rfl; simp only [zz]; rfl
            apply pv 6 49 (bs 24 127) HT_; rfl; rfl; kernel_rfl; exact qq; rfl; intro w'; go_simp; with_reducible rfl; simp only [zz]; rfl
            apply pv 7 50 (bs 24 255) HT_; rfl; rfl; kernel_rfl; exact qq; rfl; intro w'; go_simp; with_reducible rfl; simp only [zz]; rfl
            apply pv 8 51 (bs 24 511) HT_; rfl; rfl; kernel_rfl; exact qq; rfl; intro w'; go_simp; with_reducible rfl; simp only [zz]; rfl
            apply pv 9 52 (bs 24 1023) HT_; rfl; rfl; kernel_rfl; exact qq; rfl; intro w'; go_simp; with_reducible rfl; simp only [zz]; rfl
            apply pv 10 53 (bs 24 2047) HT_; rfl; rfl; kernel_rfl; exact qq; rfl; intro w'; go_simp; with_reducible rfl; simp only [zz]; rfl
            apply pv 11 54 (bs 24 4095) HT_; rfl; rfl; kernel_rfl; exact qq; rfl; intro w'; go_simp; with_reducible rfl; simp only [zz]; rfl
            apply pv 12 55 (bs 24 8191) HT_; rfl; rfl; kernel_rfl; exact qq; rfl; intro w'; go_simp; with_reducible rfl; simp only [zz]; rfl
            apply pv 13 56 (bs 24 16383) HT_; rfl; rfl; kernel_rfl; exact qq; rfl; intro w'; go_simp; with_reducible rfl; simp only [zz]; rfl
            apply pv 15 58 (bs 24 49151) HT_; rfl; rfl; kernel_rfl; exact qq; rfl; intro w'; go_simp; with_reducible rfl; simp only [zz]; rfl
            apply pv 16 59 (bs 24 114687) HT_; rfl; rfl; kernel_rfl; exact qq; rfl; intro w'; go_simp; with_reducible rfl; simp only [zz]; rfl
            apply pv 17 60 (bs 24 245759) HT_; rfl; rfl; kernel_rfl; exact qq; rfl; intro w'; go_simp; with_reducible rfl; simp only [zz]; rfl
            apply pv 18 61 (bs 24 507903) HT_; rfl; rfl; kernel_rfl; exact qq; rfl; intro w'; go_simp; with_reducible rfl; simp only [zz]; rfl
            apply tb 14 57 (bs 24 524287) HT_ HW_ hHeld; rfl; rfl; kernel_rfl; exact qq; rfl; rintro w' ⟨s0, s1, s2, s3, s4, s5⟩; go_simp; with_reducible rfl; simp only [zz]; rfl
            apply tb 19 62 (bs 24 1048575) HT_ HW_ hHeld; rfl; rfl; kernel_rfl; exact qq; rfl; rintro w' ⟨s0, s1, s2, s3, s4, s5⟩; go_simp; with_reducible rfl; simp only [zz]; rfl
            apply pv 20 63 (bs 24 2097151) HT_; rfl; rfl; kernel_rfl; exact qq; rfl; intro w'; go_simp; with_reducible rfl; simp only [zz]; rfl
            apply pv 21 64 (bs 24 4194303) HT_; rfl; rfl; kernel_rfl; exact qq; rfl; intro w'; go_simp; with_reducible rfl; simp only [zz]; rfl
            apply pv 22 65 (bs 24 8388607) HT_; rfl; rfl; kernel_rfl; exact qq; rfl; intro w'; go_simp; with_reducible rfl; simp only [zz]; rfl
            apply pv 23 42 (bs 24 16777215) HT_; rfl; rfl; kernel_rfl; exact qq; rfl; intro w'; go_simp; with_reducible rfl; simp only [zz]; rfl
            refine done_ (done_of HT_.out (by kernel_rfl)) ?_; try go_wp2
            go_meet
            case rel => exact ⟨_, (decide (((rd_T42 l0 x6_1).f0) < ((rd_T42 l1 x7_1).f0))), (by rfl), H', ⟨by have := HK1.out; have := HJ4.out; omega⟩, ⟨HO_5.out⟩, ⟨HB.out⟩⟩
           ·
            rw [if_neg c14] at H; exact absurd H (by simp)
          ·
           rw [if_neg c13] at H; exact absurd H (by simp)
         ·
          rw [if_neg c12] at H; exact absurd H (by simp)
        ·
         rw [if_neg c11] at H; have c11b0 : decide (x6_1 < (l0.length : Int)) = false := decide_eq_false c11; clear c11; have H' := Aside0.mk H; clear H; try go_wp2
         have n0_ := Aside0.mk (Kd.R_drew HO_5.out); have n1_ := Aside0.mk (below_drew1 HB.out); clear HO_5; clear HB; have HO_5 := n0_; have HB := n1_; clear n0_ n1_; refine start_ (n := 24) (S := fun w' => True) (ds := []) (bs 24 0) (by kernel_rfl) rfl rfl trivial (fun hHeld => ?_); refine with_tabW thermographref06_half.tab11 thermographref06_half.bits11 (fun HT_ HW_ => ?_); generalize wc.drew = w16 at HO_5 HB hHeld ⊢; apply pv 0 43 (bs 24 1) HT_; rfl; rfl; kernel_rfl; exact qq; rfl; intro w'; go_simp; with_reducible rfl; simp only [zz]; rfl
         apply pv 1 44 (bs 24 3) HT_; rfl; rfl; kernel_rfl; exact qq; rfl; intro w'; go_simp; with_reducible rfl; simp only [zz]; rfl
         apply pv 2 45 (bs 24 7) HT_; rfl; rfl; kernel_rfl; exact qq; rfl; intro w'; go_simp; with_reducible rfl; simp only [zz]; rfl
         apply pv 3 46 (bs 24 15) HT_; rfl; rfl; kernel_rfl; exact qq; rfl; intro w'; go_simp; with_reducible rfl; simp only [zz]; rfl
         apply pv 4 47 (bs 24 31) HT_; rfl; rfl; kernel_rfl; exact qq; rfl; intro w'; go_simp; with_reducible rfl; simp only [zz]; rfl
         apply pv 5 48 (bs 24 63) HT_; rfl; rfl; kernel_rfl; exact qq; rfl; intro w'; go_simp; with_reducible rfl; simp only [zz]; rfl
         apply pv 6 49 (bs 24 127) HT_; rfl; rfl; kernel_rfl; exact qq; rfl; intro w'; go_simp; with_reducible rfl; simp only [zz]; rfl
         apply pv 7 50 (bs 24 255) HT_; rfl; rfl; kernel_rfl; exact qq; rfl; intro w'; go_simp; with_reducible rfl; simp only [zz]; rfl
         apply pv 8 51 (bs 24 511) HT_; rfl; rfl; kernel_rfl; exact qq; rfl; intro w'; go_simp; with_reducible rfl; simp only [zz]; rfl
         apply pv 9 52 (bs 24 1023) HT_; rfl; rfl; kernel_rfl; exact qq; rfl; intro w'; go_simp; with_reducible rfl; simp only [zz]; rfl
         apply py 10 53 (bs 24 2047) HT_; rfl; rfl; kernel_rfl; exact qq; rfl; simp only [zz]; rfl; apply py 11 54 (bs 24 4095) HT_; rfl; rfl; kernel_rfl; exact qq; rfl; simp only [zz]; rfl; apply py 12 55 (bs 24 8191) HT_; rfl; rfl; kernel_rfl; exact qq; rfl; simp only [zz]; rfl; apply py 13 56 (bs 24 16383) HT_; rfl; rfl; kernel_rfl; exact qq; rfl; simp only [zz]; rfl; apply py 14 57 (bs 24 32767) HT_; rfl; rfl; kernel_rfl; exact qq; rfl; simp only [zz]; rfl; apply py 15 58 (bs 24 65535) HT_; rfl; rfl; kernel_rfl; exact qq; rfl; simp only [zz]; rfl; apply py 16 59 (bs 24 131071) HT_; rfl; rfl; kernel_rfl; exact qq; rfl; simp only [zz]; rfl; apply py 17 60 (bs 24 262143) HT_; rfl; rfl; kernel_rfl; exact qq; rfl; simp only [zz]; rfl; apply py 18 61 (bs 24 524287) HT_; rfl; rfl; kernel_rfl; exact qq; rfl; simp only [zz]; rfl; apply py 19 62 (bs 24 1048575) HT_; rfl; rfl; kernel_rfl; exact qq; rfl; simp only [zz]; rfl; apply py 20 63 (bs 24 2097151) HT_; rfl; rfl; kernel_rfl; exact qq; rfl; simp only [zz]; rfl; apply pv 21 64 (bs 24 4194303) HT_; rfl; rfl; kernel_rfl; exact qq; rfl; intro w'; go_simp; with_reducible rfl; simp only [zz]; rfl
         apply pv 22 65 (bs 24 8388607) HT_; rfl; rfl; kernel_rfl; exact qq; rfl; intro w'; go_simp; with_reducible rfl; simp only [zz]; rfl
         apply pv 23 42 (bs 24 16777215) HT_; rfl; rfl; kernel_rfl; exact qq; rfl; intro w'; go_simp; with_reducible rfl; simp only [zz]; rfl
         refine done_ (done_of HT_.out (by kernel_rfl)) ?_; try go_wp2
         go_meet
         case rel => exact ⟨_, (false), (by rfl), H', ⟨by have := HK1.out; have := HJ4.out; omega⟩, ⟨HO_5.out⟩, ⟨HB.out⟩⟩
      case rest =>
       clear HC8; obtain ⟨kq, x42_7, rfl, HA, HJ7, HO_5, HB⟩ := hcut
       cases kq with
       | zero => exact absurd HA.out (by simp [thermographref06_half.j2])
       | succ kj7 =>
        have H := HA.out; clear HA; simp only [thermographref06_half.j2] at H
        by_cases c17 : x42_7 = true
        ·
         subst c17; have H1 : (if 0 ≤ x6_1 then (if x6_1 < (l0.length : Int) then (if x5_1.length < 5864062014805 then (thermographref06_half.l0 kj7 l0 l1 (x5_1 ++ [(⟨(rd_T42 l0 x6_1).f0, (rd_T42 l0 x6_1).f1, (rd_T42 l0 x6_1).f2⟩ : S42)]) (wrap64 (x6_1 + 1)) x7_1) else (none)) else (none)) else (none)) = some r := by rw [if_pos rfl] at H; exact H
         clear H; have H := H1; clear H1
         by_cases c18 : 0 ≤ x6_1
         ·
          rw [if_pos c18] at H; have c18b0 : decide (0 ≤ x6_1) = true := decide_eq_true c18; clear c18
          by_cases c19 : x6_1 < (l0.length : Int)
          ·
           rw [if_pos c19] at H; have c19b0 : decide (x6_1 < (l0.length : Int)) = true := decide_eq_true c19; clear c19
           by_cases c20 : x5_1.length < 5864062014805
           ·
            rw [if_pos c20] at H; have LMc20 := Aside0.mk c20; clear c20
            obtain ⟨y247, hy247⟩ : ∃ y_ : List (S42), y_ = (x5_1 ++ [(⟨(rd_T42 l0 x6_1).f0, (rd_T42 l0 x6_1).f1, (rd_T42 l0 x6_1).f2⟩ : S42)]) := ⟨_, rfl⟩
            replace H : (thermographref06_half.l0 kj7 l0 l1 y247 (wrap64 (x6_1 + 1)) x7_1) = some r := by (rw [hy247]; with_reducible exact H)
            have Ny247 := Aside0.mk hy247; clear hy247; have H' := Aside0.mk H; clear H; have p246 : 0 ≤ (x6_1 : Int) := of_decide_eq_true (by with_reducible assumption); have q246 : x6_1 < (l0.length : Int) := of_decide_eq_true (by with_reducible assumption); obtain ⟨ad246, e246, hx246_0, hx246_1, hx246_2⟩ := at_T42 HR0.out x6_1 p246 q246; cases e246; replace hx246_0 := (HB.out.cell (World.block_lt_of_cell? w _ hx246_0)).trans hx246_0; replace hx246_1 := (HB.out.cell (World.block_lt_of_cell? w _ hx246_1)).trans hx246_1; replace hx246_2 := (HB.out.cell (World.block_lt_of_cell? w _ hx246_2)).trans hx246_2; replace p246 := eq_true p246; replace q246 := eq_true q246
            go_wp2_with (((with_reducible refine gate_builtin (b := .append) (xs := #[.tmp 66, .tmp 71]) rfl ?_); (try (refine gate_guard (by rfl) ?_; dsimp only)); at_builtin; refine Kd.R_append k42 (w0 := w) w.heap.size rfl (.tmp 66) (.tmp 71) 44 42 (.agg #[(.int .i64 0), (.int .u64 0), (.int .u64 0)]) 24 rfl Try.underlying44 info42 rfl (by decide) (by omega) u5 x5_1 (⟨(rd_T42 l0 x6_1).f0, (rd_T42 l0 x6_1).f1, (rd_T42 l0 x6_1).f2⟩ : S42) [.int .i64 ((rd_T42 l0 x6_1).f0), .int .u64 ((rd_T42 l0 x6_1).f1), .int .u64 ((rd_T42 l0 x6_1).f2)] (fun _ => True) (fun _ => False) rfl rfl ?aP (fun _ hk => hk.elim) ?aF ?aO ?aB ?aS ?aL ?_; (case aP => exact k42_mkM _ _ _ (⟨(rd_T42 l0 x6_1).f0, (rd_T42 l0 x6_1).f1, (rd_T42 l0 x6_1).f2⟩ : S42)); (case aB => exact HB.out); (case aF => exact (fun _ _ => trivial)); (case aO => exact HO_5.out); (case aS => exact (below_size HB.out)); (case aL => have := LMc20.out; omega); intro v248 w21 ho hb hg hat; rw [← Ny247.out] at ho; have n0_ := Aside0.mk (hb); have n1_ := Aside0.mk (ho); clear HB; clear HO_5; have HB := n0_; have HO249 := n1_; clear n0_ n1_; clear ho hb hg hat))
            go_roundg kj7
            case measure => have := HK1.out; have := HJ4.out; have := HJ7.out; omega
            case rel => exact ⟨(y247), (wrap64 (x6_1 + 1)), (x7_1), (by rfl), (by rfl), H', ⟨by have := HK1.out; have := HJ4.out; have := HJ7.out; omega⟩, ⟨HO249.out⟩, ⟨HB.out⟩⟩
           ·
            rw [if_neg c20] at H; exact absurd H (by simp)
          ·
           rw [if_neg c19] at H; exact absurd H (by simp)
         ·
          rw [if_neg c18] at H; exact absurd H (by simp)
        ·
         replace c17 := Bool.eq_false_iff.mpr c17; subst c17; have H1 : (if x6_1 = (l0.length : Int) then (thermographref06_half.j3 kj7 l0 l1 x5_1 x6_1 x7_1 true) else (if 0 ≤ x7_1 then (if x7_1 < (l1.length : Int) then (if 0 ≤ x6_1 then (if x6_1 < (l0.length : Int) then (thermographref06_half.j3 kj7 l0 l1 x5_1 x6_1 x7_1 (decide (((rd_T42 l1 x7_1).f0) < ((rd_T42 l0 x6_1).f0)))) else (none)) else (none)) else (none)) else (none))) = some r := by rw [if_neg (show ¬ (false = true) by decide)] at H; exact H
         clear H; have H := H1; clear H1; have HC22 := Aside0.mk H; clear H
         go_upto_region 14 with (fail)
         go_cut [75] (fun v75 wc => ∃ (kq : Nat) (x75_21 : Bool), v75 = .bool x75_21 ∧ Aside0 (thermographref06_half.j3 kq l0 l1 x5_1 x6_1 x7_1 x75_21 = some r) ∧ Aside0 (kq ≤ kj7) ∧ Aside0 (Kd.R k42 42 wc w.heap.size (fun _ => True) u5 x5_1) ∧ Aside0 (Below w.heap.size w wc))
         case first =>
          have H := HC22.out; clear HC22
          by_cases c23 : x6_1 = (l0.length : Int)
          ·
           rw [if_pos c23] at H; have c23b0 : (x6_1 == (l0.length : Int)) = true := beq_iff_eq.mpr c23; clear c23
           ((skip))
           have H' := Aside0.mk H; clear H; try go_wp2
           have n0_ := Aside0.mk (Kd.R_drew HO_5.out); have n1_ := Aside0.mk (below_drew1 HB.out); clear HO_5; clear HB; have HO_5 := n0_; have HB := n1_; clear n0_ n1_; refine start_ (n := 18) (S := fun w' => True) (ds := []) (bs 18 0) (by kernel_rfl) rfl rfl trivial (fun hHeld => ?_); refine with_tabW thermographref06_half.tab14 thermographref06_half.bits14 (fun HT_ HW_ => ?_); generalize wc.drew = w24 at HO_5 HB hHeld ⊢; apply pv 0 76 (bs 18 1) HT_; rfl; rfl; kernel_rfl; exact qq; rfl; intro w'; go_simp; with_reducible rfl; simp only [zz]; rfl
           apply pv 1 77 (bs 18 3) HT_; rfl; rfl; kernel_rfl; exact qq; rfl; intro w'; go_simp; with_reducible rfl; simp only [zz]; rfl
           apply pv 2 78 (bs 18 7) HT_; rfl; rfl; kernel_rfl; exact qq; rfl; intro w'; go_simp; with_reducible rfl; simp only [zz]; rfl
           apply pv 3 79 (bs 18 15) HT_; rfl; rfl; kernel_rfl; exact qq; rfl; intro w'; go_simp; with_reducible rfl; simp only [zz]; rfl
           apply pv 4 80 (bs 18 31) HT_; rfl; rfl; kernel_rfl; exact qq; rfl; intro w'; go_simp; with_reducible rfl; simp only [zz]; rfl
           apply py 5 81 (bs 18 63) HT_; rfl; rfl; kernel_rfl; exact qq; rfl; simp only [zz]; rfl; apply py 6 82 (bs 18 127) HT_; rfl; rfl; kernel_rfl; exact qq; rfl; simp only [zz]; rfl; apply py 7 83 (bs 18 255) HT_; rfl; rfl; kernel_rfl; exact qq; rfl; simp only [zz]; rfl; apply py 8 84 (bs 18 511) HT_; rfl; rfl; kernel_rfl; exact qq; rfl; simp only [zz]; rfl; apply py 9 85 (bs 18 1023) HT_; rfl; rfl; kernel_rfl; exact qq; rfl; simp only [zz]; rfl; apply py 10 86 (bs 18 2047) HT_; rfl; rfl; kernel_rfl; exact qq; rfl; simp only [zz]; rfl; apply py 11 87 (bs 18 4095) HT_; rfl; rfl; kernel_rfl; exact qq; rfl; simp only [zz]; rfl; apply py 12 88 (bs 18 8191) HT_; rfl; rfl; kernel_rfl; exact qq; rfl; simp only [zz]; rfl; apply py 13 89 (bs 18 16383) HT_; rfl; rfl; kernel_rfl; exact qq; rfl; simp only [zz]; rfl; apply py 14 90 (bs 18 32767) HT_; rfl; rfl; kernel_rfl; exact qq; rfl; simp only [zz]; rfl; apply py 15 91 (bs 18 65535) HT_; rfl; rfl; kernel_rfl; exact qq; rfl; simp only [zz]; rfl; apply pv 16 92 (bs 18 131071) HT_; rfl; rfl; kernel_rfl; exact qq; rfl; intro w'; go_simp; with_reducible rfl; simp only [zz]; rfl
           apply pv 17 75 (bs 18 262143) HT_; rfl; rfl; kernel_rfl; exact qq; rfl; intro w'; go_simp; with_reducible rfl; simp only [zz]; rfl
           refine done_ (done_of HT_.out (by kernel_rfl)) ?_; try go_wp2
           go_meet
           case rel => exact ⟨_, (true), (by rfl), H', ⟨by have := HK1.out; have := HJ4.out; have := HJ7.out; omega⟩, ⟨HO_5.out⟩, ⟨HB.out⟩⟩
          ·
           rw [if_neg c23] at H; have c23b0 : (x6_1 == (l0.length : Int)) = false := beq_eq_false_iff_ne.mpr c23
           ((skip))
           by_cases c25 : 0 ≤ x7_1
           ·
            rw [if_pos c25] at H; have c25b0 : decide (0 ≤ x7_1) = true := decide_eq_true c25; clear c25
            by_cases c26 : x7_1 < (l1.length : Int)
            ·
             rw [if_pos c26] at H; have c26b0 : decide (x7_1 < (l1.length : Int)) = true := decide_eq_true c26; clear c26
             by_cases c27 : 0 ≤ x6_1
             ·
              rw [if_pos c27] at H; have c27b0 : decide (0 ≤ x6_1) = true := decide_eq_true c27; clear c27
              by_cases c28 : x6_1 < (l0.length : Int)
              ·
               rw [if_pos c28] at H; have c28b0 : decide (x6_1 < (l0.length : Int)) = true := decide_eq_true c28; clear c28; have H' := Aside0.mk H; clear H; try go_wp2
               have n0_ := Aside0.mk (Kd.R_drew HO_5.out); have n1_ := Aside0.mk (below_drew1 HB.out); clear HO_5; clear HB; have HO_5 := n0_; have HB := n1_; clear n0_ n1_; have p250 : 0 ≤ (x7_1 : Int) := of_decide_eq_true (by with_reducible assumption); have q250 : x7_1 < (l1.length : Int) := of_decide_eq_true (by with_reducible assumption); obtain ⟨ad250, e250, hx250_0, hx250_1, hx250_2⟩ := at_T42 HR1.out x7_1 p250 q250; have hw250_2 := hx250_2; have hw250_1 := hx250_1; have hw250_0 := hx250_0; cases e250; replace hx250_0 := (HB.out.cell (World.block_lt_of_cell? w _ hx250_0)).trans hx250_0; replace hx250_1 := (HB.out.cell (World.block_lt_of_cell? w _ hx250_1)).trans hx250_1; replace hx250_2 := (HB.out.cell (World.block_lt_of_cell? w _ hx250_2)).trans hx250_2; replace p250 := eq_true p250; replace q250 := eq_true q250; have p251 : 0 ≤ (x6_1 : Int) := of_decide_eq_true (by with_reducible assumption); have q251 : x6_1 < (l0.length : Int) := of_decide_eq_true (by with_reducible assumption); obtain ⟨ad251, e251, hx251_0, hx251_1, hx251_2⟩ := at_T42 HR0.out x6_1 p251 q251; have hw251_2 := hx251_2; have hw251_1 := hx251_1; have hw251_0 := hx251_0; cases e251; replace hx251_0 := (HB.out.cell (World.block_lt_of_cell? w _ hx251_0)).trans hx251_0; replace hx251_1 := (HB.out.cell (World.block_lt_of_cell? w _ hx251_1)).trans hx251_1; replace hx251_2 := (HB.out.cell (World.block_lt_of_cell? w _ hx251_2)).trans hx251_2; replace p251 := eq_true p251; replace q251 := eq_true q251; refine start_ (n := 18) (S := fun w' => w'.cell? (ad250.add ((x7_1).toNat * 3)) = some (.int .i64 ((rd_T42 l1 x7_1).f0)) ∧ w'.cell? ⟨(ad250.add ((x7_1).toNat * 3)).block, (ad250.add ((x7_1).toNat * 3)).off + 1, none⟩ = some (.int .u64 ((rd_T42 l1 x7_1).f1)) ∧ w'.cell? ⟨(ad250.add ((x7_1).toNat * 3)).block, (ad250.add ((x7_1).toNat * 3)).off + 2, none⟩ = some (.int .u64 ((rd_T42 l1 x7_1).f2)) ∧ w'.cell? (ad251.add ((x6_1).toNat * 3)) = some (.int .i64 ((rd_T42 l0 x6_1).f0)) ∧ w'.cell? ⟨(ad251.add ((x6_1).toNat * 3)).block, (ad251.add ((x6_1).toNat * 3)).off + 1, none⟩ = some (.int .u64 ((rd_T42 l0 x6_1).f1)) ∧ w'.cell? ⟨(ad251.add ((x6_1).toNat * 3)).block, (ad251.add ((x6_1).toNat * 3)).off + 2, none⟩ = some (.int .u64 ((rd_T42 l0 x6_1).f2))) (ds := []) (bs 18 0) (by kernel_rfl) rfl rfl ⟨((HB.out.cell (World.block_lt_of_cell? w _ hw250_0)).trans hw250_0), ((HB.out.cell (World.block_lt_of_cell? w _ hw250_1)).trans hw250_1), ((HB.out.cell (World.block_lt_of_cell? w _ hw250_2)).trans hw250_2), ((HB.out.cell (World.block_lt_of_cell? w _ hw251_0)).trans hw251_0), ((HB.out.cell (World.block_lt_of_cell? w _ hw251_1)).trans hw251_1), ((HB.out.cell (World.block_lt_of_cell? w _ hw251_2)).trans hw251_2)⟩ (fun hHeld => ?_); refine with_tabW thermographref06_half.tab14 thermographref06_half.bits14 (fun HT_ HW_ => ?_); generalize wc.drew = w29 at HO_5 HB hx250_0 hx250_1 hx250_2 hx251_0 hx251_1 hx251_2 hHeld ⊢; apply pv 0 76 (bs 18 1) HT_; rfl; rfl; kernel_rfl; exact qq; rfl; intro w'; go_simp; with_reducible rfl; simp only [zz]; rfl
               apply pv 1 77 (bs 18 3) HT_; rfl; rfl; kernel_rfl; exact qq; rfl; intro w'; go_simp; with_reducible rfl; simp only [zz]; rfl
               apply pv 2 78 (bs 18 7) HT_; rfl; rfl; kernel_rfl; exact qq; rfl; intro w'; go_simp; with_reducible rfl; simp only [zz]; rfl
               apply pv 3 79 (bs 18 15) HT_; rfl; rfl; kernel_rfl; exact qq; rfl; intro w'; go_simp; with_reducible rfl; simp only [zz]; rfl
               apply pv 4 80 (bs 18 31) HT_; rfl; rfl; kernel_rfl; exact qq; rfl; intro w'; go_simp; with_reducible rfl; simp only [zz]; rfl
               apply pv 5 81 (bs 18 63) HT_; rfl; rfl; kernel_rfl; exact qq; rfl; intro w'; go_simp; with_reducible rfl; simp only [zz]; rfl
               apply pv 6 82 (bs 18 127) HT_; rfl; rfl; kernel_rfl; exact qq; rfl; intro w'; go_simp; with_reducible rfl; simp only [zz]; rfl
               apply pv 7 83 (bs 18 255) HT_; rfl; rfl; kernel_rfl; exact qq; rfl; intro w'; go_simp; with_reducible rfl; simp only [zz]; rfl
               apply pv 8 84 (bs 18 511) HT_; rfl; rfl; kernel_rfl; exact qq; rfl; intro w'; go_simp; with_reducible rfl; simp only [zz]; rfl
               apply pv 10 86 (bs 18 1535) HT_; rfl; rfl; kernel_rfl; exact qq; rfl; intro w'; go_simp; with_reducible rfl; simp only [zz]; rfl
               apply pv 11 87 (bs 18 3583) HT_; rfl; rfl; kernel_rfl; exact qq; rfl; intro w'; go_simp; with_reducible rfl; simp only [zz]; rfl
               apply pv 12 88 (bs 18 7679) HT_; rfl; rfl; kernel_rfl; exact qq; rfl; intro w'; go_simp; with_reducible rfl; simp only [zz]; rfl
               apply pv 13 89 (bs 18 15871) HT_; rfl; rfl; kernel_rfl; exact qq; rfl; intro w'; go_simp; with_reducible rfl; simp only [zz]; rfl
               apply tb 9 85 (bs 18 16383) HT_ HW_ hHeld; rfl; rfl; kernel_rfl; exact qq; rfl; rintro w' ⟨s0, s1, s2, s3, s4, s5⟩; go_simp; with_reducible rfl; simp only [zz]; rfl
               apply tb 14 90 (bs 18 32767) HT_ HW_ hHeld; rfl; rfl; kernel_rfl; exact qq; rfl; rintro w' ⟨s0, s1, s2, s3, s4, s5⟩; go_simp; with_reducible rfl; simp only [zz]; rfl
               apply pv 15 91 (bs 18 65535) HT_; rfl; rfl; kernel_rfl; exact qq; rfl; intro w'; go_simp; with_reducible rfl; simp only [zz]; rfl
               apply pv 16 92 (bs 18 131071) HT_; rfl; rfl; kernel_rfl; exact qq; rfl; intro w'; go_simp; with_reducible rfl; simp only [zz]; rfl
               apply pv 17 75 (bs 18 262143) HT_; rfl; rfl; kernel_rfl; exact qq; rfl; intro w'; go_simp; with_reducible rfl; simp only [zz]; rfl
               refine done_ (done_of HT_.out (by kernel_rfl)) ?_; try go_wp2
               go_meet
               case rel => exact ⟨_, (decide (((rd_T42 l1 x7_1).f0) < ((rd_T42 l0 x6_1).f0))), (by rfl), H', ⟨by have := HK1.out; have := HJ4.out; have := HJ7.out; omega⟩, ⟨HO_5.out⟩, ⟨HB.out⟩⟩
              ·
               rw [if_neg c28] at H; exact absurd H (by simp)
             ·
              rw [if_neg c27] at H; exact absurd H (by simp)
            ·
             rw [if_neg c26] at H; exact absurd H (by simp)
           ·
            rw [if_neg c25] at H; exact absurd H (by simp)
         case rest =>
          clear HC22; obtain ⟨kq, x75_21, rfl, HA, HJ21, HO_5, HB⟩ := hcut
          cases kq with
          | zero => exact absurd HA.out (by simp [thermographref06_half.j3])
          | succ kj21 =>
           have H := HA.out; clear HA; simp only [thermographref06_half.j3] at H
           by_cases c30 : x75_21 = true
           ·
            subst c30; have H1 : (if 0 ≤ x7_1 then (if x7_1 < (l1.length : Int) then (if x5_1.length < 5864062014805 then (thermographref06_half.l0 kj21 l0 l1 (x5_1 ++ [(⟨(rd_T42 l1 x7_1).f0, (rd_T42 l1 x7_1).f1, (rd_T42 l1 x7_1).f2⟩ : S42)]) x6_1 (wrap64 (x7_1 + 1))) else (none)) else (none)) else (none)) = some r := by rw [if_pos rfl] at H; exact H
            clear H; have H := H1; clear H1
            by_cases c31 : 0 ≤ x7_1
            ·
             rw [if_pos c31] at H; have c31b0 : decide (0 ≤ x7_1) = true := decide_eq_true c31; clear c31
             by_cases c32 : x7_1 < (l1.length : Int)
             ·
              rw [if_pos c32] at H; have c32b0 : decide (x7_1 < (l1.length : Int)) = true := decide_eq_true c32; clear c32
              by_cases c33 : x5_1.length < 5864062014805
              ·
               rw [if_pos c33] at H; have LMc33 := Aside0.mk c33; clear c33
               obtain ⟨y253, hy253⟩ : ∃ y_ : List (S42), y_ = (x5_1 ++ [(⟨(rd_T42 l1 x7_1).f0, (rd_T42 l1 x7_1).f1, (rd_T42 l1 x7_1).f2⟩ : S42)]) := ⟨_, rfl⟩
               replace H : (thermographref06_half.l0 kj21 l0 l1 y253 x6_1 (wrap64 (x7_1 + 1))) = some r := by (rw [hy253]; with_reducible exact H)
               have Ny253 := Aside0.mk hy253; clear hy253; have H' := Aside0.mk H; clear H; have p252 : 0 ≤ (x7_1 : Int) := of_decide_eq_true (by with_reducible assumption); have q252 : x7_1 < (l1.length : Int) := of_decide_eq_true (by with_reducible assumption); obtain ⟨ad252, e252, hx252_0, hx252_1, hx252_2⟩ := at_T42 HR1.out x7_1 p252 q252; cases e252; replace hx252_0 := (HB.out.cell (World.block_lt_of_cell? w _ hx252_0)).trans hx252_0; replace hx252_1 := (HB.out.cell (World.block_lt_of_cell? w _ hx252_1)).trans hx252_1; replace hx252_2 := (HB.out.cell (World.block_lt_of_cell? w _ hx252_2)).trans hx252_2; replace p252 := eq_true p252; replace q252 := eq_true q252
               go_wp2_with (((with_reducible refine gate_builtin (b := .append) (xs := #[.tmp 93, .tmp 98]) rfl ?_); (try (refine gate_guard (by rfl) ?_; dsimp only)); at_builtin; refine Kd.R_append k42 (w0 := w) w.heap.size rfl (.tmp 93) (.tmp 98) 44 42 (.agg #[(.int .i64 0), (.int .u64 0), (.int .u64 0)]) 24 rfl Try.underlying44 info42 rfl (by decide) (by omega) u5 x5_1 (⟨(rd_T42 l1 x7_1).f0, (rd_T42 l1 x7_1).f1, (rd_T42 l1 x7_1).f2⟩ : S42) [.int .i64 ((rd_T42 l1 x7_1).f0), .int .u64 ((rd_T42 l1 x7_1).f1), .int .u64 ((rd_T42 l1 x7_1).f2)] (fun _ => True) (fun _ => False) rfl rfl ?aP (fun _ hk => hk.elim) ?aF ?aO ?aB ?aS ?aL ?_; (case aP => exact k42_mkM _ _ _ (⟨(rd_T42 l1 x7_1).f0, (rd_T42 l1 x7_1).f1, (rd_T42 l1 x7_1).f2⟩ : S42)); (case aB => exact HB.out); (case aF => exact (fun _ _ => trivial)); (case aO => exact HO_5.out); (case aS => exact (below_size HB.out)); (case aL => have := LMc33.out; omega); intro v254 w34 ho hb hg hat; rw [← Ny253.out] at ho; have n0_ := Aside0.mk (hb); have n1_ := Aside0.mk (ho); clear HB; clear HO_5; have HB := n0_; have HO255 := n1_; clear n0_ n1_; clear ho hb hg hat))
               go_roundg kj21
               case measure => have := HK1.out; have := HJ4.out; have := HJ7.out; have := HJ21.out; omega
               case rel => exact ⟨(y253), (x6_1), (wrap64 (x7_1 + 1)), (by rfl), (by rfl), H', ⟨by have := HK1.out; have := HJ4.out; have := HJ7.out; have := HJ21.out; omega⟩, ⟨HO255.out⟩, ⟨HB.out⟩⟩
              ·
               rw [if_neg c33] at H; exact absurd H (by simp)
             ·
              rw [if_neg c32] at H; exact absurd H (by simp)
            ·
             rw [if_neg c31] at H; exact absurd H (by simp)
           ·
            replace c30 := Bool.eq_false_iff.mpr c30; subst c30; have H1 : (if 0 ≤ x6_1 then (if x6_1 < (l0.length : Int) then (if 0 ≤ x7_1 then (if x7_1 < (l1.length : Int) then ((thermographref06_Wins.f ((rd_T42 l1 x7_1).f0) ((rd_T42 l1 x7_1).f1) ((rd_T42 l1 x7_1).f2) ((rd_T42 l0 x6_1).f0) ((rd_T42 l0 x6_1).f1) ((rd_T42 l0 x6_1).f2)).bind fun t259 => (if t259 = true then (if x5_1.length < 5864062014805 then (thermographref06_half.l0 kj21 l0 l1 (x5_1 ++ [(⟨(rd_T42 l1 x7_1).f0, (rd_T42 l1 x7_1).f1, (rd_T42 l1 x7_1).f2⟩ : S42)]) (wrap64 (x6_1 + 1)) (wrap64 (x7_1 + 1))) else (none)) else (if x5_1.length < 5864062014805 then (thermographref06_half.l0 kj21 l0 l1 (x5_1 ++ [(⟨(rd_T42 l0 x6_1).f0, (rd_T42 l0 x6_1).f1, (rd_T42 l0 x6_1).f2⟩ : S42)]) (wrap64 (x6_1 + 1)) (wrap64 (x7_1 + 1))) else (none)))) else (none)) else (none)) else (none)) else (none)) = some r := by rw [if_neg (show ¬ (false = true) by decide)] at H; exact H
            clear H; have H := H1; clear H1
            by_cases c35 : 0 ≤ x6_1
            ·
             rw [if_pos c35] at H; have c35b0 : decide (0 ≤ x6_1) = true := decide_eq_true c35; clear c35
             by_cases c36 : x6_1 < (l0.length : Int)
             ·
              rw [if_pos c36] at H; have c36b0 : decide (x6_1 < (l0.length : Int)) = true := decide_eq_true c36; clear c36
              by_cases c37 : 0 ≤ x7_1
              ·
               rw [if_pos c37] at H; have c37b0 : decide (0 ≤ x7_1) = true := decide_eq_true c37; clear c37
               by_cases c38 : x7_1 < (l1.length : Int)
               ·
                rw [if_pos c38] at H; have c38b0 : decide (x7_1 < (l1.length : Int)) = true := decide_eq_true c38; clear c38; replace H := Option.bind_eq_some_iff.mp H; obtain ⟨t259, A390, H⟩ := H; replace H : (if t259 = true then (if x5_1.length < 5864062014805 then (thermographref06_half.l0 kj21 l0 l1 (x5_1 ++ [(⟨(rd_T42 l1 x7_1).f0, (rd_T42 l1 x7_1).f1, (rd_T42 l1 x7_1).f2⟩ : S42)]) (wrap64 (x6_1 + 1)) (wrap64 (x7_1 + 1))) else (none)) else (if x5_1.length < 5864062014805 then (thermographref06_half.l0 kj21 l0 l1 (x5_1 ++ [(⟨(rd_T42 l0 x6_1).f0, (rd_T42 l0 x6_1).f1, (rd_T42 l0 x6_1).f2⟩ : S42)]) (wrap64 (x6_1 + 1)) (wrap64 (x7_1 + 1))) else (none))) = some r := H; have A39 := Aside0.mk A390; clear A390
                by_cases c40 : t259 = true
                ·
                 subst c40; have H1 : (if x5_1.length < 5864062014805 then (thermographref06_half.l0 kj21 l0 l1 (x5_1 ++ [(⟨(rd_T42 l1 x7_1).f0, (rd_T42 l1 x7_1).f1, (rd_T42 l1 x7_1).f2⟩ : S42)]) (wrap64 (x6_1 + 1)) (wrap64 (x7_1 + 1))) else (none)) = some r := by rw [if_pos rfl] at H; exact H
                 clear H; have H := H1; clear H1
                 by_cases c41 : x5_1.length < 5864062014805
                 ·
                  rw [if_pos c41] at H; have LMc41 := Aside0.mk c41; clear c41
                  obtain ⟨y261, hy261⟩ : ∃ y_ : List (S42), y_ = (x5_1 ++ [(⟨(rd_T42 l1 x7_1).f0, (rd_T42 l1 x7_1).f1, (rd_T42 l1 x7_1).f2⟩ : S42)]) := ⟨_, rfl⟩
                  replace H : (thermographref06_half.l0 kj21 l0 l1 y261 (wrap64 (x6_1 + 1)) (wrap64 (x7_1 + 1))) = some r := by (rw [hy261]; with_reducible exact H)
                  have Ny261 := Aside0.mk hy261; clear hy261; have H' := Aside0.mk H; clear H; have p256 : 0 ≤ (x6_1 : Int) := of_decide_eq_true (by with_reducible assumption); have q256 : x6_1 < (l0.length : Int) := of_decide_eq_true (by with_reducible assumption); obtain ⟨ad256, e256, hx256_0, hx256_1, hx256_2⟩ := at_T42 HR0.out x6_1 p256 q256; cases e256; replace hx256_0 := (HB.out.cell (World.block_lt_of_cell? w _ hx256_0)).trans hx256_0; replace hx256_1 := (HB.out.cell (World.block_lt_of_cell? w _ hx256_1)).trans hx256_1; replace hx256_2 := (HB.out.cell (World.block_lt_of_cell? w _ hx256_2)).trans hx256_2; replace p256 := eq_true p256; replace q256 := eq_true q256
                  try go_wp2_with (((with_reducible refine gate_dst (N := 8) rfl ?_); (try (refine gate_guard (by rfl) ?_; dsimp only)); refine box_event ?hg (N := 8) ?hd (cs := #[.int .i64 0, .int .u64 0, .int .u64 0]) (t := 42) ?hr ?_; (case hd => rfl); (case hg => rfl); (case hr => go_simp; done); intro gb257 hg w42 hbox hb; have n0_ := Aside0.mk (Kd.R_below (Kd.R_elderB HO_5.out gb257 (Nat.le_of_eq hg.symm)) hb); have n1_ := Aside0.mk (below_step HB.out hb); have n2_ := Aside0.mk (hbox); have n4_ := Aside0.mk ((by rw [hg]; exact (below_size HB.out) : w.heap.size ≤ gb257)); clear HO_5; clear HB; have HO_5 := n0_; have HB := n1_; have BK257 := n2_; have GE257 := n4_; clear n0_ n1_ n2_ n4_; clear hb hbox hg; have hcz43_0 : w42.cell? ⟨gb257, 0, none⟩ = some (.int .i64 0) := (blk_cell BK257.out 0).trans rfl; have hcz43_1 : w42.cell? ⟨gb257, 1, none⟩ = some (.int .u64 0) := (blk_cell BK257.out 1).trans rfl; have hcz43_2 : w42.cell? ⟨gb257, 2, none⟩ = some (.int .u64 0) := (blk_cell BK257.out 2).trans rfl; have hfz43_0 := blk_frozen BK257.out 0; have hfz43_1 := blk_frozen BK257.out 1; have hfz43_2 := blk_frozen BK257.out 2))
                  have n0_ : Aside0 (Kd.R k42 42 (((w42.setCell ⟨gb257, 0, none⟩ (.int .i64 ((rd_T42 l0 x6_1).f0))).setCell ⟨gb257, 1, none⟩ (.int .u64 ((rd_T42 l0 x6_1).f1))).setCell ⟨gb257, 2, none⟩ (.int .u64 ((rd_T42 l0 x6_1).f2))) w.heap.size (fun k_ => k_ ≠ gb257) u5 x5_1) := ⟨by exact Kd.R_mono (Kd.R_far (p := ⟨gb257, 2, none⟩) (Kd.R_far (p := ⟨gb257, 1, none⟩) (Kd.R_far (p := ⟨gb257, 0, none⟩) (Kd.R_mono HO_5.out (fun k_ hk => (⟨hk, hk.2⟩ : _ ∧ k_ ≠ gb257))) (fun _ hk => hk.2) (.int .i64 ((rd_T42 l0 x6_1).f0))) (fun _ hk => hk.2) (.int .u64 ((rd_T42 l0 x6_1).f1))) (fun _ hk => hk.2) (.int .u64 ((rd_T42 l0 x6_1).f2))) (fun _ hk => hk.1.2)⟩
                  have n1_ : Aside0 ((((w42.setCell ⟨gb257, 0, none⟩ (.int .i64 ((rd_T42 l0 x6_1).f0))).setCell ⟨gb257, 1, none⟩ (.int .u64 ((rd_T42 l0 x6_1).f1))).setCell ⟨gb257, 2, none⟩ (.int .u64 ((rd_T42 l0 x6_1).f2))).heap[gb257]? = some (.cells #[.int .i64 ((rd_T42 l0 x6_1).f0), .int .u64 ((rd_T42 l0 x6_1).f1), .int .u64 ((rd_T42 l0 x6_1).f2)] 42 (0, 0))) := ⟨by refine blk_put (cs := #[.int .i64 ((rd_T42 l0 x6_1).f0), .int .u64 ((rd_T42 l0 x6_1).f1), .int .u64 0]) ?_ 2 _ rfl; refine blk_put (cs := #[.int .i64 ((rd_T42 l0 x6_1).f0), .int .u64 0, .int .u64 0]) ?_ 1 _ rfl; refine blk_put (cs := #[.int .i64 0, .int .u64 0, .int .u64 0]) ?_ 0 _ rfl; exact BK257.out⟩
                  have n2_ : Aside0 (Below w.heap.size w (((w42.setCell ⟨gb257, 0, none⟩ (.int .i64 ((rd_T42 l0 x6_1).f0))).setCell ⟨gb257, 1, none⟩ (.int .u64 ((rd_T42 l0 x6_1).f1))).setCell ⟨gb257, 2, none⟩ (.int .u64 ((rd_T42 l0 x6_1).f2)))) := ⟨by repeat ((with_reducible first | exact HB.out | refine below_set ?_ GE257.out))⟩
                  (try clear HO_5)
                  (try clear BK257)
                  (try clear HB)
                  generalize (((w42.setCell ⟨gb257, 0, none⟩ (.int .i64 ((rd_T42 l0 x6_1).f0))).setCell ⟨gb257, 1, none⟩ (.int .u64 ((rd_T42 l0 x6_1).f1))).setCell ⟨gb257, 2, none⟩ (.int .u64 ((rd_T42 l0 x6_1).f2))) = w44 at n0_ n1_ n2_ ⊢; have HO_5 := n0_; have BK257 := n1_; have HB := n2_; clear n0_ n1_ n2_; have n0_ := Aside0.mk (Kd.R_drew HO_5.out); have n1_ := Aside0.mk (blk_drew BK257.out); have n2_ := Aside0.mk (below_drew1 HB.out); clear HO_5; clear BK257; clear HB; have HO_5 := n0_; have BK257 := n1_; have HB := n2_; clear n0_ n1_ n2_; have p258 : 0 ≤ (x7_1 : Int) := of_decide_eq_true (by with_reducible assumption); have q258 : x7_1 < (l1.length : Int) := of_decide_eq_true (by with_reducible assumption); obtain ⟨ad258, e258, hx258_0, hx258_1, hx258_2⟩ := at_T42 HR1.out x7_1 p258 q258; have hw258_2 := hx258_2; have hw258_1 := hx258_1; have hw258_0 := hx258_0; cases e258; replace hx258_0 := (HB.out.cell (World.block_lt_of_cell? w _ hx258_0)).trans hx258_0; replace hx258_1 := (HB.out.cell (World.block_lt_of_cell? w _ hx258_1)).trans hx258_1; replace hx258_2 := (HB.out.cell (World.block_lt_of_cell? w _ hx258_2)).trans hx258_2; replace p258 := eq_true p258; replace q258 := eq_true q258; refine start_ (n := 6) (S := fun w' => w'.cell? ⟨gb257, 0, none⟩ = some (.int .i64 ((rd_T42 l0 x6_1).f0)) ∧ w'.cell? ⟨gb257, 1, none⟩ = some (.int .u64 ((rd_T42 l0 x6_1).f1)) ∧ w'.cell? ⟨gb257, 2, none⟩ = some (.int .u64 ((rd_T42 l0 x6_1).f2)) ∧ w'.cell? (ad258.add ((x7_1).toNat * 3)) = some (.int .i64 ((rd_T42 l1 x7_1).f0)) ∧ w'.cell? ⟨(ad258.add ((x7_1).toNat * 3)).block, (ad258.add ((x7_1).toNat * 3)).off + 1, none⟩ = some (.int .u64 ((rd_T42 l1 x7_1).f1)) ∧ w'.cell? ⟨(ad258.add ((x7_1).toNat * 3)).block, (ad258.add ((x7_1).toNat * 3)).off + 2, none⟩ = some (.int .u64 ((rd_T42 l1 x7_1).f2))) (ds := []) (bs 6 0) (by kernel_rfl) rfl rfl ⟨(blk_cell BK257.out 0).trans rfl, (blk_cell BK257.out 1).trans rfl, (blk_cell BK257.out 2).trans rfl, ((HB.out.cell (World.block_lt_of_cell? w _ hw258_0)).trans hw258_0), ((HB.out.cell (World.block_lt_of_cell? w _ hw258_1)).trans hw258_1), ((HB.out.cell (World.block_lt_of_cell? w _ hw258_2)).trans hw258_2)⟩ (fun hHeld => ?_); generalize w44.drew = w45 at HO_5 BK257 HB hx258_0 hx258_1 hx258_2 hHeld ⊢; refine pure_ (i := 0) (N := some 24) (v := ?_) (a' := ?_) (bs 6 1) rfl rfl (by kernel_rfl) (fun _ _ _ h => h) (Or.inl ⟨by rfl, ?_⟩) ?_ ?_; rotate_left
                  ·
                   intro w'; go_simp; with_reducible rfl
                  rotate_left
                  ·
                   simp only [Act.put, List.setIfInBounds_toArray, List.set_cons_zero, List.set_cons_succ, i64_w, i32_w]; rfl
                  refine pure_ (i := 1) (N := some 25) (v := ?_) (a' := ?_) (bs 6 3) rfl rfl (by kernel_rfl) (fun _ _ _ h => h) (Or.inl ⟨by rfl, ?_⟩) ?_ ?_; rotate_left
                  ·
                   intro w'; go_simp; with_reducible rfl
                  rotate_left
                  ·
                   simp only [Act.put, List.setIfInBounds_toArray, List.set_cons_zero, List.set_cons_succ, i64_w, i32_w]; rfl
                  refine pure_ (i := 2) (N := some 26) (v := ?_) (a' := ?_) (bs 6 7) rfl rfl (by kernel_rfl) (fun _ _ _ h => h) (Or.inl ⟨by rfl, ?_⟩) ?_ ?_; rotate_left
                  ·
                   intro w'; go_simp; with_reducible rfl
                  rotate_left
                  ·
                   simp only [Act.put, List.setIfInBounds_toArray, List.set_cons_zero, List.set_cons_succ, i64_w, i32_w]; rfl
                  refine take_ (i := 3) (N := some 27) (v := ?_) (a' := ?_) (bs 6 15) rfl rfl (by kernel_rfl) (fun _ _ _ h => h) (Or.inl ⟨by rfl, ?_⟩) hHeld ?_ ?_; rotate_left
                  ·
                   rintro w' ⟨s0, s1, s2, s3, s4, s5⟩; go_simp; with_reducible rfl
                  rotate_left
                  ·
                   simp only [Act.put, List.setIfInBounds_toArray, List.set_cons_zero, List.set_cons_succ, i64_w, i32_w]; rfl
                  refine take_ (i := 4) (N := some 28) (v := ?_) (a' := ?_) (bs 6 31) rfl rfl (by kernel_rfl) (fun _ _ _ h => h) (Or.inl ⟨by rfl, ?_⟩) hHeld ?_ ?_; rotate_left
                  ·
                   rintro w' ⟨s0, s1, s2, s3, s4, s5⟩; go_simp; with_reducible rfl
                  rotate_left
                  ·
                   simp only [Act.put, List.setIfInBounds_toArray, List.set_cons_zero, List.set_cons_succ, i64_w, i32_w]; rfl
                  refine one_ (i := 5) (N := some 29) (bs 6 63) rfl rfl (by kernel_rfl) (by decide) (fun K hK => ?_); refine goes_ Try.func56 (by kernel_rfl) rfl #[.agg #[.int .i64 ((rd_T42 l1 x7_1).f0), .int .u64 ((rd_T42 l1 x7_1).f1), .int .u64 ((rd_T42 l1 x7_1).f2)], .agg #[.int .i64 ((rd_T42 l0 x6_1).f0), .int .u64 ((rd_T42 l0 x6_1).f1), .int .u64 ((rd_T42 l0 x6_1).f2)]] (by rfl) rfl rfl (by (try simp only [List.map_toArray, List.map_cons, List.map_nil]); rfl) ?_; with_reducible refine (thermographref06_Wins.calls ((rd_T42 l1 x7_1).f0) ((rd_T42 l1 x7_1).f1) ((rd_T42 l1 x7_1).f2) ((rd_T42 l0 x6_1).f0) ((rd_T42 l0 x6_1).f1) ((rd_T42 l0 x6_1).f2) true _ A39.out).mono ?_
                  rintro e w46 ⟨rfl, hb⟩; refine ⟨_, rfl, ?_⟩; have n0_ := Aside0.mk (Kd.R_below HO_5.out hb); have n1_ := Aside0.mk (blk_below (g := gb257) (o := .cells #[.int .i64 ((rd_T42 l0 x6_1).f0), .int .u64 ((rd_T42 l0 x6_1).f1), .int .u64 ((rd_T42 l0 x6_1).f2)] 42 (0, 0)) BK257.out hb); have n2_ := Aside0.mk (below_step HB.out hb); clear HO_5; clear BK257; clear HB; have HO_5 := n0_; have BK257 := n1_; have HB := n2_; clear n0_ n1_ n2_
                  (try clear hb)
                  (try clear hb2)
                  (try clear hk)
                  (try clear hi)
                  refine hK.out _ _ ⟨(blk_cell BK257.out 0).trans rfl, (blk_cell BK257.out 1).trans rfl, (blk_cell BK257.out 2).trans rfl, ((HB.out.cell (World.block_lt_of_cell? w _ hw258_0)).trans hw258_0), ((HB.out.cell (World.block_lt_of_cell? w _ hw258_1)).trans hw258_1), ((HB.out.cell (World.block_lt_of_cell? w _ hw258_2)).trans hw258_2)⟩ (fun hHeld => ?_); clear hK K; refine norm_ (a' := ?_) ?_ ?_; rotate_left
                  ·
                   show Act.put _ (some 29) _ = _; simp only [Act.put, List.setIfInBounds_toArray, List.set_cons_zero, List.set_cons_succ, i64_w, i32_w]; rfl
                  refine done_ (by kernel_rfl) ?_; have p260 : 0 ≤ (x7_1 : Int) := of_decide_eq_true (by with_reducible assumption); have q260 : x7_1 < (l1.length : Int) := of_decide_eq_true (by with_reducible assumption); obtain ⟨ad260, e260, hx260_0, hx260_1, hx260_2⟩ := at_T42 HR1.out x7_1 p260 q260
                  obtain rfl : ad258 = ad260 := (by injection e260)
                  replace hx260_0 := (HB.out.cell (World.block_lt_of_cell? w _ hx260_0)).trans hx260_0; replace hx260_1 := (HB.out.cell (World.block_lt_of_cell? w _ hx260_1)).trans hx260_1; replace hx260_2 := (HB.out.cell (World.block_lt_of_cell? w _ hx260_2)).trans hx260_2; replace p260 := eq_true p260; replace q260 := eq_true q260; have hfz47_0 := blk_frozen BK257.out 0; have hfz47_1 := blk_frozen BK257.out 1; have hfz47_2 := blk_frozen BK257.out 2
                  try go_wp2_with (((with_reducible refine gate_builtin (b := .append) (xs := #[.tmp 34, .tmp 36]) rfl ?_); (try (refine gate_guard (by rfl) ?_; dsimp only)); at_builtin; refine Kd.R_append k42 (w0 := w) w.heap.size rfl (.tmp 34) (.tmp 36) 44 42 (.agg #[(.int .i64 0), (.int .u64 0), (.int .u64 0)]) 24 rfl Try.underlying44 info42 rfl (by decide) (by omega) u5 x5_1 (⟨(rd_T42 l1 x7_1).f0, (rd_T42 l1 x7_1).f1, (rd_T42 l1 x7_1).f2⟩ : S42) [.int .i64 ((rd_T42 l1 x7_1).f0), .int .u64 ((rd_T42 l1 x7_1).f1), .int .u64 ((rd_T42 l1 x7_1).f2)] (fun k_ => k_ ≠ gb257) (fun _ => False) rfl (by (go_simp; done)) ?aP (fun _ hk => hk.elim) ?aF ?aO ?aB ?aS ?aL ?_; (case aP => exact k42_mkM _ _ _ (⟨(rd_T42 l1 x7_1).f0, (rd_T42 l1 x7_1).f1, (rd_T42 l1 x7_1).f2⟩ : S42)); (case aB => exact (by repeat ((with_reducible first | exact HB.out | refine below_set ?_ GE257.out)))); (case aF => exact (fun k_ hk => Kd.freshB (g := gb257) (o := .cells #[.int .i64 ((rd_T42 l1 x7_1).f0), .int .u64 ((rd_T42 l1 x7_1).f1), .int .u64 ((rd_T42 l1 x7_1).f2)] 42 (0, 0)) (by refine blk_put (cs := #[.int .i64 ((rd_T42 l1 x7_1).f0), .int .u64 ((rd_T42 l1 x7_1).f1), .int .u64 ((rd_T42 l0 x6_1).f2)]) ?_ 2 _ rfl; refine blk_put (cs := #[.int .i64 ((rd_T42 l1 x7_1).f0), .int .u64 ((rd_T42 l0 x6_1).f1), .int .u64 ((rd_T42 l0 x6_1).f2)]) ?_ 1 _ rfl; refine blk_put (cs := #[.int .i64 ((rd_T42 l0 x6_1).f0), .int .u64 ((rd_T42 l0 x6_1).f1), .int .u64 ((rd_T42 l0 x6_1).f2)]) ?_ 0 _ rfl; exact BK257.out) k_ hk)); (case aO => exact (by exact Kd.R_mono (Kd.R_far (p := ⟨gb257, 2, none⟩) (Kd.R_far (p := ⟨gb257, 1, none⟩) (Kd.R_far (p := ⟨gb257, 0, none⟩) (Kd.R_mono HO_5.out (fun k_ hk => (⟨hk, hk⟩ : _ ∧ k_ ≠ gb257))) (fun _ hk => hk.2) (.int .i64 ((rd_T42 l1 x7_1).f0))) (fun _ hk => hk.2) (.int .u64 ((rd_T42 l1 x7_1).f1))) (fun _ hk => hk.2) (.int .u64 ((rd_T42 l1 x7_1).f2))) (fun _ hk => hk.1))); (case aS => exact (below_size (by repeat ((with_reducible first | exact HB.out | refine below_set ?_ GE257.out))))); (case aL => have := LMc41.out; omega); intro v262 w48 ho hb hg hat; rw [← Ny261.out] at ho; have n0_ := Aside0.mk (blk_grown (g := gb257) (o := .cells #[.int .i64 ((rd_T42 l1 x7_1).f0), .int .u64 ((rd_T42 l1 x7_1).f1), .int .u64 ((rd_T42 l1 x7_1).f2)] 42 (0, 0)) (by refine blk_put (cs := #[.int .i64 ((rd_T42 l1 x7_1).f0), .int .u64 ((rd_T42 l1 x7_1).f1), .int .u64 ((rd_T42 l0 x6_1).f2)]) ?_ 2 _ rfl; refine blk_put (cs := #[.int .i64 ((rd_T42 l1 x7_1).f0), .int .u64 ((rd_T42 l0 x6_1).f1), .int .u64 ((rd_T42 l0 x6_1).f2)]) ?_ 1 _ rfl; refine blk_put (cs := #[.int .i64 ((rd_T42 l0 x6_1).f0), .int .u64 ((rd_T42 l0 x6_1).f1), .int .u64 ((rd_T42 l0 x6_1).f2)]) ?_ 0 _ rfl; exact BK257.out) hg (Kd.R_away HO_5.out (fun _ hk => hk))); have n1_ := Aside0.mk (hb); have n2_ := Aside0.mk (ho); clear BK257; clear HB; clear HO_5; have BK257 := n0_; have HB := n1_; have HO263 := n2_; clear n0_ n1_ n2_; clear ho hb hg hat))
                  go_roundg kj21
                  case measure => have := HK1.out; have := HJ4.out; have := HJ7.out; have := HJ21.out; omega
                  case rel => exact ⟨(y261), (wrap64 (x6_1 + 1)), (wrap64 (x7_1 + 1)), (by rfl), (by rfl), H', ⟨by have := HK1.out; have := HJ4.out; have := HJ7.out; have := HJ21.out; omega⟩, ⟨by exact Kd.R_mono HO263.out (fun _ hk => trivial)⟩, ⟨HB.out⟩⟩
                 ·
                  rw [if_neg c41] at H; exact absurd H (by simp)
                ·
                 replace c40 := Bool.eq_false_iff.mpr c40; subst c40; have H1 : (if x5_1.length < 5864062014805 then (thermographref06_half.l0 kj21 l0 l1 (x5_1 ++ [(⟨(rd_T42 l0 x6_1).f0, (rd_T42 l0 x6_1).f1, (rd_T42 l0 x6_1).f2⟩ : S42)]) (wrap64 (x6_1 + 1)) (wrap64 (x7_1 + 1))) else (none)) = some r := by rw [if_neg (show ¬ (false = true) by decide)] at H; exact H
                 clear H; have H := H1; clear H1
                 by_cases c49 : x5_1.length < 5864062014805
                 ·
                  rw [if_pos c49] at H; have LMc49 := Aside0.mk c49; clear c49
                  obtain ⟨y264, hy264⟩ : ∃ y_ : List (S42), y_ = (x5_1 ++ [(⟨(rd_T42 l0 x6_1).f0, (rd_T42 l0 x6_1).f1, (rd_T42 l0 x6_1).f2⟩ : S42)]) := ⟨_, rfl⟩
                  replace H : (thermographref06_half.l0 kj21 l0 l1 y264 (wrap64 (x6_1 + 1)) (wrap64 (x7_1 + 1))) = some r := by (rw [hy264]; with_reducible exact H)
                  have Ny264 := Aside0.mk hy264; clear hy264; have H' := Aside0.mk H; clear H; have p256 : 0 ≤ (x6_1 : Int) := of_decide_eq_true (by with_reducible assumption); have q256 : x6_1 < (l0.length : Int) := of_decide_eq_true (by with_reducible assumption); obtain ⟨ad256, e256, hx256_0, hx256_1, hx256_2⟩ := at_T42 HR0.out x6_1 p256 q256; cases e256; replace hx256_0 := (HB.out.cell (World.block_lt_of_cell? w _ hx256_0)).trans hx256_0; replace hx256_1 := (HB.out.cell (World.block_lt_of_cell? w _ hx256_1)).trans hx256_1; replace hx256_2 := (HB.out.cell (World.block_lt_of_cell? w _ hx256_2)).trans hx256_2; replace p256 := eq_true p256; replace q256 := eq_true q256
                  try go_wp2_with (((with_reducible refine gate_dst (N := 8) rfl ?_); (try (refine gate_guard (by rfl) ?_; dsimp only)); refine box_event ?hg (N := 8) ?hd (cs := #[.int .i64 0, .int .u64 0, .int .u64 0]) (t := 42) ?hr ?_; (case hd => rfl); (case hg => rfl); (case hr => go_simp; done); intro gb257 hg w50 hbox hb; have n0_ := Aside0.mk (Kd.R_below (Kd.R_elderB HO_5.out gb257 (Nat.le_of_eq hg.symm)) hb); have n1_ := Aside0.mk (below_step HB.out hb); have n2_ := Aside0.mk (hbox); have n4_ := Aside0.mk ((by rw [hg]; exact (below_size HB.out) : w.heap.size ≤ gb257)); clear HO_5; clear HB; have HO_5 := n0_; have HB := n1_; have BK257 := n2_; have GE257 := n4_; clear n0_ n1_ n2_ n4_; clear hb hbox hg; have hcz51_0 : w50.cell? ⟨gb257, 0, none⟩ = some (.int .i64 0) := (blk_cell BK257.out 0).trans rfl; have hcz51_1 : w50.cell? ⟨gb257, 1, none⟩ = some (.int .u64 0) := (blk_cell BK257.out 1).trans rfl; have hcz51_2 : w50.cell? ⟨gb257, 2, none⟩ = some (.int .u64 0) := (blk_cell BK257.out 2).trans rfl; have hfz51_0 := blk_frozen BK257.out 0; have hfz51_1 := blk_frozen BK257.out 1; have hfz51_2 := blk_frozen BK257.out 2))
                  have n0_ : Aside0 (Kd.R k42 42 (((w50.setCell ⟨gb257, 0, none⟩ (.int .i64 ((rd_T42 l0 x6_1).f0))).setCell ⟨gb257, 1, none⟩ (.int .u64 ((rd_T42 l0 x6_1).f1))).setCell ⟨gb257, 2, none⟩ (.int .u64 ((rd_T42 l0 x6_1).f2))) w.heap.size (fun k_ => k_ ≠ gb257) u5 x5_1) := ⟨by exact Kd.R_mono (Kd.R_far (p := ⟨gb257, 2, none⟩) (Kd.R_far (p := ⟨gb257, 1, none⟩) (Kd.R_far (p := ⟨gb257, 0, none⟩) (Kd.R_mono HO_5.out (fun k_ hk => (⟨hk, hk.2⟩ : _ ∧ k_ ≠ gb257))) (fun _ hk => hk.2) (.int .i64 ((rd_T42 l0 x6_1).f0))) (fun _ hk => hk.2) (.int .u64 ((rd_T42 l0 x6_1).f1))) (fun _ hk => hk.2) (.int .u64 ((rd_T42 l0 x6_1).f2))) (fun _ hk => hk.1.2)⟩
                  have n1_ : Aside0 ((((w50.setCell ⟨gb257, 0, none⟩ (.int .i64 ((rd_T42 l0 x6_1).f0))).setCell ⟨gb257, 1, none⟩ (.int .u64 ((rd_T42 l0 x6_1).f1))).setCell ⟨gb257, 2, none⟩ (.int .u64 ((rd_T42 l0 x6_1).f2))).heap[gb257]? = some (.cells #[.int .i64 ((rd_T42 l0 x6_1).f0), .int .u64 ((rd_T42 l0 x6_1).f1), .int .u64 ((rd_T42 l0 x6_1).f2)] 42 (0, 0))) := ⟨by refine blk_put (cs := #[.int .i64 ((rd_T42 l0 x6_1).f0), .int .u64 ((rd_T42 l0 x6_1).f1), .int .u64 0]) ?_ 2 _ rfl; refine blk_put (cs := #[.int .i64 ((rd_T42 l0 x6_1).f0), .int .u64 0, .int .u64 0]) ?_ 1 _ rfl; refine blk_put (cs := #[.int .i64 0, .int .u64 0, .int .u64 0]) ?_ 0 _ rfl; exact BK257.out⟩
                  have n2_ : Aside0 (Below w.heap.size w (((w50.setCell ⟨gb257, 0, none⟩ (.int .i64 ((rd_T42 l0 x6_1).f0))).setCell ⟨gb257, 1, none⟩ (.int .u64 ((rd_T42 l0 x6_1).f1))).setCell ⟨gb257, 2, none⟩ (.int .u64 ((rd_T42 l0 x6_1).f2)))) := ⟨by repeat ((with_reducible first | exact HB.out | refine below_set ?_ GE257.out))⟩
                  (try clear HO_5)
                  (try clear BK257)
                  (try clear HB)
                  generalize (((w50.setCell ⟨gb257, 0, none⟩ (.int .i64 ((rd_T42 l0 x6_1).f0))).setCell ⟨gb257, 1, none⟩ (.int .u64 ((rd_T42 l0 x6_1).f1))).setCell ⟨gb257, 2, none⟩ (.int .u64 ((rd_T42 l0 x6_1).f2))) = w52 at n0_ n1_ n2_ ⊢; have HO_5 := n0_; have BK257 := n1_; have HB := n2_; clear n0_ n1_ n2_; have n0_ := Aside0.mk (Kd.R_drew HO_5.out); have n1_ := Aside0.mk (blk_drew BK257.out); have n2_ := Aside0.mk (below_drew1 HB.out); clear HO_5; clear BK257; clear HB; have HO_5 := n0_; have BK257 := n1_; have HB := n2_; clear n0_ n1_ n2_; have p258 : 0 ≤ (x7_1 : Int) := of_decide_eq_true (by with_reducible assumption); have q258 : x7_1 < (l1.length : Int) := of_decide_eq_true (by with_reducible assumption); obtain ⟨ad258, e258, hx258_0, hx258_1, hx258_2⟩ := at_T42 HR1.out x7_1 p258 q258; have hw258_2 := hx258_2; have hw258_1 := hx258_1; have hw258_0 := hx258_0; cases e258; replace hx258_0 := (HB.out.cell (World.block_lt_of_cell? w _ hx258_0)).trans hx258_0; replace hx258_1 := (HB.out.cell (World.block_lt_of_cell? w _ hx258_1)).trans hx258_1; replace hx258_2 := (HB.out.cell (World.block_lt_of_cell? w _ hx258_2)).trans hx258_2; replace p258 := eq_true p258; replace q258 := eq_true q258; refine start_ (n := 6) (S := fun w' => w'.cell? ⟨gb257, 0, none⟩ = some (.int .i64 ((rd_T42 l0 x6_1).f0)) ∧ w'.cell? ⟨gb257, 1, none⟩ = some (.int .u64 ((rd_T42 l0 x6_1).f1)) ∧ w'.cell? ⟨gb257, 2, none⟩ = some (.int .u64 ((rd_T42 l0 x6_1).f2)) ∧ w'.cell? (ad258.add ((x7_1).toNat * 3)) = some (.int .i64 ((rd_T42 l1 x7_1).f0)) ∧ w'.cell? ⟨(ad258.add ((x7_1).toNat * 3)).block, (ad258.add ((x7_1).toNat * 3)).off + 1, none⟩ = some (.int .u64 ((rd_T42 l1 x7_1).f1)) ∧ w'.cell? ⟨(ad258.add ((x7_1).toNat * 3)).block, (ad258.add ((x7_1).toNat * 3)).off + 2, none⟩ = some (.int .u64 ((rd_T42 l1 x7_1).f2))) (ds := []) (bs 6 0) (by kernel_rfl) rfl rfl ⟨(blk_cell BK257.out 0).trans rfl, (blk_cell BK257.out 1).trans rfl, (blk_cell BK257.out 2).trans rfl, ((HB.out.cell (World.block_lt_of_cell? w _ hw258_0)).trans hw258_0), ((HB.out.cell (World.block_lt_of_cell? w _ hw258_1)).trans hw258_1), ((HB.out.cell (World.block_lt_of_cell? w _ hw258_2)).trans hw258_2)⟩ (fun hHeld => ?_); generalize w52.drew = w53 at HO_5 BK257 HB hx258_0 hx258_1 hx258_2 hHeld ⊢; refine pure_ (i := 0) (N := some 24) (v := ?_) (a' := ?_) (bs 6 1) rfl rfl (by kernel_rfl) (fun _ _ _ h => h) (Or.inl ⟨by rfl, ?_⟩) ?_ ?_; rotate_left
                  ·
                   intro w'; go_simp; with_reducible rfl
                  rotate_left
                  ·
                   simp only [Act.put, List.setIfInBounds_toArray, List.set_cons_zero, List.set_cons_succ, i64_w, i32_w]; rfl
                  refine pure_ (i := 1) (N := some 25) (v := ?_) (a' := ?_) (bs 6 3) rfl rfl (by kernel_rfl) (fun _ _ _ h => h) (Or.inl ⟨by rfl, ?_⟩) ?_ ?_; rotate_left
                  ·
                   intro w'; go_simp; with_reducible rfl
                  rotate_left
                  ·
                   simp only [Act.put, List.setIfInBounds_toArray, List.set_cons_zero, List.set_cons_succ, i64_w, i32_w]; rfl
                  refine pure_ (i := 2) (N := some 26) (v := ?_) (a' := ?_) (bs 6 7) rfl rfl (by kernel_rfl) (fun _ _ _ h => h) (Or.inl ⟨by rfl, ?_⟩) ?_ ?_; rotate_left
                  ·
                   intro w'; go_simp; with_reducible rfl
                  rotate_left
                  ·
                   simp only [Act.put, List.setIfInBounds_toArray, List.set_cons_zero, List.set_cons_succ, i64_w, i32_w]; rfl
                  refine take_ (i := 3) (N := some 27) (v := ?_) (a' := ?_) (bs 6 15) rfl rfl (by kernel_rfl) (fun _ _ _ h => h) (Or.inl ⟨by rfl, ?_⟩) hHeld ?_ ?_; rotate_left
                  ·
                   rintro w' ⟨s0, s1, s2, s3, s4, s5⟩; go_simp; with_reducible rfl
                  rotate_left
                  ·
                   simp only [Act.put, List.setIfInBounds_toArray, List.set_cons_zero, List.set_cons_succ, i64_w, i32_w]; rfl
                  refine take_ (i := 4) (N := some 28) (v := ?_) (a' := ?_) (bs 6 31) rfl rfl (by kernel_rfl) (fun _ _ _ h => h) (Or.inl ⟨by rfl, ?_⟩) hHeld ?_ ?_; rotate_left
                  ·
                   rintro w' ⟨s0, s1, s2, s3, s4, s5⟩; go_simp; with_reducible rfl
                  rotate_left
                  ·
                   simp only [Act.put, List.setIfInBounds_toArray, List.set_cons_zero, List.set_cons_succ, i64_w, i32_w]; rfl
                  refine one_ (i := 5) (N := some 29) (bs 6 63) rfl rfl (by kernel_rfl) (by decide) (fun K hK => ?_); refine goes_ Try.func56 (by kernel_rfl) rfl #[.agg #[.int .i64 ((rd_T42 l1 x7_1).f0), .int .u64 ((rd_T42 l1 x7_1).f1), .int .u64 ((rd_T42 l1 x7_1).f2)], .agg #[.int .i64 ((rd_T42 l0 x6_1).f0), .int .u64 ((rd_T42 l0 x6_1).f1), .int .u64 ((rd_T42 l0 x6_1).f2)]] (by rfl) rfl rfl (by (try simp only [List.map_toArray, List.map_cons, List.map_nil]); rfl) ?_; with_reducible refine (thermographref06_Wins.calls ((rd_T42 l1 x7_1).f0) ((rd_T42 l1 x7_1).f1) ((rd_T42 l1 x7_1).f2) ((rd_T42 l0 x6_1).f0) ((rd_T42 l0 x6_1).f1) ((rd_T42 l0 x6_1).f2) false _ A39.out).mono ?_
                  rintro e w54 ⟨rfl, hb⟩; refine ⟨_, rfl, ?_⟩; have n0_ := Aside0.mk (Kd.R_below HO_5.out hb); have n1_ := Aside0.mk (blk_below (g := gb257) (o := .cells #[.int .i64 ((rd_T42 l0 x6_1).f0), .int .u64 ((rd_T42 l0 x6_1).f1), .int .u64 ((rd_T42 l0 x6_1).f2)] 42 (0, 0)) BK257.out hb); have n2_ := Aside0.mk (below_step HB.out hb); clear HO_5; clear BK257; clear HB; have HO_5 := n0_; have BK257 := n1_; have HB := n2_; clear n0_ n1_ n2_
                  (try clear hb)
                  (try clear hb2)
                  (try clear hk)
                  (try clear hi)
                  refine hK.out _ _ ⟨(blk_cell BK257.out 0).trans rfl, (blk_cell BK257.out 1).trans rfl, (blk_cell BK257.out 2).trans rfl, ((HB.out.cell (World.block_lt_of_cell? w _ hw258_0)).trans hw258_0), ((HB.out.cell (World.block_lt_of_cell? w _ hw258_1)).trans hw258_1), ((HB.out.cell (World.block_lt_of_cell? w _ hw258_2)).trans hw258_2)⟩ (fun hHeld => ?_); clear hK K; refine norm_ (a' := ?_) ?_ ?_; rotate_left
                  ·
                   show Act.put _ (some 29) _ = _; simp only [Act.put, List.setIfInBounds_toArray, List.set_cons_zero, List.set_cons_succ, i64_w, i32_w]; rfl
                  refine done_ (by kernel_rfl) ?_
                  try go_wp2_with (((with_reducible refine gate_builtin (b := .append) (xs := #[.tmp 34, .tmp 36]) rfl ?_); (try (refine gate_guard (by rfl) ?_; dsimp only)); at_builtin; refine Kd.R_append k42 (w0 := w) w.heap.size rfl (.tmp 34) (.tmp 36) 44 42 (.agg #[(.int .i64 0), (.int .u64 0), (.int .u64 0)]) 24 rfl Try.underlying44 info42 rfl (by decide) (by omega) u5 x5_1 (⟨(rd_T42 l0 x6_1).f0, (rd_T42 l0 x6_1).f1, (rd_T42 l0 x6_1).f2⟩ : S42) [.int .i64 ((rd_T42 l0 x6_1).f0), .int .u64 ((rd_T42 l0 x6_1).f1), .int .u64 ((rd_T42 l0 x6_1).f2)] (fun k_ => k_ ≠ gb257) (fun _ => False) rfl rfl ?aP (fun _ hk => hk.elim) ?aF ?aO ?aB ?aS ?aL ?_; (case aP => exact k42_mkM _ _ _ (⟨(rd_T42 l0 x6_1).f0, (rd_T42 l0 x6_1).f1, (rd_T42 l0 x6_1).f2⟩ : S42)); (case aB => exact HB.out); (case aF => exact (fun k_ hk => Kd.freshB (g := gb257) (o := .cells #[.int .i64 ((rd_T42 l0 x6_1).f0), .int .u64 ((rd_T42 l0 x6_1).f1), .int .u64 ((rd_T42 l0 x6_1).f2)] 42 (0, 0)) BK257.out k_ hk)); (case aO => exact HO_5.out); (case aS => exact (below_size HB.out)); (case aL => have := LMc49.out; omega); intro v265 w56 ho hb hg hat; rw [← Ny264.out] at ho; have n0_ := Aside0.mk (blk_grown (g := gb257) (o := .cells #[.int .i64 ((rd_T42 l0 x6_1).f0), .int .u64 ((rd_T42 l0 x6_1).f1), .int .u64 ((rd_T42 l0 x6_1).f2)] 42 (0, 0)) BK257.out hg (Kd.R_away HO_5.out (fun _ hk => hk))); have n1_ := Aside0.mk (hb); have n2_ := Aside0.mk (ho); clear BK257; clear HB; clear HO_5; have BK257 := n0_; have HB := n1_; have HO266 := n2_; clear n0_ n1_ n2_; clear ho hb hg hat))
                  go_roundg kj21
                  case measure => have := HK1.out; have := HJ4.out; have := HJ7.out; have := HJ21.out; omega
                  case rel => exact ⟨(y264), (wrap64 (x6_1 + 1)), (wrap64 (x7_1 + 1)), (by rfl), (by rfl), H', ⟨by have := HK1.out; have := HJ4.out; have := HJ7.out; have := HJ21.out; omega⟩, ⟨by exact Kd.R_mono HO266.out (fun _ hk => trivial)⟩, ⟨HB.out⟩⟩
                 ·
                  rw [if_neg c49] at H; exact absurd H (by simp)
               ·
                rw [if_neg c38] at H; exact absurd H (by simp)
              ·
               rw [if_neg c37] at H; exact absurd H (by simp)
             ·
              rw [if_neg c36] at H; exact absurd H (by simp)
            ·
             rw [if_neg c35] at H; exact absurd H (by simp)
     ·
      replace c7 := Bool.eq_false_iff.mpr c7; subst c7; have H1 : (some x5_1) = some r := by rw [if_neg (show ¬ (false = true) by decide)] at H; exact H
      clear H; have H := H1; clear H1; obtain rfl := Option.some.inj H; go_wp2; go_ret; exact ⟨_, by rfl, by exact HO_5.out, by repeat ((with_reducible exact HB.out))⟩
end Go.Proofs.Ytgagcimfkmegnaa.QT
