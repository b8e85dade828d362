-- Laid by wip/tools/myprint.py of this repo. Not trusted: Lean checks it.
import Derived.Test.YtgagcimfkmegnaaQS1
set_option maxHeartbeats 8000000
set_option maxRecDepth 100000
namespace Go.Proofs.Ytgagcimfkmegnaa.QS
open Go.Proofs.Ytgagcimfkmegnaa.QT
open Go.RowKit Go.Proofs.YtgagcimfkmegnaaW.PrintWords Go.Proofs.YtgagcimfkmegnaaW.PrintLast Go.Proofs.YtgagcimfkmegnaaW.PrintMore
attribute [local go_sem] max2_int min2_int max_two min_two max_three min_three max_four min_four   -- for this text's walks alone
set_option linter.unusedVariables false
set_option linter.unusedSimpArgs false
mutual
def api_Meta_59.l0 : Nat → List (S25) → Int → Int → Int → Option ((List (S25)))
 | 0, _, _, _, _ => none
 | k + 1, x0, x1, x2, x8 => if x8 < x2 then (api_Meta_59.l1 k x0 x1 x2 x8 x8) else (some x0)
def api_Meta_59.l1 : Nat → List (S25) → Int → Int → Int → Int → Option ((List (S25)))
 | 0, _, _, _, _, _ => none
 | k + 1, x0, x1, x2, x8, x9 => if x9 > x1 then (if 0 ≤ x9 then (if x9 < (x0.length : Int) then (if 0 ≤ (wrap64 (x9 - 1)) then (if (wrap64 (x9 - 1)) < (x0.length : Int) then ((peers_order.f k ((rd_T25 x0 x9).f0) ((rd_T25 x0 x9).f1) ((rd_T25 x0 x9).f2) ((rd_T25 x0 x9).f3) ((rd_T25 x0 (wrap64 (x9 - 1))).f0) ((rd_T25 x0 (wrap64 (x9 - 1))).f1) ((rd_T25 x0 (wrap64 (x9 - 1))).f2) ((rd_T25 x0 (wrap64 (x9 - 1))).f3)).bind fun t114 => (if t114 < 0 then (api_Meta_59.l1 k ((x0.set (x9 : Int).toNat (⟨(rd_T25 x0 (wrap64 (x9 - 1))).f0, (rd_T25 x0 (wrap64 (x9 - 1))).f1, (rd_T25 x0 (wrap64 (x9 - 1))).f2, (rd_T25 x0 (wrap64 (x9 - 1))).f3⟩ : S25)).set ((wrap64 (x9 - 1)) : Int).toNat (⟨(rd_T25 x0 x9).f0, (rd_T25 x0 x9).f1, (rd_T25 x0 x9).f2, (rd_T25 x0 x9).f3⟩ : S25)) x1 x2 x8 (wrap64 (x9 - 1))) else (api_Meta_59.l0 k x0 x1 x2 (wrap64 (x8 + 1))))) else (none)) else (none)) else (none)) else (none)) else (api_Meta_59.l0 k x0 x1 x2 (wrap64 (x8 + 1)))
end
def api_Meta_59.f (k : Nat) (l0 : List (S25)) (a1 : Int) (a2 : Int)  : Option ((List (S25))) := api_Meta_59.l0 k l0 a1 a2 (wrap64 (a1 + 1))
def api_Meta_59.T4 : Bool × List (List Nat × List Nat) := (true, [([], []), ([], []), ([0, 1], [0, 1]), ([2], [2]), ([3], [3]), ([3], [3]), ([3], [3]), ([5, 6, 3], [3, 5, 6]), ([7, 3], [3, 7]), ([3], [3]), ([3], [3]), ([10, 3], [3, 10]), ([9, 11, 3], [3, 9, 11]), ([12, 3], [3, 12]), ([4, 8, 13, 3, 3], [3, 4, 8, 13]), ([14, 3], [3, 14]), ([3, 15], [3, 15])])
def api_Meta_59.B4 : List Nat := [0, 0, 3, 7, 15, 15, 15, 111, 239, 15, 15, 1039, 3599, 7695, 16383, 32767, 65535]
theorem api_Meta_59.tab4 : rtab .any (opsOf Try.f59 4) = api_Meta_59.T4 := by kernel_rfl
theorem api_Meta_59.bits4 : waitsOk api_Meta_59.T4.2 api_Meta_59.B4 = true := by kernel_rfl
def api_Meta_59.T6 : Bool × List (List Nat × List Nat) := (true, [([], []), ([], []), ([], []), ([], []), ([3], [3]), ([], []), ([], []), ([6], [6]), ([5, 7], [5, 7]), ([8], [8]), ([], []), ([], []), ([10, 11], [10, 11]), ([12], [12]), ([0, 1, 0, 1, 5, 6, 7, 8, 9, 13], [0, 1]), ([14, 9, 0, 1, 5, 6, 7, 8, 9, 13], [9, 14]), ([2, 4, 0, 1, 2, 3, 4, 5, 6, 7, 8, 9, 10, 11, 12, 13, 14, 15], [2, 4]), ([16, 13, 15, 0, 1, 2, 3, 4, 5, 6, 7, 8, 9, 10, 11, 12, 13, 14, 15], [13, 16])])
def api_Meta_59.B6 : List Nat := [0, 0, 0, 0, 8, 0, 0, 64, 224, 480, 0, 0, 3072, 7168, 16355, 32739, 65535, 131071]
theorem api_Meta_59.tab6 : rtab .any (opsOf Try.f59 6) = api_Meta_59.T6 := by kernel_rfl
theorem api_Meta_59.bits6 : waitsOk api_Meta_59.T6.2 api_Meta_59.B6 = true := by kernel_rfl
theorem api_Meta_59.calls (k : Nat) (P0_ : Nat → Prop) (u9000_ : Value) (l0 : List (S25)) (a1 : Int) (a2 : Int)  (r : List (S25)) (w0 w : World) (hB : Below w0.heap.size w0 w) (ho0 : Kd.R k25 25 w w0.heap.size P0_ u9000_ l0) (h : api_Meta_59.f k l0 a1 a2 = some r) :
  Calls Try.prog 59 #[u9000_, .int .i64 a1, .int .i64 a2, .func (.func 27) #[] #[]] w fun e w' => e = .returned (.tuple #[]) ∧ Kd.R k25 25 w' w0.heap.size (fun k_ => (P0_ k_ ∨ w.heap.size ≤ k_)) u9000_ r ∧ Below w0.heap.size w0 w' ∧ Kept w w' (fun k_ => P0_ k_) := by
 have HO0 := Aside0.mk (show Kd.R k25 25 w w0.heap.size (fun k_ => (P0_ k_ ∨ w.heap.size ≤ k_)) u9000_ l0 from Kd.R_mono ho0 (fun k_ hk => (.inl hk))); have HK := Aside0.mk (Kept.refl w (fun k_ => P0_ k_)); have HB := Aside0.mk hB; clear hB; have H : (api_Meta_59.l0 k l0 a1 a2 (wrap64 (a1 + 1))) = some r := h; clear h; have H' := Aside0.mk H; clear H; go_enter Try.func59, Try.ntmps59
 go_wp2; go_loopg [8] k (fun kq v8 w' => ∃ (x0_1 : List (S25)) (x8_1 : Int), v8 = .int .i64 x8_1 ∧ Aside0 (api_Meta_59.l0 kq x0_1 a1 a2 x8_1 = some r) ∧ Aside0 (kq ≤ k) ∧ Aside0 (Kd.R k25 25 w' w0.heap.size (fun k_ => (P0_ k_ ∨ w.heap.size ≤ k_)) u9000_ x0_1) ∧ Aside0 (Kept w w' (fun k_ => P0_ k_)) ∧ Aside0 (Below w0.heap.size w0 w'))
 case atStart => exact ⟨(l0), (wrap64 (a1 + 1)), (by rfl), H', ⟨Nat.le_refl _⟩, ⟨HO0.out⟩, ⟨HK.out⟩, ⟨HB.out⟩⟩
 case round =>
  clear H'; obtain ⟨x0_1, x8_1, rfl, HA, HK1, HO_0, HK, HB⟩ := hrel
  cases gk with
  | zero => exact absurd HA.out (by simp [api_Meta_59.l0])
  | succ k1 =>
   have H := HA.out; clear HA; simp only [api_Meta_59.l0] at H
   by_cases c5 : x8_1 < a2
   ·
    rw [if_pos c5] at H; have c5b0 : decide (x8_1 < a2) = true := decide_eq_true c5; clear c5; have H' := Aside0.mk H; clear H; go_wp2; go_loopg [9] k1 (fun kq v9 w' => ∃ (x0_2 : List (S25)) (x9_2 : Int), v9 = .int .i64 x9_2 ∧ Aside0 (api_Meta_59.l1 kq x0_2 a1 a2 x8_1 x9_2 = some r) ∧ Aside0 (kq ≤ k1) ∧ Aside0 (Kd.R k25 25 w' w0.heap.size (fun k_ => (P0_ k_ ∨ w.heap.size ≤ k_)) u9000_ x0_2) ∧ Aside0 (Kept w w' (fun k_ => P0_ k_)) ∧ Aside0 (Below w0.heap.size w0 w'))
    case atStart => exact ⟨(x0_1), (x8_1), (by rfl), H', ⟨Nat.le_refl _⟩, ⟨HO_0.out⟩, ⟨HK.out⟩, ⟨HB.out⟩⟩
    case round =>
     clear H'; try clear c5b0
     obtain ⟨x0_2, x9_2, rfl, HA, HK2, HO_0, HK, HB⟩ := hrel
     cases gk with
     | zero => exact absurd HA.out (by simp [api_Meta_59.l1])
     | succ k2 =>
      have H := HA.out; clear HA; simp only [api_Meta_59.l1] at H
      by_cases c6 : x9_2 > a1
      ·
       rw [if_pos c6] at H; have c6b0 : decide (a1 < x9_2) = true := decide_eq_true c6; clear c6
       by_cases c7 : 0 ≤ x9_2
       ·
        rw [if_pos c7] at H; have c7b0 : decide (0 ≤ x9_2) = true := decide_eq_true c7; clear c7
        by_cases c8 : x9_2 < (x0_2.length : Int)
        ·
         rw [if_pos c8] at H; have c8b0 : decide (x9_2 < (x0_2.length : Int)) = true := decide_eq_true c8; clear c8
         obtain ⟨ji9, hji9⟩ : ∃ j_ : Int, (wrap64 (x9_2 - 1)) = j_ := ⟨_, rfl⟩
         replace H : (if 0 ≤ (ji9) then (if (ji9) < (x0_2.length : Int) then ((peers_order.f k2 ((rd_T25 x0_2 x9_2).f0) ((rd_T25 x0_2 x9_2).f1) ((rd_T25 x0_2 x9_2).f2) ((rd_T25 x0_2 x9_2).f3) ((rd_T25 x0_2 (ji9)).f0) ((rd_T25 x0_2 (ji9)).f1) ((rd_T25 x0_2 (ji9)).f2) ((rd_T25 x0_2 (ji9)).f3)).bind fun t114 => (if t114 < 0 then (api_Meta_59.l1 k2 ((x0_2.set (x9_2 : Int).toNat (⟨(rd_T25 x0_2 (ji9)).f0, (rd_T25 x0_2 (ji9)).f1, (rd_T25 x0_2 (ji9)).f2, (rd_T25 x0_2 (ji9)).f3⟩ : S25)).set ((ji9) : Int).toNat (⟨(rd_T25 x0_2 x9_2).f0, (rd_T25 x0_2 x9_2).f1, (rd_T25 x0_2 x9_2).f2, (rd_T25 x0_2 x9_2).f3⟩ : S25)) a1 a2 x8_1 ji9) else (api_Meta_59.l0 k2 x0_2 a1 a2 (wrap64 (x8_1 + 1))))) else (none)) else (none)) = some r := by (rw [hji9] at H; exact H)
         have hji9w : (IntKind.i64.wrap (x9_2 - 1)) = ji9 := (i64_w _).trans hji9
         by_cases c10 : 0 ≤ (ji9)
         ·
          rw [if_pos c10] at H; have c10b0 : decide (0 ≤ (ji9)) = true := decide_eq_true c10; clear c10
          by_cases c11 : (ji9) < (x0_2.length : Int)
          ·
           rw [if_pos c11] at H; have c11b0 : decide ((ji9) < (x0_2.length : Int)) = true := decide_eq_true c11; clear c11; replace H := Option.bind_eq_some_iff.mp H; obtain ⟨t114, A120, H⟩ := H; replace H : (if t114 < 0 then (api_Meta_59.l1 k2 ((x0_2.set (x9_2 : Int).toNat (⟨(rd_T25 x0_2 (ji9)).f0, (rd_T25 x0_2 (ji9)).f1, (rd_T25 x0_2 (ji9)).f2, (rd_T25 x0_2 (ji9)).f3⟩ : S25)).set ((ji9) : Int).toNat (⟨(rd_T25 x0_2 x9_2).f0, (rd_T25 x0_2 x9_2).f1, (rd_T25 x0_2 x9_2).f2, (rd_T25 x0_2 x9_2).f3⟩ : S25)) a1 a2 x8_1 ji9) else (api_Meta_59.l0 k2 x0_2 a1 a2 (wrap64 (x8_1 + 1)))) = some r := H; have A12 := Aside0.mk A120; clear A120
           by_cases c13 : t114 < 0
           ·
            rw [if_pos c13] at H; have c13b0 : decide (t114 < 0) = true := decide_eq_true c13; clear c13
            obtain ⟨y117, hy117⟩ : ∃ y_ : List (S25), y_ = (x0_2.set (x9_2 : Int).toNat (⟨(rd_T25 x0_2 (ji9)).f0, (rd_T25 x0_2 (ji9)).f1, (rd_T25 x0_2 (ji9)).f2, (rd_T25 x0_2 (ji9)).f3⟩ : S25)) := ⟨_, rfl⟩
            replace H : (api_Meta_59.l1 k2 (y117.set ((ji9) : Int).toNat (⟨(rd_T25 x0_2 x9_2).f0, (rd_T25 x0_2 x9_2).f1, (rd_T25 x0_2 x9_2).f2, (rd_T25 x0_2 x9_2).f3⟩ : S25)) a1 a2 x8_1 ji9) = some r := by (rw [hy117]; with_reducible exact H)
            have Ny117 := Aside0.mk hy117; clear hy117
            obtain ⟨y118, hy118⟩ : ∃ y_ : List (S25), y_ = (y117.set ((ji9) : Int).toNat (⟨(rd_T25 x0_2 x9_2).f0, (rd_T25 x0_2 x9_2).f1, (rd_T25 x0_2 x9_2).f2, (rd_T25 x0_2 x9_2).f3⟩ : S25)) := ⟨_, rfl⟩
            replace H : (api_Meta_59.l1 k2 y118 a1 a2 x8_1 ji9) = some r := by (rw [hy118]; with_reducible exact H)
            have Ny118 := Aside0.mk hy118; clear hy118; have H' := Aside0.mk H; clear H; try go_wp2
            have n0_ := Aside0.mk (Kd.R_drew HO_0.out); have n1_ := Aside0.mk (Kept.drew HK.out); have n2_ := Aside0.mk (below_drew1 HB.out); clear HO_0; clear HK; clear HB; have HO_0 := n0_; have HK := n1_; have HB := n2_; clear n0_ n1_ n2_; obtain ⟨Ao17, co17, eo17⟩ := Kd.R_slice HO_0.out
            ((subst eo17))
            have p112 : 0 ≤ (x9_2 : Int) := of_decide_eq_true (by with_reducible assumption); have q112 : x9_2 < (x0_2.length : Int) := of_decide_eq_true (by with_reducible assumption); obtain ⟨ad112, e112, hx112_0, hx112_1, hx112_2, hx112_3⟩ := at_T25 (Kd.R_reads' HO_0.out).2.2 x9_2 p112 q112; cases e112; replace p112 := eq_true p112; replace q112 := eq_true q112; have p113 : 0 ≤ ((ji9) : Int) := of_decide_eq_true (by with_reducible assumption); have q113 : (ji9) < (x0_2.length : Int) := of_decide_eq_true (by with_reducible assumption); obtain ⟨ad113, e113, hx113_0, hx113_1, hx113_2, hx113_3⟩ := at_T25 (Kd.R_reads' HO_0.out).2.2 (ji9) p113 q113
            obtain rfl : ad112 = ad113 := (by injection e113)
            replace p113 := eq_true p113; replace q113 := eq_true q113; refine start_ (n := 17) (S := fun w' => w'.cell? (ad112.add ((x9_2).toNat * 4)) = some (.string ((rd_T25 x0_2 x9_2).f0)) ∧ w'.cell? ⟨(ad112.add ((x9_2).toNat * 4)).block, (ad112.add ((x9_2).toNat * 4)).off + 1, none⟩ = some (.int .i64 ((rd_T25 x0_2 x9_2).f1)) ∧ w'.cell? ⟨(ad112.add ((x9_2).toNat * 4)).block, (ad112.add ((x9_2).toNat * 4)).off + 2, none⟩ = some (.int .i64 ((rd_T25 x0_2 x9_2).f2)) ∧ w'.cell? ⟨(ad112.add ((x9_2).toNat * 4)).block, (ad112.add ((x9_2).toNat * 4)).off + 3, none⟩ = some (.int .u32 ((rd_T25 x0_2 x9_2).f3)) ∧ w'.cell? (ad112.add (((ji9)).toNat * 4)) = some (.string ((rd_T25 x0_2 (ji9)).f0)) ∧ w'.cell? ⟨(ad112.add (((ji9)).toNat * 4)).block, (ad112.add (((ji9)).toNat * 4)).off + 1, none⟩ = some (.int .i64 ((rd_T25 x0_2 (ji9)).f1)) ∧ w'.cell? ⟨(ad112.add (((ji9)).toNat * 4)).block, (ad112.add (((ji9)).toNat * 4)).off + 2, none⟩ = some (.int .i64 ((rd_T25 x0_2 (ji9)).f2)) ∧ w'.cell? ⟨(ad112.add (((ji9)).toNat * 4)).block, (ad112.add (((ji9)).toNat * 4)).off + 3, none⟩ = some (.int .u32 ((rd_T25 x0_2 (ji9)).f3))) (ds := []) (bs 17 0) (by kernel_rfl) rfl rfl ⟨hx112_0, hx112_1, hx112_2, hx112_3, hx113_0, hx113_1, hx113_2, hx113_3⟩ (fun hHeld => ?_); refine with_tabW api_Meta_59.tab4 api_Meta_59.bits4 (fun HT_ HW_ => ?_); generalize wr.drew = w16 at HO_0 HK HB hx112_0 hx112_1 hx112_2 hx112_3 hx113_0 hx113_1 hx113_2 hx113_3 hHeld ⊢; apply pv 0 18 (bs 17 1) HT_; rfl; rfl; kernel_rfl; exact qq; rfl; intro w'; go_simp; with_reducible rfl; simp only [zz]; rfl
            apply pv 1 19 (bs 17 3) HT_; rfl; rfl; kernel_rfl; exact qq; rfl; intro w'; go_simp; with_reducible rfl; simp only [zz]; rfl
            apply pv 2 20 (bs 17 7) HT_; rfl; rfl; kernel_rfl; exact qq; rfl; intro w'; go_simp; with_reducible rfl; simp only [zz]; rfl
            apply pv 3 21 (bs 17 15) HT_; rfl; rfl; kernel_rfl; exact qq; rfl; intro w'; go_simp; with_reducible rfl; simp only [zz]; rfl
            apply pv 4 22 (bs 17 31) HT_; rfl; rfl; kernel_rfl; exact qq; rfl; intro w'; go_simp; with_reducible rfl; simp only [zz]; rfl
            apply pv 5 23 (bs 17 63) HT_; rfl; rfl; kernel_rfl; exact qq; rfl; intro w'; go_simp; with_reducible rfl; simp only [zz]; rfl
            apply pv 6 24 (bs 17 127) HT_; rfl; rfl; kernel_rfl; exact qq; rfl; intro w'; go_simp; with_reducible rfl; simp only [zz]; rfl
            apply pv 7 25 (bs 17 255) HT_; rfl; rfl; kernel_rfl; exact qq; rfl; intro w'; go_simp; with_reducible rfl; simp only [zz]; rfl
            apply pv 9 27 (bs 17 767) HT_; rfl; rfl; kernel_rfl; exact qq; rfl; intro w'; go_simp; with_reducible rfl; simp only [zz]; rfl
            apply pv 10 28 (bs 17 1791) HT_; rfl; rfl; kernel_rfl; exact qq; rfl; intro w'; go_simp; with_reducible rfl; simp only [zz]; rfl
            apply pv 11 29 (bs 17 3839) HT_; rfl; rfl; kernel_rfl; exact qq; rfl; intro w'; go_simp; with_reducible rfl; simp only [zz]; rfl
            apply pv 12 30 (bs 17 7935) HT_; rfl; rfl; kernel_rfl; exact qq; rfl; intro w'; go_simp; with_reducible rfl; simp only [zz]; rfl
            apply tb 8 26 (bs 17 8191) HT_ HW_ hHeld; rfl; rfl; kernel_rfl; exact qq; rfl; rintro w' ⟨s0, s1, s2, s3, s4, s5, s6, s7⟩; go_simp; with_reducible rfl; simp only [zz]; rfl
            apply tb 13 31 (bs 17 16383) HT_ HW_ hHeld; rfl; rfl; kernel_rfl; exact qq; rfl; rintro w' ⟨s0, s1, s2, s3, s4, s5, s6, s7⟩; go_simp; with_reducible rfl; simp only [zz]; rfl
            refine one_ (i := 14) (N := some 32) (bs 17 32767) rfl rfl (one_of HT_.out (by kernel_rfl)) (by decide) (fun K hK => ?_)
            (refine goesV_ Try.func27 (by kernel_rfl) rfl #[.agg #[.string ((rd_T25 x0_2 x9_2).f0), .int .i64 ((rd_T25 x0_2 x9_2).f1), .int .i64 ((rd_T25 x0_2 x9_2).f2), .int .u32 ((rd_T25 x0_2 x9_2).f3)], .agg #[.string ((rd_T25 x0_2 (ji9)).f0), .int .i64 ((rd_T25 x0_2 (ji9)).f1), .int .i64 ((rd_T25 x0_2 (ji9)).f2), .int .u32 ((rd_T25 x0_2 (ji9)).f3)]] (by rfl) rfl rfl rfl (by (try simp only [List.map_toArray, List.map_cons, List.map_nil]); rfl) ?_)
            with_reducible refine (peers_order.calls k2 ((rd_T25 x0_2 x9_2).f0) ((rd_T25 x0_2 x9_2).f1) ((rd_T25 x0_2 x9_2).f2) ((rd_T25 x0_2 x9_2).f3) ((rd_T25 x0_2 (ji9)).f0) ((rd_T25 x0_2 (ji9)).f1) ((rd_T25 x0_2 (ji9)).f2) ((rd_T25 x0_2 (ji9)).f3) t114 _ A12.out).mono ?_
            rintro e w18 ⟨rfl, hb⟩; have HS0_ := (hb.cell (World.block_lt_of_cell? _ _ (hHeld.1))).trans (hHeld.1); have HS1_ := (hb.cell (World.block_lt_of_cell? _ _ (hHeld.2.1))).trans (hHeld.2.1); have HS2_ := (hb.cell (World.block_lt_of_cell? _ _ (hHeld.2.2.1))).trans (hHeld.2.2.1); have HS3_ := (hb.cell (World.block_lt_of_cell? _ _ (hHeld.2.2.2.1))).trans (hHeld.2.2.2.1); have HS4_ := (hb.cell (World.block_lt_of_cell? _ _ (hHeld.2.2.2.2.1))).trans (hHeld.2.2.2.2.1); have HS5_ := (hb.cell (World.block_lt_of_cell? _ _ (hHeld.2.2.2.2.2.1))).trans (hHeld.2.2.2.2.2.1); have HS6_ := (hb.cell (World.block_lt_of_cell? _ _ (hHeld.2.2.2.2.2.2.1))).trans (hHeld.2.2.2.2.2.2.1); have HS7_ := (hb.cell (World.block_lt_of_cell? _ _ (hHeld.2.2.2.2.2.2.2))).trans (hHeld.2.2.2.2.2.2.2); refine ⟨_, rfl, ?_⟩; have n0_ := Aside0.mk (Kd.R_below HO_0.out hb); have n1_ := Aside0.mk (Kept.below (S := (fun k_ => P0_ k_)) HK.out hb); have n2_ := Aside0.mk (below_step HB.out hb); clear HO_0; clear HK; clear HB; have HO_0 := n0_; have HK := n1_; have HB := n2_; clear n0_ n1_ n2_
            (try clear hb)
            (try clear hb2)
            (try clear hk)
            (try clear hi)
            refine hK.out _ _ ⟨HS0_, HS1_, HS2_, HS3_, HS4_, HS5_, HS6_, HS7_⟩ (fun hHeld => ?_); clear hK K; refine norm_ (a' := ?_) ?_ ?_; rotate_left
            ·
             show Act.put _ (some 32) _ = _; simp only [Act.put, List.setIfInBounds_toArray, List.set_cons_zero, List.set_cons_succ, i64_w, i32_w]; rfl
            apply pv 15 33 (bs 17 65535) HT_; rfl; rfl; kernel_rfl; exact qq; rfl; intro w'; go_simp; with_reducible rfl; simp only [zz]; rfl
            apply pv 16 34 (bs 17 131071) HT_; rfl; rfl; kernel_rfl; exact qq; rfl; intro w'; go_simp; with_reducible rfl; simp only [zz]; rfl
            refine done_ (done_of HT_.out (by kernel_rfl)) ?_; try go_wp2
            have n0_ := Aside0.mk (Kd.R_drew HO_0.out); have n1_ := Aside0.mk (Kept.drew HK.out); have n2_ := Aside0.mk (below_drew1 HB.out); clear HO_0; clear HK; clear HB; have HO_0 := n0_; have HK := n1_; have HB := n2_; clear n0_ n1_ n2_; have p115 : 0 ≤ ((ji9) : Int) := of_decide_eq_true (by with_reducible assumption); have q115 : (ji9) < (x0_2.length : Int) := of_decide_eq_true (by with_reducible assumption); obtain ⟨ad115, e115, hx115_0, hx115_1, hx115_2, hx115_3⟩ := at_T25 (Kd.R_reads' HO_0.out).2.2 (ji9) p115 q115
            obtain rfl : ad112 = ad115 := (by injection e115)
            replace p115 := eq_true p115; replace q115 := eq_true q115; have p116 : 0 ≤ (x9_2 : Int) := of_decide_eq_true (by with_reducible assumption); have q116 : x9_2 < (x0_2.length : Int) := of_decide_eq_true (by with_reducible assumption); obtain ⟨ad116, e116, hx116_0, hx116_1, hx116_2, hx116_3⟩ := at_T25 (Kd.R_reads' HO_0.out).2.2 x9_2 p116 q116
            obtain rfl : ad112 = ad116 := (by injection e116)
            replace p116 := eq_true p116; replace q116 := eq_true q116; have p14 : 0 ≤ (x9_2 : Int) := of_decide_eq_true (by with_reducible assumption); have q14 : (x9_2 : Int) < ((x0_2.length : Int) : Int) := of_decide_eq_true (by with_reducible assumption); obtain ⟨go14, co14, eo14, gb14, gl14, cl14, HG14⟩ := Kd.R_form HO_0.out (by omega)
            ((cases eo14))
            have GB14 := Aside0.mk gb14; have GG14 := Aside0.mk HG14; clear gb14 gl14 HG14; have HMgo14 := Aside0.mk (show (P0_ go14 ∨ w.heap.size ≤ go14) from (HO_0.out.1 _ rfl))
            (simp only [add_plain] at hx112_0)
            (simp only [add_plain] at hx112_1)
            (simp only [add_plain] at hx112_2)
            (simp only [add_plain] at hx112_3)
            (simp only [add_plain] at hx113_0)
            (simp only [add_plain] at hx113_1)
            (simp only [add_plain] at hx113_2)
            (simp only [add_plain] at hx113_3)
            (simp only [add_plain] at hx115_0)
            (simp only [add_plain] at hx115_1)
            (simp only [add_plain] at hx115_2)
            (simp only [add_plain] at hx115_3)
            (simp only [add_plain] at hx116_0)
            (simp only [add_plain] at hx116_1)
            (simp only [add_plain] at hx116_2)
            (simp only [add_plain] at hx116_3)
            obtain ⟨ce14, hcl14, hM14, hcc14, hfr14⟩ := Kd.R_elem HO_0.out z25 (x9_2 : Int) p14 q14; obtain rfl := k25_openM hM14; have hx14_0 : World.cell? _ ⟨go14, (x9_2 : Int).toNat * 4, none⟩ = some (.string ((rd_T25 x0_2 x9_2).f0)) := hcc14 0 _ rfl; have hx14_1 : World.cell? _ ⟨go14, (x9_2 : Int).toNat * 4 + 1, none⟩ = some (.int .i64 ((rd_T25 x0_2 x9_2).f1)) := hcc14 1 _ rfl; have hx14_2 : World.cell? _ ⟨go14, (x9_2 : Int).toNat * 4 + 2, none⟩ = some (.int .i64 ((rd_T25 x0_2 x9_2).f2)) := hcc14 2 _ rfl; have hx14_3 : World.cell? _ ⟨go14, (x9_2 : Int).toNat * 4 + 3, none⟩ = some (.int .u32 ((rd_T25 x0_2 x9_2).f3)) := hcc14 3 _ rfl; have hf14_0 : World.frozen? _ ⟨go14, (x9_2 : Int).toNat * 4, none⟩ = false := hfr14 0; have hf14_1 : World.frozen? _ ⟨go14, (x9_2 : Int).toNat * 4 + 1, none⟩ = false := hfr14 1; have hf14_2 : World.frozen? _ ⟨go14, (x9_2 : Int).toNat * 4 + 2, none⟩ = false := hfr14 2; have hf14_3 : World.frozen? _ ⟨go14, (x9_2 : Int).toNat * 4 + 3, none⟩ = false := hfr14 3; clear hcl14 hcc14 hfr14 hM14; replace p14 := eq_true p14; replace q14 := eq_true q14; obtain ⟨ce20, hcl20, hM20, hcc20, hfr20⟩ := Kd.R_elem HO_0.out z25 (x9_2 : Int) (of_decide_eq_true (by with_reducible assumption)) (by have h_ : (x9_2 : Int) < ((x0_2.length : Int) : Int) := of_decide_eq_true (by with_reducible assumption); exact h_); obtain rfl := k25_openM hM20; have HP20 := (Kd.R_seg HO_0.out (x9_2 : Int) (of_decide_eq_true (by with_reducible assumption)) (by have h_ : (x9_2 : Int) < ((x0_2.length : Int) : Int) := of_decide_eq_true (by with_reducible assumption); exact h_) (seg := [.string ((rd_T25 x0_2 (ji9)).f0), .int .i64 ((rd_T25 x0_2 (ji9)).f1), .int .i64 ((rd_T25 x0_2 (ji9)).f2), .int .u32 ((rd_T25 x0_2 (ji9)).f3)]) (j := 0) hcl20 hcc20 (show 4 ≤ 4 from by decide) (x' := (⟨(rd_T25 x0_2 (ji9)).f0, (rd_T25 x0_2 (ji9)).f1, (rd_T25 x0_2 (ji9)).f2, (rd_T25 x0_2 (ji9)).f3⟩ : S25)) (k25_mkM _ _ _ (⟨(rd_T25 x0_2 (ji9)).f0, (rd_T25 x0_2 (ji9)).f1, (rd_T25 x0_2 (ji9)).f2, (rd_T25 x0_2 (ji9)).f3⟩ : S25) ) (fun _ hk => hk)).1; rw [← Ny117.out] at HP20; have HQ20 := Aside0.mk HP20; clear hcl20 hcc20 hfr20 hM20 HP20; have p15 : 0 ≤ ((ji9) : Int) := of_decide_eq_true (by with_reducible assumption); have q15 : ((ji9) : Int) < ((x0_2.length : Int) : Int) := of_decide_eq_true (by with_reducible assumption); obtain ⟨ce15, hcl15, hM15, hcc15, hfr15⟩ := Kd.R_elem HQ20.out z25 ((ji9) : Int) p15 q15; obtain rfl := k25_openM hM15; have hx15_0 : World.cell? _ ⟨go14, ((ji9) : Int).toNat * 4, none⟩ = some (.string ((rd_T25 y117 (ji9)).f0)) := hcc15 0 _ rfl; have hx15_1 : World.cell? _ ⟨go14, ((ji9) : Int).toNat * 4 + 1, none⟩ = some (.int .i64 ((rd_T25 y117 (ji9)).f1)) := hcc15 1 _ rfl; have hx15_2 : World.cell? _ ⟨go14, ((ji9) : Int).toNat * 4 + 2, none⟩ = some (.int .i64 ((rd_T25 y117 (ji9)).f2)) := hcc15 2 _ rfl; have hx15_3 : World.cell? _ ⟨go14, ((ji9) : Int).toNat * 4 + 3, none⟩ = some (.int .u32 ((rd_T25 y117 (ji9)).f3)) := hcc15 3 _ rfl; have hf15_0 : World.frozen? _ ⟨go14, ((ji9) : Int).toNat * 4, none⟩ = false := hfr15 0; have hf15_1 : World.frozen? _ ⟨go14, ((ji9) : Int).toNat * 4 + 1, none⟩ = false := hfr15 1; have hf15_2 : World.frozen? _ ⟨go14, ((ji9) : Int).toNat * 4 + 2, none⟩ = false := hfr15 2; have hf15_3 : World.frozen? _ ⟨go14, ((ji9) : Int).toNat * 4 + 3, none⟩ = false := hfr15 3; clear hcl15 hcc15 hfr15 hM15; replace p15 := eq_true p15; replace q15 := eq_true q15; obtain ⟨ce21, hcl21, hM21, hcc21, hfr21⟩ := Kd.R_elem HQ20.out z25 ((ji9) : Int) (of_decide_eq_true (by with_reducible assumption)) (by have h_ : ((ji9) : Int) < ((x0_2.length : Int) : Int) := of_decide_eq_true (by with_reducible assumption); exact h_); obtain rfl := k25_openM hM21; have HP21 := (Kd.R_seg HQ20.out ((ji9) : Int) (of_decide_eq_true (by with_reducible assumption)) (by have h_ : ((ji9) : Int) < ((x0_2.length : Int) : Int) := of_decide_eq_true (by with_reducible assumption); exact h_) (seg := [.string ((rd_T25 x0_2 x9_2).f0), .int .i64 ((rd_T25 x0_2 x9_2).f1), .int .i64 ((rd_T25 x0_2 x9_2).f2), .int .u32 ((rd_T25 x0_2 x9_2).f3)]) (j := 0) hcl21 hcc21 (show 4 ≤ 4 from by decide) (x' := (⟨(rd_T25 x0_2 x9_2).f0, (rd_T25 x0_2 x9_2).f1, (rd_T25 x0_2 x9_2).f2, (rd_T25 x0_2 x9_2).f3⟩ : S25)) (k25_mkM _ _ _ (⟨(rd_T25 x0_2 x9_2).f0, (rd_T25 x0_2 x9_2).f1, (rd_T25 x0_2 x9_2).f2, (rd_T25 x0_2 x9_2).f3⟩ : S25) ) (fun _ hk => hk)).1; rw [← Ny118.out] at HP21; have HQ21 := Aside0.mk HP21; clear hcl21 hcc21 hfr21 hM21 HP21; refine start_ (n := 18) (S := fun w' => w'.cell? ⟨go14, (((ji9)).toNat * 4), none⟩ = some (.string ((rd_T25 x0_2 (ji9)).f0)) ∧ w'.cell? ⟨go14, ((((ji9)).toNat * 4)) + 1, none⟩ = some (.int .i64 ((rd_T25 x0_2 (ji9)).f1)) ∧ w'.cell? ⟨go14, ((((ji9)).toNat * 4)) + 2, none⟩ = some (.int .i64 ((rd_T25 x0_2 (ji9)).f2)) ∧ w'.cell? ⟨go14, ((((ji9)).toNat * 4)) + 3, none⟩ = some (.int .u32 ((rd_T25 x0_2 (ji9)).f3)) ∧ w'.cell? ⟨go14, ((x9_2).toNat * 4), none⟩ = some (.string ((rd_T25 x0_2 x9_2).f0)) ∧ w'.cell? ⟨go14, ((x9_2).toNat * 4) + 1, none⟩ = some (.int .i64 ((rd_T25 x0_2 x9_2).f1)) ∧ w'.cell? ⟨go14, ((x9_2).toNat * 4) + 2, none⟩ = some (.int .i64 ((rd_T25 x0_2 x9_2).f2)) ∧ w'.cell? ⟨go14, ((x9_2).toNat * 4) + 3, none⟩ = some (.int .u32 ((rd_T25 x0_2 x9_2).f3))) (ds := [15, 17]) (bs 18 0) (by kernel_rfl) rfl rfl ⟨hx115_0, hx115_1, hx115_2, hx115_3, hx116_0, hx116_1, hx116_2, hx116_3⟩ (fun hHeld => ?_); refine with_tabW api_Meta_59.tab6 api_Meta_59.bits6 (fun HT_ HW_ => ?_); generalize w18.drew = w19 at HO_0 HK HB GG14 HQ20 HQ21 hf14_0 hf14_1 hf14_2 hf14_3 hf15_0 hf15_1 hf15_2 hf15_3 hx112_0 hx112_1 hx112_2 hx112_3 hx113_0 hx113_1 hx113_2 hx113_3 hx115_0 hx115_1 hx115_2 hx115_3 hx116_0 hx116_1 hx116_2 hx116_3 hx14_0 hx14_1 hx14_2 hx14_3 hx15_0 hx15_1 hx15_2 hx15_3 hHeld ⊢; replace hx15_0 : World.cell? ((((w19.setCell ⟨go14, (x9_2).toNat * 4, none⟩ (.string ((rd_T25 x0_2 (ji9)).f0))).setCell ⟨go14, (x9_2).toNat * 4 + 1, none⟩ (.int .i64 ((rd_T25 x0_2 (ji9)).f1))).setCell ⟨go14, (x9_2).toNat * 4 + 2, none⟩ (.int .i64 ((rd_T25 x0_2 (ji9)).f2))).setCell ⟨go14, (x9_2).toNat * 4 + 3, none⟩ (.int .u32 ((rd_T25 x0_2 (ji9)).f3))) ⟨go14, ((ji9) : Int).toNat * 4, none⟩ = some (.string ((rd_T25 y117 (ji9)).f0)) := hx15_0; replace hx15_1 : World.cell? ((((w19.setCell ⟨go14, (x9_2).toNat * 4, none⟩ (.string ((rd_T25 x0_2 (ji9)).f0))).setCell ⟨go14, (x9_2).toNat * 4 + 1, none⟩ (.int .i64 ((rd_T25 x0_2 (ji9)).f1))).setCell ⟨go14, (x9_2).toNat * 4 + 2, none⟩ (.int .i64 ((rd_T25 x0_2 (ji9)).f2))).setCell ⟨go14, (x9_2).toNat * 4 + 3, none⟩ (.int .u32 ((rd_T25 x0_2 (ji9)).f3))) ⟨go14, ((ji9) : Int).toNat * 4 + 1, none⟩ = some (.int .i64 ((rd_T25 y117 (ji9)).f1)) := hx15_1; replace hx15_2 : World.cell? ((((w19.setCell ⟨go14, (x9_2).toNat * 4, none⟩ (.string ((rd_T25 x0_2 (ji9)).f0))).setCell ⟨go14, (x9_2).toNat * 4 + 1, none⟩ (.int .i64 ((rd_T25 x0_2 (ji9)).f1))).setCell ⟨go14, (x9_2).toNat * 4 + 2, none⟩ (.int .i64 ((rd_T25 x0_2 (ji9)).f2))).setCell ⟨go14, (x9_2).toNat * 4 + 3, none⟩ (.int .u32 ((rd_T25 x0_2 (ji9)).f3))) ⟨go14, ((ji9) : Int).toNat * 4 + 2, none⟩ = some (.int .i64 ((rd_T25 y117 (ji9)).f2)) := hx15_2; replace hx15_3 : World.cell? ((((w19.setCell ⟨go14, (x9_2).toNat * 4, none⟩ (.string ((rd_T25 x0_2 (ji9)).f0))).setCell ⟨go14, (x9_2).toNat * 4 + 1, none⟩ (.int .i64 ((rd_T25 x0_2 (ji9)).f1))).setCell ⟨go14, (x9_2).toNat * 4 + 2, none⟩ (.int .i64 ((rd_T25 x0_2 (ji9)).f2))).setCell ⟨go14, (x9_2).toNat * 4 + 3, none⟩ (.int .u32 ((rd_T25 x0_2 (ji9)).f3))) ⟨go14, ((ji9) : Int).toNat * 4 + 3, none⟩ = some (.int .u32 ((rd_T25 y117 (ji9)).f3)) := hx15_3; replace hf15_0 : World.frozen? ((((w19.setCell ⟨go14, (x9_2).toNat * 4, none⟩ (.string ((rd_T25 x0_2 (ji9)).f0))).setCell ⟨go14, (x9_2).toNat * 4 + 1, none⟩ (.int .i64 ((rd_T25 x0_2 (ji9)).f1))).setCell ⟨go14, (x9_2).toNat * 4 + 2, none⟩ (.int .i64 ((rd_T25 x0_2 (ji9)).f2))).setCell ⟨go14, (x9_2).toNat * 4 + 3, none⟩ (.int .u32 ((rd_T25 x0_2 (ji9)).f3))) ⟨go14, ((ji9) : Int).toNat * 4, none⟩ = false := hf15_0; replace hf15_1 : World.frozen? ((((w19.setCell ⟨go14, (x9_2).toNat * 4, none⟩ (.string ((rd_T25 x0_2 (ji9)).f0))).setCell ⟨go14, (x9_2).toNat * 4 + 1, none⟩ (.int .i64 ((rd_T25 x0_2 (ji9)).f1))).setCell ⟨go14, (x9_2).toNat * 4 + 2, none⟩ (.int .i64 ((rd_T25 x0_2 (ji9)).f2))).setCell ⟨go14, (x9_2).toNat * 4 + 3, none⟩ (.int .u32 ((rd_T25 x0_2 (ji9)).f3))) ⟨go14, ((ji9) : Int).toNat * 4 + 1, none⟩ = false := hf15_1; replace hf15_2 : World.frozen? ((((w19.setCell ⟨go14, (x9_2).toNat * 4, none⟩ (.string ((rd_T25 x0_2 (ji9)).f0))).setCell ⟨go14, (x9_2).toNat * 4 + 1, none⟩ (.int .i64 ((rd_T25 x0_2 (ji9)).f1))).setCell ⟨go14, (x9_2).toNat * 4 + 2, none⟩ (.int .i64 ((rd_T25 x0_2 (ji9)).f2))).setCell ⟨go14, (x9_2).toNat * 4 + 3, none⟩ (.int .u32 ((rd_T25 x0_2 (ji9)).f3))) ⟨go14, ((ji9) : Int).toNat * 4 + 2, none⟩ = false := hf15_2; replace hf15_3 : World.frozen? ((((w19.setCell ⟨go14, (x9_2).toNat * 4, none⟩ (.string ((rd_T25 x0_2 (ji9)).f0))).setCell ⟨go14, (x9_2).toNat * 4 + 1, none⟩ (.int .i64 ((rd_T25 x0_2 (ji9)).f1))).setCell ⟨go14, (x9_2).toNat * 4 + 2, none⟩ (.int .i64 ((rd_T25 x0_2 (ji9)).f2))).setCell ⟨go14, (x9_2).toNat * 4 + 3, none⟩ (.int .u32 ((rd_T25 x0_2 (ji9)).f3))) ⟨go14, ((ji9) : Int).toNat * 4 + 3, none⟩ = false := hf15_3; apply pv 0 37 (bs 18 1) HT_; rfl; rfl; kernel_rfl; exact qq; rfl; intro w'; go_simp; with_reducible rfl; simp only [zz]; rfl
            apply pv 1 38 (bs 18 3) HT_; rfl; rfl; kernel_rfl; exact qq; rfl; intro w'; go_simp; with_reducible rfl; simp only [zz]; rfl
            apply pv 2 39 (bs 18 7) HT_; rfl; rfl; kernel_rfl; exact qq; rfl; intro w'; go_simp; with_reducible rfl; simp only [zz]; rfl
            apply pv 3 40 (bs 18 15) HT_; rfl; rfl; kernel_rfl; exact qq; rfl; intro w'; go_simp; with_reducible rfl; simp only [zz]; rfl
            apply pv 4 41 (bs 18 31) HT_; rfl; rfl; kernel_rfl; exact qq; rfl; intro w'; go_simp; with_reducible rfl; simp only [zz]; rfl
            apply pv 5 42 (bs 18 63) HT_; rfl; rfl; kernel_rfl; exact qq; rfl; intro w'; go_simp; with_reducible rfl; simp only [zz]; rfl
            apply pv 6 43 (bs 18 127) HT_; rfl; rfl; kernel_rfl; exact qq; rfl; intro w'; go_simp; with_reducible rfl; simp only [zz]; rfl
            apply pv 7 44 (bs 18 255) HT_; rfl; rfl; kernel_rfl; exact qq; rfl; intro w'; go_simp; with_reducible rfl; simp only [zz]; rfl
            apply pv 8 45 (bs 18 511) HT_; rfl; rfl; kernel_rfl; exact qq; rfl; intro w'; go_simp; with_reducible rfl; simp only [zz]; rfl
            apply pv 10 47 (bs 18 1535) HT_; rfl; rfl; kernel_rfl; exact qq; rfl; intro w'; go_simp; with_reducible rfl; simp only [zz]; rfl
            apply pv 11 48 (bs 18 3583) HT_; rfl; rfl; kernel_rfl; exact qq; rfl; intro w'; go_simp; with_reducible rfl; simp only [zz]; rfl
            apply pv 12 49 (bs 18 7679) HT_; rfl; rfl; kernel_rfl; exact qq; rfl; intro w'; go_simp; with_reducible rfl; simp only [zz]; rfl
            apply tb 9 46 (bs 18 8191) HT_ HW_ hHeld; rfl; rfl; kernel_rfl; exact qq; rfl; rintro w' ⟨s0, s1, s2, s3, s4, s5, s6, s7⟩; go_simp; with_reducible rfl; simp only [zz]; rfl
            apply tb 13 50 (bs 18 16383) HT_ HW_ hHeld; rfl; rfl; kernel_rfl; exact qq; rfl; rintro w' ⟨s0, s1, s2, s3, s4, s5, s6, s7⟩; go_simp; with_reducible rfl; simp only [zz]; rfl
            apply pv 14 51 (bs 18 32767) HT_; rfl; rfl; kernel_rfl; exact qq; rfl; intro w'; go_simp; with_reducible rfl; simp only [zz]; rfl
            refine last_ (i := 15) (N := none) (bs 18 65535) rfl rfl (one_of HT_.out (by kernel_rfl)) (by decide) (fun K hK => ?_); refine skip_ (w1 := ?_) (by rfl) rfl ?_ ?_; rotate_left
            ·
             go_simp; rfl
            refine hK.out _ _ ?_; clear hK K; apply pv 16 52 (bs 18 131071) HT_; rfl; rfl; kernel_rfl; exact qq; rfl; intro w'; go_simp; with_reducible rfl; simp only [zz]; rfl
            refine last_ (i := 17) (N := none) (bs 18 262143) rfl rfl (one_of HT_.out (by kernel_rfl)) (by decide) (fun K hK => ?_); refine skip_ (w1 := ?_) (by rfl) rfl ?_ ?_; rotate_left
            ·
             go_simp; rfl
            refine hK.out _ _ ?_; clear hK K; refine done_ (done_of HT_.out (by kernel_rfl)) ?_; try go_wp2
            go_roundg k2
            case measure => have := HK1.out; have := HK2.out; omega
            case rel => exact ⟨(y118), (ji9), (by rfl), H', ⟨by have := HK1.out; have := HK2.out; omega⟩, ⟨HQ21.out⟩, ⟨by repeat ((with_reducible first | exact HK.out | refine Kept.setCell ?_ HMgo14.out _))⟩, ⟨by repeat ((with_reducible first | exact HB.out | refine below_set ?_ GB14.out))⟩⟩
           ·
            rw [if_neg c13] at H; have c13b0 : decide (t114 < 0) = false := decide_eq_false c13; clear c13; have H' := Aside0.mk H; clear H; try go_wp2
            have n0_ := Aside0.mk (Kd.R_drew HO_0.out); have n1_ := Aside0.mk (Kept.drew HK.out); have n2_ := Aside0.mk (below_drew1 HB.out); clear HO_0; clear HK; clear HB; have HO_0 := n0_; have HK := n1_; have HB := n2_; clear n0_ n1_ n2_; obtain ⟨Ao23, co23, eo23⟩ := Kd.R_slice HO_0.out
            ((subst eo23))
            have p112 : 0 ≤ (x9_2 : Int) := of_decide_eq_true (by with_reducible assumption); have q112 : x9_2 < (x0_2.length : Int) := of_decide_eq_true (by with_reducible assumption); obtain ⟨ad112, e112, hx112_0, hx112_1, hx112_2, hx112_3⟩ := at_T25 (Kd.R_reads' HO_0.out).2.2 x9_2 p112 q112; cases e112; replace p112 := eq_true p112; replace q112 := eq_true q112; have p113 : 0 ≤ ((ji9) : Int) := of_decide_eq_true (by with_reducible assumption); have q113 : (ji9) < (x0_2.length : Int) := of_decide_eq_true (by with_reducible assumption); obtain ⟨ad113, e113, hx113_0, hx113_1, hx113_2, hx113_3⟩ := at_T25 (Kd.R_reads' HO_0.out).2.2 (ji9) p113 q113
            obtain rfl : ad112 = ad113 := (by injection e113)
            replace p113 := eq_true p113; replace q113 := eq_true q113; refine start_ (n := 17) (S := fun w' => w'.cell? (ad112.add ((x9_2).toNat * 4)) = some (.string ((rd_T25 x0_2 x9_2).f0)) ∧ w'.cell? ⟨(ad112.add ((x9_2).toNat * 4)).block, (ad112.add ((x9_2).toNat * 4)).off + 1, none⟩ = some (.int .i64 ((rd_T25 x0_2 x9_2).f1)) ∧ w'.cell? ⟨(ad112.add ((x9_2).toNat * 4)).block, (ad112.add ((x9_2).toNat * 4)).off + 2, none⟩ = some (.int .i64 ((rd_T25 x0_2 x9_2).f2)) ∧ w'.cell? ⟨(ad112.add ((x9_2).toNat * 4)).block, (ad112.add ((x9_2).toNat * 4)).off + 3, none⟩ = some (.int .u32 ((rd_T25 x0_2 x9_2).f3)) ∧ w'.cell? (ad112.add (((ji9)).toNat * 4)) = some (.string ((rd_T25 x0_2 (ji9)).f0)) ∧ w'.cell? ⟨(ad112.add (((ji9)).toNat * 4)).block, (ad112.add (((ji9)).toNat * 4)).off + 1, none⟩ = some (.int .i64 ((rd_T25 x0_2 (ji9)).f1)) ∧ w'.cell? ⟨(ad112.add (((ji9)).toNat * 4)).block, (ad112.add (((ji9)).toNat * 4)).off + 2, none⟩ = some (.int .i64 ((rd_T25 x0_2 (ji9)).f2)) ∧ w'.cell? ⟨(ad112.add (((ji9)).toNat * 4)).block, (ad112.add (((ji9)).toNat * 4)).off + 3, none⟩ = some (.int .u32 ((rd_T25 x0_2 (ji9)).f3))) (ds := []) (bs 17 0) (by kernel_rfl) rfl rfl ⟨hx112_0, hx112_1, hx112_2, hx112_3, hx113_0, hx113_1, hx113_2, hx113_3⟩ (fun hHeld => ?_); refine with_tabW api_Meta_59.tab4 api_Meta_59.bits4 (fun HT_ HW_ => ?_); generalize wr.drew = w22 at HO_0 HK HB hx112_0 hx112_1 hx112_2 hx112_3 hx113_0 hx113_1 hx113_2 hx113_3 hHeld ⊢; apply pv 0 18 (bs 17 1) HT_; rfl; rfl; kernel_rfl; exact qq; rfl; intro w'; go_simp; with_reducible rfl; simp only [zz]; rfl
            apply pv 1 19 (bs 17 3) HT_; rfl; rfl; kernel_rfl; exact qq; rfl; intro w'; go_simp; with_reducible rfl; simp only [zz]; rfl
            apply pv 2 20 (bs 17 7) HT_; rfl; rfl; kernel_rfl; exact qq; rfl; intro w'; go_simp; with_reducible rfl; simp only [zz]; rfl
            apply pv 3 21 (bs 17 15) HT_; rfl; rfl; kernel_rfl; exact qq; rfl; intro w'; go_simp; with_reducible rfl; simp only [zz]; rfl
            apply pv 4 22 (bs 17 31) HT_; rfl; rfl; kernel_rfl; exact qq; rfl; intro w'; go_simp; with_reducible rfl; simp only [zz]; rfl
            apply pv 5 23 (bs 17 63) HT_; rfl; rfl; kernel_rfl; exact qq; rfl; intro w'; go_simp; with_reducible rfl; simp only [zz]; rfl
            apply pv 6 24 (bs 17 127) HT_; rfl; rfl; kernel_rfl; exact qq; rfl; intro w'; go_simp; with_reducible rfl; simp only [zz]; rfl
            apply pv 7 25 (bs 17 255) HT_; rfl; rfl; kernel_rfl; exact qq; rfl; intro w'; go_simp; with_reducible rfl; simp only [zz]; rfl
            apply pv 9 27 (bs 17 767) HT_; rfl; rfl; kernel_rfl; exact qq; rfl; intro w'; go_simp; with_reducible rfl; simp only [zz]; rfl
            apply pv 10 28 (bs 17 1791) HT_; rfl; rfl; kernel_rfl; exact qq; rfl; intro w'; go_simp; with_reducible rfl; simp only [zz]; rfl
            apply pv 11 29 (bs 17 3839) HT_; rfl; rfl; kernel_rfl; exact qq; rfl; intro w'; go_simp; with_reducible rfl; simp only [zz]; rfl
            apply pv 12 30 (bs 17 7935) HT_; rfl; rfl; kernel_rfl; exact qq; rfl; intro w'; go_simp; with_reducible rfl; simp only [zz]; rfl
            apply tb 8 26 (bs 17 8191) HT_ HW_ hHeld; rfl; rfl; kernel_rfl; exact qq; rfl; rintro w' ⟨s0, s1, s2, s3, s4, s5, s6, s7⟩; go_simp; with_reducible rfl; simp only [zz]; rfl
            apply tb 13 31 (bs 17 16383) HT_ HW_ hHeld; rfl; rfl; kernel_rfl; exact qq; rfl; rintro w' ⟨s0, s1, s2, s3, s4, s5, s6, s7⟩; go_simp; with_reducible rfl; simp only [zz]; rfl
            refine one_ (i := 14) (N := some 32) (bs 17 32767) rfl rfl (one_of HT_.out (by kernel_rfl)) (by decide) (fun K hK => ?_)
            (refine goesV_ Try.func27 (by kernel_rfl) rfl #[.agg #[.string ((rd_T25 x0_2 x9_2).f0), .int .i64 ((rd_T25 x0_2 x9_2).f1), .int .i64 ((rd_T25 x0_2 x9_2).f2), .int .u32 ((rd_T25 x0_2 x9_2).f3)], .agg #[.string ((rd_T25 x0_2 (ji9)).f0), .int .i64 ((rd_T25 x0_2 (ji9)).f1), .int .i64 ((rd_T25 x0_2 (ji9)).f2), .int .u32 ((rd_T25 x0_2 (ji9)).f3)]] (by rfl) rfl rfl rfl (by (try simp only [List.map_toArray, List.map_cons, List.map_nil]); rfl) ?_)
            with_reducible refine (peers_order.calls k2 ((rd_T25 x0_2 x9_2).f0) ((rd_T25 x0_2 x9_2).f1) ((rd_T25 x0_2 x9_2).f2) ((rd_T25 x0_2 x9_2).f3) ((rd_T25 x0_2 (ji9)).f0) ((rd_T25 x0_2 (ji9)).f1) ((rd_T25 x0_2 (ji9)).f2) ((rd_T25 x0_2 (ji9)).f3) t114 _ A12.out).mono ?_
            rintro e w24 ⟨rfl, hb⟩; have HS0_ := (hb.cell (World.block_lt_of_cell? _ _ (hHeld.1))).trans (hHeld.1); have HS1_ := (hb.cell (World.block_lt_of_cell? _ _ (hHeld.2.1))).trans (hHeld.2.1); have HS2_ := (hb.cell (World.block_lt_of_cell? _ _ (hHeld.2.2.1))).trans (hHeld.2.2.1); have HS3_ := (hb.cell (World.block_lt_of_cell? _ _ (hHeld.2.2.2.1))).trans (hHeld.2.2.2.1); have HS4_ := (hb.cell (World.block_lt_of_cell? _ _ (hHeld.2.2.2.2.1))).trans (hHeld.2.2.2.2.1); have HS5_ := (hb.cell (World.block_lt_of_cell? _ _ (hHeld.2.2.2.2.2.1))).trans (hHeld.2.2.2.2.2.1); have HS6_ := (hb.cell (World.block_lt_of_cell? _ _ (hHeld.2.2.2.2.2.2.1))).trans (hHeld.2.2.2.2.2.2.1); have HS7_ := (hb.cell (World.block_lt_of_cell? _ _ (hHeld.2.2.2.2.2.2.2))).trans (hHeld.2.2.2.2.2.2.2); refine ⟨_, rfl, ?_⟩; have n0_ := Aside0.mk (Kd.R_below HO_0.out hb); have n1_ := Aside0.mk (Kept.below (S := (fun k_ => P0_ k_)) HK.out hb); have n2_ := Aside0.mk (below_step HB.out hb); clear HO_0; clear HK; clear HB; have HO_0 := n0_; have HK := n1_; have HB := n2_; clear n0_ n1_ n2_
            (try clear hb)
            (try clear hb2)
            (try clear hk)
            (try clear hi)
            refine hK.out _ _ ⟨HS0_, HS1_, HS2_, HS3_, HS4_, HS5_, HS6_, HS7_⟩ (fun hHeld => ?_); clear hK K; refine norm_ (a' := ?_) ?_ ?_; rotate_left
            ·
             show Act.put _ (some 32) _ = _; simp only [Act.put, List.setIfInBounds_toArray, List.set_cons_zero, List.set_cons_succ, i64_w, i32_w]; rfl
            apply pv 15 33 (bs 17 65535) HT_; rfl; rfl; kernel_rfl; exact qq; rfl; intro w'; go_simp; with_reducible rfl; simp only [zz]; rfl
            apply pv 16 34 (bs 17 131071) HT_; rfl; rfl; kernel_rfl; exact qq; rfl; intro w'; go_simp; with_reducible rfl; simp only [zz]; rfl
            refine done_ (done_of HT_.out (by kernel_rfl)) ?_; try go_wp2
            go_roundg k2
            case measure => have := HK1.out; have := HK2.out; omega
            case rel => exact ⟨(x0_2), (wrap64 (x8_1 + 1)), (by rfl), H', ⟨by have := HK1.out; have := HK2.out; omega⟩, ⟨HO_0.out⟩, ⟨HK.out⟩, ⟨HB.out⟩⟩
          ·
           rw [if_neg c11] at H; exact absurd H (by simp)
         ·
          rw [if_neg c10] at H; exact absurd H (by simp)
        ·
         rw [if_neg c8] at H; exact absurd H (by simp)
       ·
        rw [if_neg c7] at H; exact absurd H (by simp)
      ·
       rw [if_neg c6] at H; have c6b0 : decide (a1 < x9_2) = false := decide_eq_false c6; clear c6; have H' := Aside0.mk H; clear H; try go_wp2
       have n0_ := Aside0.mk (Kd.R_drew HO_0.out); have n1_ := Aside0.mk (Kept.drew HK.out); have n2_ := Aside0.mk (below_drew1 HB.out); clear HO_0; clear HK; clear HB; have HO_0 := n0_; have HK := n1_; have HB := n2_; clear n0_ n1_ n2_; refine start_ (n := 17) (S := fun w' => True) (ds := []) (bs 17 0) (by kernel_rfl) rfl rfl trivial (fun hHeld => ?_); refine with_tabW api_Meta_59.tab4 api_Meta_59.bits4 (fun HT_ HW_ => ?_); generalize wr.drew = w25 at HO_0 HK HB hHeld ⊢; apply pv 0 18 (bs 17 1) HT_; rfl; rfl; kernel_rfl; exact qq; rfl; intro w'; go_simp; with_reducible rfl; simp only [zz]; rfl
       apply pv 1 19 (bs 17 3) HT_; rfl; rfl; kernel_rfl; exact qq; rfl; intro w'; go_simp; with_reducible rfl; simp only [zz]; rfl
       apply pv 2 20 (bs 17 7) HT_; rfl; rfl; kernel_rfl; exact qq; rfl; intro w'; go_simp; with_reducible rfl; simp only [zz]; rfl
       apply pv 3 21 (bs 17 15) HT_; rfl; rfl; kernel_rfl; exact qq; rfl; intro w'; go_simp; with_reducible rfl; simp only [zz]; rfl
       apply py 4 22 (bs 17 31) HT_; rfl; rfl; kernel_rfl; exact qq; rfl; simp only [zz]; rfl; apply py 5 23 (bs 17 63) HT_; rfl; rfl; kernel_rfl; exact qq; rfl; simp only [zz]; rfl; apply py 6 24 (bs 17 127) HT_; rfl; rfl; kernel_rfl; exact qq; rfl; simp only [zz]; rfl; apply py 7 25 (bs 17 255) HT_; rfl; rfl; kernel_rfl; exact qq; rfl; simp only [zz]; rfl; apply py 8 26 (bs 17 511) HT_; rfl; rfl; kernel_rfl; exact qq; rfl; simp only [zz]; rfl; apply py 9 27 (bs 17 1023) HT_; rfl; rfl; kernel_rfl; exact qq; rfl; simp only [zz]; rfl; apply py 10 28 (bs 17 2047) HT_; rfl; rfl; kernel_rfl; exact qq; rfl; simp only [zz]; rfl; apply py 11 29 (bs 17 4095) HT_; rfl; rfl; kernel_rfl; exact qq; rfl; simp only [zz]; rfl; apply py 12 30 (bs 17 8191) HT_; rfl; rfl; kernel_rfl; exact qq; rfl; simp only [zz]; rfl; apply py 13 31 (bs 17 16383) HT_; rfl; rfl; kernel_rfl; exact qq; rfl; simp only [zz]; rfl; apply py 14 32 (bs 17 32767) HT_; rfl; rfl; kernel_rfl; exact qq; rfl; simp only [zz]; rfl; apply py 15 33 (bs 17 65535) HT_; rfl; rfl; kernel_rfl; exact qq; rfl; simp only [zz]; rfl; apply pv 16 34 (bs 17 131071) HT_; rfl; rfl; kernel_rfl; exact qq; rfl; intro w'; go_simp; with_reducible rfl; simp only [zz]; rfl
       refine done_ (done_of HT_.out (by kernel_rfl)) ?_; try go_wp2
       go_roundg k2
       case measure => have := HK1.out; have := HK2.out; omega
       case rel => exact ⟨(x0_2), (wrap64 (x8_1 + 1)), (by rfl), H', ⟨by have := HK1.out; have := HK2.out; omega⟩, ⟨HO_0.out⟩, ⟨HK.out⟩, ⟨HB.out⟩⟩
   ·
    rw [if_neg c5] at H; have c5b0 : decide (x8_1 < a2) = false := decide_eq_false c5; clear c5; obtain rfl := Option.some.inj H; go_wp2
    (go_end0)
    exact ⟨by rfl, by exact HO_0.out, by repeat ((with_reducible exact HB.out)), by repeat ((with_reducible exact HK.out))⟩
end Go.Proofs.Ytgagcimfkmegnaa.QS
