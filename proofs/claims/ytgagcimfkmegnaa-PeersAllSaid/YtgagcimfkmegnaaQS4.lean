-- Laid by wip/tools/myprint.py of this repo. Not trusted: Lean checks it.
import Derived.Test.YtgagcimfkmegnaaQS4A
set_option maxHeartbeats 8000000
set_option maxRecDepth 100000
namespace Go.Proofs.Ytgagcimfkmegnaa.QS
open Go.Proofs.Ytgagcimfkmegnaa.QT
open Go.RowKit Go.Proofs.YtgagcimfkmegnaaW.PrintWords Go.Proofs.YtgagcimfkmegnaaW.PrintLast Go.Proofs.YtgagcimfkmegnaaW.PrintMore
attribute [local go_sem] max2_int min2_int max_two min_two max_three min_three max_four min_four   -- for this text's walks alone
set_option linter.unusedVariables false
set_option linter.unusedSimpArgs false
theorem api_Meta_60.leaf3 (k : Nat) (ih : ∀ k' : Nat, k' < k + 1 → ∀ (P0_ : Nat → Prop) (u9000_ : Value) (l0 : List (S25)) (a1 : Int) (a2 : Int) (a3 : Int)  (r : List (S25)) (w0 w : World) (hB : Below w0.heap.size w0 w) (ho0 : Kd.R k25 25 w w0.heap.size P0_ u9000_ l0) (h : api_Meta_60.f k' l0 a1 a2 a3 = some r),
  Calls Try.prog 60 #[u9000_, .int .i64 a1, .int .i64 a2, .int .i64 a3, .func (.func 27) #[] #[]] w fun e w' => e = .returned (.tuple #[]) ∧ Kd.R k25 25 w' w0.heap.size (fun k_ => (P0_ k_ ∨ w.heap.size ≤ k_)) u9000_ r ∧ Below w0.heap.size w0 w' ∧ Kept w w' (fun k_ => P0_ k_)) : ∀ (P0_ : Nat → Prop) (u9000_ : Value) (l0 : List (S25)) (a1 : Int) (a2 : Int) (a3 : Int)  (r : List (S25)) (w0 w : World) (hB : Below w0.heap.size w0 w) (ho0 : Kd.R k25 25 w w0.heap.size P0_ u9000_ l0) (c6 : ¬ ((wrap64 (a2 - a1)) = 1)) (c33 : ¬ ((wrap64 (a3 - a2)) = 1)) (h : api_Meta_60.f (k + 1) l0 a1 a2 a3 = some r),
  Calls Try.prog 60 #[u9000_, .int .i64 a1, .int .i64 a2, .int .i64 a3, .func (.func 27) #[] #[]] w fun e w' => e = .returned (.tuple #[]) ∧ Kd.R k25 25 w' w0.heap.size (fun k_ => (P0_ k_ ∨ w.heap.size ≤ k_)) u9000_ r ∧ Below w0.heap.size w0 w' ∧ Kept w w' (fun k_ => P0_ k_) := by
 intro P0_ u9000_ l0 a1 a2 a3 r w0 w hB ho0 c6 c33 h; simp only [api_Meta_60.f] at h; have HO0 := Aside0.mk (show Kd.R k25 25 w w0.heap.size (fun k_ => (P0_ k_ ∨ w.heap.size ≤ k_)) u9000_ l0 from Kd.R_mono ho0 (fun k_ hk => (.inl hk))); have HK := Aside0.mk (Kept.refl w (fun k_ => P0_ k_)); have HB := Aside0.mk hB; clear hB; have H : (if (wrap64 (a2 - a1)) = 1 then (api_Meta_60.l0 k l0 a1 a2 a3) else (if (wrap64 (a3 - a2)) = 1 then (api_Meta_60.l2 k l0 a2 a1 a2) else (if a2 > (wrap64 ((IntKind.u64.wrap (wrap64 (a1 + a3))) / 2)) then (api_Meta_60.j4 k l0 a1 a2 a3 (wrap64 ((IntKind.u64.wrap (wrap64 (a1 + a3))) / 2)) (wrap64 ((wrap64 ((IntKind.u64.wrap (wrap64 (a1 + a3))) / 2)) + a2)) (wrap64 ((wrap64 ((wrap64 ((IntKind.u64.wrap (wrap64 (a1 + a3))) / 2)) + a2)) - a3)) (wrap64 ((IntKind.u64.wrap (wrap64 (a1 + a3))) / 2))) else (api_Meta_60.j4 k l0 a1 a2 a3 (wrap64 ((IntKind.u64.wrap (wrap64 (a1 + a3))) / 2)) (wrap64 ((wrap64 ((IntKind.u64.wrap (wrap64 (a1 + a3))) / 2)) + a2)) a1 a2)))) = some r := h; clear h; rw [if_neg c6] at H; have c6b0 : ((wrap64 (a2 - a1)) == 1) = false := beq_eq_false_iff_ne.mpr c6; rw [if_neg c33] at H; have c33b0 : ((wrap64 (a3 - a2)) == 1) = false := beq_eq_false_iff_ne.mpr c33; have HC60 := Aside0.mk H; clear H; go_enter Try.func60, Try.ntmps60
 go_upto_if 140 with (fail)
 go_cut [20, 21] (fun v20 v21 wc => ∃ (kq : Nat) (x20_59 : Int) (x21_59 : Int), v20 = .int .i64 x20_59 ∧ v21 = .int .i64 x21_59 ∧ Aside0 (api_Meta_60.j4 kq l0 a1 a2 a3 (wrap64 ((IntKind.u64.wrap (wrap64 (a1 + a3))) / 2)) (wrap64 ((wrap64 ((IntKind.u64.wrap (wrap64 (a1 + a3))) / 2)) + a2)) x20_59 x21_59 = some r) ∧ Aside0 (kq ≤ k) ∧ Aside0 (Kd.R k25 25 wc w0.heap.size (fun k_ => (P0_ k_ ∨ w.heap.size ≤ k_)) u9000_ l0) ∧ Aside0 (Kept w wc (fun k_ => P0_ k_)) ∧ Aside0 (Below w0.heap.size w0 wc))
 case first =>
  have H := HC60.out; clear HC60
  by_cases c61 : a2 > (wrap64 ((IntKind.u64.wrap (wrap64 (a1 + a3))) / 2))
  ·
   rw [if_pos c61] at H; have c61b0 : decide ((wrap64 ((IntKind.u64.wrap (wrap64 (a1 + a3))) / 2)) < a2) = true := decide_eq_true c61; clear c61
   ((rw [c61b0]))
   have H' := Aside0.mk H; clear H; go_wp2; go_meet
   case rel => exact ⟨_, (wrap64 ((wrap64 ((wrap64 ((IntKind.u64.wrap (wrap64 (a1 + a3))) / 2)) + a2)) - a3)), (wrap64 ((IntKind.u64.wrap (wrap64 (a1 + a3))) / 2)), (by rfl), (by rfl), H', ⟨by omega⟩, ⟨HO0.out⟩, ⟨HK.out⟩, ⟨HB.out⟩⟩
  ·
   rw [if_neg c61] at H; have c61b0 : decide ((wrap64 ((IntKind.u64.wrap (wrap64 (a1 + a3))) / 2)) < a2) = false := decide_eq_false c61; clear c61
   ((rw [c61b0]))
   have H' := Aside0.mk H; clear H; go_wp2; go_meet
   case rel => exact ⟨_, (a1), (a2), (by rfl), (by rfl), H', ⟨by omega⟩, ⟨HO0.out⟩, ⟨HK.out⟩, ⟨HB.out⟩⟩
 case rest =>
  clear HC60; try clear c6
  try clear c6b0
  try clear c33
  try clear c33b0
  obtain ⟨kq, x20_59, x21_59, rfl, rfl, HA, HJ59, HO_0, HK, HB⟩ := hcut
  cases kq with
  | zero => exact absurd HA.out (by simp [api_Meta_60.j4])
  | succ kj59 =>
   have H := HA.out; clear HA; simp only [api_Meta_60.j4] at H; have H' := Aside0.mk H; clear H; go_wp2; go_loopg [20, 21] kj59 (fun kq v20 v21 w' => ∃ (x20_2 : Int) (x21_2 : Int), v20 = .int .i64 x20_2 ∧ v21 = .int .i64 x21_2 ∧ Aside0 (api_Meta_60.l4 kq l0 a1 a2 a3 (wrap64 ((IntKind.u64.wrap (wrap64 (a1 + a3))) / 2)) (wrap64 ((wrap64 ((IntKind.u64.wrap (wrap64 (a1 + a3))) / 2)) + a2)) x20_2 x21_2 (wrap64 ((wrap64 ((wrap64 ((IntKind.u64.wrap (wrap64 (a1 + a3))) / 2)) + a2)) - 1)) = some r) ∧ Aside0 (kq ≤ kj59) ∧ Aside0 (Kd.R k25 25 w' w0.heap.size (fun k_ => (P0_ k_ ∨ w.heap.size ≤ k_)) u9000_ l0) ∧ Aside0 (Kept w w' (fun k_ => P0_ k_)) ∧ Aside0 (Below w0.heap.size w0 w'))
   case atStart => exact ⟨(x20_59), (x21_59), (by rfl), (by rfl), H', ⟨Nat.le_refl _⟩, ⟨HO_0.out⟩, ⟨HK.out⟩, ⟨HB.out⟩⟩
   case round =>
    clear H'; obtain ⟨x20_2, x21_2, rfl, rfl, HA, HK2, HO_0, HK, HB⟩ := hrel
    cases gk with
    | zero => exact absurd HA.out (by simp [api_Meta_60.l4])
    | succ k2 =>
     have H := HA.out; clear HA; simp only [api_Meta_60.l4] at H
     by_cases c62 : x20_2 < x21_2
     ·
      as_aux_lemma =>
       rw [if_pos c62] at H; have c62b0 : decide (x20_2 < x21_2) = true := decide_eq_true c62; clear c62
       obtain ⟨ji63, hji63⟩ : ∃ j_ : Int, (wrap64 ((wrap64 ((wrap64 ((wrap64 ((IntKind.u64.wrap (wrap64 (a1 + a3))) / 2)) + a2)) - 1)) - (wrap64 ((IntKind.u64.wrap (wrap64 (x20_2 + x21_2))) / 2)))) = j_ := ⟨_, rfl⟩
       replace H : (if 0 ≤ (ji63) then (if (ji63) < (l0.length : Int) then (if 0 ≤ (wrap64 ((IntKind.u64.wrap (wrap64 (x20_2 + x21_2))) / 2)) then (if (wrap64 ((IntKind.u64.wrap (wrap64 (x20_2 + x21_2))) / 2)) < (l0.length : Int) then ((peers_order.f k2 ((rd_T25 l0 (ji63)).f0) ((rd_T25 l0 (ji63)).f1) ((rd_T25 l0 (ji63)).f2) ((rd_T25 l0 (ji63)).f3) ((rd_T25 l0 (wrap64 ((IntKind.u64.wrap (wrap64 (x20_2 + x21_2))) / 2))).f0) ((rd_T25 l0 (wrap64 ((IntKind.u64.wrap (wrap64 (x20_2 + x21_2))) / 2))).f1) ((rd_T25 l0 (wrap64 ((IntKind.u64.wrap (wrap64 (x20_2 + x21_2))) / 2))).f2) ((rd_T25 l0 (wrap64 ((IntKind.u64.wrap (wrap64 (x20_2 + x21_2))) / 2))).f3)).bind fun t142 => (if t142 < 0 then (api_Meta_60.l4 k2 l0 a1 a2 a3 (wrap64 ((IntKind.u64.wrap (wrap64 (a1 + a3))) / 2)) (wrap64 ((wrap64 ((IntKind.u64.wrap (wrap64 (a1 + a3))) / 2)) + a2)) x20_2 (wrap64 ((IntKind.u64.wrap (wrap64 (x20_2 + x21_2))) / 2)) (wrap64 ((wrap64 ((wrap64 ((IntKind.u64.wrap (wrap64 (a1 + a3))) / 2)) + a2)) - 1))) else (api_Meta_60.l4 k2 l0 a1 a2 a3 (wrap64 ((IntKind.u64.wrap (wrap64 (a1 + a3))) / 2)) (wrap64 ((wrap64 ((IntKind.u64.wrap (wrap64 (a1 + a3))) / 2)) + a2)) (wrap64 ((wrap64 ((IntKind.u64.wrap (wrap64 (x20_2 + x21_2))) / 2)) + 1)) x21_2 (wrap64 ((wrap64 ((wrap64 ((IntKind.u64.wrap (wrap64 (a1 + a3))) / 2)) + a2)) - 1))))) else (none)) else (none)) else (none)) else (none)) = some r := by (rw [hji63] at H; exact H)
       have hji63w : (IntKind.i64.wrap ((wrap64 ((wrap64 ((wrap64 ((IntKind.u64.wrap (wrap64 (a1 + a3))) / 2)) + a2)) - 1)) - (wrap64 ((IntKind.u64.wrap (wrap64 (x20_2 + x21_2))) / 2)))) = ji63 := (i64_w _).trans hji63
       by_cases c64 : 0 ≤ (ji63)
       ·
        rw [if_pos c64] at H; have c64b0 : decide (0 ≤ (ji63)) = true := decide_eq_true c64; clear c64
        by_cases c65 : (ji63) < (l0.length : Int)
        ·
         rw [if_pos c65] at H; have c65b0 : decide ((ji63) < (l0.length : Int)) = true := decide_eq_true c65; clear c65
         obtain ⟨ji66, hji66⟩ : ∃ j_ : Int, (wrap64 ((IntKind.u64.wrap (wrap64 (x20_2 + x21_2))) / 2)) = j_ := ⟨_, rfl⟩
         replace H : (if 0 ≤ (ji66) then (if (ji66) < (l0.length : Int) then ((peers_order.f k2 ((rd_T25 l0 (ji63)).f0) ((rd_T25 l0 (ji63)).f1) ((rd_T25 l0 (ji63)).f2) ((rd_T25 l0 (ji63)).f3) ((rd_T25 l0 (ji66)).f0) ((rd_T25 l0 (ji66)).f1) ((rd_T25 l0 (ji66)).f2) ((rd_T25 l0 (ji66)).f3)).bind fun t142 => (if t142 < 0 then (api_Meta_60.l4 k2 l0 a1 a2 a3 (wrap64 ((IntKind.u64.wrap (wrap64 (a1 + a3))) / 2)) (wrap64 ((wrap64 ((IntKind.u64.wrap (wrap64 (a1 + a3))) / 2)) + a2)) x20_2 ji66 (wrap64 ((wrap64 ((wrap64 ((IntKind.u64.wrap (wrap64 (a1 + a3))) / 2)) + a2)) - 1))) else (api_Meta_60.l4 k2 l0 a1 a2 a3 (wrap64 ((IntKind.u64.wrap (wrap64 (a1 + a3))) / 2)) (wrap64 ((wrap64 ((IntKind.u64.wrap (wrap64 (a1 + a3))) / 2)) + a2)) (wrap64 ((ji66) + 1)) x21_2 (wrap64 ((wrap64 ((wrap64 ((IntKind.u64.wrap (wrap64 (a1 + a3))) / 2)) + a2)) - 1))))) else (none)) else (none)) = some r := by (rw [hji66] at H; exact H)
         have hji66w : (IntKind.i64.wrap ((IntKind.u64.wrap (wrap64 (x20_2 + x21_2))) / 2)) = ji66 := (i64_w _).trans hji66; try (have hji63mji66 := hji63; rw [hji66] at hji63mji66)
         try (have hji63wmji66 := hji63w; rw [hji66] at hji63wmji66)
         by_cases c67 : 0 ≤ (ji66)
         ·
          rw [if_pos c67] at H; have c67b0 : decide (0 ≤ (ji66)) = true := decide_eq_true c67; clear c67
          by_cases c68 : (ji66) < (l0.length : Int)
          ·
           rw [if_pos c68] at H; have c68b0 : decide ((ji66) < (l0.length : Int)) = true := decide_eq_true c68; clear c68; replace H := Option.bind_eq_some_iff.mp H; obtain ⟨t142, A690, H⟩ := H; replace H : (if t142 < 0 then (api_Meta_60.l4 k2 l0 a1 a2 a3 (wrap64 ((IntKind.u64.wrap (wrap64 (a1 + a3))) / 2)) (wrap64 ((wrap64 ((IntKind.u64.wrap (wrap64 (a1 + a3))) / 2)) + a2)) x20_2 ji66 (wrap64 ((wrap64 ((wrap64 ((IntKind.u64.wrap (wrap64 (a1 + a3))) / 2)) + a2)) - 1))) else (api_Meta_60.l4 k2 l0 a1 a2 a3 (wrap64 ((IntKind.u64.wrap (wrap64 (a1 + a3))) / 2)) (wrap64 ((wrap64 ((IntKind.u64.wrap (wrap64 (a1 + a3))) / 2)) + a2)) (wrap64 ((ji66) + 1)) x21_2 (wrap64 ((wrap64 ((wrap64 ((IntKind.u64.wrap (wrap64 (a1 + a3))) / 2)) + a2)) - 1)))) = some r := H; have A69 := Aside0.mk A690; clear A690
           by_cases c70 : t142 < 0
           ·
            rw [if_pos c70] at H; have c70b0 : decide (t142 < 0) = true := decide_eq_true c70; clear c70; have H' := Aside0.mk H; clear H; try go_wp2
            have n0_ := Aside0.mk (Kd.R_drew HO_0.out); have n1_ := Aside0.mk (Kept.drew HK.out); have n2_ := Aside0.mk (below_drew1 HB.out); clear HO_0; clear HK; clear HB; have HO_0 := n0_; have HK := n1_; have HB := n2_; clear n0_ n1_ n2_; obtain ⟨Ao72, co72, eo72⟩ := Kd.R_slice HO_0.out
            ((subst eo72))
            have p140 : 0 ≤ ((ji63) : Int) := of_decide_eq_true (by with_reducible assumption); have q140 : (ji63) < (l0.length : Int) := of_decide_eq_true (by with_reducible assumption); obtain ⟨ad140, e140, hx140_0, hx140_1, hx140_2, hx140_3⟩ := at_T25 (Kd.R_reads' HO_0.out).2.2 (ji63) p140 q140; cases e140; replace p140 := eq_true p140; replace q140 := eq_true q140; have p141 : 0 ≤ ((ji66) : Int) := of_decide_eq_true (by with_reducible assumption); have q141 : (ji66) < (l0.length : Int) := of_decide_eq_true (by with_reducible assumption); obtain ⟨ad141, e141, hx141_0, hx141_1, hx141_2, hx141_3⟩ := at_T25 (Kd.R_reads' HO_0.out).2.2 (ji66) p141 q141
            obtain rfl : ad140 = ad141 := (by injection e141)
            replace p141 := eq_true p141; replace q141 := eq_true q141; refine start_ (n := 14) (S := fun w' => w'.cell? (ad140.add (((ji63)).toNat * 4)) = some (.string ((rd_T25 l0 (ji63)).f0)) ∧ w'.cell? ⟨(ad140.add (((ji63)).toNat * 4)).block, (ad140.add (((ji63)).toNat * 4)).off + 1, none⟩ = some (.int .i64 ((rd_T25 l0 (ji63)).f1)) ∧ w'.cell? ⟨(ad140.add (((ji63)).toNat * 4)).block, (ad140.add (((ji63)).toNat * 4)).off + 2, none⟩ = some (.int .i64 ((rd_T25 l0 (ji63)).f2)) ∧ w'.cell? ⟨(ad140.add (((ji63)).toNat * 4)).block, (ad140.add (((ji63)).toNat * 4)).off + 3, none⟩ = some (.int .u32 ((rd_T25 l0 (ji63)).f3)) ∧ w'.cell? (ad140.add (((ji66)).toNat * 4)) = some (.string ((rd_T25 l0 (ji66)).f0)) ∧ w'.cell? ⟨(ad140.add (((ji66)).toNat * 4)).block, (ad140.add (((ji66)).toNat * 4)).off + 1, none⟩ = some (.int .i64 ((rd_T25 l0 (ji66)).f1)) ∧ w'.cell? ⟨(ad140.add (((ji66)).toNat * 4)).block, (ad140.add (((ji66)).toNat * 4)).off + 2, none⟩ = some (.int .i64 ((rd_T25 l0 (ji66)).f2)) ∧ w'.cell? ⟨(ad140.add (((ji66)).toNat * 4)).block, (ad140.add (((ji66)).toNat * 4)).off + 3, none⟩ = some (.int .u32 ((rd_T25 l0 (ji66)).f3))) (ds := []) (bs 14 0) (by kernel_rfl) rfl rfl ⟨hx140_0, hx140_1, hx140_2, hx140_3, hx141_0, hx141_1, hx141_2, hx141_3⟩ (fun hHeld => ?_); refine with_tabW api_Meta_60.tab35 api_Meta_60.bits35 (fun HT_ HW_ => ?_); generalize wr.drew = w71 at HO_0 HK HB hx140_0 hx140_1 hx140_2 hx140_3 hx141_0 hx141_1 hx141_2 hx141_3 hHeld ⊢; apply pv 0 158 (bs 14 1) HT_; rfl; rfl; kernel_rfl; exact qq; rfl; intro w'; go_simp; with_reducible rfl; simp only [zz]; rfl
            apply pv 1 159 (bs 14 3) HT_; rfl; rfl; kernel_rfl; exact qq; rfl; intro w'; go_simp; with_reducible rfl; simp only [zz]; rfl
            apply pv 2 160 (bs 14 7) HT_; rfl; rfl; kernel_rfl; exact qq; rfl; intro w'; go_simp; with_reducible rfl; simp only [zz]; rfl
            apply pv 3 161 (bs 14 15) HT_; rfl; rfl; kernel_rfl; exact qq; rfl; intro w'; go_simp; with_reducible rfl; simp only [zz]; rfl
            apply pv 4 162 (bs 14 31) HT_; rfl; rfl; kernel_rfl; exact qq; rfl; intro w'; go_simp; with_reducible rfl; simp only [zz]; rfl
            apply pv 5 163 (bs 14 63) HT_; rfl; rfl; kernel_rfl; exact qq; rfl; intro w'; go_simp; with_reducible rfl; simp only [zz]; rfl
            apply pv 7 165 (bs 14 191) HT_; rfl; rfl; kernel_rfl; exact qq; rfl; intro w'; go_simp; with_reducible rfl; simp only [zz]; rfl
            apply pv 8 166 (bs 14 447) HT_; rfl; rfl; kernel_rfl; exact qq; rfl; intro w'; go_simp; with_reducible rfl; simp only [zz]; rfl
            apply pv 9 167 (bs 14 959) HT_; rfl; rfl; kernel_rfl; exact qq; rfl; intro w'; go_simp; with_reducible rfl; simp only [zz]; rfl
            apply tb 6 164 (bs 14 1023) HT_ HW_ hHeld; rfl; rfl; kernel_rfl; exact qq; rfl; rintro w' ⟨s0, s1, s2, s3, s4, s5, s6, s7⟩; go_simp; with_reducible rfl; simp only [zz]; rfl
            apply tb 10 168 (bs 14 2047) HT_ HW_ hHeld; rfl; rfl; kernel_rfl; exact qq; rfl; rintro w' ⟨s0, s1, s2, s3, s4, s5, s6, s7⟩; go_simp; with_reducible rfl; simp only [zz]; rfl
            refine one_ (i := 11) (N := some 169) (bs 14 4095) rfl rfl (one_of HT_.out (by kernel_rfl)) (by decide) (fun K hK => ?_)
            (refine goesV_ Try.func27 (by kernel_rfl) rfl #[.agg #[.string ((rd_T25 l0 (ji63)).f0), .int .i64 ((rd_T25 l0 (ji63)).f1), .int .i64 ((rd_T25 l0 (ji63)).f2), .int .u32 ((rd_T25 l0 (ji63)).f3)], .agg #[.string ((rd_T25 l0 (ji66)).f0), .int .i64 ((rd_T25 l0 (ji66)).f1), .int .i64 ((rd_T25 l0 (ji66)).f2), .int .u32 ((rd_T25 l0 (ji66)).f3)]] (by rfl) rfl rfl rfl (by (try simp only [List.map_toArray, List.map_cons, List.map_nil]); rfl) ?_)
            with_reducible refine (peers_order.calls k2 ((rd_T25 l0 (ji63)).f0) ((rd_T25 l0 (ji63)).f1) ((rd_T25 l0 (ji63)).f2) ((rd_T25 l0 (ji63)).f3) ((rd_T25 l0 (ji66)).f0) ((rd_T25 l0 (ji66)).f1) ((rd_T25 l0 (ji66)).f2) ((rd_T25 l0 (ji66)).f3) t142 _ A69.out).mono ?_
            rintro e w73 ⟨rfl, hb⟩; have HS0_ := (hb.cell (World.block_lt_of_cell? _ _ (hHeld.1))).trans (hHeld.1); have HS1_ := (hb.cell (World.block_lt_of_cell? _ _ (hHeld.2.1))).trans (hHeld.2.1); have HS2_ := (hb.cell (World.block_lt_of_cell? _ _ (hHeld.2.2.1))).trans (hHeld.2.2.1); have HS3_ := (hb.cell (World.block_lt_of_cell? _ _ (hHeld.2.2.2.1))).trans (hHeld.2.2.2.1); have HS4_ := (hb.cell (World.block_lt_of_cell? _ _ (hHeld.2.2.2.2.1))).trans (hHeld.2.2.2.2.1); have HS5_ := (hb.cell (World.block_lt_of_cell? _ _ (hHeld.2.2.2.2.2.1))).trans (hHeld.2.2.2.2.2.1); have HS6_ := (hb.cell (World.block_lt_of_cell? _ _ (hHeld.2.2.2.2.2.2.1))).trans (hHeld.2.2.2.2.2.2.1); have HS7_ := (hb.cell (World.block_lt_of_cell? _ _ (hHeld.2.2.2.2.2.2.2))).trans (hHeld.2.2.2.2.2.2.2); refine ⟨_, rfl, ?_⟩; have n0_ := Aside0.mk (Kd.R_below HO_0.out hb); have n1_ := Aside0.mk (Kept.below (S := (fun k_ => P0_ k_)) HK.out hb); have n2_ := Aside0.mk (below_step HB.out hb); clear HO_0; clear HK; clear HB; have HO_0 := n0_; have HK := n1_; have HB := n2_; clear n0_ n1_ n2_
            (try clear hb)
            (try clear hb2)
            (try clear hk)
            (try clear hi)
            refine hK.out _ _ ⟨HS0_, HS1_, HS2_, HS3_, HS4_, HS5_, HS6_, HS7_⟩ (fun hHeld => ?_); clear hK K; refine norm_ (a' := ?_) ?_ ?_; rotate_left
            ·
             show Act.put _ (some 169) _ = _; simp only [Act.put, List.setIfInBounds_toArray, List.set_cons_zero, List.set_cons_succ, i64_w, i32_w]; rfl
            apply pv 12 170 (bs 14 8191) HT_; rfl; rfl; kernel_rfl; exact qq; rfl; intro w'; go_simp; with_reducible rfl; simp only [zz]; rfl
            apply pv 13 171 (bs 14 16383) HT_; rfl; rfl; kernel_rfl; exact qq; rfl; intro w'; go_simp; with_reducible rfl; simp only [zz]; rfl
            refine done_ (done_of HT_.out (by kernel_rfl)) ?_; try go_wp2
            go_roundg k2
            case measure => have := HJ59.out; have := HK2.out; omega
            case rel => exact ⟨(x20_2), (ji66), (by rfl), (by rfl), H', ⟨by have := HJ59.out; have := HK2.out; omega⟩, ⟨HO_0.out⟩, ⟨HK.out⟩, ⟨HB.out⟩⟩
           ·
            rw [if_neg c70] at H; have c70b0 : decide (t142 < 0) = false := decide_eq_false c70; clear c70; have H' := Aside0.mk H; clear H; try go_wp2
            have n0_ := Aside0.mk (Kd.R_drew HO_0.out); have n1_ := Aside0.mk (Kept.drew HK.out); have n2_ := Aside0.mk (below_drew1 HB.out); clear HO_0; clear HK; clear HB; have HO_0 := n0_; have HK := n1_; have HB := n2_; clear n0_ n1_ n2_; obtain ⟨Ao75, co75, eo75⟩ := Kd.R_slice HO_0.out
            ((subst eo75))
            have p140 : 0 ≤ ((ji63) : Int) := of_decide_eq_true (by with_reducible assumption); have q140 : (ji63) < (l0.length : Int) := of_decide_eq_true (by with_reducible assumption); obtain ⟨ad140, e140, hx140_0, hx140_1, hx140_2, hx140_3⟩ := at_T25 (Kd.R_reads' HO_0.out).2.2 (ji63) p140 q140; cases e140; replace p140 := eq_true p140; replace q140 := eq_true q140; have p141 : 0 ≤ ((ji66) : Int) := of_decide_eq_true (by with_reducible assumption); have q141 : (ji66) < (l0.length : Int) := of_decide_eq_true (by with_reducible assumption); obtain ⟨ad141, e141, hx141_0, hx141_1, hx141_2, hx141_3⟩ := at_T25 (Kd.R_reads' HO_0.out).2.2 (ji66) p141 q141
            obtain rfl : ad140 = ad141 := (by injection e141)
            replace p141 := eq_true p141; replace q141 := eq_true q141; refine start_ (n := 14) (S := fun w' => w'.cell? (ad140.add (((ji63)).toNat * 4)) = some (.string ((rd_T25 l0 (ji63)).f0)) ∧ w'.cell? ⟨(ad140.add (((ji63)).toNat * 4)).block, (ad140.add (((ji63)).toNat * 4)).off + 1, none⟩ = some (.int .i64 ((rd_T25 l0 (ji63)).f1)) ∧ w'.cell? ⟨(ad140.add (((ji63)).toNat * 4)).block, (ad140.add (((ji63)).toNat * 4)).off + 2, none⟩ = some (.int .i64 ((rd_T25 l0 (ji63)).f2)) ∧ w'.cell? ⟨(ad140.add (((ji63)).toNat * 4)).block, (ad140.add (((ji63)).toNat * 4)).off + 3, none⟩ = some (.int .u32 ((rd_T25 l0 (ji63)).f3)) ∧ w'.cell? (ad140.add (((ji66)).toNat * 4)) = some (.string ((rd_T25 l0 (ji66)).f0)) ∧ w'.cell? ⟨(ad140.add (((ji66)).toNat * 4)).block, (ad140.add (((ji66)).toNat * 4)).off + 1, none⟩ = some (.int .i64 ((rd_T25 l0 (ji66)).f1)) ∧ w'.cell? ⟨(ad140.add (((ji66)).toNat * 4)).block, (ad140.add (((ji66)).toNat * 4)).off + 2, none⟩ = some (.int .i64 ((rd_T25 l0 (ji66)).f2)) ∧ w'.cell? ⟨(ad140.add (((ji66)).toNat * 4)).block, (ad140.add (((ji66)).toNat * 4)).off + 3, none⟩ = some (.int .u32 ((rd_T25 l0 (ji66)).f3))) (ds := []) (bs 14 0) (by kernel_rfl) rfl rfl ⟨hx140_0, hx140_1, hx140_2, hx140_3, hx141_0, hx141_1, hx141_2, hx141_3⟩ (fun hHeld => ?_); refine with_tabW api_Meta_60.tab35 api_Meta_60.bits35 (fun HT_ HW_ => ?_); generalize wr.drew = w74 at HO_0 HK HB hx140_0 hx140_1 hx140_2 hx140_3 hx141_0 hx141_1 hx141_2 hx141_3 hHeld ⊢; apply pv 0 158 (bs 14 1) HT_; rfl; rfl; kernel_rfl; exact qq; rfl; intro w'; go_simp; with_reducible rfl; simp only [zz]; rfl
            apply pv 1 159 (bs 14 3) HT_; rfl; rfl; kernel_rfl; exact qq; rfl; intro w'; go_simp; with_reducible rfl; simp only [zz]; rfl
            apply pv 2 160 (bs 14 7) HT_; rfl; rfl; kernel_rfl; exact qq; rfl; intro w'; go_simp; with_reducible rfl; simp only [zz]; rfl
            apply pv 3 161 (bs 14 15) HT_; rfl; rfl; kernel_rfl; exact qq; rfl; intro w'; go_simp; with_reducible rfl; simp only [zz]; rfl
            apply pv 4 162 (bs 14 31) HT_; rfl; rfl; kernel_rfl; exact qq; rfl; intro w'; go_simp; with_reducible rfl; simp only [zz]; rfl
            apply pv 5 163 (bs 14 63) HT_; rfl; rfl; kernel_rfl; exact qq; rfl; intro w'; go_simp; with_reducible rfl; simp only [zz]; rfl
            apply pv 7 165 (bs 14 191) HT_; rfl; rfl; kernel_rfl; exact qq; rfl; intro w'; go_simp; with_reducible rfl; simp only [zz]; rfl
            apply pv 8 166 (bs 14 447) HT_; rfl; rfl; kernel_rfl; exact qq; rfl; intro w'; go_simp; with_reducible rfl; simp only [zz]; rfl
            apply pv 9 167 (bs 14 959) HT_; rfl; rfl; kernel_rfl; exact qq; rfl; intro w'; go_simp; with_reducible rfl; simp only [zz]; rfl
            apply tb 6 164 (bs 14 1023) HT_ HW_ hHeld; rfl; rfl; kernel_rfl; exact qq; rfl; rintro w' ⟨s0, s1, s2, s3, s4, s5, s6, s7⟩; go_simp; with_reducible rfl; simp only [zz]; rfl
            apply tb 10 168 (bs 14 2047) HT_ HW_ hHeld; rfl; rfl; kernel_rfl; exact qq; rfl; rintro w' ⟨s0, s1, s2, s3, s4, s5, s6, s7⟩; go_simp; with_reducible rfl; simp only [zz]; rfl
            refine one_ (i := 11) (N := some 169) (bs 14 4095) rfl rfl (one_of HT_.out (by kernel_rfl)) (by decide) (fun K hK => ?_)
            (refine goesV_ Try.func27 (by kernel_rfl) rfl #[.agg #[.string ((rd_T25 l0 (ji63)).f0), .int .i64 ((rd_T25 l0 (ji63)).f1), .int .i64 ((rd_T25 l0 (ji63)).f2), .int .u32 ((rd_T25 l0 (ji63)).f3)], .agg #[.string ((rd_T25 l0 (ji66)).f0), .int .i64 ((rd_T25 l0 (ji66)).f1), .int .i64 ((rd_T25 l0 (ji66)).f2), .int .u32 ((rd_T25 l0 (ji66)).f3)]] (by rfl) rfl rfl rfl (by (try simp only [List.map_toArray, List.map_cons, List.map_nil]); rfl) ?_)
            with_reducible refine (peers_order.calls k2 ((rd_T25 l0 (ji63)).f0) ((rd_T25 l0 (ji63)).f1) ((rd_T25 l0 (ji63)).f2) ((rd_T25 l0 (ji63)).f3) ((rd_T25 l0 (ji66)).f0) ((rd_T25 l0 (ji66)).f1) ((rd_T25 l0 (ji66)).f2) ((rd_T25 l0 (ji66)).f3) t142 _ A69.out).mono ?_
            rintro e w76 ⟨rfl, hb⟩; have HS0_ := (hb.cell (World.block_lt_of_cell? _ _ (hHeld.1))).trans (hHeld.1); have HS1_ := (hb.cell (World.block_lt_of_cell? _ _ (hHeld.2.1))).trans (hHeld.2.1); have HS2_ := (hb.cell (World.block_lt_of_cell? _ _ (hHeld.2.2.1))).trans (hHeld.2.2.1); have HS3_ := (hb.cell (World.block_lt_of_cell? _ _ (hHeld.2.2.2.1))).trans (hHeld.2.2.2.1); have HS4_ := (hb.cell (World.block_lt_of_cell? _ _ (hHeld.2.2.2.2.1))).trans (hHeld.2.2.2.2.1); have HS5_ := (hb.cell (World.block_lt_of_cell? _ _ (hHeld.2.2.2.2.2.1))).trans (hHeld.2.2.2.2.2.1); have HS6_ := (hb.cell (World.block_lt_of_cell? _ _ (hHeld.2.2.2.2.2.2.1))).trans (hHeld.2.2.2.2.2.2.1); have HS7_ := (hb.cell (World.block_lt_of_cell? _ _ (hHeld.2.2.2.2.2.2.2))).trans (hHeld.2.2.2.2.2.2.2); refine ⟨_, rfl, ?_⟩; have n0_ := Aside0.mk (Kd.R_below HO_0.out hb); have n1_ := Aside0.mk (Kept.below (S := (fun k_ => P0_ k_)) HK.out hb); have n2_ := Aside0.mk (below_step HB.out hb); clear HO_0; clear HK; clear HB; have HO_0 := n0_; have HK := n1_; have HB := n2_; clear n0_ n1_ n2_
            (try clear hb)
            (try clear hb2)
            (try clear hk)
            (try clear hi)
            refine hK.out _ _ ⟨HS0_, HS1_, HS2_, HS3_, HS4_, HS5_, HS6_, HS7_⟩ (fun hHeld => ?_); clear hK K; refine norm_ (a' := ?_) ?_ ?_; rotate_left
            ·
             show Act.put _ (some 169) _ = _; simp only [Act.put, List.setIfInBounds_toArray, List.set_cons_zero, List.set_cons_succ, i64_w, i32_w]; rfl
            apply pv 12 170 (bs 14 8191) HT_; rfl; rfl; kernel_rfl; exact qq; rfl; intro w'; go_simp; with_reducible rfl; simp only [zz]; rfl
            apply pv 13 171 (bs 14 16383) HT_; rfl; rfl; kernel_rfl; exact qq; rfl; intro w'; go_simp; with_reducible rfl; simp only [zz]; rfl
            refine done_ (done_of HT_.out (by kernel_rfl)) ?_; try go_wp2
            go_roundg k2
            case measure => have := HJ59.out; have := HK2.out; omega
            case rel => exact ⟨(wrap64 ((ji66) + 1)), (x21_2), (by rfl), (by rfl), H', ⟨by have := HJ59.out; have := HK2.out; omega⟩, ⟨HO_0.out⟩, ⟨HK.out⟩, ⟨HB.out⟩⟩
          ·
           rw [if_neg c68] at H; exact absurd H (by simp)
         ·
          rw [if_neg c67] at H; exact absurd H (by simp)
        ·
         rw [if_neg c65] at H; exact absurd H (by simp)
       ·
        rw [if_neg c64] at H; exact absurd H (by simp)
     ·
      rw [if_neg c62] at H; have c62b0 : decide (x20_2 < x21_2) = false := decide_eq_false c62; clear c62; have HC77 := Aside0.mk H; clear H
      go_upto_region 39 with (fail)
      go_cut [185] (fun v185 wc => ∃ (kq : Nat) (x185_76 : Bool), v185 = .bool x185_76 ∧ Aside0 (api_Meta_60.j6 kq l0 a1 a2 a3 (wrap64 ((IntKind.u64.wrap (wrap64 (a1 + a3))) / 2)) x20_2 (wrap64 ((wrap64 ((wrap64 ((IntKind.u64.wrap (wrap64 (a1 + a3))) / 2)) + a2)) - x20_2)) x185_76 = some r) ∧ Aside0 (kq ≤ k2) ∧ Aside0 (Kd.R k25 25 wc w0.heap.size (fun k_ => (P0_ k_ ∨ w.heap.size ≤ k_)) u9000_ l0) ∧ Aside0 (Kept w wc (fun k_ => P0_ k_)) ∧ Aside0 (Below w0.heap.size w0 wc))
      case first =>
       have H := HC77.out; clear HC77
       by_cases c78 : x20_2 < a2
       ·
        rw [if_pos c78] at H; have c78b0 : decide (x20_2 < a2) = true := decide_eq_true c78; clear c78
        ((skip))
        have H' := Aside0.mk H; clear H; go_wp2; go_meet
        case rel => exact ⟨_, (decide (a2 < (wrap64 ((wrap64 ((wrap64 ((IntKind.u64.wrap (wrap64 (a1 + a3))) / 2)) + a2)) - x20_2)))), (by rfl), H', ⟨by have := HJ59.out; have := HK2.out; omega⟩, ⟨HO_0.out⟩, ⟨HK.out⟩, ⟨HB.out⟩⟩
       ·
        rw [if_neg c78] at H; have c78b0 : decide (x20_2 < a2) = false := decide_eq_false c78; clear c78
        ((skip))
        have H' := Aside0.mk H; clear H; go_wp2; go_meet
        case rel => exact ⟨_, (false), (by rfl), H', ⟨by have := HJ59.out; have := HK2.out; omega⟩, ⟨HO_0.out⟩, ⟨HK.out⟩, ⟨HB.out⟩⟩
      case rest =>
       clear HC77; try clear c62b0
       obtain ⟨kq, x185_76, rfl, HA, HJ76, HO_0, HK, HB⟩ := hcut
       cases kq with
       | zero => exact absurd HA.out (by simp [api_Meta_60.j6])
       | succ kj76 =>
        have H := HA.out; clear HA; simp only [api_Meta_60.j6] at H; have HC79 := Aside0.mk H; clear H
        go_upto_if 185 with (fail)
        go_cut [] (fun wc => ∃ (kq : Nat) (x0_78 : List (S25)), Aside0 (api_Meta_60.j7 kq x0_78 a1 a3 (wrap64 ((IntKind.u64.wrap (wrap64 (a1 + a3))) / 2)) x20_2 (wrap64 ((wrap64 ((wrap64 ((IntKind.u64.wrap (wrap64 (a1 + a3))) / 2)) + a2)) - x20_2)) = some r) ∧ Aside0 (kq ≤ kj76) ∧ Aside0 (Kd.R k25 25 wc w0.heap.size (fun k_ => (P0_ k_ ∨ w.heap.size ≤ k_)) u9000_ x0_78) ∧ Aside0 (Kept w wc (fun k_ => P0_ k_)) ∧ Aside0 (Below w0.heap.size w0 wc))
        case first =>
         have H := HC79.out; clear HC79
         by_cases c80 : x185_76 = true
         ·
          subst c80; have H1 : ((api_Meta_71.f kj76 l0 x20_2 a2 (wrap64 ((wrap64 ((wrap64 ((IntKind.u64.wrap (wrap64 (a1 + a3))) / 2)) + a2)) - x20_2))).bind fun t143 => (api_Meta_60.j7 kj76 t143 a1 a3 (wrap64 ((IntKind.u64.wrap (wrap64 (a1 + a3))) / 2)) x20_2 (wrap64 ((wrap64 ((wrap64 ((IntKind.u64.wrap (wrap64 (a1 + a3))) / 2)) + a2)) - x20_2)))) = some r := by rw [if_pos rfl] at H; exact H
          clear H; have H := H1; clear H1; replace H := Option.bind_eq_some_iff.mp H; obtain ⟨t143, A810, H⟩ := H; replace H : (api_Meta_60.j7 kj76 t143 a1 a3 (wrap64 ((IntKind.u64.wrap (wrap64 (a1 + a3))) / 2)) x20_2 (wrap64 ((wrap64 ((wrap64 ((IntKind.u64.wrap (wrap64 (a1 + a3))) / 2)) + a2)) - x20_2))) = some r := H; have A81 := Aside0.mk A810; clear A810; have H' := Aside0.mk H; clear H; obtain ⟨Ao82, co82, eo82⟩ := Kd.R_slice HO_0.out; subst eo82
          go_wp2_with (((with_reducible refine gate_callee (f := 71) rfl ?_); refine goesL_ (some 191) rfl rfl Try.func71 (by kernel_rfl) rfl #[.slice Ao82 l0.length co82, .int .i64 x20_2, .int .i64 a2, .int .i64 (wrap64 ((wrap64 ((wrap64 ((IntKind.u64.wrap (wrap64 (a1 + a3))) / 2)) + a2)) - x20_2)), .func (.func 27) #[] #[]] rfl (by (try simp only [List.map_toArray, List.map_cons, List.map_nil]); rfl) ?_; (with_reducible refine (api_Meta_71.calls kj76 (fun k_ => some k_ = (.slice Ao82 l0.length co82 : Value).ownBlock) (.slice Ao82 l0.length co82) l0 x20_2 a2 (wrap64 ((wrap64 ((wrap64 ((IntKind.u64.wrap (wrap64 (a1 + a3))) / 2)) + a2)) - x20_2))  t143 w0 _ ?side1 ?side2 A81.out).mono ?_); (case side1 => repeat ((with_reducible exact HB.out))); (case side2 => exact Kd.R_tight rfl HO_0.out); rintro e w83 ⟨rfl, hy0, hb, hkp⟩; refine ⟨_, rfl, ?_⟩; have n0_ := Aside0.mk (Kd.R_reok rfl hy0 (fun k_ e_ => HO_0.out.1 k_ e_)); have n1_ := Aside0.mk (Kept.then_ (S := (fun k_ => P0_ k_)) HK.out hkp (fun k_ hs_ => (fun e_ => (HO_0.out.1 k_ e_.symm)) hs_)); have n2_ := Aside0.mk (hb); clear HO_0; clear HK; clear HB; have HO_0 := n0_; have HK := n1_; have HB := n2_; clear n0_ n1_ n2_; (try clear hb); (try clear hkp); (try clear hy0)))
          go_meet
          case rel => exact ⟨_, (t143), H', ⟨by have := HJ59.out; have := HK2.out; have := HJ76.out; omega⟩, ⟨HO_0.out⟩, ⟨HK.out⟩, ⟨HB.out⟩⟩
         ·
          replace c80 := Bool.eq_false_iff.mpr c80; subst c80; have H1 : (api_Meta_60.j7 kj76 l0 a1 a3 (wrap64 ((IntKind.u64.wrap (wrap64 (a1 + a3))) / 2)) x20_2 (wrap64 ((wrap64 ((wrap64 ((IntKind.u64.wrap (wrap64 (a1 + a3))) / 2)) + a2)) - x20_2))) = some r := by rw [if_neg (show ¬ (false = true) by decide)] at H; exact H
          clear H; have H := H1; clear H1; have H' := Aside0.mk H; clear H; go_wp2; go_meet
          case rel => exact ⟨_, (l0), H', ⟨by have := HJ59.out; have := HK2.out; have := HJ76.out; omega⟩, ⟨HO_0.out⟩, ⟨HK.out⟩, ⟨HB.out⟩⟩
        case rest =>
         clear HC79; obtain ⟨kq, x0_78, HA, HJ78, HO_0, HK, HB⟩ := hcut
         cases kq with
         | zero => exact absurd HA.out (by simp [api_Meta_60.j7])
         | succ kj78 =>
          have H := HA.out; clear HA; simp only [api_Meta_60.j7] at H; have HC84 := Aside0.mk H; clear H
          go_upto_region 41 with (fail)
          go_cut [199] (fun v199 wc => ∃ (kq : Nat) (x199_83 : Bool), v199 = .bool x199_83 ∧ Aside0 (api_Meta_60.j8 kq x0_78 a1 a3 (wrap64 ((IntKind.u64.wrap (wrap64 (a1 + a3))) / 2)) x20_2 (wrap64 ((wrap64 ((wrap64 ((IntKind.u64.wrap (wrap64 (a1 + a3))) / 2)) + a2)) - x20_2)) x199_83 = some r) ∧ Aside0 (kq ≤ kj78) ∧ Aside0 (Kd.R k25 25 wc w0.heap.size (fun k_ => (P0_ k_ ∨ w.heap.size ≤ k_)) u9000_ x0_78) ∧ Aside0 (Kept w wc (fun k_ => P0_ k_)) ∧ Aside0 (Below w0.heap.size w0 wc))
          case first =>
           have H := HC84.out; clear HC84
           by_cases c85 : a1 < x20_2
           ·
            rw [if_pos c85] at H; have c85b0 : decide (a1 < x20_2) = true := decide_eq_true c85; clear c85
            ((skip))
            have H' := Aside0.mk H; clear H; go_wp2; go_meet
            case rel => exact ⟨_, (decide (x20_2 < (wrap64 ((IntKind.u64.wrap (wrap64 (a1 + a3))) / 2)))), (by rfl), H', ⟨by have := HJ59.out; have := HK2.out; have := HJ76.out; have := HJ78.out; omega⟩, ⟨HO_0.out⟩, ⟨HK.out⟩, ⟨HB.out⟩⟩
           ·
            rw [if_neg c85] at H; have c85b0 : decide (a1 < x20_2) = false := decide_eq_false c85; clear c85
            ((skip))
            have H' := Aside0.mk H; clear H; go_wp2; go_meet
            case rel => exact ⟨_, (false), (by rfl), H', ⟨by have := HJ59.out; have := HK2.out; have := HJ76.out; have := HJ78.out; omega⟩, ⟨HO_0.out⟩, ⟨HK.out⟩, ⟨HB.out⟩⟩
          case rest =>
           clear HC84; obtain ⟨kq, x199_83, rfl, HA, HJ83, HO_0, HK, HB⟩ := hcut
           cases kq with
           | zero => exact absurd HA.out (by simp [api_Meta_60.j8])
           | succ kj83 =>
            have H := HA.out; clear HA; simp only [api_Meta_60.j8] at H
            by_cases c86 : x199_83 = true
            ·
             subst c86; have H1 : ((api_Meta_60.f kj83 x0_78 a1 x20_2 (wrap64 ((IntKind.u64.wrap (wrap64 (a1 + a3))) / 2))).bind fun t144 => (if (wrap64 ((IntKind.u64.wrap (wrap64 (a1 + a3))) / 2)) < (wrap64 ((wrap64 ((wrap64 ((IntKind.u64.wrap (wrap64 (a1 + a3))) / 2)) + a2)) - x20_2)) then (if (wrap64 ((wrap64 ((wrap64 ((IntKind.u64.wrap (wrap64 (a1 + a3))) / 2)) + a2)) - x20_2)) < a3 then ((api_Meta_60.f kj83 t144 (wrap64 ((IntKind.u64.wrap (wrap64 (a1 + a3))) / 2)) (wrap64 ((wrap64 ((wrap64 ((IntKind.u64.wrap (wrap64 (a1 + a3))) / 2)) + a2)) - x20_2)) a3).bind fun t145 => (some t145)) else (some t144)) else (some t144))) = some r := by rw [if_pos rfl] at H; exact H
             clear H; have H := H1; clear H1; replace H := Option.bind_eq_some_iff.mp H; obtain ⟨t144, A870, H⟩ := H; replace H : (if (wrap64 ((IntKind.u64.wrap (wrap64 (a1 + a3))) / 2)) < (wrap64 ((wrap64 ((wrap64 ((IntKind.u64.wrap (wrap64 (a1 + a3))) / 2)) + a2)) - x20_2)) then (if (wrap64 ((wrap64 ((wrap64 ((IntKind.u64.wrap (wrap64 (a1 + a3))) / 2)) + a2)) - x20_2)) < a3 then ((api_Meta_60.f kj83 t144 (wrap64 ((IntKind.u64.wrap (wrap64 (a1 + a3))) / 2)) (wrap64 ((wrap64 ((wrap64 ((IntKind.u64.wrap (wrap64 (a1 + a3))) / 2)) + a2)) - x20_2)) a3).bind fun t145 => (some t145)) else (some t144)) else (some t144)) = some r := H; have A87 := Aside0.mk A870; clear A870
             by_cases c88 : (wrap64 ((IntKind.u64.wrap (wrap64 (a1 + a3))) / 2)) < (wrap64 ((wrap64 ((wrap64 ((IntKind.u64.wrap (wrap64 (a1 + a3))) / 2)) + a2)) - x20_2))
             ·
              rw [if_pos c88] at H; have c88b0 : decide ((wrap64 ((IntKind.u64.wrap (wrap64 (a1 + a3))) / 2)) < (wrap64 ((wrap64 ((wrap64 ((IntKind.u64.wrap (wrap64 (a1 + a3))) / 2)) + a2)) - x20_2))) = true := decide_eq_true c88; clear c88
              by_cases c89 : (wrap64 ((wrap64 ((wrap64 ((IntKind.u64.wrap (wrap64 (a1 + a3))) / 2)) + a2)) - x20_2)) < a3
              ·
               rw [if_pos c89] at H; have c89b0 : decide ((wrap64 ((wrap64 ((wrap64 ((IntKind.u64.wrap (wrap64 (a1 + a3))) / 2)) + a2)) - x20_2)) < a3) = true := decide_eq_true c89; clear c89; replace H := Option.bind_eq_some_iff.mp H; obtain ⟨t145, A900, H⟩ := H; replace H : (some t145) = some r := H; have A90 := Aside0.mk A900; clear A900; obtain rfl := Option.some.inj H; obtain ⟨Ao91, co91, eo91⟩ := Kd.R_slice HO_0.out; subst eo91
               go_wp2_with (first | ((with_reducible refine gate_callee (f := 60) rfl ?_); refine goesL_ (some 205) rfl rfl Try.func60 (by kernel_rfl) rfl #[.slice Ao91 x0_78.length co91, .int .i64 a1, .int .i64 x20_2, .int .i64 (wrap64 ((IntKind.u64.wrap (wrap64 (a1 + a3))) / 2)), .func (.func 27) #[] #[]] rfl (by (try simp only [List.map_toArray, List.map_cons, List.map_nil]); rfl) ?_; (with_reducible refine (ih kj83 (by have := HJ59.out; have := HK2.out; have := HJ76.out; have := HJ78.out; have := HJ83.out; omega) (fun k_ => some k_ = (.slice Ao91 x0_78.length co91 : Value).ownBlock) (.slice Ao91 x0_78.length co91) x0_78 a1 x20_2 (wrap64 ((IntKind.u64.wrap (wrap64 (a1 + a3))) / 2))  t144 w0 _ ?side1 ?side2 A87.out).mono ?_); (case side1 => repeat ((with_reducible exact HB.out))); (case side2 => exact Kd.R_tight rfl HO_0.out); rintro e w92 ⟨rfl, hy0, hb, hkp⟩; refine ⟨_, rfl, ?_⟩; have n0_ := Aside0.mk (Kd.R_reok rfl hy0 (fun k_ e_ => HO_0.out.1 k_ e_)); have n1_ := Aside0.mk (Kept.then_ (S := (fun k_ => P0_ k_)) HK.out hkp (fun k_ hs_ => (fun e_ => (HO_0.out.1 k_ e_.symm)) hs_)); have n2_ := Aside0.mk (hb); clear HO_0; clear HK; clear HB; have HO_0 := n0_; have HK := n1_; have HB := n2_; clear n0_ n1_ n2_; (try clear hb); (try clear hkp); (try clear hy0)) | ((with_reducible refine gate_callee (f := 60) rfl ?_); refine goesL_ (some 219) rfl rfl Try.func60 (by kernel_rfl) rfl #[.slice Ao91 x0_78.length co91, .int .i64 (wrap64 ((IntKind.u64.wrap (wrap64 (a1 + a3))) / 2)), .int .i64 (wrap64 ((wrap64 ((wrap64 ((IntKind.u64.wrap (wrap64 (a1 + a3))) / 2)) + a2)) - x20_2)), .int .i64 a3, .func (.func 27) #[] #[]] rfl (by (try simp only [List.map_toArray, List.map_cons, List.map_nil]); rfl) ?_; (with_reducible refine (ih kj83 (by have := HJ59.out; have := HK2.out; have := HJ76.out; have := HJ78.out; have := HJ83.out; omega) (fun k_ => some k_ = (.slice Ao91 x0_78.length co91 : Value).ownBlock) (.slice Ao91 x0_78.length co91) t144 (wrap64 ((IntKind.u64.wrap (wrap64 (a1 + a3))) / 2)) (wrap64 ((wrap64 ((wrap64 ((IntKind.u64.wrap (wrap64 (a1 + a3))) / 2)) + a2)) - x20_2)) a3  t145 w0 _ ?side1 ?side2 A90.out).mono ?_); (case side1 => repeat ((with_reducible exact HB.out))); (case side2 => exact Kd.R_tight rfl HO_0.out); rintro e w93 ⟨rfl, hy0, hb, hkp⟩; refine ⟨_, rfl, ?_⟩; have n0_ := Aside0.mk (Kd.R_reok rfl hy0 (fun k_ e_ => HO_0.out.1 k_ e_)); have n1_ := Aside0.mk (Kept.then_ (S := (fun k_ => P0_ k_)) HK.out hkp (fun k_ hs_ => (fun e_ => (HO_0.out.1 k_ e_.symm)) hs_)); have n2_ := Aside0.mk (hb); clear HO_0; clear HK; clear HB; have HO_0 := n0_; have HK := n1_; have HB := n2_; clear n0_ n1_ n2_; (try clear hb); (try clear hkp); (try clear hy0)))
               (go_end0)
               exact ⟨by rfl, by exact HO_0.out, by repeat ((with_reducible exact HB.out)), by repeat ((with_reducible exact HK.out))⟩
              ·
               rw [if_neg c89] at H; have c89b0 : decide ((wrap64 ((wrap64 ((wrap64 ((IntKind.u64.wrap (wrap64 (a1 + a3))) / 2)) + a2)) - x20_2)) < a3) = false := decide_eq_false c89; clear c89; obtain rfl := Option.some.inj H; obtain ⟨Ao94, co94, eo94⟩ := Kd.R_slice HO_0.out; subst eo94
               go_wp2_with (((with_reducible refine gate_callee (f := 60) rfl ?_); refine goesL_ (some 205) rfl rfl Try.func60 (by kernel_rfl) rfl #[.slice Ao94 x0_78.length co94, .int .i64 a1, .int .i64 x20_2, .int .i64 (wrap64 ((IntKind.u64.wrap (wrap64 (a1 + a3))) / 2)), .func (.func 27) #[] #[]] rfl (by (try simp only [List.map_toArray, List.map_cons, List.map_nil]); rfl) ?_; (with_reducible refine (ih kj83 (by have := HJ59.out; have := HK2.out; have := HJ76.out; have := HJ78.out; have := HJ83.out; omega) (fun k_ => some k_ = (.slice Ao94 x0_78.length co94 : Value).ownBlock) (.slice Ao94 x0_78.length co94) x0_78 a1 x20_2 (wrap64 ((IntKind.u64.wrap (wrap64 (a1 + a3))) / 2))  t144 w0 _ ?side1 ?side2 A87.out).mono ?_); (case side1 => repeat ((with_reducible exact HB.out))); (case side2 => exact Kd.R_tight rfl HO_0.out); rintro e w95 ⟨rfl, hy0, hb, hkp⟩; refine ⟨_, rfl, ?_⟩; have n0_ := Aside0.mk (Kd.R_reok rfl hy0 (fun k_ e_ => HO_0.out.1 k_ e_)); have n1_ := Aside0.mk (Kept.then_ (S := (fun k_ => P0_ k_)) HK.out hkp (fun k_ hs_ => (fun e_ => (HO_0.out.1 k_ e_.symm)) hs_)); have n2_ := Aside0.mk (hb); clear HO_0; clear HK; clear HB; have HO_0 := n0_; have HK := n1_; have HB := n2_; clear n0_ n1_ n2_; (try clear hb); (try clear hkp); (try clear hy0)))
               (go_end0)
               exact ⟨by rfl, by exact HO_0.out, by repeat ((with_reducible exact HB.out)), by repeat ((with_reducible exact HK.out))⟩
             ·
              rw [if_neg c88] at H; have c88b0 : decide ((wrap64 ((IntKind.u64.wrap (wrap64 (a1 + a3))) / 2)) < (wrap64 ((wrap64 ((wrap64 ((IntKind.u64.wrap (wrap64 (a1 + a3))) / 2)) + a2)) - x20_2))) = false := decide_eq_false c88; clear c88; obtain rfl := Option.some.inj H; obtain ⟨Ao96, co96, eo96⟩ := Kd.R_slice HO_0.out; subst eo96
              go_wp2_with (((with_reducible refine gate_callee (f := 60) rfl ?_); refine goesL_ (some 205) rfl rfl Try.func60 (by kernel_rfl) rfl #[.slice Ao96 x0_78.length co96, .int .i64 a1, .int .i64 x20_2, .int .i64 (wrap64 ((IntKind.u64.wrap (wrap64 (a1 + a3))) / 2)), .func (.func 27) #[] #[]] rfl (by (try simp only [List.map_toArray, List.map_cons, List.map_nil]); rfl) ?_; (with_reducible refine (ih kj83 (by have := HJ59.out; have := HK2.out; have := HJ76.out; have := HJ78.out; have := HJ83.out; omega) (fun k_ => some k_ = (.slice Ao96 x0_78.length co96 : Value).ownBlock) (.slice Ao96 x0_78.length co96) x0_78 a1 x20_2 (wrap64 ((IntKind.u64.wrap (wrap64 (a1 + a3))) / 2))  t144 w0 _ ?side1 ?side2 A87.out).mono ?_); (case side1 => repeat ((with_reducible exact HB.out))); (case side2 => exact Kd.R_tight rfl HO_0.out); rintro e w97 ⟨rfl, hy0, hb, hkp⟩; refine ⟨_, rfl, ?_⟩; have n0_ := Aside0.mk (Kd.R_reok rfl hy0 (fun k_ e_ => HO_0.out.1 k_ e_)); have n1_ := Aside0.mk (Kept.then_ (S := (fun k_ => P0_ k_)) HK.out hkp (fun k_ hs_ => (fun e_ => (HO_0.out.1 k_ e_.symm)) hs_)); have n2_ := Aside0.mk (hb); clear HO_0; clear HK; clear HB; have HO_0 := n0_; have HK := n1_; have HB := n2_; clear n0_ n1_ n2_; (try clear hb); (try clear hkp); (try clear hy0)))
              (go_end0)
              exact ⟨by rfl, by exact HO_0.out, by repeat ((with_reducible exact HB.out)), by repeat ((with_reducible exact HK.out))⟩
            ·
             replace c86 := Bool.eq_false_iff.mpr c86; subst c86; have H1 : (if (wrap64 ((IntKind.u64.wrap (wrap64 (a1 + a3))) / 2)) < (wrap64 ((wrap64 ((wrap64 ((IntKind.u64.wrap (wrap64 (a1 + a3))) / 2)) + a2)) - x20_2)) then (if (wrap64 ((wrap64 ((wrap64 ((IntKind.u64.wrap (wrap64 (a1 + a3))) / 2)) + a2)) - x20_2)) < a3 then ((api_Meta_60.f kj83 x0_78 (wrap64 ((IntKind.u64.wrap (wrap64 (a1 + a3))) / 2)) (wrap64 ((wrap64 ((wrap64 ((IntKind.u64.wrap (wrap64 (a1 + a3))) / 2)) + a2)) - x20_2)) a3).bind fun t146 => (some t146)) else (some x0_78)) else (some x0_78)) = some r := by rw [if_neg (show ¬ (false = true) by decide)] at H; exact H
             clear H; have H := H1; clear H1
             by_cases c98 : (wrap64 ((IntKind.u64.wrap (wrap64 (a1 + a3))) / 2)) < (wrap64 ((wrap64 ((wrap64 ((IntKind.u64.wrap (wrap64 (a1 + a3))) / 2)) + a2)) - x20_2))
             ·
              rw [if_pos c98] at H; have c98b0 : decide ((wrap64 ((IntKind.u64.wrap (wrap64 (a1 + a3))) / 2)) < (wrap64 ((wrap64 ((wrap64 ((IntKind.u64.wrap (wrap64 (a1 + a3))) / 2)) + a2)) - x20_2))) = true := decide_eq_true c98; clear c98
              by_cases c99 : (wrap64 ((wrap64 ((wrap64 ((IntKind.u64.wrap (wrap64 (a1 + a3))) / 2)) + a2)) - x20_2)) < a3
              ·
               rw [if_pos c99] at H; have c99b0 : decide ((wrap64 ((wrap64 ((wrap64 ((IntKind.u64.wrap (wrap64 (a1 + a3))) / 2)) + a2)) - x20_2)) < a3) = true := decide_eq_true c99; clear c99; replace H := Option.bind_eq_some_iff.mp H; obtain ⟨t146, A1000, H⟩ := H; replace H : (some t146) = some r := H; have A100 := Aside0.mk A1000; clear A1000; obtain rfl := Option.some.inj H; obtain ⟨Ao101, co101, eo101⟩ := Kd.R_slice HO_0.out; subst eo101
               go_wp2_with (((with_reducible refine gate_callee (f := 60) rfl ?_); refine goesL_ (some 219) rfl rfl Try.func60 (by kernel_rfl) rfl #[.slice Ao101 x0_78.length co101, .int .i64 (wrap64 ((IntKind.u64.wrap (wrap64 (a1 + a3))) / 2)), .int .i64 (wrap64 ((wrap64 ((wrap64 ((IntKind.u64.wrap (wrap64 (a1 + a3))) / 2)) + a2)) - x20_2)), .int .i64 a3, .func (.func 27) #[] #[]] rfl (by (try simp only [List.map_toArray, List.map_cons, List.map_nil]); rfl) ?_; (with_reducible refine (ih kj83 (by have := HJ59.out; have := HK2.out; have := HJ76.out; have := HJ78.out; have := HJ83.out; omega) (fun k_ => some k_ = (.slice Ao101 x0_78.length co101 : Value).ownBlock) (.slice Ao101 x0_78.length co101) x0_78 (wrap64 ((IntKind.u64.wrap (wrap64 (a1 + a3))) / 2)) (wrap64 ((wrap64 ((wrap64 ((IntKind.u64.wrap (wrap64 (a1 + a3))) / 2)) + a2)) - x20_2)) a3  t146 w0 _ ?side1 ?side2 A100.out).mono ?_); (case side1 => repeat ((with_reducible exact HB.out))); (case side2 => exact Kd.R_tight rfl HO_0.out); rintro e w102 ⟨rfl, hy0, hb, hkp⟩; refine ⟨_, rfl, ?_⟩; have n0_ := Aside0.mk (Kd.R_reok rfl hy0 (fun k_ e_ => HO_0.out.1 k_ e_)); have n1_ := Aside0.mk (Kept.then_ (S := (fun k_ => P0_ k_)) HK.out hkp (fun k_ hs_ => (fun e_ => (HO_0.out.1 k_ e_.symm)) hs_)); have n2_ := Aside0.mk (hb); clear HO_0; clear HK; clear HB; have HO_0 := n0_; have HK := n1_; have HB := n2_; clear n0_ n1_ n2_; (try clear hb); (try clear hkp); (try clear hy0)))
               (go_end0)
               exact ⟨by rfl, by exact HO_0.out, by repeat ((with_reducible exact HB.out)), by repeat ((with_reducible exact HK.out))⟩
              ·
               rw [if_neg c99] at H; have c99b0 : decide ((wrap64 ((wrap64 ((wrap64 ((IntKind.u64.wrap (wrap64 (a1 + a3))) / 2)) + a2)) - x20_2)) < a3) = false := decide_eq_false c99; clear c99; obtain rfl := Option.some.inj H; go_wp2
               (go_end0)
               exact ⟨by rfl, by exact HO_0.out, by repeat ((with_reducible exact HB.out)), by repeat ((with_reducible exact HK.out))⟩
             ·
              rw [if_neg c98] at H; have c98b0 : decide ((wrap64 ((IntKind.u64.wrap (wrap64 (a1 + a3))) / 2)) < (wrap64 ((wrap64 ((wrap64 ((IntKind.u64.wrap (wrap64 (a1 + a3))) / 2)) + a2)) - x20_2))) = false := decide_eq_false c98; clear c98; obtain rfl := Option.some.inj H; go_wp2
              (go_end0)
              exact ⟨by rfl, by exact HO_0.out, by repeat ((with_reducible exact HB.out)), by repeat ((with_reducible exact HK.out))⟩
theorem api_Meta_60.calls (k : Nat) : ∀ (P0_ : Nat → Prop) (u9000_ : Value) (l0 : List (S25)) (a1 : Int) (a2 : Int) (a3 : Int)  (r : List (S25)) (w0 w : World) (hB : Below w0.heap.size w0 w) (ho0 : Kd.R k25 25 w w0.heap.size P0_ u9000_ l0) (h : api_Meta_60.f k l0 a1 a2 a3 = some r),
  Calls Try.prog 60 #[u9000_, .int .i64 a1, .int .i64 a2, .int .i64 a3, .func (.func 27) #[] #[]] w fun e w' => e = .returned (.tuple #[]) ∧ Kd.R k25 25 w' w0.heap.size (fun k_ => (P0_ k_ ∨ w.heap.size ≤ k_)) u9000_ r ∧ Below w0.heap.size w0 w' ∧ Kept w w' (fun k_ => P0_ k_) := by
 induction k using Nat.strongRecOn with
 | _ k ih =>
 intro P0_ u9000_ l0 a1 a2 a3 r w0 w hB ho0 h
 cases k with
 | zero => exact absurd h (by simp [api_Meta_60.f])
 | succ k =>
 by_cases c6 : (wrap64 (a2 - a1)) = 1
 ·
  exact api_Meta_60.leaf1 k ih P0_ u9000_ l0 a1 a2 a3 r w0 w hB ho0 c6 h
 ·
  by_cases c33 : (wrap64 (a3 - a2)) = 1
  ·
   exact api_Meta_60.leaf2 k ih P0_ u9000_ l0 a1 a2 a3 r w0 w hB ho0 c6 c33 h
  ·
   exact api_Meta_60.leaf3 k ih P0_ u9000_ l0 a1 a2 a3 r w0 w hB ho0 c6 c33 h
end Go.Proofs.Ytgagcimfkmegnaa.QS
