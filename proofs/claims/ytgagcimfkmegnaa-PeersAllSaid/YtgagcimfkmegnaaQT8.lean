-- Laid by wip/tools/myprint.py of this repo. Not trusted: Lean checks it.
import Derived.Test.YtgagcimfkmegnaaQT7
set_option maxHeartbeats 8000000
set_option maxRecDepth 100000
namespace Go.Proofs.Ytgagcimfkmegnaa.QT
open Go.RowKit Go.Proofs.YtgagcimfkmegnaaW.PrintWords Go.Proofs.YtgagcimfkmegnaaW.PrintLast Go.Proofs.YtgagcimfkmegnaaW.PrintMore
attribute [local go_sem] max2_int min2_int max_two min_two max_three min_three max_four min_four   -- for this text's walks alone
set_option linter.unusedVariables false
set_option linter.unusedSimpArgs false
def thermographref06_View.f : Nat → List (S42) → Option ((List (S42)))
 | 0, _ => none
 | k + 1, l0 => (some (([] : List (S42)) : List (S42))).bind fun y267 => (if (l0.length : Int) ≤ 1 then (if y267.length + l0.length < 5864062014805 then (some (y267 ++ l0)) else (none)) else (if 0 ≤ (wrap64 ((l0.length : Int) / 2)) then (if (wrap64 ((l0.length : Int) / 2)) ≤ (l0.length : Int) then ((thermographref06_View.f k (l0.take ((wrap64 ((l0.length : Int) / 2)) : Int).toNat)).bind fun t277 => ((thermographref06_View.f k (l0.drop ((wrap64 ((l0.length : Int) / 2)) : Int).toNat)).bind fun t284 => ((thermographref06_half.f k t277 t284).bind fun t287 => (some t287)))) else (none)) else (none)))
def thermographref06_View.T4 : Bool × List (List Nat × List Nat) := (true, [([], []), ([], []), ([1], [1]), ([2], [2]), ([0, 3], [0, 3]), ([4], [4]), ([], []), ([], []), ([7], [7]), ([8], [8]), ([6, 9], [6, 9]), ([10, 5], [10]), ([5, 11, 11], [5, 11]), ([12, 12, 0, 1, 2, 3, 4, 5, 6, 7, 8, 9, 10, 11, 12], [12])])
def thermographref06_View.B4 : List Nat := [0, 0, 2, 6, 15, 31, 0, 0, 128, 384, 960, 2047, 4095, 8191]
theorem thermographref06_View.tab4 : rtab .any (opsOf Try.f22 4) = thermographref06_View.T4 := by kernel_rfl
theorem thermographref06_View.bits4 : waitsOk thermographref06_View.T4.2 thermographref06_View.B4 = true := by kernel_rfl
theorem thermographref06_View.calls (k : Nat) : ∀ (A0 : Option Addr) (c0 : Nat) (l0 : List (S42)) (r : List (S42)) (w : World) (hr0 : Kd.C k42 w A0 l0.length l0) (hc0 : l0.length ≤ c0) (h : thermographref06_View.f k l0 = some r),
  Calls Try.prog 22 #[.slice A0 l0.length c0] w fun e w' => ∃ v0_ : Value, e = .returned (v0_) ∧ Kd.R k42 42 w' w.heap.size (fun _ => True) v0_ r ∧ Below w.heap.size w w' := by
 induction k using Nat.strongRecOn with
 | _ k ih =>
 intro A0 c0 l0 r w hr0 hc0 h
 cases k with
 | zero => exact absurd h (by simp [thermographref06_View.f])
 | succ k =>
 simp only [thermographref06_View.f] at h; have HR0 := Aside0.mk hr0; have HC0 := Aside0.mk hc0; clear hr0 hc0; have HB := Aside0.mk (Below.refl w.heap.size w); have H : ((some (([] : List (S42)) : List (S42))).bind fun y267 => (if (l0.length : Int) ≤ 1 then (if y267.length + l0.length < 5864062014805 then (some (y267 ++ l0)) else (none)) else (if 0 ≤ (wrap64 ((l0.length : Int) / 2)) then (if (wrap64 ((l0.length : Int) / 2)) ≤ (l0.length : Int) then ((thermographref06_View.f k (l0.take ((wrap64 ((l0.length : Int) / 2)) : Int).toNat)).bind fun t277 => ((thermographref06_View.f k (l0.drop ((wrap64 ((l0.length : Int) / 2)) : Int).toNat)).bind fun t284 => ((thermographref06_half.f k t277 t284).bind fun t287 => (some t287)))) else (none)) else (none)))) = some r := h; clear h
 obtain ⟨y267, hy267⟩ : ∃ y_ : List (S42), y_ = (([] : List (S42))) := ⟨_, rfl⟩
 replace H : (if (l0.length : Int) ≤ 1 then (if y267.length + l0.length < 5864062014805 then (some (y267 ++ l0)) else (none)) else (if 0 ≤ (wrap64 ((l0.length : Int) / 2)) then (if (wrap64 ((l0.length : Int) / 2)) ≤ (l0.length : Int) then ((thermographref06_View.f k (l0.take ((wrap64 ((l0.length : Int) / 2)) : Int).toNat)).bind fun t277 => ((thermographref06_View.f k (l0.drop ((wrap64 ((l0.length : Int) / 2)) : Int).toNat)).bind fun t284 => ((thermographref06_half.f k t277 t284).bind fun t287 => (some t287)))) else (none)) else (none))) = some r := by (have H2_ := (Option.bind_some _ _).symm.trans H; rw [hy267]; with_reducible exact H2_)
 have Ny267 := Aside0.mk hy267; clear hy267
 by_cases c2 : (l0.length : Int) ≤ 1
 ·
  rw [if_pos c2] at H; have c2b0 : decide ((l0.length : Int) ≤ 1) = true := decide_eq_true c2; clear c2
  by_cases c3 : y267.length + l0.length < 5864062014805
  ·
   rw [if_pos c3] at H; have LMc3 := Aside0.mk c3; clear c3
   obtain ⟨y270, hy270⟩ : ∃ y_ : List (S42), y_ = (y267 ++ l0) := ⟨_, rfl⟩
   replace H : (some y270) = some r := by (rw [hy270]; with_reducible exact H)
   have Ny270 := Aside0.mk hy270; clear hy270; obtain rfl := Option.some.inj H; go_enter Try.func22, Try.ntmps22
   go_wp2_with (first | ((with_reducible refine gate_dst (N := 4) rfl ?_); refine Kd.R_lit k42 _ 42 ?hg (N := 4) ?hd (xs := ([] : List (S42))) (inner := []) (ok := fun _ => True) (okp := fun _ => True) ?hr ?hp (fun _ hk => hk) trivial (Below.refl _ _) (Nat.le_refl _) (by simp) ?_; (case hd => rfl); (case hg => rfl); (case hr => go_simp; done); (case hp => exact (Reps.none _ _)); intro v268 w4 ho5 hb hg_ hnew_; clear hg_ hnew_; ((rw [← Ny267.out] at ho5)); have n0_ := Aside0.mk (Kd.R_lower ho5 (below_size HB.out)); have n1_ := Aside0.mk (below_step HB.out hb); clear HB; have HO269 := n0_; have HB := n1_; clear n0_ n1_; clear hb ho5) | ((with_reducible refine gate_builtin (b := .append) (xs := #[.tmp 8, .tmp 9]) rfl ?_); at_builtin; refine Kd.R_append_rows k42 (w0 := w) w.heap.size rfl (.tmp 8) (.tmp 9) 44 42 (.agg #[(.int .i64 0), (.int .u64 0), (.int .u64 0)]) 24 rfl Try.underlying44 info42 rfl (by decide) (by omega) v268 y267 l0 _ _ _ (fun _ => True) (fun _ => False) rfl rfl ?aO ?aR (fun _ _ h => h) (fun _ h => h.elim) ?aF ?aB ?aS ?aL ?_; (case aR => repeat (exact (Kd.C_below HR0.out HB.out))); (case aB => exact HB.out); (case aF => exact (fun _ _ => trivial)); (case aO => exact HO269.out); (case aS => exact (below_size HB.out)); (case aL => have := LMc3.out; omega); intro v271 w6 ho hb hg hat; rw [← Ny270.out] at ho; have n0_ := Aside0.mk (hb); have n1_ := Aside0.mk (ho); clear HB; clear HO269; have HB := n0_; have HO272 := n1_; clear n0_ n1_; clear ho hb hg hat))
   go_ret; exact ⟨_, by rfl, by exact HO272.out, by repeat ((with_reducible exact HB.out))⟩
  ·
   rw [if_neg c3] at H; exact absurd H (by simp)
 ·
  rw [if_neg c2] at H; have c2b0 : decide ((l0.length : Int) ≤ 1) = false := decide_eq_false c2; clear c2
  obtain ⟨ji7, hji7⟩ : ∃ j_ : Int, (wrap64 ((l0.length : Int) / 2)) = j_ := ⟨_, rfl⟩
  replace H : (if 0 ≤ (ji7) then (if (ji7) ≤ (l0.length : Int) then ((thermographref06_View.f k (l0.take ((ji7) : Int).toNat)).bind fun t277 => ((thermographref06_View.f k (l0.drop ((ji7) : Int).toNat)).bind fun t284 => ((thermographref06_half.f k t277 t284).bind fun t287 => (some t287)))) else (none)) else (none)) = some r := by (rw [hji7] at H; exact H)
  have hji7w : (IntKind.i64.wrap ((l0.length : Int) / 2)) = ji7 := (i64_w _).trans hji7
  by_cases c8 : 0 ≤ (ji7)
  ·
   rw [if_pos c8] at H; have c8b1 : decide (0 ≤ (ji7)) = true := decide_eq_true c8; clear c8
   by_cases c9 : (ji7) ≤ (l0.length : Int)
   ·
    rw [if_pos c9] at H; have c9b1 : decide ((ji7) ≤ (l0.length : Int)) = true := decide_eq_true c9; clear c9
    obtain ⟨y273, hy273⟩ : ∃ y_ : List (S42), y_ = (l0.take ((ji7) : Int).toNat) := ⟨_, rfl⟩
    replace H : ((thermographref06_View.f k y273).bind fun t277 => ((thermographref06_View.f k (l0.drop ((ji7) : Int).toNat)).bind fun t284 => ((thermographref06_half.f k t277 t284).bind fun t287 => (some t287)))) = some r := by (rw [hy273]; with_reducible exact H)
    have Ny273 := Aside0.mk hy273; clear hy273; replace H := Option.bind_eq_some_iff.mp H; obtain ⟨t277, A100, H⟩ := H; replace H : ((thermographref06_View.f k (l0.drop ((ji7) : Int).toNat)).bind fun t284 => ((thermographref06_half.f k t277 t284).bind fun t287 => (some t287))) = some r := H; have A10 := Aside0.mk A100; clear A100
    obtain ⟨y280, hy280⟩ : ∃ y_ : List (S42), y_ = (l0.drop ((ji7) : Int).toNat) := ⟨_, rfl⟩
    replace H : ((thermographref06_View.f k y280).bind fun t284 => ((thermographref06_half.f k t277 t284).bind fun t287 => (some t287))) = some r := by (rw [hy280]; with_reducible exact H)
    have Ny280 := Aside0.mk hy280; clear hy280; replace H := Option.bind_eq_some_iff.mp H; obtain ⟨t284, A130, H⟩ := H; replace H : ((thermographref06_half.f k t277 t284).bind fun t287 => (some t287)) = some r := H; have A13 := Aside0.mk A130; clear A130; replace H := Option.bind_eq_some_iff.mp H; obtain ⟨t287, A140, H⟩ := H; replace H : (some t287) = some r := H; have A14 := Aside0.mk A140; clear A140; obtain rfl := Option.some.inj H; go_enter Try.func22, Try.ntmps22
    try go_wp2_with (((with_reducible refine gate_dst (N := 4) rfl ?_); refine Kd.R_lit k42 _ 42 ?hg (N := 4) ?hd (xs := ([] : List (S42))) (inner := []) (ok := fun _ => True) (okp := fun _ => True) ?hr ?hp (fun _ hk => hk) trivial (Below.refl _ _) (Nat.le_refl _) (by simp) ?_; (case hd => rfl); (case hg => rfl); (case hr => go_simp; done); (case hp => exact (Reps.none _ _)); intro v268 w15 ho16 hb hg_ hnew_; clear hg_ hnew_; ((rw [← Ny267.out] at ho16)); have n0_ := Aside0.mk (Kd.R_lower ho16 (below_size HB.out)); have n1_ := Aside0.mk (below_step HB.out hb); clear HB; have HO269 := n0_; have HB := n1_; clear n0_ n1_; clear hb ho16))
    have n0_ := Aside0.mk (Kd.R_drew HO269.out); have n1_ := Aside0.mk (below_drew1 HB.out); clear HO269; clear HB; have HO269 := n0_; have HB := n1_; clear n0_ n1_; have q18 : ((ji7) : Int) ≤ ((l0.length : Int) : Int) := of_decide_eq_true (by with_reducible assumption); obtain ⟨i018, hi018, _, hsz18, _⟩ := info_parts info42; have hroom18 : l0.length ≤ c0 := HC0.out; have hC18 : Kd.C k42 _ A0 l0.length l0 := HR0.out; have hcut18 := cut_to (P := Try.prog) 44 42 .i64 Try.underlying44 hi018 A0 l0.length c0 (ji7) (of_decide_eq_true (by with_reducible assumption)) q18 hroom18; have hr18 := Kd.C_take (m := ((ji7) : Int).toNat) hC18 (by omega)
    have hy18 : y273.length = ((ji7) : Int).toNat := (by rw [Ny273.out, List.length_take]; omega)
    rw [← Ny273.out] at hr18; rw [← hy18] at hcut18; have HR276 := Aside0.mk hr18; have HC276 := Aside0.mk (show y273.length ≤ c0 from by omega); clear hr18 hC18 hroom18 hi018 hsz18; clear hy18; replace q18 := eq_true q18; have q19 : ((ji7) : Int) ≤ ((l0.length : Int) : Int) := of_decide_eq_true (by with_reducible assumption); obtain ⟨i019, hi019, _, hsz19, _⟩ := info_parts info42; have hroom19 : l0.length ≤ c0 := HC0.out; have hC19 : Kd.C k42 _ A0 l0.length l0 := HR0.out; have q019 : (0 : Int) ≤ ((ji7) : Int) := of_decide_eq_true (by with_reducible assumption); have hcut19 := cut_from (P := Try.prog) 44 42 .i64 Try.underlying44 hi019 3 hsz19 A0 l0.length c0 (ji7) q019 q19; have hr19 := Kd.C_drop (m := ((ji7) : Int).toNat) (c := c0) hC19 (by omega) hroom19
    obtain ⟨A19, hA19⟩ : ∃ A1, A1 = (if c0 = ((ji7) : Int).toNat then A0 else (A0 : Option Addr).map (·.add (((ji7) : Int).toNat * 3))) := ⟨_, rfl⟩
    obtain ⟨c19, hc19⟩ : ∃ c1, c1 = c0 - ((ji7) : Int).toNat := ⟨_, rfl⟩
    have hy19 : y280.length = l0.length - ((ji7) : Int).toNat := (by rw [Ny280.out, List.length_drop] <;> omega)
    rw [show (l0).drop ((ji7) : Int).toNat = y280 from Ny280.out.symm] at hr19
    replace hr19 : Kd.C k42 _ A19 y280.length y280 := (by rw [hA19]; exact hr19)
    rw [← hy19, ← hA19, ← hc19] at hcut19; have HR283 := Aside0.mk hr19; have HC283 := Aside0.mk (show y280.length ≤ c19 from by rw [hy19, hc19]; exact Nat.sub_le_sub_right hroom19 _); clear hr19 hC19 hroom19 hi019 hsz19 hc19; clear hy19 hA19; replace q19 := eq_true q19; refine start_ (n := 14) (S := fun w' => True) (ds := []) (bs 14 0) (by kernel_rfl) rfl rfl trivial (fun hHeld => ?_); refine with_tabW thermographref06_View.tab4 thermographref06_View.bits4 (fun HT_ HW_ => ?_); generalize w15.drew = w17 at HO269 HB HR276 HR283 hHeld ⊢; apply pv 0 11 (bs 14 1) HT_; rfl; rfl; kernel_rfl; exact qq; rfl; intro w'; go_simp; with_reducible rfl; simp only [zz]; rfl
    apply pv 1 12 (bs 14 3) HT_; rfl; rfl; kernel_rfl; exact qq; rfl; intro w'; go_simp; with_reducible rfl; simp only [zz]; rfl
    apply pv 2 13 (bs 14 7) HT_; rfl; rfl; kernel_rfl; exact qq; rfl; intro w'; go_simp; with_reducible rfl; simp only [zz]; rfl
    apply pv 3 14 (bs 14 15) HT_; rfl; rfl; kernel_rfl; exact qq; rfl; intro w'; go_simp; with_reducible rfl; simp only [zz]; rfl
    apply pv 4 15 (bs 14 31) HT_; rfl; rfl; kernel_rfl; exact qq; rfl; intro w'; go_simp; with_reducible rfl; simp only [zz]; rfl
    apply pv 6 17 (bs 14 95) HT_; rfl; rfl; kernel_rfl; exact qq; rfl; intro w'; go_simp; with_reducible rfl; simp only [zz]; rfl
    apply pv 7 18 (bs 14 223) HT_; rfl; rfl; kernel_rfl; exact qq; rfl; intro w'; go_simp; with_reducible rfl; simp only [zz]; rfl
    apply pv 8 19 (bs 14 479) HT_; rfl; rfl; kernel_rfl; exact qq; rfl; intro w'; go_simp; with_reducible rfl; simp only [zz]; rfl
    apply pv 9 20 (bs 14 991) HT_; rfl; rfl; kernel_rfl; exact qq; rfl; intro w'; go_simp; with_reducible rfl; simp only [zz]; rfl
    apply pv 10 21 (bs 14 2015) HT_; rfl; rfl; kernel_rfl; exact qq; rfl; intro w'; go_simp; with_reducible rfl; simp only [zz]; rfl
    refine one_ (i := 5) (N := some 16) (bs 14 2047) rfl rfl (one_of HT_.out (by kernel_rfl)) (by decide) (fun K hK => ?_); refine goes_ Try.func22 (by kernel_rfl) rfl #[.slice A0 y273.length c0] (by rfl) rfl rfl (by (try simp only [List.map_toArray, List.map_cons, List.map_nil]); rfl) ?_; with_reducible refine (ih k (by omega) _ _ y273 t277 _ ?side1 ?side2 A10.out).mono ?_
    (case side1 => repeat (exact (Kd.C_below HR276.out HB.out)))
    (case side2 => exact HC276.out)
    rintro e w20 ⟨v278, rfl, ho0, hb⟩; refine ⟨_, rfl, ?_⟩; have n0_ := Aside0.mk (Kd.R_elder' HO269.out (Kd.R_base ho0) hb); have n1_ := Aside0.mk (Kd.R_lower (Kd.R_new' ho0 (Kd.R_lt HO269.out)) (below_size HB.out)); have n2_ := Aside0.mk (below_step HB.out hb); clear HO269; clear HB; have HO269 := n0_; have HO279 := n1_; have HB := n2_; clear n0_ n1_ n2_
    (try clear hb)
    (try clear hb2)
    (try clear hk)
    (try clear hi)
    (try clear ho0)
    refine hK.out _ _ trivial (fun hHeld => ?_); clear hK K; refine norm_ (a' := ?_) ?_ ?_; rotate_left
    ·
     show Act.put _ (some 16) _ = _; simp only [Act.put, List.setIfInBounds_toArray, List.set_cons_zero, List.set_cons_succ, i64_w, i32_w]; rfl
    refine one_ (i := 11) (N := some 22) (bs 14 4095) rfl rfl (one_of HT_.out (by kernel_rfl)) (by decide) (fun K hK => ?_); refine goes_ Try.func22 (by kernel_rfl) rfl #[.slice A19 y280.length c19] (by rfl) rfl rfl (by (try simp only [List.map_toArray, List.map_cons, List.map_nil]); rfl) ?_; with_reducible refine (ih k (by omega) _ _ y280 t284 _ ?side1 ?side2 A13.out).mono ?_
    (case side1 => repeat (exact (Kd.C_below HR283.out HB.out)))
    (case side2 => exact HC283.out)
    rintro e w21 ⟨v285, rfl, ho0, hb⟩; refine ⟨_, rfl, ?_⟩; have n0_ := Aside0.mk (Kd.R_elder' HO269.out (Kd.R_base ho0) hb); have n1_ := Aside0.mk (Kd.R_elder' HO279.out (Kd.R_base ho0) hb); have n2_ := Aside0.mk (Kd.R_lower (Kd.R_new' (Kd.R_new' ho0 (Kd.R_lt HO269.out)) (Kd.R_lt HO279.out)) (below_size HB.out)); have n3_ := Aside0.mk (below_step HB.out hb); clear HO269; clear HO279; clear HB; have HO269 := n0_; have HO279 := n1_; have HO286 := n2_; have HB := n3_; clear n0_ n1_ n2_ n3_
    (try clear hb)
    (try clear hb2)
    (try clear hk)
    (try clear hi)
    (try clear ho0)
    obtain ⟨Ao22, co22, eo22⟩ := Kd.R_slice HO279.out
    ((subst eo22))
    obtain ⟨Ao23, co23, eo23⟩ := Kd.R_slice HO286.out
    ((subst eo23))
    refine hK.out _ _ trivial (fun hHeld => ?_); clear hK K; refine norm_ (a' := ?_) ?_ ?_; rotate_left
    ·
     show Act.put _ (some 22) _ = _; simp only [Act.put, List.setIfInBounds_toArray, List.set_cons_zero, List.set_cons_succ, i64_w, i32_w]; rfl
    refine one_ (i := 12) (N := some 23) (bs 14 8191) rfl rfl (one_of HT_.out (by kernel_rfl)) (by decide) (fun K hK => ?_); refine goes_ Try.func37 (by kernel_rfl) rfl #[.slice Ao22 t277.length co22, .slice Ao23 t284.length co23] (by rfl) rfl rfl (by (try simp only [List.map_toArray, List.map_cons, List.map_nil]); rfl) ?_; with_reducible refine (thermographref06_half.calls k _ _ t277 _ _ t284 t287 _ ?side1 ?side2 ?side3 ?side4 A14.out).mono ?_
    (case side1 => repeat (exact (Kd.R_reads' HO279.out).2.2))
    (case side2 => exact (Kd.R_reads' HO279.out).2.1)
    (case side3 => repeat (exact (Kd.R_reads' HO286.out).2.2))
    (case side4 => exact (Kd.R_reads' HO286.out).2.1)
    rintro e w24 ⟨v288, rfl, ho0, hb⟩; refine ⟨_, rfl, ?_⟩; have n0_ := Aside0.mk (Kd.R_elder' HO269.out (Kd.R_base ho0) hb); have n1_ := Aside0.mk (Kd.R_elder' HO279.out (Kd.R_base ho0) hb); have n2_ := Aside0.mk (Kd.R_elder' HO286.out (Kd.R_base ho0) hb); have n3_ := Aside0.mk (Kd.R_lower (Kd.R_new' (Kd.R_new' (Kd.R_new' ho0 (Kd.R_lt HO269.out)) (Kd.R_lt HO279.out)) (Kd.R_lt HO286.out)) (below_size HB.out)); have n4_ := Aside0.mk (below_step HB.out hb); clear HO269; clear HO279; clear HO286; clear HB; have HO269 := n0_; have HO279 := n1_; have HO286 := n2_; have HO289 := n3_; have HB := n4_; clear n0_ n1_ n2_ n3_ n4_
    (try clear hb)
    (try clear hb2)
    (try clear hk)
    (try clear hi)
    (try clear ho0)
    refine hK.out _ _ trivial (fun hHeld => ?_); clear hK K; refine norm_ (a' := ?_) ?_ ?_; rotate_left
    ·
     show Act.put _ (some 23) _ = _; simp only [Act.put, List.setIfInBounds_toArray, List.set_cons_zero, List.set_cons_succ, i64_w, i32_w]; rfl
    apply pv 13 2 (bs 14 16383) HT_; rfl; rfl; kernel_rfl; exact qq; rfl; intro w'; go_simp; with_reducible rfl; simp only [zz]; rfl
    refine done_ (done_of HT_.out (by kernel_rfl)) ?_; try go_wp2
    go_ret; exact ⟨_, by rfl, by exact Kd.R_mono HO289.out (fun _ hk => trivial), by repeat ((with_reducible exact HB.out))⟩
   ·
    rw [if_neg c9] at H; exact absurd H (by simp)
  ·
   rw [if_neg c8] at H; exact absurd H (by simp)
def cmp_Or_int.l0 : Nat → Int → List Int → Int → Int → Option (Int)
 | 0, _, _, _, _ => none
 | k + 1, x3, x6, x7, x8 => if x8 < x7 then (if 0 ≤ x8 then (if x8 < (x6.length : Int) then (if (rd x6 x8) = x3 then (cmp_Or_int.l0 k x3 x6 x7 (wrap64 (x8 + 1))) else (some (rd x6 x8))) else (none)) else (none)) else (some x3)
def cmp_Or_int.f (k : Nat) (l0 : List Int) : Option (Int) := cmp_Or_int.l0 k 0 l0 (l0.length : Int) 0
theorem cmp_Or_int.calls (k : Nat) (A0 : Option Addr) (c0 : Nat) (l0 : List Int) (r : Int) (w : World) (hr0 : Kd.C (Kd.int .i64) w A0 l0.length l0) (hc0 : l0.length ≤ c0) (h : cmp_Or_int.f k l0 = some r) :
  Calls Try.prog 40 #[.slice A0 l0.length c0] w fun e w' => e = .returned (.int .i64 r) ∧ Drawn0 w w' := by
 have HR0 := Aside0.mk hr0; clear hr0 hc0; have H : (cmp_Or_int.l0 k 0 l0 (l0.length : Int) 0) = some r := h; clear h; have H' := Aside0.mk H; clear H; go_enter Try.func40, Try.ntmps40
 go_wp2; go_loopg [8] k (fun kq v8 w' => ∃ (x8_1 : Int), v8 = .int .i64 x8_1 ∧ Aside0 (cmp_Or_int.l0 kq 0 l0 (l0.length : Int) x8_1 = some r) ∧ Aside0 (kq ≤ k) ∧ Drawn0 w w')
 case atStart => exact ⟨(0), (by rfl), H', ⟨Nat.le_refl _⟩, by repeat (exact Drawn0.refl _)⟩
 case round =>
  clear H'; obtain ⟨x8_1, rfl, HA, HK1, ⟨m1, rfl⟩⟩ := hrel
  cases gk with
  | zero => exact absurd HA.out (by simp [cmp_Or_int.l0])
  | succ k1 =>
   have H := HA.out; clear HA; simp only [cmp_Or_int.l0] at H
   by_cases c2 : x8_1 < (l0.length : Int)
   ·
    rw [if_pos c2] at H; have c2b0 : decide (x8_1 < (l0.length : Int)) = true := decide_eq_true c2; clear c2
    by_cases c3 : 0 ≤ x8_1
    ·
     rw [if_pos c3] at H; have c3b0 : decide (0 ≤ x8_1) = true := decide_eq_true c3; clear c3
     by_cases c4 : x8_1 < (l0.length : Int)
     ·
      rw [if_pos c4] at H; have c4b0 : decide (x8_1 < (l0.length : Int)) = true := decide_eq_true c4; clear c4
      by_cases c5 : (rd l0 x8_1) = 0
      ·
       rw [if_pos c5] at H; have c5b1 : ((rd l0 x8_1) != 0) = false := bne_eq_false_iff_eq.mpr c5; clear c5; have H' := Aside0.mk H; clear H; have p290 : 0 ≤ (x8_1 : Int) := of_decide_eq_true (by with_reducible assumption); have q290 : x8_1 < (l0.length : Int) := of_decide_eq_true (by with_reducible assumption); obtain ⟨ad290, e290, hx290_0⟩ := Kd.at_int HR0.out x8_1 p290 q290; cases e290; replace p290 := eq_true p290; replace q290 := eq_true q290; go_wp2; go_roundg k1
       case measure => have := HK1.out; omega
       case rel => exact ⟨(wrap64 (x8_1 + 1)), (by rfl), H', ⟨by have := HK1.out; omega⟩, by repeat (first | exact Drawn0.refl _ | apply Drawn0.step)⟩
      ·
       rw [if_neg c5] at H; have c5b1 : ((rd l0 x8_1) != 0) = true := bne_iff_ne.mpr c5; obtain rfl := Option.some.inj H; have p290 : 0 ≤ (x8_1 : Int) := of_decide_eq_true (by with_reducible assumption); have q290 : x8_1 < (l0.length : Int) := of_decide_eq_true (by with_reducible assumption); obtain ⟨ad290, e290, hx290_0⟩ := Kd.at_int HR0.out x8_1 p290 q290; cases e290; replace p290 := eq_true p290; replace q290 := eq_true q290; go_wp2; go_ret; exact ⟨by rfl, by repeat (first | exact Drawn0.refl _ | apply Drawn0.step)⟩
     ·
      rw [if_neg c4] at H; exact absurd H (by simp)
    ·
     rw [if_neg c3] at H; exact absurd H (by simp)
   ·
    rw [if_neg c2] at H; have c2b0 : decide (x8_1 < (l0.length : Int)) = false := decide_eq_false c2; clear c2; obtain rfl := Option.some.inj H; go_wp2; go_ret; exact ⟨by rfl, by repeat (first | exact Drawn0.refl _ | apply Drawn0.step)⟩
def cmp_isNaN_int.f (a0 : Int) : Option (Bool) := some (a0 != a0)
theorem cmp_isNaN_int.calls (a0 : Int) (r : Bool) (w : World) (h : cmp_isNaN_int.f a0 = some r) :
  Calls Try.prog 57 #[.int .i64 a0] w fun e w' => e = .returned (.bool r) ∧ Drawn0 w w' := by
 have H : (some (a0 != a0)) = some r := h; clear h; obtain rfl := Option.some.inj H; go_enter Try.func57, Try.ntmps57
 go_wp2; go_ret; exact ⟨by rfl, by repeat (exact Drawn0.refl _)⟩
def cmp_Compare_int.f (a0 : Int) (a1 : Int) : Option (Int) := (cmp_isNaN_int.f a0).bind fun t291 => ((cmp_isNaN_int.f a1).bind fun t292 => (if t291 = true then (if t292 = true then (some 0) else (some (-1))) else (if t292 = true then (some 1) else (if a0 < a1 then (some (-1)) else (if a0 > a1 then (some 1) else (some 0))))))
theorem cmp_Compare_int.calls (a0 : Int) (a1 : Int) (r : Int) (w : World) (h : cmp_Compare_int.f a0 a1 = some r) :
  Calls Try.prog 41 #[.int .i64 a0, .int .i64 a1] w fun e w' => e = .returned (.int .i64 r) ∧ Drawn0 w w' := by
 have H : ((cmp_isNaN_int.f a0).bind fun t291 => ((cmp_isNaN_int.f a1).bind fun t292 => (if t291 = true then (if t292 = true then (some 0) else (some (-1))) else (if t292 = true then (some 1) else (if a0 < a1 then (some (-1)) else (if a0 > a1 then (some 1) else (some 0))))))) = some r := h; clear h; replace H := Option.bind_eq_some_iff.mp H; obtain ⟨t291, A30, H⟩ := H; replace H : ((cmp_isNaN_int.f a1).bind fun t292 => (if t291 = true then (if t292 = true then (some 0) else (some (-1))) else (if t292 = true then (some 1) else (if a0 < a1 then (some (-1)) else (if a0 > a1 then (some 1) else (some 0)))))) = some r := H; have A3 := Aside0.mk A30; clear A30; replace H := Option.bind_eq_some_iff.mp H; obtain ⟨t292, A40, H⟩ := H; replace H : (if t291 = true then (if t292 = true then (some 0) else (some (-1))) else (if t292 = true then (some 1) else (if a0 < a1 then (some (-1)) else (if a0 > a1 then (some 1) else (some 0))))) = some r := H; have A4 := Aside0.mk A40; clear A40
 by_cases c5 : t291 = true
 ·
  subst c5; have H1 : (if t292 = true then (some 0) else (some (-1))) = some r := by rw [if_pos rfl] at H; exact H
  clear H; have H := H1; clear H1
  by_cases c6 : t292 = true
  ·
   subst c6; have H1 : (some 0) = some r := by rw [if_pos rfl] at H; exact H
   clear H; have H := H1; clear H1; obtain rfl := Option.some.inj H; go_enter Try.func41, Try.ntmps41
   go_wp2_with (first | ((with_reducible refine gate_callee (f := 57) rfl ?_); refine goesL_ (some 8) rfl rfl Try.func57 (by kernel_rfl) rfl #[.int .i64 a0] rfl (by (try simp only [List.map_toArray, List.map_cons, List.map_nil]); rfl) ?_; (with_reducible refine (cmp_isNaN_int.calls a0 true _ A3.out).mono ?_); rintro e w' ⟨rfl, ⟨nd, rfl⟩⟩; refine ⟨_, rfl, ?_⟩) | ((with_reducible refine gate_callee (f := 57) rfl ?_); refine goesL_ (some 10) rfl rfl Try.func57 (by kernel_rfl) rfl #[.int .i64 a1] rfl (by (try simp only [List.map_toArray, List.map_cons, List.map_nil]); rfl) ?_; (with_reducible refine (cmp_isNaN_int.calls a1 true _ A4.out).mono ?_); rintro e w' ⟨rfl, ⟨nd, rfl⟩⟩; refine ⟨_, rfl, ?_⟩))
   go_ret; exact ⟨by rfl, by repeat (first | exact Drawn0.refl _ | apply Drawn0.step)⟩
  ·
   replace c6 := Bool.eq_false_iff.mpr c6; subst c6; have H1 : (some (-1)) = some r := by rw [if_neg (show ¬ (false = true) by decide)] at H; exact H
   clear H; have H := H1; clear H1; obtain rfl := Option.some.inj H; go_enter Try.func41, Try.ntmps41
   go_wp2_with (first | ((with_reducible refine gate_callee (f := 57) rfl ?_); refine goesL_ (some 8) rfl rfl Try.func57 (by kernel_rfl) rfl #[.int .i64 a0] rfl (by (try simp only [List.map_toArray, List.map_cons, List.map_nil]); rfl) ?_; (with_reducible refine (cmp_isNaN_int.calls a0 true _ A3.out).mono ?_); rintro e w' ⟨rfl, ⟨nd, rfl⟩⟩; refine ⟨_, rfl, ?_⟩) | ((with_reducible refine gate_callee (f := 57) rfl ?_); refine goesL_ (some 10) rfl rfl Try.func57 (by kernel_rfl) rfl #[.int .i64 a1] rfl (by (try simp only [List.map_toArray, List.map_cons, List.map_nil]); rfl) ?_; (with_reducible refine (cmp_isNaN_int.calls a1 false _ A4.out).mono ?_); rintro e w' ⟨rfl, ⟨nd, rfl⟩⟩; refine ⟨_, rfl, ?_⟩))
   go_ret; exact ⟨by rfl, by repeat (first | exact Drawn0.refl _ | apply Drawn0.step)⟩
 ·
  replace c5 := Bool.eq_false_iff.mpr c5; subst c5; have H1 : (if t292 = true then (some 1) else (if a0 < a1 then (some (-1)) else (if a0 > a1 then (some 1) else (some 0)))) = some r := by rw [if_neg (show ¬ (false = true) by decide)] at H; exact H
  clear H; have H := H1; clear H1
  by_cases c7 : t292 = true
  ·
   subst c7; have H1 : (some 1) = some r := by rw [if_pos rfl] at H; exact H
   clear H; have H := H1; clear H1; obtain rfl := Option.some.inj H; go_enter Try.func41, Try.ntmps41
   go_wp2_with (first | ((with_reducible refine gate_callee (f := 57) rfl ?_); refine goesL_ (some 8) rfl rfl Try.func57 (by kernel_rfl) rfl #[.int .i64 a0] rfl (by (try simp only [List.map_toArray, List.map_cons, List.map_nil]); rfl) ?_; (with_reducible refine (cmp_isNaN_int.calls a0 false _ A3.out).mono ?_); rintro e w' ⟨rfl, ⟨nd, rfl⟩⟩; refine ⟨_, rfl, ?_⟩) | ((with_reducible refine gate_callee (f := 57) rfl ?_); refine goesL_ (some 10) rfl rfl Try.func57 (by kernel_rfl) rfl #[.int .i64 a1] rfl (by (try simp only [List.map_toArray, List.map_cons, List.map_nil]); rfl) ?_; (with_reducible refine (cmp_isNaN_int.calls a1 true _ A4.out).mono ?_); rintro e w' ⟨rfl, ⟨nd, rfl⟩⟩; refine ⟨_, rfl, ?_⟩))
   go_ret; exact ⟨by rfl, by repeat (first | exact Drawn0.refl _ | apply Drawn0.step)⟩
  ·
   replace c7 := Bool.eq_false_iff.mpr c7; subst c7; have H1 : (if a0 < a1 then (some (-1)) else (if a0 > a1 then (some 1) else (some 0))) = some r := by rw [if_neg (show ¬ (false = true) by decide)] at H; exact H
   clear H; have H := H1; clear H1
   by_cases c8 : a0 < a1
   ·
    rw [if_pos c8] at H; have c8b0 : decide (a0 < a1) = true := decide_eq_true c8; clear c8; obtain rfl := Option.some.inj H; go_enter Try.func41, Try.ntmps41
    go_wp2_with (first | ((with_reducible refine gate_callee (f := 57) rfl ?_); refine goesL_ (some 8) rfl rfl Try.func57 (by kernel_rfl) rfl #[.int .i64 a0] rfl (by (try simp only [List.map_toArray, List.map_cons, List.map_nil]); rfl) ?_; (with_reducible refine (cmp_isNaN_int.calls a0 false _ A3.out).mono ?_); rintro e w' ⟨rfl, ⟨nd, rfl⟩⟩; refine ⟨_, rfl, ?_⟩) | ((with_reducible refine gate_callee (f := 57) rfl ?_); refine goesL_ (some 10) rfl rfl Try.func57 (by kernel_rfl) rfl #[.int .i64 a1] rfl (by (try simp only [List.map_toArray, List.map_cons, List.map_nil]); rfl) ?_; (with_reducible refine (cmp_isNaN_int.calls a1 false _ A4.out).mono ?_); rintro e w' ⟨rfl, ⟨nd, rfl⟩⟩; refine ⟨_, rfl, ?_⟩))
    go_ret; exact ⟨by rfl, by repeat (first | exact Drawn0.refl _ | apply Drawn0.step)⟩
   ·
    rw [if_neg c8] at H; have c8b0 : decide (a0 < a1) = false := decide_eq_false c8; clear c8
    by_cases c9 : a0 > a1
    ·
     rw [if_pos c9] at H; have c9b0 : decide (a1 < a0) = true := decide_eq_true c9; clear c9; obtain rfl := Option.some.inj H; go_enter Try.func41, Try.ntmps41
     go_wp2_with (first | ((with_reducible refine gate_callee (f := 57) rfl ?_); refine goesL_ (some 8) rfl rfl Try.func57 (by kernel_rfl) rfl #[.int .i64 a0] rfl (by (try simp only [List.map_toArray, List.map_cons, List.map_nil]); rfl) ?_; (with_reducible refine (cmp_isNaN_int.calls a0 false _ A3.out).mono ?_); rintro e w' ⟨rfl, ⟨nd, rfl⟩⟩; refine ⟨_, rfl, ?_⟩) | ((with_reducible refine gate_callee (f := 57) rfl ?_); refine goesL_ (some 10) rfl rfl Try.func57 (by kernel_rfl) rfl #[.int .i64 a1] rfl (by (try simp only [List.map_toArray, List.map_cons, List.map_nil]); rfl) ?_; (with_reducible refine (cmp_isNaN_int.calls a1 false _ A4.out).mono ?_); rintro e w' ⟨rfl, ⟨nd, rfl⟩⟩; refine ⟨_, rfl, ?_⟩))
     go_ret; exact ⟨by rfl, by repeat (first | exact Drawn0.refl _ | apply Drawn0.step)⟩
    ·
     rw [if_neg c9] at H; have c9b0 : decide (a1 < a0) = false := decide_eq_false c9; clear c9; obtain rfl := Option.some.inj H; go_enter Try.func41, Try.ntmps41
     go_wp2_with (first | ((with_reducible refine gate_callee (f := 57) rfl ?_); refine goesL_ (some 8) rfl rfl Try.func57 (by kernel_rfl) rfl #[.int .i64 a0] rfl (by (try simp only [List.map_toArray, List.map_cons, List.map_nil]); rfl) ?_; (with_reducible refine (cmp_isNaN_int.calls a0 false _ A3.out).mono ?_); rintro e w' ⟨rfl, ⟨nd, rfl⟩⟩; refine ⟨_, rfl, ?_⟩) | ((with_reducible refine gate_callee (f := 57) rfl ?_); refine goesL_ (some 10) rfl rfl Try.func57 (by kernel_rfl) rfl #[.int .i64 a1] rfl (by (try simp only [List.map_toArray, List.map_cons, List.map_nil]); rfl) ?_; (with_reducible refine (cmp_isNaN_int.calls a1 false _ A4.out).mono ?_); rintro e w' ⟨rfl, ⟨nd, rfl⟩⟩; refine ⟨_, rfl, ?_⟩))
     go_ret; exact ⟨by rfl, by repeat (first | exact Drawn0.refl _ | apply Drawn0.step)⟩
def peers_order.f (k : Nat) (a0_0 : ByteArray) (a0_1 : Int) (a0_2 : Int) (a0_3 : Int) (a1_0 : ByteArray) (a1_1 : Int) (a1_2 : Int) (a1_3 : Int) : Option (Int) := (cmp_Compare_int.f a0_1 a1_1).bind fun t295 => ((cmp_Compare_string.f a0_0 a1_0).bind fun t296 => ((cmp_Or_int.f k (([t295, t296] : List Int))).bind fun t300 => (some t300)))
def peers_order.T1 : Bool × List (List Nat × List Nat) := (true, [([], []), ([0], [0]), ([], []), ([2], [2]), ([1, 3], [1, 3]), ([], []), ([5], [5]), ([], []), ([7], [7]), ([6, 8, 4], [6, 8]), ([4, 9], [4, 9]), ([10, 9], [10]), ([11, 11, 0, 1, 2, 3, 4, 5, 6, 7, 8, 9, 10, 11], [11])])
def peers_order.B1 : List Nat := [0, 1, 0, 4, 15, 0, 32, 0, 128, 511, 1023, 2047, 4095]
theorem peers_order.tab1 : rtab .any (opsOf Try.f27 1) = peers_order.T1 := by kernel_rfl
theorem peers_order.bits1 : waitsOk peers_order.T1.2 peers_order.B1 = true := by kernel_rfl
theorem peers_order.calls (k : Nat) (a0_0 : ByteArray) (a0_1 : Int) (a0_2 : Int) (a0_3 : Int) (a1_0 : ByteArray) (a1_1 : Int) (a1_2 : Int) (a1_3 : Int) (r : Int) (w : World) (h : peers_order.f k a0_0 a0_1 a0_2 a0_3 a1_0 a1_1 a1_2 a1_3 = some r) :
  Calls Try.prog 27 #[.agg #[.string a0_0, .int .i64 a0_1, .int .i64 a0_2, .int .u32 a0_3], .agg #[.string a1_0, .int .i64 a1_1, .int .i64 a1_2, .int .u32 a1_3]] w fun e w' => e = .returned (.int .i64 r) ∧ Below w.heap.size w w' := by
 have HB := Aside0.mk (Below.refl w.heap.size w); have H : ((cmp_Compare_int.f a0_1 a1_1).bind fun t295 => ((cmp_Compare_string.f a0_0 a1_0).bind fun t296 => ((cmp_Or_int.f k (([t295, t296] : List Int))).bind fun t300 => (some t300)))) = some r := h; clear h; replace H := Option.bind_eq_some_iff.mp H; obtain ⟨t295, A30, H⟩ := H; replace H : ((cmp_Compare_string.f a0_0 a1_0).bind fun t296 => ((cmp_Or_int.f k (([t295, t296] : List Int))).bind fun t300 => (some t300))) = some r := H; have A3 := Aside0.mk A30; clear A30; replace H := Option.bind_eq_some_iff.mp H; obtain ⟨t296, A40, H⟩ := H; replace H : ((cmp_Or_int.f k (([t295, t296] : List Int))).bind fun t300 => (some t300)) = some r := H; have A4 := Aside0.mk A40; clear A40
 obtain ⟨y297, hy297⟩ : ∃ y_ : List Int, y_ = (([t295, t296] : List Int)) := ⟨_, rfl⟩
 replace H : ((cmp_Or_int.f k y297).bind fun t300 => (some t300)) = some r := by (rw [hy297]; with_reducible exact H)
 have Ny297 := Aside0.mk hy297; clear hy297; replace H := Option.bind_eq_some_iff.mp H; obtain ⟨t300, A50, H⟩ := H; replace H : (some t300) = some r := H; have A5 := Aside0.mk A50; clear A50; obtain rfl := Option.some.inj H; go_enter Try.func27, Try.ntmps27
 try go_wp2_with (first | ((with_reducible refine gate_dst (N := 2) rfl ?_); refine box_event ?hg (N := 2) ?hd (cs := #[.string a0_0, .int .i64 a0_1, .int .i64 a0_2, .int .u32 a0_3]) (t := 25) ?hr ?_; (case hd => rfl); (case hg => rfl); (case hr => go_simp; done); intro gb293 hg w6 hbox hb; have n0_ := Aside0.mk (below_step HB.out hb); have n1_ := Aside0.mk (hbox); have n2_ := Aside0.mk ((by rw [hg]; exact (below_size HB.out) : w.heap.size ≤ gb293)); have n3_ := Aside0.mk ((by rw [hg]; exact (below_size HB.out) : w.heap.size ≤ gb293)); clear HB; have HB := n0_; have BK293 := n1_; clear n0_ n1_ n2_ n3_; clear hb hbox hg) | ((with_reducible refine gate_dst (N := 3) rfl ?_); refine box_event ?hg (N := 3) ?hd (cs := #[.string a1_0, .int .i64 a1_1, .int .i64 a1_2, .int .u32 a1_3]) (t := 25) ?hr ?_; (case hd => rfl); (case hg => rfl); (case hr => go_simp; done); intro gb294 hg w7 hbox hb; have n0_ := Aside0.mk (blk_below (g := gb293) (o := .cells #[.string a0_0, .int .i64 a0_1, .int .i64 a0_2, .int .u32 a0_3] 25 (0, 0)) BK293.out hb); have n1_ := Aside0.mk (below_step HB.out hb); have n2_ := Aside0.mk (hbox); have n3_ := Aside0.mk ((by rw [hg]; exact (below_size HB.out) : w.heap.size ≤ gb294)); clear BK293; clear HB; have BK293 := n0_; have HB := n1_; have BK294 := n2_; clear n0_ n1_ n2_ n3_ ; clear hb hbox hg))
 have n0_ := Aside0.mk (blk_drew BK293.out); have n1_ := Aside0.mk (blk_drew BK294.out); have n2_ := Aside0.mk (below_drew1 HB.out); clear BK293; clear BK294; clear HB; have BK293 := n0_; have BK294 := n1_; have HB := n2_; clear n0_ n1_ n2_; refine start_ (n := 13) (S := fun w' => w'.cell? ⟨gb293, 0, none⟩ = some (.string a0_0) ∧ w'.cell? ⟨gb293, 1, none⟩ = some (.int .i64 a0_1) ∧ w'.cell? ⟨gb293, 2, none⟩ = some (.int .i64 a0_2) ∧ w'.cell? ⟨gb293, 3, none⟩ = some (.int .u32 a0_3) ∧ w'.cell? ⟨gb294, 0, none⟩ = some (.string a1_0) ∧ w'.cell? ⟨gb294, 1, none⟩ = some (.int .i64 a1_1) ∧ w'.cell? ⟨gb294, 2, none⟩ = some (.int .i64 a1_2) ∧ w'.cell? ⟨gb294, 3, none⟩ = some (.int .u32 a1_3)) (ds := []) (bs 13 0) (by kernel_rfl) rfl rfl ⟨(blk_cell BK293.out 0).trans rfl, (blk_cell BK293.out 1).trans rfl, (blk_cell BK293.out 2).trans rfl, (blk_cell BK293.out 3).trans rfl, (blk_cell BK294.out 0).trans rfl, (blk_cell BK294.out 1).trans rfl, (blk_cell BK294.out 2).trans rfl, (blk_cell BK294.out 3).trans rfl⟩ (fun hHeld => ?_); refine with_tabW peers_order.tab1 peers_order.bits1 (fun HT_ HW_ => ?_); generalize w7.drew = w8 at BK293 BK294 HB hHeld ⊢; apply pv 0 5 (bs 13 1) HT_; rfl; rfl; kernel_rfl; exact qq; rfl; intro w'; go_simp; with_reducible rfl; simp only [zz]; rfl
 apply pv 2 7 (bs 13 5) HT_; rfl; rfl; kernel_rfl; exact qq; rfl; intro w'; go_simp; with_reducible rfl; simp only [zz]; rfl
 apply pv 5 10 (bs 13 37) HT_; rfl; rfl; kernel_rfl; exact qq; rfl; intro w'; go_simp; with_reducible rfl; simp only [zz]; rfl
 apply pv 7 12 (bs 13 165) HT_; rfl; rfl; kernel_rfl; exact qq; rfl; intro w'; go_simp; with_reducible rfl; simp only [zz]; rfl
 apply tb 1 6 (bs 13 167) HT_ HW_ hHeld; rfl; rfl; kernel_rfl; exact qq; rfl; rintro w' ⟨s0, s1, s2, s3, s4, s5, s6, s7⟩; go_simp; with_reducible rfl; simp only [zz]; rfl
 apply tb 3 8 (bs 13 175) HT_ HW_ hHeld; rfl; rfl; kernel_rfl; exact qq; rfl; rintro w' ⟨s0, s1, s2, s3, s4, s5, s6, s7⟩; go_simp; with_reducible rfl; simp only [zz]; rfl
 apply tb 6 11 (bs 13 239) HT_ HW_ hHeld; rfl; rfl; kernel_rfl; exact qq; rfl; rintro w' ⟨s0, s1, s2, s3, s4, s5, s6, s7⟩; go_simp; with_reducible rfl; simp only [zz]; rfl
 apply tb 8 13 (bs 13 495) HT_ HW_ hHeld; rfl; rfl; kernel_rfl; exact qq; rfl; rintro w' ⟨s0, s1, s2, s3, s4, s5, s6, s7⟩; go_simp; with_reducible rfl; simp only [zz]; rfl
 refine one_ (i := 4) (N := some 9) (bs 13 511) rfl rfl (one_of HT_.out (by kernel_rfl)) (by decide) (fun K hK => ?_); refine goes_ Try.func41 (by kernel_rfl) rfl #[.int .i64 a0_1, .int .i64 a1_1] (by rfl) rfl rfl (by (try simp only [List.map_toArray, List.map_cons, List.map_nil]); rfl) ?_; with_reducible refine (cmp_Compare_int.calls a0_1 a1_1 t295 _ A3.out).mono ?_
 rintro e w' ⟨rfl, ⟨nd, rfl⟩⟩; refine ⟨_, rfl, ?_⟩; refine hK.out _ _ ⟨(blk_cell BK293.out 0).trans rfl, (blk_cell BK293.out 1).trans rfl, (blk_cell BK293.out 2).trans rfl, (blk_cell BK293.out 3).trans rfl, (blk_cell BK294.out 0).trans rfl, (blk_cell BK294.out 1).trans rfl, (blk_cell BK294.out 2).trans rfl, (blk_cell BK294.out 3).trans rfl⟩ (fun hHeld => ?_); clear hK K; refine norm_ (a' := ?_) ?_ ?_; rotate_left
 ·
  show Act.put _ (some 9) _ = _; simp only [Act.put, List.setIfInBounds_toArray, List.set_cons_zero, List.set_cons_succ, i64_w, i32_w]; rfl
 refine one_ (i := 9) (N := some 14) (bs 13 1023) rfl rfl (one_of HT_.out (by kernel_rfl)) (by decide) (fun K hK => ?_); refine goes_ Try.func42 (by kernel_rfl) rfl #[.string a0_0, .string a1_0] (by rfl) rfl rfl (by (try simp only [List.map_toArray, List.map_cons, List.map_nil]); rfl) ?_; with_reducible refine (cmp_Compare_string.calls a0_0 a1_0 t296 _ A4.out).mono ?_
 rintro e w' ⟨rfl, ⟨nd, rfl⟩⟩; refine ⟨_, rfl, ?_⟩; refine hK.out _ _ ⟨(blk_cell BK293.out 0).trans rfl, (blk_cell BK293.out 1).trans rfl, (blk_cell BK293.out 2).trans rfl, (blk_cell BK293.out 3).trans rfl, (blk_cell BK294.out 0).trans rfl, (blk_cell BK294.out 1).trans rfl, (blk_cell BK294.out 2).trans rfl, (blk_cell BK294.out 3).trans rfl⟩ (fun hHeld => ?_); clear hK K; refine norm_ (a' := ?_) ?_ ?_; rotate_left
 ·
  show Act.put _ (some 14) _ = _; simp only [Act.put, List.setIfInBounds_toArray, List.set_cons_zero, List.set_cons_succ, i64_w, i32_w]; rfl
 refine one_ (i := 10) (N := some 15) (bs 13 2047) rfl rfl (one_of HT_.out (by kernel_rfl)) (by decide) (fun K hK => ?_); refine Kd.R_lit_step (Kd.int .i64) _ 3 ?hg (N := 15) ?hd (xs := ([t295, t296] : List Int)) (inner := [.int .i64 t295, .int .i64 t296]) (ok := fun _ => True) (okp := fun _ => True) ?hr ?hp (fun _ hk => hk) trivial (Below.refl _ _) (Nat.le_refl _) (by simp) ?_; (case hd => rfl); (case hg => rfl); (case hr => go_simp; done); (case hp => exact (Reps.one (show Kd.M (Kd.int .i64) _ _ _ t295 [.int .i64 t295] from rfl) (Reps.one (show Kd.M (Kd.int .i64) _ _ _ t296 [.int .i64 t296] from rfl) (Reps.none _ _)))); intro v298 w9 ho10 hb hg_ hnew_; clear hg_ hnew_
 ((rw [← Ny297.out] at ho10))
 have n0_ := Aside0.mk (Kd.R_lower ho10 (below_size (by repeat ((with_reducible first | exact HB.out | apply pw_below_drewN))))); have n1_ := Aside0.mk (blk_below (g := gb293) (o := .cells #[.string a0_0, .int .i64 a0_1, .int .i64 a0_2, .int .u32 a0_3] 25 (0, 0)) (by (with_reducible repeat (refine blk_drewN ?_ _)); exact BK293.out) hb); have n2_ := Aside0.mk (blk_below (g := gb294) (o := .cells #[.string a1_0, .int .i64 a1_1, .int .i64 a1_2, .int .u32 a1_3] 25 (0, 0)) (by (with_reducible repeat (refine blk_drewN ?_ _)); exact BK294.out) hb); have n3_ := Aside0.mk (below_step (by repeat ((with_reducible first | exact HB.out | apply pw_below_drewN))) hb); clear BK293; clear BK294; clear HB; have HO299 := n0_; have BK293 := n1_; have BK294 := n2_; have HB := n3_; clear n0_ n1_ n2_ n3_; clear hb ho10; obtain ⟨Ao11, co11, eo11⟩ := Kd.R_slice HO299.out
 ((subst eo11))
 refine hK.out _ _ ⟨(blk_cell BK293.out 0).trans rfl, (blk_cell BK293.out 1).trans rfl, (blk_cell BK293.out 2).trans rfl, (blk_cell BK293.out 3).trans rfl, (blk_cell BK294.out 0).trans rfl, (blk_cell BK294.out 1).trans rfl, (blk_cell BK294.out 2).trans rfl, (blk_cell BK294.out 3).trans rfl⟩ (fun hHeld => ?_); clear hK K; refine norm_ (a' := ?_) ?_ ?_; rotate_left
 ·
  show Act.put _ (some 15) _ = _; simp only [Act.put, List.setIfInBounds_toArray, List.set_cons_zero, List.set_cons_succ, i64_w, i32_w]; rfl
 refine one_ (i := 11) (N := some 16) (bs 13 4095) rfl rfl (one_of HT_.out (by kernel_rfl)) (by decide) (fun K hK => ?_); refine goes_ Try.func40 (by kernel_rfl) rfl #[.slice Ao11 y297.length co11] (by rfl) rfl rfl (by (try simp only [List.map_toArray, List.map_cons, List.map_nil]); rfl) ?_; with_reducible refine (cmp_Or_int.calls k _ _ y297 t300 _ ?side1 ?side2 A5.out).mono ?_
 (case side1 => repeat (exact (Kd.R_reads' HO299.out).2.2))
 (case side2 => exact (Kd.R_reads' HO299.out).2.1)
 rintro e w' ⟨rfl, ⟨nd, rfl⟩⟩; refine ⟨_, rfl, ?_⟩; refine hK.out _ _ ⟨(blk_cell BK293.out 0).trans rfl, (blk_cell BK293.out 1).trans rfl, (blk_cell BK293.out 2).trans rfl, (blk_cell BK293.out 3).trans rfl, (blk_cell BK294.out 0).trans rfl, (blk_cell BK294.out 1).trans rfl, (blk_cell BK294.out 2).trans rfl, (blk_cell BK294.out 3).trans rfl⟩ (fun hHeld => ?_); clear hK K; refine norm_ (a' := ?_) ?_ ?_; rotate_left
 ·
  show Act.put _ (some 16) _ = _; simp only [Act.put, List.setIfInBounds_toArray, List.set_cons_zero, List.set_cons_succ, i64_w, i32_w]; rfl
 apply pv 12 4 (bs 13 8191) HT_; rfl; rfl; kernel_rfl; exact qq; rfl; intro w'; go_simp; with_reducible rfl; simp only [zz]; rfl
 refine done_ (done_of HT_.out (by kernel_rfl)) ?_; try go_wp2
 go_ret; exact ⟨by rfl, by repeat ((with_reducible first | exact HB.out | apply pw_below_drewN))⟩
end Go.Proofs.Ytgagcimfkmegnaa.QT
