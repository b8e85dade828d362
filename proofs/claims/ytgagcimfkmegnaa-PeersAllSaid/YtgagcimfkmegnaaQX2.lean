-- Laid by wip/tools/myprint.py of this repo. Not trusted: Lean checks it.
import Derived.Test.YtgagcimfkmegnaaSqu
import Derived.Test.YtgagcimfkmegnaaQX1
set_option maxHeartbeats 8000000
set_option maxRecDepth 100000
namespace Go.Proofs.Ytgagcimfkmegnaa.QX
open Go.Proofs.Ytgagcimfkmegnaa.QT
open Go.RowKit Go.Proofs.YtgagcimfkmegnaaW.PrintWords Go.Proofs.YtgagcimfkmegnaaW.PrintLast Go.Proofs.YtgagcimfkmegnaaW.PrintMore
attribute [local go_sem] max2_int min2_int max_two min_two max_three min_three max_four min_four   -- for this text's walks alone
set_option linter.unusedVariables false
set_option linter.unusedSimpArgs false
mutual
def api_Point.l0 : Nat → List (S42) → Int → Option (Int × (List (S42)))
 | 0, _, _ => none
 | k + 1, x0, x5 => if x5 < (x0.length : Int) then (if 0 ≤ x5 then (if 0 ≤ (wrap64 (x5 - 1)) then (if (wrap64 (x5 - 1)) < (x0.length : Int) then ((merge_Merge_1.f ((rd_T42 x0 x5).f0) ((rd_T42 x0 x5).f1) ((rd_T42 x0 x5).f2) ((rd_T42 x0 (wrap64 (x5 - 1))).f0) ((rd_T42 x0 (wrap64 (x5 - 1))).f1) ((rd_T42 x0 (wrap64 (x5 - 1))).f2)).bind fun t105 => (if t105 = true then (if x5 ≤ (x0.length : Int) then (api_Point.l1 k x0 x5 (x0.drop (x5 : Int).toNat) 1) else (none)) else (api_Point.l0 k x0 (wrap64 (x5 + 1))))) else (none)) else (none)) else (none)) else (some ((-1), x0))
def api_Point.l1 : Nat → List (S42) → Int → List (S42) → Int → Option (Int × (List (S42)))
 | 0, _, _, _, _ => none
 | k + 1, x0, x5, x6, x7 => if x7 < (x6.length : Int) then (if 0 ≤ x7 then (if 0 ≤ (wrap64 (x7 - 1)) then (if (wrap64 (x7 - 1)) < (x6.length : Int) then ((merge_Merge_1.f ((rd_T42 x6 x7).f0) ((rd_T42 x6 x7).f1) ((rd_T42 x6 x7).f2) ((rd_T42 x6 (wrap64 (x7 - 1))).f0) ((rd_T42 x6 (wrap64 (x7 - 1))).f1) ((rd_T42 x6 (wrap64 (x7 - 1))).f2)).bind fun t112 => (if t112 = true then (api_Point.l1 k x0 x5 x6 (wrap64 (x7 + 1))) else (if 0 ≤ x5 then (if x5 < (x0.length : Int) then (api_Point.l1 k (x0.set (x5 : Int).toNat (⟨(rd_T42 x6 x7).f0, (rd_T42 x6 x7).f1, (rd_T42 x6 x7).f2⟩ : S42)) (wrap64 (x5 + 1)) x6 (wrap64 (x7 + 1))) else (none)) else (none)))) else (none)) else (none)) else (none)) else (if 0 ≤ x5 then (if x5 ≤ (x0.length : Int) then (some (x5, x0)) else (none)) else (none))
end
def api_Point.f (k : Nat) (l0 : List (S42))  : Option (Int × (List (S42))) := if (l0.length : Int) < 2 then (some ((-1), l0)) else (api_Point.l0 k l0 1)
theorem cut_cell {W : World} {ad ad2 : Addr} {c : Nat} {x0 y : List (S42)} {i : Int} (hC : Kd.C k42 W (some ad) x0.length x0) (h2 : some ad2 = (if c = i.toNat then some ad else (some ad).map (·.add (i.toNat * 3)))) (hyc : y.length ≤ c - i.toNat) (hi : 0 ≤ i) (j : Int) (hj : 0 ≤ j) (hjl : j < (y.length : Int)) (he : x0[i.toNat + j.toNat]? = y[j.toNat]?) :
  W.cell? (ad2.add (j.toNat * 3)) = some (.int .i64 (rd_T42 y j).f0) ∧ W.cell? ⟨(ad2.add (j.toNat * 3)).block, (ad2.add (j.toNat * 3)).off + 1, none⟩ = some (.int .u64 (rd_T42 y j).f1) ∧ W.cell? ⟨(ad2.add (j.toNat * 3)).block, (ad2.add (j.toNat * 3)).off + 2, none⟩ = some (.int .u64 (rd_T42 y j).f2) := by
 rw [if_neg (by omega)] at h2; simp only [Option.map_some, Option.some.injEq] at h2; subst h2
 have hl : i.toNat + j.toNat < x0.length := by
  have h3 : y[j.toNat]? = some y[j.toNat] := List.getElem?_eq_getElem (by omega); rw [h3] at he; exact (List.getElem?_eq_some_iff.1 he).1
 obtain ⟨ad', e, h0, h1, h2⟩ := at_T42 hC (i + j) (by omega) (by omega); cases e
 have er : rd_T42 x0 (i + j) = rd_T42 y j := by
  unfold rd_T42; rw [List.getD_eq_getElem?_getD, List.getD_eq_getElem?_getD, show (i + j).toNat = i.toNat + j.toNat from by omega, he]
 rw [er, show (i + j).toNat * 3 = i.toNat * 3 + j.toNat * 3 from by omega, ← Addr.add_add] at h0 h1 h2; exact ⟨h0, h1, h2⟩
def api_Point.T6 : Bool × List (List Nat × List Nat) := (true, [([], []), ([], []), ([], []), ([1, 2], [1, 2]), ([3], [3]), ([], []), ([], []), ([6], [6]), ([5, 7], [5, 7]), ([8], [8]), ([0, 4, 9], [0, 4, 9])])
def api_Point.B6 : List Nat := [0, 0, 0, 6, 14, 0, 0, 64, 224, 480, 1023]
theorem api_Point.tab6 : rtab .any (opsOf Try.f54 6) = api_Point.T6 := by kernel_rfl
theorem api_Point.bits6 : waitsOk api_Point.T6.2 api_Point.B6 = true := by kernel_rfl
def api_Point.T11 : Bool × List (List Nat × List Nat) := (true, [([], []), ([], []), ([], []), ([1, 2], [1, 2]), ([3], [3]), ([], []), ([], []), ([6], [6]), ([5, 7], [5, 7]), ([8], [8]), ([0, 4, 9], [0, 4, 9]), ([10], [10])])
def api_Point.B11 : List Nat := [0, 0, 0, 6, 14, 0, 0, 64, 224, 480, 1023, 2047]
theorem api_Point.tab11 : rtab .any (opsOf Try.f54 11) = api_Point.T11 := by kernel_rfl
theorem api_Point.bits11 : waitsOk api_Point.T11.2 api_Point.B11 = true := by kernel_rfl
theorem api_Point.calls (k : Nat) (P0_ : Nat → Prop) (u9000_ : Value) (l0 : List (S42))  (r1 : Int) (r2 : List (S42)) (w0 w : World) (hB : Below w0.heap.size w0 w) (ho0 : Kd.R k42 42 w w0.heap.size P0_ u9000_ l0) (h : api_Point.f k l0 = some (r1, r2)) :
  Calls Try.prog 54 #[u9000_, .func (.func 55) #[] #[]] w fun e w' => ∃ v_ : Value, e = .returned v_ ∧ Kd.R k42 42 w' w0.heap.size (fun k_ => (P0_ k_ ∨ w.heap.size ≤ k_)) v_ (if r1 = -1 then r2 else r2.take r1.toNat) ∧ Below w0.heap.size w0 w' := by
 have HO0 := Aside0.mk (show Kd.R k42 42 w w0.heap.size (fun k_ => (P0_ k_ ∨ w.heap.size ≤ k_)) u9000_ l0 from Kd.R_mono ho0 (fun k_ hk => (.inl hk))); have HK := Aside0.mk (Kept.refl w (fun k_ => P0_ k_)); have HB := Aside0.mk hB; clear hB; have H : (if (l0.length : Int) < 2 then (some ((-1), l0)) else (api_Point.l0 k l0 1)) = some (r1, r2) := h; clear h
 by_cases c3 : (l0.length : Int) < 2
 ·
  rw [if_pos c3] at H; have c3b0 : decide ((l0.length : Int) < 2) = true := decide_eq_true c3; clear c3; simp only [Option.some.injEq, Prod.mk.injEq] at H; obtain ⟨rfl, rfl⟩ := H; obtain ⟨Ao4, co4, eo4⟩ := Kd.R_slice HO0.out; subst eo4; go_enter Try.func54, Try.ntmps54
  go_wp2; go_ret; exact ⟨_, rfl, by (try rw [if_pos (show (-1 : Int) = -1 from rfl)]); (exact HO0.out), by repeat ((with_reducible exact HB.out))⟩
 ·
  rw [if_neg c3] at H; have c3b0 : decide ((l0.length : Int) < 2) = false := decide_eq_false c3; clear c3; have H' := Aside0.mk H; clear H; obtain ⟨Ao5, co5, eo5⟩ := Kd.R_slice HO0.out; subst eo5; go_enter Try.func54, Try.ntmps54
  go_wp2; go_loopg [5] k (fun kq v5 w' => ∃ (x0_1 : List (S42)) (x5_1 : Int), v5 = .int .i64 x5_1 ∧ Aside0 (api_Point.l0 kq x0_1 x5_1 = some (r1, r2)) ∧ Aside0 (kq ≤ k) ∧ Aside0 (Kd.R k42 42 w' w0.heap.size (fun k_ => (P0_ k_ ∨ w.heap.size ≤ k_)) (.slice Ao5 l0.length co5) x0_1) ∧ Aside0 (Kept w w' (fun k_ => P0_ k_)) ∧ Aside0 (Below w0.heap.size w0 w'))
  case atStart => exact ⟨(l0), (1), (by rfl), H', ⟨Nat.le_refl _⟩, ⟨HO0.out⟩, ⟨HK.out⟩, ⟨HB.out⟩⟩
  case round =>
   clear H'; try clear c3b0
   obtain ⟨x0_1, x5_1, rfl, HA, HK1, HO_0, HK, HB⟩ := hrel; have hl0_1 := (Kd.R_reads' HO_0.out).1; rw [hl0_1] at HO_0
   (try simp only [hl0_1])
   cases gk with
   | zero => exact absurd HA.out (by simp [api_Point.l0])
   | succ k1 =>
    have H := HA.out; clear HA; simp only [api_Point.l0] at H
    by_cases c6 : x5_1 < (x0_1.length : Int)
    ·
     rw [if_pos c6] at H; have c6b0 : decide (x5_1 < (x0_1.length : Int)) = true := decide_eq_true c6; clear c6
     by_cases c7 : 0 ≤ x5_1
     ·
      rw [if_pos c7] at H; have c7b0 : decide (0 ≤ x5_1) = true := decide_eq_true c7; clear c7
      obtain ⟨ji8, hji8⟩ : ∃ j_ : Int, (wrap64 (x5_1 - 1)) = j_ := ⟨_, rfl⟩
      replace H : (if 0 ≤ (ji8) then (if (ji8) < (x0_1.length : Int) then ((merge_Merge_1.f ((rd_T42 x0_1 x5_1).f0) ((rd_T42 x0_1 x5_1).f1) ((rd_T42 x0_1 x5_1).f2) ((rd_T42 x0_1 (ji8)).f0) ((rd_T42 x0_1 (ji8)).f1) ((rd_T42 x0_1 (ji8)).f2)).bind fun t105 => (if t105 = true then (if x5_1 ≤ (x0_1.length : Int) then (api_Point.l1 k1 x0_1 x5_1 (x0_1.drop (x5_1 : Int).toNat) 1) else (none)) else (api_Point.l0 k1 x0_1 (wrap64 (x5_1 + 1))))) else (none)) else (none)) = some (r1, r2) := by (rw [hji8] at H; exact H)
      have hji8w : (IntKind.i64.wrap (x5_1 - 1)) = ji8 := (i64_w _).trans hji8
      by_cases c9 : 0 ≤ (ji8)
      ·
       rw [if_pos c9] at H; have c9b0 : decide (0 ≤ (ji8)) = true := decide_eq_true c9; clear c9
       by_cases c10 : (ji8) < (x0_1.length : Int)
       ·
        rw [if_pos c10] at H; have c10b0 : decide ((ji8) < (x0_1.length : Int)) = true := decide_eq_true c10; clear c10; replace H := Option.bind_eq_some_iff.mp H; obtain ⟨t105, A110, H⟩ := H; replace H : (if t105 = true then (if x5_1 ≤ (x0_1.length : Int) then (api_Point.l1 k1 x0_1 x5_1 (x0_1.drop (x5_1 : Int).toNat) 1) else (none)) else (api_Point.l0 k1 x0_1 (wrap64 (x5_1 + 1)))) = some (r1, r2) := H; have A11 := Aside0.mk A110; clear A110
        by_cases c12 : t105 = true
        ·
         subst c12; have H1 : (if x5_1 ≤ (x0_1.length : Int) then (api_Point.l1 k1 x0_1 x5_1 (x0_1.drop (x5_1 : Int).toNat) 1) else (none)) = some (r1, r2) := by rw [if_pos rfl] at H; exact H
         clear H; have H := H1; clear H1; have c13b0 := eq_true (of_decide_eq_true (by with_reducible assumption) : 0 ≤ x5_1)
         by_cases c14 : x5_1 ≤ (x0_1.length : Int)
         ·
          rw [if_pos c14] at H; have c14b1 : decide (x5_1 ≤ (x0_1.length : Int)) = true := decide_eq_true c14; clear c14
          obtain ⟨y106, hy106⟩ : ∃ y_ : List (S42), y_ = (x0_1.drop (x5_1 : Int).toNat) := ⟨_, rfl⟩
          replace H : (api_Point.l1 k1 x0_1 x5_1 y106 1) = some (r1, r2) := by (rw [hy106]; with_reducible exact H)
          have Ny106 := Aside0.mk hy106; clear hy106; have H' := Aside0.mk H; clear H; try go_wp2
          have n0_ := Aside0.mk (Kd.R_drew HO_0.out); have n1_ := Aside0.mk (Kept.drew HK.out); have n2_ := Aside0.mk (below_drew1 HB.out); clear HO_0; clear HK; clear HB; have HO_0 := n0_; have HK := n1_; have HB := n2_; clear n0_ n1_ n2_; have p103 : 0 ≤ (x5_1 : Int) := of_decide_eq_true (by with_reducible assumption); have q103 : x5_1 < (x0_1.length : Int) := of_decide_eq_true (by with_reducible assumption); obtain ⟨ad103, e103, hx103_0, hx103_1, hx103_2⟩ := at_T42 (Kd.R_reads' HO_0.out).2.2 x5_1 p103 q103; cases e103; replace p103 := eq_true p103; replace q103 := eq_true q103; have p104 : 0 ≤ ((ji8) : Int) := of_decide_eq_true (by with_reducible assumption); have q104 : (ji8) < (x0_1.length : Int) := of_decide_eq_true (by with_reducible assumption); obtain ⟨ad104, e104, hx104_0, hx104_1, hx104_2⟩ := at_T42 (Kd.R_reads' HO_0.out).2.2 (ji8) p104 q104
          obtain rfl : ad103 = ad104 := (by injection e104)
          replace p104 := eq_true p104; replace q104 := eq_true q104; refine start_ (n := 11) (S := fun w' => w'.cell? (ad103.add ((x5_1).toNat * 3)) = some (.int .i64 ((rd_T42 x0_1 x5_1).f0)) ∧ w'.cell? ⟨(ad103.add ((x5_1).toNat * 3)).block, (ad103.add ((x5_1).toNat * 3)).off + 1, none⟩ = some (.int .u64 ((rd_T42 x0_1 x5_1).f1)) ∧ w'.cell? ⟨(ad103.add ((x5_1).toNat * 3)).block, (ad103.add ((x5_1).toNat * 3)).off + 2, none⟩ = some (.int .u64 ((rd_T42 x0_1 x5_1).f2)) ∧ w'.cell? (ad103.add (((ji8)).toNat * 3)) = some (.int .i64 ((rd_T42 x0_1 (ji8)).f0)) ∧ w'.cell? ⟨(ad103.add (((ji8)).toNat * 3)).block, (ad103.add (((ji8)).toNat * 3)).off + 1, none⟩ = some (.int .u64 ((rd_T42 x0_1 (ji8)).f1)) ∧ w'.cell? ⟨(ad103.add (((ji8)).toNat * 3)).block, (ad103.add (((ji8)).toNat * 3)).off + 2, none⟩ = some (.int .u64 ((rd_T42 x0_1 (ji8)).f2))) (ds := []) (bs 11 0) (by kernel_rfl) rfl rfl ⟨hx103_0, hx103_1, hx103_2, hx104_0, hx104_1, hx104_2⟩ (fun hHeld => ?_); refine with_tabW api_Point.tab6 api_Point.bits6 (fun HT_ HW_ => ?_); generalize wr.drew = w15 at HO_0 HK HB hx103_0 hx103_1 hx103_2 hx104_0 hx104_1 hx104_2 hHeld ⊢; apply pv 0 18 (bs 11 1) HT_; rfl; rfl; kernel_rfl; exact qq; rfl; intro w'; go_simp; with_reducible rfl; simp only [zz]; rfl
          apply pv 1 19 (bs 11 3) HT_; rfl; rfl; kernel_rfl; exact qq; rfl; intro w'; go_simp; with_reducible rfl; simp only [zz]; rfl
          apply pv 2 20 (bs 11 7) HT_; rfl; rfl; kernel_rfl; exact qq; rfl; intro w'; go_simp; with_reducible rfl; simp only [zz]; rfl
          apply pv 3 21 (bs 11 15) HT_; rfl; rfl; kernel_rfl; exact qq; rfl; intro w'; go_simp; with_reducible rfl; simp only [zz]; rfl
          apply pv 5 23 (bs 11 47) HT_; rfl; rfl; kernel_rfl; exact qq; rfl; intro w'; go_simp; with_reducible rfl; simp only [zz]; rfl
          apply pv 6 24 (bs 11 111) HT_; rfl; rfl; kernel_rfl; exact qq; rfl; intro w'; go_simp; with_reducible rfl; simp only [zz]; rfl
          apply pv 7 25 (bs 11 239) HT_; rfl; rfl; kernel_rfl; exact qq; rfl; intro w'; go_simp; with_reducible rfl; simp only [zz]; rfl
          apply pv 8 26 (bs 11 495) HT_; rfl; rfl; kernel_rfl; exact qq; rfl; intro w'; go_simp; with_reducible rfl; simp only [zz]; rfl
          apply tb 4 22 (bs 11 511) HT_ HW_ hHeld; rfl; rfl; kernel_rfl; exact qq; rfl; rintro w' ⟨s0, s1, s2, s3, s4, s5⟩; go_simp; with_reducible rfl; simp only [zz]; rfl
          apply tb 9 27 (bs 11 1023) HT_ HW_ hHeld; rfl; rfl; kernel_rfl; exact qq; rfl; rintro w' ⟨s0, s1, s2, s3, s4, s5⟩; go_simp; with_reducible rfl; simp only [zz]; rfl
          refine one_ (i := 10) (N := some 28) (bs 11 2047) rfl rfl (one_of HT_.out (by kernel_rfl)) (by decide) (fun K hK => ?_)
          (refine goesV_ Try.func55 (by kernel_rfl) rfl #[.agg #[.int .i64 ((rd_T42 x0_1 x5_1).f0), .int .u64 ((rd_T42 x0_1 x5_1).f1), .int .u64 ((rd_T42 x0_1 x5_1).f2)], .agg #[.int .i64 ((rd_T42 x0_1 (ji8)).f0), .int .u64 ((rd_T42 x0_1 (ji8)).f1), .int .u64 ((rd_T42 x0_1 (ji8)).f2)]] (by rfl) rfl rfl rfl (by (try simp only [List.map_toArray, List.map_cons, List.map_nil]); rfl) ?_)
          with_reducible refine (merge_Merge_1.calls ((rd_T42 x0_1 x5_1).f0) ((rd_T42 x0_1 x5_1).f1) ((rd_T42 x0_1 x5_1).f2) ((rd_T42 x0_1 (ji8)).f0) ((rd_T42 x0_1 (ji8)).f1) ((rd_T42 x0_1 (ji8)).f2) true _ A11.out).mono ?_
          rintro e w16 ⟨rfl, hb⟩; have HS0_ := (hb.cell (World.block_lt_of_cell? _ _ (hHeld.1))).trans (hHeld.1); have HS1_ := (hb.cell (World.block_lt_of_cell? _ _ (hHeld.2.1))).trans (hHeld.2.1); have HS2_ := (hb.cell (World.block_lt_of_cell? _ _ (hHeld.2.2.1))).trans (hHeld.2.2.1); have HS3_ := (hb.cell (World.block_lt_of_cell? _ _ (hHeld.2.2.2.1))).trans (hHeld.2.2.2.1); have HS4_ := (hb.cell (World.block_lt_of_cell? _ _ (hHeld.2.2.2.2.1))).trans (hHeld.2.2.2.2.1); have HS5_ := (hb.cell (World.block_lt_of_cell? _ _ (hHeld.2.2.2.2.2))).trans (hHeld.2.2.2.2.2); refine ⟨_, rfl, ?_⟩; have n0_ := Aside0.mk (Kd.R_below HO_0.out hb); have n1_ := Aside0.mk (Kept.below (S := (fun k_ => P0_ k_)) HK.out hb); have n2_ := Aside0.mk (below_step HB.out hb); clear HO_0; clear HK; clear HB; have HO_0 := n0_; have HK := n1_; have HB := n2_; clear n0_ n1_ n2_
          (try clear hb)
          (try clear hb2)
          (try clear hk)
          (try clear hi)
          refine hK.out _ _ ⟨HS0_, HS1_, HS2_, HS3_, HS4_, HS5_⟩ (fun hHeld => ?_); clear hK K; refine norm_ (a' := ?_) ?_ ?_; rotate_left
          ·
           show Act.put _ (some 28) _ = _; simp only [Act.put, List.setIfInBounds_toArray, List.set_cons_zero, List.set_cons_succ, i64_w, i32_w]; rfl
          refine done_ (done_of HT_.out (by kernel_rfl)) ?_; have q17 : (x5_1 : Int) ≤ ((x0_1.length : Int) : Int) := of_decide_eq_true (by with_reducible assumption); obtain ⟨i017, hi017, _, hsz17, _⟩ := info_parts info42; have hroom17 : x0_1.length ≤ co5 := (Kd.R_reads' HO_0.out).2.1; have hC17 : Kd.C k42 _ (some ad103) x0_1.length x0_1 := (Kd.R_reads' HO_0.out).2.2; have q017 : (0 : Int) ≤ (x5_1 : Int) := of_decide_eq_true (by with_reducible assumption); have hcut17 := cut_from (P := Try.prog) 44 42 .i64 Try.underlying44 hi017 3 hsz17 (some ad103) x0_1.length co5 x5_1 q017 q17; have hr17 := Kd.C_drop (m := (x5_1 : Int).toNat) (c := co5) hC17 (by omega) hroom17
          obtain ⟨A17, hA17⟩ : ∃ A1, A1 = (if co5 = (x5_1 : Int).toNat then (some ad103) else ((some ad103) : Option Addr).map (·.add ((x5_1 : Int).toNat * 3))) := ⟨_, rfl⟩
          obtain ⟨c17, hc17⟩ : ∃ c1, c1 = co5 - (x5_1 : Int).toNat := ⟨_, rfl⟩
          have hy17 : y106.length = x0_1.length - (x5_1 : Int).toNat := (by rw [Ny106.out, List.length_drop] <;> omega)
          rw [show (x0_1).drop (x5_1 : Int).toNat = y106 from Ny106.out.symm] at hr17
          replace hr17 : Kd.C k42 _ A17 y106.length y106 := (by rw [hA17]; exact hr17)
          rw [← hy17, ← hA17, ← hc17] at hcut17; have HR109 := Aside0.mk hr17; clear hr17 hC17 hroom17 hi017 hsz17 hc17; have KY17 := Aside0.mk hy17; have KA17 := Aside0.mk hA17; clear hy17 hA17; replace q17 := eq_true q17; try go_wp2
          have HROOM := Aside0.mk (show x0_1.length ≤ co5 from (Kd.R_reads' HO_0.out).1 ▸ (Kd.R_reads' HO_0.out).2.1); try generalize Value.pointer (some (ad103.add (x5_1.toNat * 3))) = pv0_
          try generalize Value.pointer (some (ad103.add (ji8.toNat * 3))) = pv1_
          go_loopg [5, 7] k1 (fun kq v5 v7 w' => ∃ (x0_2 : List (S42)) (x5_2 : Int) (x7_2 : Int), v5 = .int .i64 x5_2 ∧ v7 = .int .i64 x7_2 ∧ Aside0 (api_Point.l1 kq x0_2 x5_2 y106 x7_2 = some (r1, r2)) ∧ Aside0 (kq ≤ k1) ∧ Aside0 (Kd.R k42 42 w' w0.heap.size (fun k_ => (P0_ k_ ∨ w.heap.size ≤ k_)) (.slice (some ad103) x0_1.length co5) x0_2) ∧ Aside0 (Kept w w' (fun k_ => P0_ k_)) ∧ Aside0 (Below w0.heap.size w0 w') ∧ Aside0 (0 ≤ x5_1 ∧ 1 ≤ x7_2 ∧ 0 ≤ x5_2 ∧ x5_2 < x5_1 + x7_2 ∧ x7_2 ≤ (y106.length : Int) ∧ ∀ j : Nat, x7_2 ≤ (j : Int) + 1 → j < y106.length → x0_2[x5_1.toNat + j]? = y106[j]?))
          case atStart => exact ⟨(x0_1), (x5_1), (1), (by rfl), (by rfl), H', ⟨Nat.le_refl _⟩, ⟨HO_0.out⟩, ⟨HK.out⟩, ⟨HB.out⟩, ⟨⟨of_decide_eq_true (by with_reducible assumption), by omega, of_decide_eq_true (by with_reducible assumption), by omega, (by have h1_ := KY17.out; have h2_ : x5_1 < (x0_1.length : Int) := of_decide_eq_true (by with_reducible assumption); have h3_ : 0 ≤ x5_1 := of_decide_eq_true (by with_reducible assumption); omega), fun j h1 h2 => by rw [Ny106.out, List.getElem?_drop]⟩⟩⟩
          case round =>
           clear H'; try clear c6b0
           try clear c7b0
           try clear c9b0
           try clear c10b0
           try clear c13b0
           try clear c14b1
           try clear q17
           try clear hx103_0
           try clear hx103_1
           try clear hx103_2
           try clear hx104_0
           try clear hx104_1
           try clear hx104_2
           try clear p103
           try clear p104
           try clear q017
           try clear q103
           try clear q104
           obtain ⟨x0_2, x5_2, x7_2, rfl, rfl, HA, HK2, HO_0, HK, HB, HYL⟩ := hrel; have hl0_2 := (Kd.R_reads' HO_0.out).1; rw [hl0_2] at HO_0
           (try simp only [hl0_2])
           cases gk with
           | zero => exact absurd HA.out (by simp [api_Point.l1])
           | succ k2 =>
            have H := HA.out; clear HA; simp only [api_Point.l1] at H
            by_cases c18 : x7_2 < (y106.length : Int)
            ·
             rw [if_pos c18] at H; have c18b0 : decide (x7_2 < (y106.length : Int)) = true := decide_eq_true c18; clear c18
             by_cases c19 : 0 ≤ x7_2
             ·
              rw [if_pos c19] at H; have c19b0 : decide (0 ≤ x7_2) = true := decide_eq_true c19; clear c19
              obtain ⟨ji20, hji20⟩ : ∃ j_ : Int, (wrap64 (x7_2 - 1)) = j_ := ⟨_, rfl⟩
              replace H : (if 0 ≤ (ji20) then (if (ji20) < (y106.length : Int) then ((merge_Merge_1.f ((rd_T42 y106 x7_2).f0) ((rd_T42 y106 x7_2).f1) ((rd_T42 y106 x7_2).f2) ((rd_T42 y106 (ji20)).f0) ((rd_T42 y106 (ji20)).f1) ((rd_T42 y106 (ji20)).f2)).bind fun t112 => (if t112 = true then (api_Point.l1 k2 x0_2 x5_2 y106 (wrap64 (x7_2 + 1))) else (if 0 ≤ x5_2 then (if x5_2 < (x0_2.length : Int) then (api_Point.l1 k2 (x0_2.set (x5_2 : Int).toNat (⟨(rd_T42 y106 x7_2).f0, (rd_T42 y106 x7_2).f1, (rd_T42 y106 x7_2).f2⟩ : S42)) (wrap64 (x5_2 + 1)) y106 (wrap64 (x7_2 + 1))) else (none)) else (none)))) else (none)) else (none)) = some (r1, r2) := by (rw [hji20] at H; exact H)
              have hji20w : (IntKind.i64.wrap (x7_2 - 1)) = ji20 := (i64_w _).trans hji20
              by_cases c21 : 0 ≤ (ji20)
              ·
               rw [if_pos c21] at H; have c21b0 : decide (0 ≤ (ji20)) = true := decide_eq_true c21; clear c21
               by_cases c22 : (ji20) < (y106.length : Int)
               ·
                rw [if_pos c22] at H; have c22b0 : decide ((ji20) < (y106.length : Int)) = true := decide_eq_true c22; clear c22; replace H := Option.bind_eq_some_iff.mp H; obtain ⟨t112, A230, H⟩ := H; replace H : (if t112 = true then (api_Point.l1 k2 x0_2 x5_2 y106 (wrap64 (x7_2 + 1))) else (if 0 ≤ x5_2 then (if x5_2 < (x0_2.length : Int) then (api_Point.l1 k2 (x0_2.set (x5_2 : Int).toNat (⟨(rd_T42 y106 x7_2).f0, (rd_T42 y106 x7_2).f1, (rd_T42 y106 x7_2).f2⟩ : S42)) (wrap64 (x5_2 + 1)) y106 (wrap64 (x7_2 + 1))) else (none)) else (none))) = some (r1, r2) := H; have A23 := Aside0.mk A230; clear A230
                by_cases c24 : t112 = true
                ·
                 subst c24; have H1 : (api_Point.l1 k2 x0_2 x5_2 y106 (wrap64 (x7_2 + 1))) = some (r1, r2) := by rw [if_pos rfl] at H; exact H
                 clear H; have H := H1; clear H1; have H' := Aside0.mk H; clear H; try go_wp2
                 have n0_ := Aside0.mk (Kd.R_drew HO_0.out); have n1_ := Aside0.mk (Kept.drew HK.out); have n2_ := Aside0.mk (below_drew1 HB.out); clear HO_0; clear HK; clear HB; have HO_0 := n0_; have HK := n1_; have HB := n2_; clear n0_ n1_ n2_; have p110 : 0 ≤ (x7_2 : Int) := of_decide_eq_true (by with_reducible assumption); have q110 : x7_2 < (y106.length : Int) := of_decide_eq_true (by with_reducible assumption); obtain ⟨ad110, e110, hx110_0, hx110_1, hx110_2⟩ := at_T42 HR109.out x7_2 p110 q110; cases e110; have CC110 := Aside0.mk (fun (W : World) (ok : Nat → Prop) (n_ : Nat) (HR_ : Kd.R k42 42 W w0.heap.size ok (.slice (some ad103) n_ co5) x0_2) => cut_cell (y := y106) (Kd.R_reads' HR_).2.2 KA17.out (by have h1_ := KY17.out; have h2_ := HROOM.out; omega) HYL.out.1 (x7_2) p110 q110 (HYL.out.2.2.2.2.2 (x7_2).toNat (by have h1_ := HYL.out.2.1; omega) (by omega))); replace hx110_0 := (CC110.out _ _ _ HO_0.out).1; replace hx110_1 := (CC110.out _ _ _ HO_0.out).2.1; replace hx110_2 := (CC110.out _ _ _ HO_0.out).2.2; replace p110 := eq_true p110; replace q110 := eq_true q110; have p111 : 0 ≤ ((ji20) : Int) := of_decide_eq_true (by with_reducible assumption); have q111 : (ji20) < (y106.length : Int) := of_decide_eq_true (by with_reducible assumption); obtain ⟨ad111, e111, hx111_0, hx111_1, hx111_2⟩ := at_T42 HR109.out (ji20) p111 q111; have hj111 : (ji20) = x7_2 ∨ (ji20) = x7_2 - 1 := by have h1_ := HYL.out.2.1; have h2_ := (Kd.C_max HR109.out); have h3_ : x7_2 < (y106.length : Int) := of_decide_eq_true (by with_reducible assumption); exact .inr (by rw [← hji20]; unfold wrap64; omega)
                 have hw111_2 := hx111_2; have hw111_1 := hx111_1; have hw111_0 := hx111_0
                 obtain rfl : ad110 = ad111 := (by injection e111)
                 have CC111 := Aside0.mk (fun (W : World) (ok : Nat → Prop) (n_ : Nat) (HR_ : Kd.R k42 42 W w0.heap.size ok (.slice (some ad103) n_ co5) x0_2) => cut_cell (y := y106) (Kd.R_reads' HR_).2.2 KA17.out (by have h1_ := KY17.out; have h2_ := HROOM.out; omega) HYL.out.1 ((ji20)) p111 q111 (HYL.out.2.2.2.2.2 ((ji20)).toNat (by have h1_ := HYL.out.2.1; omega) (by omega))); replace hx111_0 := (CC111.out _ _ _ HO_0.out).1; replace hx111_1 := (CC111.out _ _ _ HO_0.out).2.1; replace hx111_2 := (CC111.out _ _ _ HO_0.out).2.2; replace p111 := eq_true p111; replace q111 := eq_true q111; refine start_ (n := 12) (S := fun w' => w'.cell? (ad110.add ((x7_2).toNat * 3)) = some (.int .i64 ((rd_T42 y106 x7_2).f0)) ∧ w'.cell? ⟨(ad110.add ((x7_2).toNat * 3)).block, (ad110.add ((x7_2).toNat * 3)).off + 1, none⟩ = some (.int .u64 ((rd_T42 y106 x7_2).f1)) ∧ w'.cell? ⟨(ad110.add ((x7_2).toNat * 3)).block, (ad110.add ((x7_2).toNat * 3)).off + 2, none⟩ = some (.int .u64 ((rd_T42 y106 x7_2).f2)) ∧ w'.cell? (ad110.add (((ji20)).toNat * 3)) = some (.int .i64 ((rd_T42 y106 (ji20)).f0)) ∧ w'.cell? ⟨(ad110.add (((ji20)).toNat * 3)).block, (ad110.add (((ji20)).toNat * 3)).off + 1, none⟩ = some (.int .u64 ((rd_T42 y106 (ji20)).f1)) ∧ w'.cell? ⟨(ad110.add (((ji20)).toNat * 3)).block, (ad110.add (((ji20)).toNat * 3)).off + 2, none⟩ = some (.int .u64 ((rd_T42 y106 (ji20)).f2))) (ds := []) (bs 12 0) (by kernel_rfl) rfl rfl ⟨((CC110.out _ _ _ HO_0.out).1), ((CC110.out _ _ _ HO_0.out).2.1), ((CC110.out _ _ _ HO_0.out).2.2), ((CC111.out _ _ _ HO_0.out).1), ((CC111.out _ _ _ HO_0.out).2.1), ((CC111.out _ _ _ HO_0.out).2.2)⟩ (fun hHeld => ?_); refine with_tabW api_Point.tab11 api_Point.bits11 (fun HT_ HW_ => ?_); generalize wr.drew = w25 at HO_0 HK HB hx110_0 hx110_1 hx110_2 hx111_0 hx111_1 hx111_2 hHeld ⊢; apply pv 0 38 (bs 12 1) HT_; rfl; rfl; kernel_rfl; exact qq; rfl; intro w'; go_simp; with_reducible rfl; simp only [zz]; rfl
                 apply pv 1 39 (bs 12 3) HT_; rfl; rfl; kernel_rfl; exact qq; rfl; intro w'; go_simp; with_reducible rfl; simp only [zz]; rfl
                 apply pv 2 40 (bs 12 7) HT_; rfl; rfl; kernel_rfl; exact qq; rfl; intro w'; go_simp; with_reducible rfl; simp only [zz]; rfl
                 apply pv 3 41 (bs 12 15) HT_; rfl; rfl; kernel_rfl; exact qq; rfl; intro w'; go_simp; with_reducible rfl; simp only [zz]; rfl
                 apply pv 5 43 (bs 12 47) HT_; rfl; rfl; kernel_rfl; exact qq; rfl; intro w'; go_simp; with_reducible rfl; simp only [zz]; rfl
                 apply pv 6 44 (bs 12 111) HT_; rfl; rfl; kernel_rfl; exact qq; rfl; intro w'; go_simp; with_reducible rfl; simp only [zz]; rfl
                 apply pv 7 45 (bs 12 239) HT_; rfl; rfl; kernel_rfl; exact qq; rfl; intro w'; go_simp; with_reducible rfl; simp only [zz]; rfl
                 apply pv 8 46 (bs 12 495) HT_; rfl; rfl; kernel_rfl; exact qq; rfl; intro w'; go_simp; with_reducible rfl; simp only [zz]; rfl
                 apply tb 4 42 (bs 12 511) HT_ HW_ hHeld; rfl; rfl; kernel_rfl; exact qq; rfl; rintro w' ⟨s0, s1, s2, s3, s4, s5⟩; go_simp; with_reducible rfl; simp only [zz]; rfl
                 apply tb 9 47 (bs 12 1023) HT_ HW_ hHeld; rfl; rfl; kernel_rfl; exact qq; rfl; rintro w' ⟨s0, s1, s2, s3, s4, s5⟩; go_simp; with_reducible rfl; simp only [zz]; rfl
                 refine one_ (i := 10) (N := some 48) (bs 12 2047) rfl rfl (one_of HT_.out (by kernel_rfl)) (by decide) (fun K hK => ?_)
                 (refine goesV_ Try.func55 (by kernel_rfl) rfl #[.agg #[.int .i64 ((rd_T42 y106 x7_2).f0), .int .u64 ((rd_T42 y106 x7_2).f1), .int .u64 ((rd_T42 y106 x7_2).f2)], .agg #[.int .i64 ((rd_T42 y106 (ji20)).f0), .int .u64 ((rd_T42 y106 (ji20)).f1), .int .u64 ((rd_T42 y106 (ji20)).f2)]] (by rfl) rfl rfl rfl (by (try simp only [List.map_toArray, List.map_cons, List.map_nil]); rfl) ?_)
                 with_reducible refine (merge_Merge_1.calls ((rd_T42 y106 x7_2).f0) ((rd_T42 y106 x7_2).f1) ((rd_T42 y106 x7_2).f2) ((rd_T42 y106 (ji20)).f0) ((rd_T42 y106 (ji20)).f1) ((rd_T42 y106 (ji20)).f2) true _ A23.out).mono ?_
                 rintro e w26 ⟨rfl, hb⟩; refine ⟨_, rfl, ?_⟩; have n0_ := Aside0.mk (Kd.R_below HO_0.out hb); have n1_ := Aside0.mk (Kept.below (S := (fun k_ => P0_ k_)) HK.out hb); have n2_ := Aside0.mk (below_step HB.out hb); clear HO_0; clear HK; clear HB; have HO_0 := n0_; have HK := n1_; have HB := n2_; clear n0_ n1_ n2_
                 (try clear hb)
                 (try clear hb2)
                 (try clear hk)
                 (try clear hi)
                 refine hK.out _ _ ⟨((CC110.out _ _ _ HO_0.out).1), ((CC110.out _ _ _ HO_0.out).2.1), ((CC110.out _ _ _ HO_0.out).2.2), ((CC111.out _ _ _ HO_0.out).1), ((CC111.out _ _ _ HO_0.out).2.1), ((CC111.out _ _ _ HO_0.out).2.2)⟩ (fun hHeld => ?_); clear hK K; refine norm_ (a' := ?_) ?_ ?_; rotate_left
                 ·
                  show Act.put _ (some 48) _ = _; simp only [Act.put, List.setIfInBounds_toArray, List.set_cons_zero, List.set_cons_succ, i64_w, i32_w]; rfl
                 apply pv 11 49 (bs 12 4095) HT_; rfl; rfl; kernel_rfl; exact qq; rfl; intro w'; go_simp; with_reducible rfl; simp only [zz]; rfl
                 refine done_ (done_of HT_.out (by kernel_rfl)) ?_; try go_wp2
                 (try simp only [← hl0_2])
                 go_roundg k2
                 case measure => have := HK1.out; have := HK2.out; omega
                 case rel => exact ⟨(x0_2), (x5_2), (wrap64 (x7_2 + 1)), (by rfl), (by rfl), H', ⟨by have := HK1.out; have := HK2.out; omega⟩, ⟨by (try simp only [hl0_2]); exact HO_0.out⟩, ⟨HK.out⟩, ⟨HB.out⟩, ⟨by have h1_ := HYL.out; have h2_ := Kd.C_max HR109.out; have h3_ : x7_2 < (y106.length : Int) := of_decide_eq_true (by with_reducible assumption); rw [show wrap64 (x7_2 + 1) = x7_2 + 1 from by unfold wrap64; omega]; exact ⟨h1_.1, by omega, h1_.2.2.1, by omega, by omega, fun j h4_ h5_ => h1_.2.2.2.2.2 j (by omega) h5_⟩⟩⟩
                ·
                 replace c24 := Bool.eq_false_iff.mpr c24; subst c24; have H1 : (if 0 ≤ x5_2 then (if x5_2 < (x0_2.length : Int) then (api_Point.l1 k2 (x0_2.set (x5_2 : Int).toNat (⟨(rd_T42 y106 x7_2).f0, (rd_T42 y106 x7_2).f1, (rd_T42 y106 x7_2).f2⟩ : S42)) (wrap64 (x5_2 + 1)) y106 (wrap64 (x7_2 + 1))) else (none)) else (none)) = some (r1, r2) := by rw [if_neg (show ¬ (false = true) by decide)] at H; exact H
                 clear H; have H := H1; clear H1
                 by_cases c27 : 0 ≤ x5_2
                 ·
                  rw [if_pos c27] at H; have c27b0 : decide (0 ≤ x5_2) = true := decide_eq_true c27; clear c27
                  by_cases c28 : x5_2 < (x0_2.length : Int)
                  ·
                   rw [if_pos c28] at H; have c28b0 : decide (x5_2 < (x0_2.length : Int)) = true := decide_eq_true c28; clear c28
                   obtain ⟨y114, hy114⟩ : ∃ y_ : List (S42), y_ = (x0_2.set (x5_2 : Int).toNat (⟨(rd_T42 y106 x7_2).f0, (rd_T42 y106 x7_2).f1, (rd_T42 y106 x7_2).f2⟩ : S42)) := ⟨_, rfl⟩
                   replace H : (api_Point.l1 k2 y114 (wrap64 (x5_2 + 1)) y106 (wrap64 (x7_2 + 1))) = some (r1, r2) := by (rw [hy114]; with_reducible exact H)
                   have Ny114 := Aside0.mk hy114; clear hy114; have H' := Aside0.mk H; clear H; try go_wp2
                   have n0_ := Aside0.mk (Kd.R_drew HO_0.out); have n1_ := Aside0.mk (Kept.drew HK.out); have n2_ := Aside0.mk (below_drew1 HB.out); clear HO_0; clear HK; clear HB; have HO_0 := n0_; have HK := n1_; have HB := n2_; clear n0_ n1_ n2_; have p110 : 0 ≤ (x7_2 : Int) := of_decide_eq_true (by with_reducible assumption); have q110 : x7_2 < (y106.length : Int) := of_decide_eq_true (by with_reducible assumption); obtain ⟨ad110, e110, hx110_0, hx110_1, hx110_2⟩ := at_T42 HR109.out x7_2 p110 q110; cases e110; have CC110 := Aside0.mk (fun (W : World) (ok : Nat → Prop) (n_ : Nat) (HR_ : Kd.R k42 42 W w0.heap.size ok (.slice (some ad103) n_ co5) x0_2) => cut_cell (y := y106) (Kd.R_reads' HR_).2.2 KA17.out (by have h1_ := KY17.out; have h2_ := HROOM.out; omega) HYL.out.1 (x7_2) p110 q110 (HYL.out.2.2.2.2.2 (x7_2).toNat (by have h1_ := HYL.out.2.1; omega) (by omega))); replace hx110_0 := (CC110.out _ _ _ HO_0.out).1; replace hx110_1 := (CC110.out _ _ _ HO_0.out).2.1; replace hx110_2 := (CC110.out _ _ _ HO_0.out).2.2; replace p110 := eq_true p110; replace q110 := eq_true q110; have p111 : 0 ≤ ((ji20) : Int) := of_decide_eq_true (by with_reducible assumption); have q111 : (ji20) < (y106.length : Int) := of_decide_eq_true (by with_reducible assumption); obtain ⟨ad111, e111, hx111_0, hx111_1, hx111_2⟩ := at_T42 HR109.out (ji20) p111 q111; have hj111 : (ji20) = x7_2 ∨ (ji20) = x7_2 - 1 := by have h1_ := HYL.out.2.1; have h2_ := (Kd.C_max HR109.out); have h3_ : x7_2 < (y106.length : Int) := of_decide_eq_true (by with_reducible assumption); exact .inr (by rw [← hji20]; unfold wrap64; omega)
                   have hw111_2 := hx111_2; have hw111_1 := hx111_1; have hw111_0 := hx111_0
                   obtain rfl : ad110 = ad111 := (by injection e111)
                   have CC111 := Aside0.mk (fun (W : World) (ok : Nat → Prop) (n_ : Nat) (HR_ : Kd.R k42 42 W w0.heap.size ok (.slice (some ad103) n_ co5) x0_2) => cut_cell (y := y106) (Kd.R_reads' HR_).2.2 KA17.out (by have h1_ := KY17.out; have h2_ := HROOM.out; omega) HYL.out.1 ((ji20)) p111 q111 (HYL.out.2.2.2.2.2 ((ji20)).toNat (by have h1_ := HYL.out.2.1; omega) (by omega))); replace hx111_0 := (CC111.out _ _ _ HO_0.out).1; replace hx111_1 := (CC111.out _ _ _ HO_0.out).2.1; replace hx111_2 := (CC111.out _ _ _ HO_0.out).2.2; replace p111 := eq_true p111; replace q111 := eq_true q111; refine start_ (n := 12) (S := fun w' => w'.cell? (ad110.add ((x7_2).toNat * 3)) = some (.int .i64 ((rd_T42 y106 x7_2).f0)) ∧ w'.cell? ⟨(ad110.add ((x7_2).toNat * 3)).block, (ad110.add ((x7_2).toNat * 3)).off + 1, none⟩ = some (.int .u64 ((rd_T42 y106 x7_2).f1)) ∧ w'.cell? ⟨(ad110.add ((x7_2).toNat * 3)).block, (ad110.add ((x7_2).toNat * 3)).off + 2, none⟩ = some (.int .u64 ((rd_T42 y106 x7_2).f2)) ∧ w'.cell? (ad110.add (((ji20)).toNat * 3)) = some (.int .i64 ((rd_T42 y106 (ji20)).f0)) ∧ w'.cell? ⟨(ad110.add (((ji20)).toNat * 3)).block, (ad110.add (((ji20)).toNat * 3)).off + 1, none⟩ = some (.int .u64 ((rd_T42 y106 (ji20)).f1)) ∧ w'.cell? ⟨(ad110.add (((ji20)).toNat * 3)).block, (ad110.add (((ji20)).toNat * 3)).off + 2, none⟩ = some (.int .u64 ((rd_T42 y106 (ji20)).f2))) (ds := []) (bs 12 0) (by kernel_rfl) rfl rfl ⟨((CC110.out _ _ _ HO_0.out).1), ((CC110.out _ _ _ HO_0.out).2.1), ((CC110.out _ _ _ HO_0.out).2.2), ((CC111.out _ _ _ HO_0.out).1), ((CC111.out _ _ _ HO_0.out).2.1), ((CC111.out _ _ _ HO_0.out).2.2)⟩ (fun hHeld => ?_); refine with_tabW api_Point.tab11 api_Point.bits11 (fun HT_ HW_ => ?_); generalize wr.drew = w30 at HO_0 HK HB hx110_0 hx110_1 hx110_2 hx111_0 hx111_1 hx111_2 hHeld ⊢; apply pv 0 38 (bs 12 1) HT_; rfl; rfl; kernel_rfl; exact qq; rfl; intro w'; go_simp; with_reducible rfl; simp only [zz]; rfl
                   apply pv 1 39 (bs 12 3) HT_; rfl; rfl; kernel_rfl; exact qq; rfl; intro w'; go_simp; with_reducible rfl; simp only [zz]; rfl
                   apply pv 2 40 (bs 12 7) HT_; rfl; rfl; kernel_rfl; exact qq; rfl; intro w'; go_simp; with_reducible rfl; simp only [zz]; rfl
                   apply pv 3 41 (bs 12 15) HT_; rfl; rfl; kernel_rfl; exact qq; rfl; intro w'; go_simp; with_reducible rfl; simp only [zz]; rfl
                   apply pv 5 43 (bs 12 47) HT_; rfl; rfl; kernel_rfl; exact qq; rfl; intro w'; go_simp; with_reducible rfl; simp only [zz]; rfl
                   apply pv 6 44 (bs 12 111) HT_; rfl; rfl; kernel_rfl; exact qq; rfl; intro w'; go_simp; with_reducible rfl; simp only [zz]; rfl
                   apply pv 7 45 (bs 12 239) HT_; rfl; rfl; kernel_rfl; exact qq; rfl; intro w'; go_simp; with_reducible rfl; simp only [zz]; rfl
                   apply pv 8 46 (bs 12 495) HT_; rfl; rfl; kernel_rfl; exact qq; rfl; intro w'; go_simp; with_reducible rfl; simp only [zz]; rfl
                   apply tb 4 42 (bs 12 511) HT_ HW_ hHeld; rfl; rfl; kernel_rfl; exact qq; rfl; rintro w' ⟨s0, s1, s2, s3, s4, s5⟩; go_simp; with_reducible rfl; simp only [zz]; rfl
                   apply tb 9 47 (bs 12 1023) HT_ HW_ hHeld; rfl; rfl; kernel_rfl; exact qq; rfl; rintro w' ⟨s0, s1, s2, s3, s4, s5⟩; go_simp; with_reducible rfl; simp only [zz]; rfl
                   refine one_ (i := 10) (N := some 48) (bs 12 2047) rfl rfl (one_of HT_.out (by kernel_rfl)) (by decide) (fun K hK => ?_)
                   (refine goesV_ Try.func55 (by kernel_rfl) rfl #[.agg #[.int .i64 ((rd_T42 y106 x7_2).f0), .int .u64 ((rd_T42 y106 x7_2).f1), .int .u64 ((rd_T42 y106 x7_2).f2)], .agg #[.int .i64 ((rd_T42 y106 (ji20)).f0), .int .u64 ((rd_T42 y106 (ji20)).f1), .int .u64 ((rd_T42 y106 (ji20)).f2)]] (by rfl) rfl rfl rfl (by (try simp only [List.map_toArray, List.map_cons, List.map_nil]); rfl) ?_)
                   with_reducible refine (merge_Merge_1.calls ((rd_T42 y106 x7_2).f0) ((rd_T42 y106 x7_2).f1) ((rd_T42 y106 x7_2).f2) ((rd_T42 y106 (ji20)).f0) ((rd_T42 y106 (ji20)).f1) ((rd_T42 y106 (ji20)).f2) false _ A23.out).mono ?_
                   rintro e w31 ⟨rfl, hb⟩; refine ⟨_, rfl, ?_⟩; have n0_ := Aside0.mk (Kd.R_below HO_0.out hb); have n1_ := Aside0.mk (Kept.below (S := (fun k_ => P0_ k_)) HK.out hb); have n2_ := Aside0.mk (below_step HB.out hb); clear HO_0; clear HK; clear HB; have HO_0 := n0_; have HK := n1_; have HB := n2_; clear n0_ n1_ n2_
                   (try clear hb)
                   (try clear hb2)
                   (try clear hk)
                   (try clear hi)
                   refine hK.out _ _ ⟨((CC110.out _ _ _ HO_0.out).1), ((CC110.out _ _ _ HO_0.out).2.1), ((CC110.out _ _ _ HO_0.out).2.2), ((CC111.out _ _ _ HO_0.out).1), ((CC111.out _ _ _ HO_0.out).2.1), ((CC111.out _ _ _ HO_0.out).2.2)⟩ (fun hHeld => ?_); clear hK K; refine norm_ (a' := ?_) ?_ ?_; rotate_left
                   ·
                    show Act.put _ (some 48) _ = _; simp only [Act.put, List.setIfInBounds_toArray, List.set_cons_zero, List.set_cons_succ, i64_w, i32_w]; rfl
                   apply pv 11 49 (bs 12 4095) HT_; rfl; rfl; kernel_rfl; exact qq; rfl; intro w'; go_simp; with_reducible rfl; simp only [zz]; rfl
                   refine done_ (done_of HT_.out (by kernel_rfl)) ?_; have p113 : 0 ≤ (x7_2 : Int) := of_decide_eq_true (by with_reducible assumption); have q113 : x7_2 < (y106.length : Int) := of_decide_eq_true (by with_reducible assumption); obtain ⟨ad113, e113, hx113_0, hx113_1, hx113_2⟩ := at_T42 HR109.out x7_2 p113 q113
                   obtain rfl : ad110 = ad113 := (by injection e113)
                   have CC113 := Aside0.mk (fun (W : World) (ok : Nat → Prop) (n_ : Nat) (HR_ : Kd.R k42 42 W w0.heap.size ok (.slice (some ad103) n_ co5) x0_2) => cut_cell (y := y106) (Kd.R_reads' HR_).2.2 KA17.out (by have h1_ := KY17.out; have h2_ := HROOM.out; omega) HYL.out.1 (x7_2) p113 q113 (HYL.out.2.2.2.2.2 (x7_2).toNat (by have h1_ := HYL.out.2.1; omega) (by omega))); replace hx113_0 := (CC113.out _ _ _ HO_0.out).1; replace hx113_1 := (CC113.out _ _ _ HO_0.out).2.1; replace hx113_2 := (CC113.out _ _ _ HO_0.out).2.2; replace p113 := eq_true p113; replace q113 := eq_true q113; have p29 : 0 ≤ (x5_2 : Int) := of_decide_eq_true (by with_reducible assumption); have q29 : (x5_2 : Int) < ((x0_2.length : Int) : Int) := of_decide_eq_true (by with_reducible assumption); obtain ⟨go29, co29, eo29, gb29, gl29, cl29, HG29⟩ := Kd.R_form HO_0.out (by omega)
                   ((cases eo29))
                   have GB29 := Aside0.mk gb29; clear gb29 gl29 HG29
                   ((skip))
                   ((skip))
                   ((skip))
                   ((skip))
                   ((skip))
                   ((skip))
                   obtain ⟨ce29, hcl29, hM29, hcc29, hfr29⟩ := Kd.R_elem HO_0.out z42 (x5_2 : Int) p29 q29; obtain rfl := k42_openM hM29; have hx29_0 : w31.cell? ⟨go29, (x5_2 : Int).toNat * 3, none⟩ = some (.int .i64 ((rd_T42 x0_2 x5_2).f0)) := hcc29 0 _ rfl; have hx29_1 : w31.cell? ⟨go29, (x5_2 : Int).toNat * 3 + 1, none⟩ = some (.int .u64 ((rd_T42 x0_2 x5_2).f1)) := hcc29 1 _ rfl; have hx29_2 : w31.cell? ⟨go29, (x5_2 : Int).toNat * 3 + 2, none⟩ = some (.int .u64 ((rd_T42 x0_2 x5_2).f2)) := hcc29 2 _ rfl; have hf29_0 : w31.frozen? ⟨go29, (x5_2 : Int).toNat * 3, none⟩ = false := hfr29 0; have hf29_1 : w31.frozen? ⟨go29, (x5_2 : Int).toNat * 3 + 1, none⟩ = false := hfr29 1; have hf29_2 : w31.frozen? ⟨go29, (x5_2 : Int).toNat * 3 + 2, none⟩ = false := hfr29 2; clear hcl29 hcc29 hfr29 hM29; replace p29 := eq_true p29; replace q29 := eq_true q29; have HX32 := Aside0.mk (show Kd.R k42 42 w31 w0.heap.size (fun k_ => (P0_ k_ ∨ w.heap.size ≤ k_)) (.slice (some ⟨go29, 0, none⟩) x0_2.length co5) x0_2 from HO_0.out); obtain ⟨ce32, hcl32, hM32, hcc32, hfr32⟩ := Kd.R_elem HX32.out z42 (x5_2 : Int) (of_decide_eq_true (by with_reducible assumption)) (by have h_ : (x5_2 : Int) < ((x0_2.length : Int) : Int) := of_decide_eq_true (by with_reducible assumption); exact h_); obtain rfl := k42_openM hM32; have HP32 := Kd.R_seg HX32.out (x5_2 : Int) (of_decide_eq_true (by with_reducible assumption)) (by have h_ : (x5_2 : Int) < ((x0_2.length : Int) : Int) := of_decide_eq_true (by with_reducible assumption); exact h_) (seg := [.int .i64 ((rd_T42 y106 x7_2).f0), .int .u64 ((rd_T42 y106 x7_2).f1), .int .u64 ((rd_T42 y106 x7_2).f2)]) (j := 0) hcl32 hcc32 (show 3 ≤ 3 from by decide) (x' := (⟨(rd_T42 y106 x7_2).f0, (rd_T42 y106 x7_2).f1, (rd_T42 y106 x7_2).f2⟩ : S42)) (k42_mkM _ _ _ (⟨(rd_T42 y106 x7_2).f0, (rd_T42 y106 x7_2).f1, (rd_T42 y106 x7_2).f2⟩ : S42) ) (fun _ hk => hk); have hx32_0 := hcc32 0 _ rfl
                   (try simp only [show (k42).sz = 3 from rfl, Nat.mul_one, Nat.add_zero] at hx32_0)
                   have hf32_0 := hfr32 0
                   (try simp only [show (k42).sz = 3 from rfl, Nat.mul_one, Nat.add_zero] at hf32_0)
                   have hx32_1 := hcc32 1 _ rfl
                   (try simp only [show (k42).sz = 3 from rfl, Nat.mul_one, Nat.add_zero] at hx32_1)
                   have hf32_1 := hfr32 1
                   (try simp only [show (k42).sz = 3 from rfl, Nat.mul_one, Nat.add_zero] at hf32_1)
                   have hx32_2 := hcc32 2 _ rfl
                   (try simp only [show (k42).sz = 3 from rfl, Nat.mul_one, Nat.add_zero] at hx32_2)
                   have hf32_2 := hfr32 2
                   (try simp only [show (k42).sz = 3 from rfl, Nat.mul_one, Nat.add_zero] at hf32_2)
                   clear hcl32 hcc32 hfr32 hM32
                   try go_wp2_with (((with_reducible refine gate_store (t := 42) (p := 56) rfl ?_); refine store_event (t := 42) (p := 56) (v := ?vo_w33) (w1 := (((w31.setCell ⟨go29, (x5_2 : Int).toNat * 3, none⟩ (.int .i64 ((rd_T42 y106 x7_2).f0))).setCell ⟨go29, (x5_2 : Int).toNat * 3 + 1, none⟩ (.int .u64 ((rd_T42 y106 x7_2).f1))).setCell ⟨go29, (x5_2 : Int).toNat * 3 + 2, none⟩ (.int .u64 ((rd_T42 y106 x7_2).f2)))) ?hg ?ho ?hn ?hr ?_; (case ho => rfl); (case hg => rfl); (case hn => rfl); (case hr => go_simp; done); intro w33 hw; have hg : w31.grownBy w33 (some go29) := (by rw [hw]; exact HP32.2); have hp_ : Kd.R k42 42 w33 w0.heap.size (fun k_ => (P0_ k_ ∨ w.heap.size ≤ k_)) (.slice (some ⟨go29, 0, none⟩) x0_2.length co5) y114 := (by rw [hw, Ny114.out]; exact HP32.1); clear HP32; have n0_ := Aside0.mk (hp_); have n1_ := Aside0.mk ((by rw [hw]; exact below_set (below_set (below_set (HB.out) GB29.out) GB29.out) GB29.out : Below w0.heap.size w0 w33)); have n2_ := Aside0.mk (Kept.of_grown (S := (fun k_ => P0_ k_)) hg HK.out (fun k_ e_ => (HO_0.out.1 k_ e_))); clear HO_0; clear HB; clear HK; have HO_0 := n0_; have HB := n1_; have HK := n2_; clear n0_ n1_ n2_; clear hg hw hp_))
                   (try simp only [← hl0_2])
                   go_roundg k2
                   case measure => have := HK1.out; have := HK2.out; omega
                   case rel => exact ⟨(y114), (wrap64 (x5_2 + 1)), (wrap64 (x7_2 + 1)), (by rfl), (by rfl), H', ⟨by have := HK1.out; have := HK2.out; omega⟩, ⟨by (try simp only [hl0_2]); exact HO_0.out⟩, ⟨HK.out⟩, ⟨HB.out⟩, ⟨by have h1_ := HYL.out; have h2_ := Kd.C_max HR109.out; have h3_ : x7_2 < (y106.length : Int) := of_decide_eq_true (by with_reducible assumption); have h6_ : x5_2 < (x0_2.length : Int) := of_decide_eq_true (by with_reducible assumption); have h7_ := Kd.C_max (Kd.R_reads' HO_0.out).2.2; have h8_ : y114.length = x0_2.length := (by rw [Ny114.out, List.length_set]); rw [show wrap64 (x7_2 + 1) = x7_2 + 1 from by unfold wrap64; omega, show wrap64 (x5_2 + 1) = x5_2 + 1 from by unfold wrap64; omega]; exact ⟨h1_.1, by omega, by omega, by omega, by omega, fun j h4_ h5_ => by rw [Ny114.out, List.getElem?_set_ne (by omega)]; exact h1_.2.2.2.2.2 j (by omega) h5_⟩⟩⟩
                  ·
                   rw [if_neg c28] at H; exact absurd H (by simp)
                 ·
                  rw [if_neg c27] at H; exact absurd H (by simp)
               ·
                rw [if_neg c22] at H; exact absurd H (by simp)
              ·
               rw [if_neg c21] at H; exact absurd H (by simp)
             ·
              rw [if_neg c19] at H; exact absurd H (by simp)
            ·
             rw [if_neg c18] at H; have c18b0 : decide (x7_2 < (y106.length : Int)) = false := decide_eq_false c18; clear c18
             by_cases c34 : 0 ≤ x5_2
             ·
              rw [if_pos c34] at H; have c34b1 : decide (0 ≤ x5_2) = true := decide_eq_true c34; clear c34
              by_cases c35 : x5_2 ≤ (x0_2.length : Int)
              ·
               rw [if_pos c35] at H; have c35b1 : decide (x5_2 ≤ (x0_2.length : Int)) = true := decide_eq_true c35; clear c35
               obtain ⟨y115, hy115⟩ : ∃ y_ : List (S42), y_ = (x0_2.drop (x5_2 : Int).toNat) := ⟨_, rfl⟩
               replace H : (some (x5_2, x0_2)) = some (r1, r2) := by (have H2_ := (Option.bind_some _ _).symm.trans H; with_reducible exact H2_)
               have Ny115 := Aside0.mk hy115; clear hy115
               obtain ⟨y119, hy119⟩ : ∃ y_ : List (S42), y_ = (x0_2.take (x5_2 : Int).toNat) := ⟨_, rfl⟩
               replace H : (some (x5_2, x0_2)) = some (r1, r2) := by (have H2_ := (Option.bind_some _ _).symm.trans H; with_reducible exact H2_)
               have Ny119 := Aside0.mk hy119; clear hy119; simp only [Option.some.injEq, Prod.mk.injEq] at H; obtain ⟨rfl, rfl⟩ := H; have q38 : (x5_2 : Int) ≤ ((x0_2.length : Int) : Int) := of_decide_eq_true (by with_reducible assumption); obtain ⟨i038, hi038, _, hsz38, _⟩ := info_parts info42; have hroom38 : x0_2.length ≤ co5 := (Kd.R_reads' HO_0.out).2.1; have hC38 : Kd.C k42 _ (some ad103) x0_2.length x0_2 := (Kd.R_reads' HO_0.out).2.2; have q038 : (0 : Int) ≤ (x5_2 : Int) := of_decide_eq_true (by with_reducible assumption); have hcut38 := cut_from (P := Try.prog) 44 42 .i64 Try.underlying44 hi038 3 hsz38 (some ad103) x0_2.length co5 x5_2 q038 q38; have hr38 := Kd.C_drop (m := (x5_2 : Int).toNat) (c := co5) hC38 (by omega) hroom38
               obtain ⟨A38, hA38⟩ : ∃ A1, A1 = (if co5 = (x5_2 : Int).toNat then (some ad103) else ((some ad103) : Option Addr).map (·.add ((x5_2 : Int).toNat * 3))) := ⟨_, rfl⟩
               obtain ⟨c38, hc38⟩ : ∃ c1, c1 = co5 - (x5_2 : Int).toNat := ⟨_, rfl⟩
               have hy38 : y115.length = x0_2.length - (x5_2 : Int).toNat := (by rw [Ny115.out, List.length_drop] <;> omega)
               rw [show (x0_2).drop (x5_2 : Int).toNat = y115 from Ny115.out.symm] at hr38
               replace hr38 : Kd.C k42 _ A38 y115.length y115 := (by rw [hA38]; exact hr38)
               rw [← hy38, ← hA38, ← hc38] at hcut38; have HR118 := Aside0.mk hr38; clear hr38 hC38 hroom38 hi038 hsz38 hc38; have KY38 := Aside0.mk hy38; have KA38 := Aside0.mk hA38; clear hy38 hA38; replace q38 := eq_true q38; have q39 : (x5_2 : Int) ≤ ((x0_2.length : Int) : Int) := of_decide_eq_true (by with_reducible assumption); obtain ⟨i039, hi039, _, hsz39, _⟩ := info_parts info42; have hroom39 : x0_2.length ≤ co5 := (Kd.R_reads' HO_0.out).2.1; have hC39 : Kd.C k42 _ (some ad103) x0_2.length x0_2 := (Kd.R_reads' HO_0.out).2.2; have hcut39 := cut_to (P := Try.prog) 44 42 .i64 Try.underlying44 hi039 (some ad103) x0_2.length co5 x5_2 (of_decide_eq_true (by with_reducible assumption)) q39 hroom39; have hr39 := Kd.C_take (m := (x5_2 : Int).toNat) hC39 (by omega)
               have hy39 : y119.length = (x5_2 : Int).toNat := (by rw [Ny119.out, List.length_take]; omega)
               rw [← Ny119.out] at hr39; rw [← hy39] at hcut39; have HR122 := Aside0.mk hr39; clear hr39 hC39 hroom39 hi039 hsz39; have KY39 := Aside0.mk hy39; clear hy39; replace q39 := eq_true q39
               have hlt_ : x5_2 < (x0_2.length : Int) ∧ 0 ≤ x5_2 := by
                have h1_ := HYL.out; have h2_ := KY17.out; have h3_ : ¬ (x7_2 < (y106.length : Int)) := of_decide_eq_false (by with_reducible assumption); have h4_ : 0 ≤ x5_1 := h1_.1; have h5_ := (Kd.R_reads' HO_0.out).1
                constructor <;> omega
               obtain ⟨gz_, cz_, ez_, hbz_, hlz_, _⟩ := Kd.R_form HO_0.out (by omega); obtain ⟨ez1_, ez2_⟩ : ad103 = ⟨gz_, 0, none⟩ ∧ True := by injection ez_ with z1_ z2_ z3_; injection z1_ with z4_; exact ⟨z4_, trivial⟩
               have ha_ := KA38.out; have hroom_ := (Kd.R_reads' HO_0.out).2.1; rw [if_neg (by omega), ez1_] at ha_; simp only [Option.map_some, Addr.add_lit, Nat.zero_add] at ha_
               obtain ⟨vs_, hvs_⟩ : ∃ vs, (Builtin.zeroCells #[Value.int .i64 0, .int .u64 0, .int .u64 0] y115.length).toList = vs := ⟨_, rfl⟩
               have HOZ := HO_0.out; rw [ez1_] at HOZ
               have hcl_ : ∀ ty W, Kd.R k42 42 W w0.heap.size (fun k_ => P0_ k_ ∨ w.heap.size ≤ k_) (.slice (some ⟨gz_, 0, none⟩) x0_2.length co5) x0_2 → (Builtin.clear_ #[44] ty #[.slice (some ⟨gz_, (x5_2 : Int).toNat * 3, none⟩) y115.length c38]).run Try.prog W = .ok (.tuple #[]) (W.setCells gz_ ((x5_2 : Int).toNat * 3) vs_) := fun ty W HW_ => by
                rw [← hvs_]; have hy_ := KY38.out; refine run_clear_row W 44 42 ty (.agg #[.int .i64 0, .int .u64 0, .int .u64 0]) _ (by kernel_rfl) (fun w => by kernel_rfl) rfl (by decide +kernel) gz_ _ _ _ (by omega) (fun t ht => ?_) (fun t ht => ?_)
                all_goals
                 have ht3 : t < y115.length * 3 := ht; obtain ⟨c_, hcl2_, hM_, hcc_, hfr_⟩ := Kd.R_elem HW_ z42 (((x5_2 : Int).toNat + t / 3 : Nat) : Int) (by omega) (by omega); rw [Int.toNat_natCast] at hM_ hcc_ hfr_; obtain rfl := k42_openM hM_
                ·
                 have h3_ : t % 3 < 3 := Nat.mod_lt _ (by omega); have := hcc_ (t % 3) _ (List.getElem?_eq_getElem (by simpa using h3_)); rw [show k42.sz = 3 from rfl, show ((x5_2 : Int).toNat + t / 3) * 3 + t % 3 = (x5_2 : Int).toNat * 3 + t from by omega] at this; rw [this]; rfl
                ·
                 have := hfr_ (t % 3); rw [show k42.sz = 3 from rfl, show ((x5_2 : Int).toNat + t / 3) * 3 + t % 3 = (x5_2 : Int).toNat * 3 + t from by omega] at this; exact this
               have hclr_ := fun ty => hcl_ ty _ HOZ; have ht_ := Kd.R_take (m := (x5_2 : Int).toNat) HOZ (by omega); rw [← KY39.out] at ht_; obtain ⟨hfin1_, hgr_⟩ := Past.R_past vs_ ((x5_2 : Int).toNat * 3) _ ht_ (by rw [List.length_take, show k42.sz = 3 from rfl]; have := KY39.out; omega); have e_ : x0_2.take y119.length = x0_2.take (x5_2 : Int).toNat := by rw [KY39.out]
               rw [e_] at hfin1_; have hbel1_ := HB.out.grown hgr_ HB.out.size (fun k_ hk_ => by injection hk_ with hk_; omega); have HFIN := Aside0.mk hfin1_; have HBEL := Aside0.mk hbel1_; have HLT := Aside0.mk hlt_; subst ha_; subst ez1_; clear hcl_ HOZ ht_ e_ hgr_ hfin1_ hbel1_ hvs_ hlt_ ez_ ez2_ hbz_ hlz_ hroom_; go_wp2; go_ret; have hfin_ := HFIN.out; have hbel_ := HBEL.out; have hlt_ := HLT.out; exact ⟨_, rfl, hfin_, hbel_⟩
              ·
               rw [if_neg c35] at H; exact absurd H (by simp)
             ·
              rw [if_neg c34] at H; exact absurd H (by simp)
         ·
          rw [if_neg c14] at H; exact absurd H (by simp)
        ·
         replace c12 := Bool.eq_false_iff.mpr c12; subst c12; have H1 : (api_Point.l0 k1 x0_1 (wrap64 (x5_1 + 1))) = some (r1, r2) := by rw [if_neg (show ¬ (false = true) by decide)] at H; exact H
         clear H; have H := H1; clear H1; have H' := Aside0.mk H; clear H; try go_wp2
         have n0_ := Aside0.mk (Kd.R_drew HO_0.out); have n1_ := Aside0.mk (Kept.drew HK.out); have n2_ := Aside0.mk (below_drew1 HB.out); clear HO_0; clear HK; clear HB; have HO_0 := n0_; have HK := n1_; have HB := n2_; clear n0_ n1_ n2_; have p103 : 0 ≤ (x5_1 : Int) := of_decide_eq_true (by with_reducible assumption); have q103 : x5_1 < (x0_1.length : Int) := of_decide_eq_true (by with_reducible assumption); obtain ⟨ad103, e103, hx103_0, hx103_1, hx103_2⟩ := at_T42 (Kd.R_reads' HO_0.out).2.2 x5_1 p103 q103; cases e103; replace p103 := eq_true p103; replace q103 := eq_true q103; have p104 : 0 ≤ ((ji8) : Int) := of_decide_eq_true (by with_reducible assumption); have q104 : (ji8) < (x0_1.length : Int) := of_decide_eq_true (by with_reducible assumption); obtain ⟨ad104, e104, hx104_0, hx104_1, hx104_2⟩ := at_T42 (Kd.R_reads' HO_0.out).2.2 (ji8) p104 q104
         obtain rfl : ad103 = ad104 := (by injection e104)
         replace p104 := eq_true p104; replace q104 := eq_true q104; refine start_ (n := 11) (S := fun w' => w'.cell? (ad103.add ((x5_1).toNat * 3)) = some (.int .i64 ((rd_T42 x0_1 x5_1).f0)) ∧ w'.cell? ⟨(ad103.add ((x5_1).toNat * 3)).block, (ad103.add ((x5_1).toNat * 3)).off + 1, none⟩ = some (.int .u64 ((rd_T42 x0_1 x5_1).f1)) ∧ w'.cell? ⟨(ad103.add ((x5_1).toNat * 3)).block, (ad103.add ((x5_1).toNat * 3)).off + 2, none⟩ = some (.int .u64 ((rd_T42 x0_1 x5_1).f2)) ∧ w'.cell? (ad103.add (((ji8)).toNat * 3)) = some (.int .i64 ((rd_T42 x0_1 (ji8)).f0)) ∧ w'.cell? ⟨(ad103.add (((ji8)).toNat * 3)).block, (ad103.add (((ji8)).toNat * 3)).off + 1, none⟩ = some (.int .u64 ((rd_T42 x0_1 (ji8)).f1)) ∧ w'.cell? ⟨(ad103.add (((ji8)).toNat * 3)).block, (ad103.add (((ji8)).toNat * 3)).off + 2, none⟩ = some (.int .u64 ((rd_T42 x0_1 (ji8)).f2))) (ds := []) (bs 11 0) (by kernel_rfl) rfl rfl ⟨hx103_0, hx103_1, hx103_2, hx104_0, hx104_1, hx104_2⟩ (fun hHeld => ?_); refine with_tabW api_Point.tab6 api_Point.bits6 (fun HT_ HW_ => ?_); generalize wr.drew = w40 at HO_0 HK HB hx103_0 hx103_1 hx103_2 hx104_0 hx104_1 hx104_2 hHeld ⊢; apply pv 0 18 (bs 11 1) HT_; rfl; rfl; kernel_rfl; exact qq; rfl; intro w'; go_simp; with_reducible rfl; simp only [zz]; rfl
         apply pv 1 19 (bs 11 3) HT_; rfl; rfl; kernel_rfl; exact qq; rfl; intro w'; go_simp; with_reducible rfl; simp only [zz]; rfl
         apply pv 2 20 (bs 11 7) HT_; rfl; rfl; kernel_rfl; exact qq; rfl; intro w'; go_simp; with_reducible rfl; simp only [zz]; rfl
         apply pv 3 21 (bs 11 15) HT_; rfl; rfl; kernel_rfl; exact qq; rfl; intro w'; go_simp; with_reducible rfl; simp only [zz]; rfl
         apply pv 5 23 (bs 11 47) HT_; rfl; rfl; kernel_rfl; exact qq; rfl; intro w'; go_simp; with_reducible rfl; simp only [zz]; rfl
         apply pv 6 24 (bs 11 111) HT_; rfl; rfl; kernel_rfl; exact qq; rfl; intro w'; go_simp; with_reducible rfl; simp only [zz]; rfl
         apply pv 7 25 (bs 11 239) HT_; rfl; rfl; kernel_rfl; exact qq; rfl; intro w'; go_simp; with_reducible rfl; simp only [zz]; rfl
         apply pv 8 26 (bs 11 495) HT_; rfl; rfl; kernel_rfl; exact qq; rfl; intro w'; go_simp; with_reducible rfl; simp only [zz]; rfl
         apply tb 4 22 (bs 11 511) HT_ HW_ hHeld; rfl; rfl; kernel_rfl; exact qq; rfl; rintro w' ⟨s0, s1, s2, s3, s4, s5⟩; go_simp; with_reducible rfl; simp only [zz]; rfl
         apply tb 9 27 (bs 11 1023) HT_ HW_ hHeld; rfl; rfl; kernel_rfl; exact qq; rfl; rintro w' ⟨s0, s1, s2, s3, s4, s5⟩; go_simp; with_reducible rfl; simp only [zz]; rfl
         refine one_ (i := 10) (N := some 28) (bs 11 2047) rfl rfl (one_of HT_.out (by kernel_rfl)) (by decide) (fun K hK => ?_)
         (refine goesV_ Try.func55 (by kernel_rfl) rfl #[.agg #[.int .i64 ((rd_T42 x0_1 x5_1).f0), .int .u64 ((rd_T42 x0_1 x5_1).f1), .int .u64 ((rd_T42 x0_1 x5_1).f2)], .agg #[.int .i64 ((rd_T42 x0_1 (ji8)).f0), .int .u64 ((rd_T42 x0_1 (ji8)).f1), .int .u64 ((rd_T42 x0_1 (ji8)).f2)]] (by rfl) rfl rfl rfl (by (try simp only [List.map_toArray, List.map_cons, List.map_nil]); rfl) ?_)
         with_reducible refine (merge_Merge_1.calls ((rd_T42 x0_1 x5_1).f0) ((rd_T42 x0_1 x5_1).f1) ((rd_T42 x0_1 x5_1).f2) ((rd_T42 x0_1 (ji8)).f0) ((rd_T42 x0_1 (ji8)).f1) ((rd_T42 x0_1 (ji8)).f2) false _ A11.out).mono ?_
         rintro e w41 ⟨rfl, hb⟩; have HS0_ := (hb.cell (World.block_lt_of_cell? _ _ (hHeld.1))).trans (hHeld.1); have HS1_ := (hb.cell (World.block_lt_of_cell? _ _ (hHeld.2.1))).trans (hHeld.2.1); have HS2_ := (hb.cell (World.block_lt_of_cell? _ _ (hHeld.2.2.1))).trans (hHeld.2.2.1); have HS3_ := (hb.cell (World.block_lt_of_cell? _ _ (hHeld.2.2.2.1))).trans (hHeld.2.2.2.1); have HS4_ := (hb.cell (World.block_lt_of_cell? _ _ (hHeld.2.2.2.2.1))).trans (hHeld.2.2.2.2.1); have HS5_ := (hb.cell (World.block_lt_of_cell? _ _ (hHeld.2.2.2.2.2))).trans (hHeld.2.2.2.2.2); refine ⟨_, rfl, ?_⟩; have n0_ := Aside0.mk (Kd.R_below HO_0.out hb); have n1_ := Aside0.mk (Kept.below (S := (fun k_ => P0_ k_)) HK.out hb); have n2_ := Aside0.mk (below_step HB.out hb); clear HO_0; clear HK; clear HB; have HO_0 := n0_; have HK := n1_; have HB := n2_; clear n0_ n1_ n2_
         (try clear hb)
         (try clear hb2)
         (try clear hk)
         (try clear hi)
         refine hK.out _ _ ⟨HS0_, HS1_, HS2_, HS3_, HS4_, HS5_⟩ (fun hHeld => ?_); clear hK K; refine norm_ (a' := ?_) ?_ ?_; rotate_left
         ·
          show Act.put _ (some 28) _ = _; simp only [Act.put, List.setIfInBounds_toArray, List.set_cons_zero, List.set_cons_succ, i64_w, i32_w]; rfl
         refine done_ (done_of HT_.out (by kernel_rfl)) ?_; try go_wp2
         (try simp only [← hl0_1])
         go_roundg k1
         case measure => have := HK1.out; omega
         case rel => exact ⟨(x0_1), (wrap64 (x5_1 + 1)), (by rfl), H', ⟨by have := HK1.out; omega⟩, ⟨by (try simp only [hl0_1]); exact HO_0.out⟩, ⟨HK.out⟩, ⟨HB.out⟩⟩
       ·
        rw [if_neg c10] at H; exact absurd H (by simp)
      ·
       rw [if_neg c9] at H; exact absurd H (by simp)
     ·
      rw [if_neg c7] at H; exact absurd H (by simp)
    ·
     rw [if_neg c6] at H; have c6b0 : decide (x5_1 < (x0_1.length : Int)) = false := decide_eq_false c6; clear c6; simp only [Option.some.injEq, Prod.mk.injEq] at H; obtain ⟨rfl, rfl⟩ := H; go_wp2; go_ret; exact ⟨_, rfl, by (try rw [if_pos (show (-1 : Int) = -1 from rfl)]); (exact HO_0.out), by repeat ((with_reducible exact HB.out))⟩
end Go.Proofs.Ytgagcimfkmegnaa.QX
