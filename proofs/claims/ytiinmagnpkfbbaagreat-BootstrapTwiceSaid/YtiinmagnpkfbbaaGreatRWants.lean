/- The document's Wants. -/
import Derived.Test.YtiinmagnpkfbbaaGreatRLeft
import Derived.Deep.Light
set_option maxHeartbeats 4000000
set_option maxRecDepth 100000
namespace Go.Proofs.YtiinmagnpkfbbaaGreat
set_option linter.unusedVariables false
set_option linter.unusedSimpArgs false
open Go.RowKit Go.Proofs.YtiinmagnpkfbbaaGreatW.PrintWords Go.Proofs.YtiinmagnpkfbbaaGreatW.PrintLast Go.Proofs.YtiinmagnpkfbbaaGreatW.PrintMore Go.Proofs.YtiinmagnpkfbbaaGreat.QT
namespace Bt
def pw (b : Rb) (n : Int) : Bool := !decide (n ∈ b.giv)
def wantsR (b : Rb) : List Int := if leftR b = [] ∨ b.own.f1 = 2 then [] else (b.own.f2 :: b.oth).filter (pw b)
theorem filter_take {p : Int → Bool} {l : List Int} {j : Nat} (h : j < l.length) : (l.take (j + 1)).filter p = (l.take j).filter p ++ (if p l[j] = true then [l[j]] else []) := by
 rw [List.take_succ_eq_append_getElem h, List.filter_append]
 congr 1
 by_cases hp : p l[j] = true
 ·
  rw [if_pos hp, List.filter_cons, if_pos hp]; rfl
 ·
  rw [if_neg hp, List.filter_cons, if_neg hp]; rfl
def RWants4.T4 : Bool × List (List Nat × List Nat) := (true, [([], []), ([0], [0]), ([1], [1]), ([2], [2]), ([], []), ([4], [4]), ([5], [5]), ([6], [6]), ([7], [7]), ([3, 8], [3, 8]), ([9], [9])])
def RWants4.B4 : List Nat := [0, 1, 3, 7, 0, 16, 48, 112, 240, 511, 1023]
theorem RWants4.tab4 : rtab .any (opsOf Tryz.f9 4) = RWants4.T4 := by kernel_rfl
theorem RWants4.bits4 : waitsOk RWants4.T4.2 RWants4.B4 = true := by kernel_rfl
def RWants9.T9 : Bool × List (List Nat × List Nat) := (true, [([], []), ([0], [0]), ([1], [1]), ([2], [2]), ([], []), ([4], [4]), ([5], [5]), ([6], [6]), ([], []), ([7, 8], [7, 8]), ([9], [9]), ([3, 10], [3, 10]), ([11], [11])])
def RWants9.B9 : List Nat := [0, 1, 3, 7, 0, 16, 48, 112, 0, 496, 1008, 2047, 4095]
theorem RWants9.tab9 : rtab .any (opsOf Tryz.f9 9) = RWants9.T9 := by kernel_rfl
theorem RWants9.bits9 : waitsOk RWants9.T9.2 RWants9.B9 = true := by kernel_rfl
theorem rwants_calls (w : World) (B g : Nat) (vO vG vF vS : Value) (b : Rb) (h : Rs w B g vO vG vF vS b) (ho : b.oth.length ≤ 1000000) (hg : b.giv.length ≤ 1000000) (hf : b.fil = []) :
  Calls Tryz.prog 9 #[.pointer (some ⟨g, 0, none⟩)] w fun e w' => ∃ v : Value, e = .returned v ∧ Kd.R kI 3 w' w.heap.size (fun _ => True) v (wantsR b) ∧ Below w.heap.size w w' := by
 have HDN := Lib.hid (fun W (hW : Below w.heap.size w W) => rdone_calls W B g vO vG vF vS b (h.below hW) ho hg hf); obtain ⟨AO, cO, rfl⟩ := Kd.R_slice h.oth; obtain ⟨AG, cG, rfl⟩ := Kd.R_slice h.giv; have HGB := Lib.hid h.blk; have HRO := Lib.hid h.oth; have HOL := Lib.hid ho; have HHAS := Lib.hid (fun W (hW : Below w.heap.size w W) (x : Int) => has_calls W AG cG b.giv (Kd.C_below (Kd.R_reads' h.giv).2.2 hW) (R_cap h.giv) hg x); clear h ho hg hf; go_enter Tryz.func9, Tryz.ntmps9
 go_wp2_with ((with_reducible refine gate_dst (N := 5) rfl ?_); refine Kd.R_lit kI (w0 := w) w.heap.size 3 ?hg (N := 5) ?hd (xs := ([] : List Int)) (inner := []) (ok := fun _ => True) (okp := fun _ => True) ?hr ?hp (fun _ hk => hk) ?hf (Below.refl _ _) (Nat.le_refl _) (by simp) ?_; (case hd => rfl); (case hg => rfl); (case hr => go_simp; done); (case hp => exact (Reps.none _ _)); (case hf => exact trivial); intro v3 w3 hR3 hB3 hg3 hn3; have HR3 := Lib.hid hR3; have HB3 := Lib.hid hB3; clear hR3 hB3 hg3 hn3)
 with_reducible refine (HDN.out _ HB3.out).mono ?_
 rintro e w4 ⟨rfl, hb4⟩; have HB4 := Lib.hid (show Below w.heap.size w w4 from below_then HB3.out HB3.out.size hb4); have HR4 := Lib.hid (Kd.R_below HR3.out hb4); clear hb4 HDN
 by_cases hl : leftR b = []
 case pos =>
  rw [decide_eq_true hl]; have HE := Lib.hid (show wantsR b = [] by unfold wantsR; rw [if_pos (Or.inl hl)]); clear hl; go_wp2; go_ret; exact ⟨_, rfl, by rw [HE.out]; exact HR4.out, HB4.out⟩
 case neg =>
 rw [decide_eq_false hl]; have c1 : w4.cell? ⟨g, 1, none⟩ = some (.int .i64 b.own.f1) := (blk_cell (blk_below HGB.out HB4.out) 1).trans rfl
 by_cases hst : b.own.f1 = 2
 case pos =>
  have d1 : (b.own.f1 == 2) = true := beq_iff_eq.2 hst; have HE := Lib.hid (show wantsR b = [] by unfold wantsR; rw [if_pos (Or.inr hst)]); clear hl hst; go_wp2; go_ret; exact ⟨_, rfl, by rw [HE.out]; exact HR4.out, HB4.out⟩
 case neg =>
 have d1 : (b.own.f1 == 2) = false := beq_eq_false_iff_ne.2 hst; have HE := Lib.hid (show wantsR b = (b.own.f2 :: b.oth).filter (pw b) by unfold wantsR; rw [if_neg (fun h => h.elim hl hst)]); have c2 : w4.cell? ⟨g, 2, none⟩ = some (.int .i64 b.own.f2) := (blk_cell (blk_below HGB.out HB4.out) 2).trans rfl; have c4 : w4.cell? ⟨g, 4, none⟩ = some (.slice AG b.giv.length cG) := (blk_cell (blk_below HGB.out HB4.out) 4).trans rfl; clear hl hst
 have key : ∀ (q : Bool) (P0 : List Int), decide (b.own.f2 ∈ b.giv) = q → P0 = (if q = true then [] else [b.own.f2]) → (b.own.f2 :: b.oth).filter (pw b) = P0 ++ b.oth.filter (pw b) := by
  intro q P0 h1 h2; rw [h2, List.filter_cons]
  cases q with
  | true => rw [if_neg (by unfold pw; rw [h1]; simp), if_pos rfl]; rfl
  | false => rw [if_pos (by unfold pw; rw [h1]; rfl), if_neg (by simp)]; rfl
 obtain ⟨q, hq⟩ : ∃ q, decide (b.own.f2 ∈ b.giv) = q := ⟨_, rfl⟩
 have HHF := Lib.hid (fun W (hW : Below w.heap.size w W) => (show Calls Tryz.prog 30 #[.slice AG b.giv.length cG, .int .i64 b.own.f2] W (fun e w' => e = .returned (.bool q) ∧ Below W.heap.size W w') from by have := HHAS.out W hW b.own.f2; rwa [hq] at this)); have HKEY := Lib.hid (key q (if q = true then [] else [b.own.f2]) hq rfl)
 obtain ⟨Q0, hQ0⟩ : ∃ Q0, (if q = true then ([] : List Int) else [b.own.f2]) = Q0 := ⟨_, rfl⟩
 rw [hQ0] at HKEY; have HQL := Lib.hid (show Q0.length ≤ 1 by rw [← hQ0]; split <;> simp); clear key hq
 cases q with
 | true =>
  have HQE := Lib.hid (show Q0 = [] from hQ0.symm); clear hQ0; go_wp2_with fail
  refine start_ (n := 11) (S := fun w' => w'.cell? ⟨g, 2, none⟩ = some (.int .i64 b.own.f2) ∧ w'.cell? ⟨g, 4, none⟩ = some (.slice AG b.giv.length cG)) (ds := []) (bs 11 0) (by kernel_rfl) rfl rfl ⟨c2, c4⟩ (fun hHeld => ?_); refine with_tabW RWants4.tab4 RWants4.bits4 (fun HT_ HW_ => ?_); apply pv 0 17 (bs 11 1) HT_; rfl; rfl; kernel_rfl; exact qq; rfl; intro w'; go_simp; with_reducible rfl; simp only [zz]; rfl
  apply pv 1 18 (bs 11 3) HT_; rfl; rfl; kernel_rfl; exact qq; rfl; intro w'; go_simp; with_reducible rfl; simp only [zz]; rfl
  apply pv 2 19 (bs 11 7) HT_; rfl; rfl; kernel_rfl; exact qq; rfl; intro w'; go_simp; with_reducible rfl; simp only [zz]; rfl
  apply pv 4 21 (bs 11 23) HT_; rfl; rfl; kernel_rfl; exact qq; rfl; intro w'; go_simp; with_reducible rfl; simp only [zz]; rfl
  apply pv 5 22 (bs 11 55) HT_; rfl; rfl; kernel_rfl; exact qq; rfl; intro w'; go_simp; with_reducible rfl; simp only [zz]; rfl
  apply pv 6 23 (bs 11 119) HT_; rfl; rfl; kernel_rfl; exact qq; rfl; intro w'; go_simp; with_reducible rfl; simp only [zz]; rfl
  apply pv 7 24 (bs 11 247) HT_; rfl; rfl; kernel_rfl; exact qq; rfl; intro w'; go_simp; with_reducible rfl; simp only [zz]; rfl
  apply tb 3 20 (bs 11 255) HT_ HW_ hHeld; rfl; rfl; kernel_rfl; exact qq; rfl; rintro w' ⟨s0, s1⟩; go_simp; with_reducible rfl; simp only [zz]; rfl
  apply tb 8 25 (bs 11 511) HT_ HW_ hHeld; rfl; rfl; kernel_rfl; exact qq; rfl; rintro w' ⟨s0, s1⟩; go_simp; with_reducible rfl; simp only [zz]; rfl
  refine one_ (i := 9) (N := some 26) (bs 11 1023) rfl rfl (one_of HT_.out (by kernel_rfl)) (by decide) (fun K hK => ?_); refine goes_ Tryz.func30 (by kernel_rfl) rfl #[.slice AG b.giv.length cG, .int .i64 b.own.f2] (by rfl) rfl rfl (by simp only [List.map_toArray, List.map_cons, List.map_nil]; rfl) ?_; with_reducible refine ((HHF.out _ (below_drew HB4.out))).mono ?_
  rintro e w5 ⟨rfl, hb5⟩; refine ⟨_, rfl, ?_⟩; have HB5 := Lib.hid (show Below w.heap.size w w5 from below_then (below_drew HB4.out) HB4.out.size hb5); have HR5 := Lib.hid (Kd.R_below (Kd.R_drew HR4.out) hb5); clear hb5; refine hK.out _ _ ⟨((blk_cell (blk_below HGB.out HB5.out) 2).trans rfl), ((blk_cell (blk_below HGB.out HB5.out) 4).trans rfl)⟩ (fun hHeld => ?_); clear hK K; refine norm_ (a' := ?_) ?_ ?_; rotate_left
  ·
   show Act.put _ (some 26) _ = _; simp only [Act.put, List.setIfInBounds_toArray, List.set_cons_zero, List.set_cons_succ, i64_w, i32_w]; rfl
  apply pv 10 27 (bs 11 2047) HT_; rfl; rfl; kernel_rfl; exact qq; rfl; intro w'; go_simp; with_reducible rfl; simp only [zz]; rfl
  refine done_ (done_of HT_.out (by kernel_rfl)) ?_; have HB8 := HB5; have HRP := Lib.hid (show Kd.R kI 3 w5 w.heap.size (fun _ => True) v3 Q0 from by rw [HQE.out]; exact HR5.out); clear c1 c2 c4 HR5; go_wp2_with fail
  go_loopg [3, 4] b.oth.length (fun gn v3 v4 wr => ∃ (j : Nat), v4 = .int .i64 (j : Int) ∧ Aside0 (gn = b.oth.length - j) ∧ Aside0 (j ≤ b.oth.length) ∧ Aside0 (Kd.R kI 3 wr w.heap.size (fun _ => True) v3 (Q0 ++ (b.oth.take j).filter (pw b))) ∧ Aside0 (Below w.heap.size w wr))
  case atStart => exact ⟨0, rfl, ⟨rfl⟩, ⟨Nat.zero_le _⟩, ⟨by rw [List.take_zero, List.filter_nil, List.append_nil]; exact HRP.out⟩, ⟨HB8.out⟩⟩
  case round =>
   obtain ⟨j, rfl, HN, HJ, HR, HB⟩ := hrel; have c3 : wr.cell? ⟨g, 3, none⟩ = some (.slice AO b.oth.length cO) := (blk_cell (blk_below HGB.out HB.out) 3).trans rfl; have c4 : wr.cell? ⟨g, 4, none⟩ = some (.slice AG b.giv.length cG) := (blk_cell (blk_below HGB.out HB.out) 4).trans rfl
   by_cases hj : j < b.oth.length
   ·
    have hj0 : (j : Int) < (b.oth.length : Int) := by omega
    have hz : (0 : Int) ≤ (j : Int) := by omega
    have hwj : wrap64 ((j : Int) + 1) = ((j + 1 : Nat) : Int) := wrapI j (by have := HOL.out; omega); obtain ⟨ad, e1, cx⟩ := Kd.at_int (Kd.R_reads' (Kd.R_below HRO.out HB.out)).2.2 (j : Int) (by omega) hj0; cases e1; rw [Int.toNat_natCast, rdI hj] at cx
    obtain ⟨x, hx⟩ : ∃ x, b.oth[j] = x := ⟨_, rfl⟩
    have hst := filter_take (p := pw b) hj; rw [hx] at cx hst
    obtain ⟨q, hq⟩ : ∃ q, decide (x ∈ b.giv) = q := ⟨_, rfl⟩
    have HHX := Lib.hid (fun W (hW : Below w.heap.size w W) => (show Calls Tryz.prog 30 #[.slice AG b.giv.length cG, .int .i64 x] W (fun e w' => e = .returned (.bool q) ∧ Below W.heap.size W w') from by have := HHAS.out W hW x; rwa [hq] at this)); have hpx : pw b x = !q := by unfold pw; rw [hq]
    rw [hpx] at hst; have HST := Lib.hid hst; have HIN := Lib.hid (show ∀ k, k = b.oth.length - j → b.oth.length - (j + 1) < k by intro k hk; omega)
    have HLO2 := Lib.hid (show ((Q0 ++ (b.oth.take j).filter (pw b)).length + 1) * 8 ≤ 140737488355328 by
     have h1 : ((b.oth.take j).filter (pw b)).length ≤ j := Nat.le_trans (List.length_filter_le _ _) (by rw [List.length_take]; omega); rw [List.length_append]; have h2 := HQL.out; have := HOL.out
     omega)
    clear hx hst hq hpx
    cases q with
    | true =>
     go_wp2_with fail
     refine start_ (n := 13) (S := fun w' => w'.cell? ⟨g, 3, none⟩ = some (.slice (some ad) b.oth.length cO) ∧ w'.cell? ⟨g, 4, none⟩ = some (.slice AG b.giv.length cG) ∧ w'.cell? (ad.add j) = some (.int .i64 x)) (ds := []) (bs 13 0) (by kernel_rfl) rfl rfl ⟨c3, c4, cx⟩ (fun hHeld => ?_); refine with_tabW RWants9.tab9 RWants9.bits9 (fun HT_ HW_ => ?_); apply pv 0 45 (bs 13 1) HT_; rfl; rfl; kernel_rfl; exact qq; rfl; intro w'; go_simp; with_reducible rfl; simp only [zz]; rfl
     apply pv 1 46 (bs 13 3) HT_; rfl; rfl; kernel_rfl; exact qq; rfl; intro w'; go_simp; with_reducible rfl; simp only [zz]; rfl
     apply pv 2 47 (bs 13 7) HT_; rfl; rfl; kernel_rfl; exact qq; rfl; intro w'; go_simp; with_reducible rfl; simp only [zz]; rfl
     apply pv 4 49 (bs 13 23) HT_; rfl; rfl; kernel_rfl; exact qq; rfl; intro w'; go_simp; with_reducible rfl; simp only [zz]; rfl
     apply pv 5 50 (bs 13 55) HT_; rfl; rfl; kernel_rfl; exact qq; rfl; intro w'; go_simp; with_reducible rfl; simp only [zz]; rfl
     apply pv 6 51 (bs 13 119) HT_; rfl; rfl; kernel_rfl; exact qq; rfl; intro w'; go_simp; with_reducible rfl; simp only [zz]; rfl
     apply pv 8 53 (bs 13 375) HT_; rfl; rfl; kernel_rfl; exact qq; rfl; intro w'; go_simp; with_reducible rfl; simp only [zz]; rfl
     apply tb 3 48 (bs 13 383) HT_ HW_ hHeld; rfl; rfl; kernel_rfl; exact qq; rfl; rintro w' ⟨s0, s1, s2⟩; go_simp; with_reducible rfl; simp only [zz]; rfl
     apply tb 7 52 (bs 13 511) HT_ HW_ hHeld; rfl; rfl; kernel_rfl; exact qq; rfl; rintro w' ⟨s0, s1, s2⟩; go_simp; with_reducible rfl; simp only [zz]; rfl
     apply pv 9 54 (bs 13 1023) HT_; rfl; rfl; kernel_rfl; exact qq; rfl; intro w'; go_simp; with_reducible rfl; simp only [zz]; rfl
     apply tb 10 55 (bs 13 2047) HT_ HW_ hHeld; rfl; rfl; kernel_rfl; exact qq; rfl; rintro w' ⟨s0, s1, s2⟩; go_simp; with_reducible rfl; simp only [zz]; rfl
     refine one_ (i := 11) (N := some 56) (bs 13 4095) rfl rfl (one_of HT_.out (by kernel_rfl)) (by decide) (fun K hK => ?_); refine goes_ Tryz.func30 (by kernel_rfl) rfl #[.slice AG b.giv.length cG, .int .i64 x] (by rfl) rfl rfl (by simp only [List.map_toArray, List.map_cons, List.map_nil]; rfl) ?_; with_reducible refine ((HHX.out _ (below_drew HB.out))).mono ?_
     rintro e w7 ⟨rfl, hb7⟩; refine ⟨_, rfl, ?_⟩; have HB7 := Lib.hid (show Below w.heap.size w w7 from below_then (below_drew HB.out) HB.out.size hb7); have hq7 : Below wr.heap.size wr w7 := below_then (below_drew (Below.refl _ _)) (Nat.le_refl _) hb7; have HR7 := Lib.hid (Kd.R_below HR.out hq7); clear hb7; refine hK.out _ _ ⟨((blk_cell (blk_below HGB.out HB7.out) 3).trans rfl), ((blk_cell (blk_below HGB.out HB7.out) 4).trans rfl), (pw_cell_below hq7 cx)⟩ (fun hHeld => ?_); clear hK K; refine norm_ (a' := ?_) ?_ ?_; rotate_left
     ·
      show Act.put _ (some 56) _ = _; simp only [Act.put, List.setIfInBounds_toArray, List.set_cons_zero, List.set_cons_succ, i64_w, i32_w]; rfl
     apply pv 12 57 (bs 13 8191) HT_; rfl; rfl; kernel_rfl; exact qq; rfl; intro w'; go_simp; with_reducible rfl; simp only [zz]; rfl
     refine done_ (done_of HT_.out (by kernel_rfl)) ?_; go_wp2_with fail
     go_roundg (b.oth.length - (j + 1))
     case measure => go_light; exact HIN.out _ HN.out
     case rel => exact ⟨j + 1, by (simp [hwj]; done), ⟨rfl⟩, ⟨hj⟩, ⟨by have := HR7.out; rw [HST.out]; simpa using this⟩, ⟨HB7.out⟩⟩
    | false =>
     go_wp2_with fail
     refine start_ (n := 13) (S := fun w' => w'.cell? ⟨g, 3, none⟩ = some (.slice (some ad) b.oth.length cO) ∧ w'.cell? ⟨g, 4, none⟩ = some (.slice AG b.giv.length cG) ∧ w'.cell? (ad.add j) = some (.int .i64 x)) (ds := []) (bs 13 0) (by kernel_rfl) rfl rfl ⟨c3, c4, cx⟩ (fun hHeld => ?_); refine with_tabW RWants9.tab9 RWants9.bits9 (fun HT_ HW_ => ?_); apply pv 0 45 (bs 13 1) HT_; rfl; rfl; kernel_rfl; exact qq; rfl; intro w'; go_simp; with_reducible rfl; simp only [zz]; rfl
     apply pv 1 46 (bs 13 3) HT_; rfl; rfl; kernel_rfl; exact qq; rfl; intro w'; go_simp; with_reducible rfl; simp only [zz]; rfl
     apply pv 2 47 (bs 13 7) HT_; rfl; rfl; kernel_rfl; exact qq; rfl; intro w'; go_simp; with_reducible rfl; simp only [zz]; rfl
     apply pv 4 49 (bs 13 23) HT_; rfl; rfl; kernel_rfl; exact qq; rfl; intro w'; go_simp; with_reducible rfl; simp only [zz]; rfl
     apply pv 5 50 (bs 13 55) HT_; rfl; rfl; kernel_rfl; exact qq; rfl; intro w'; go_simp; with_reducible rfl; simp only [zz]; rfl
     apply pv 6 51 (bs 13 119) HT_; rfl; rfl; kernel_rfl; exact qq; rfl; intro w'; go_simp; with_reducible rfl; simp only [zz]; rfl
     apply pv 8 53 (bs 13 375) HT_; rfl; rfl; kernel_rfl; exact qq; rfl; intro w'; go_simp; with_reducible rfl; simp only [zz]; rfl
     apply tb 3 48 (bs 13 383) HT_ HW_ hHeld; rfl; rfl; kernel_rfl; exact qq; rfl; rintro w' ⟨s0, s1, s2⟩; go_simp; with_reducible rfl; simp only [zz]; rfl
     apply tb 7 52 (bs 13 511) HT_ HW_ hHeld; rfl; rfl; kernel_rfl; exact qq; rfl; rintro w' ⟨s0, s1, s2⟩; go_simp; with_reducible rfl; simp only [zz]; rfl
     apply pv 9 54 (bs 13 1023) HT_; rfl; rfl; kernel_rfl; exact qq; rfl; intro w'; go_simp; with_reducible rfl; simp only [zz]; rfl
     apply tb 10 55 (bs 13 2047) HT_ HW_ hHeld; rfl; rfl; kernel_rfl; exact qq; rfl; rintro w' ⟨s0, s1, s2⟩; go_simp; with_reducible rfl; simp only [zz]; rfl
     refine one_ (i := 11) (N := some 56) (bs 13 4095) rfl rfl (one_of HT_.out (by kernel_rfl)) (by decide) (fun K hK => ?_); refine goes_ Tryz.func30 (by kernel_rfl) rfl #[.slice AG b.giv.length cG, .int .i64 x] (by rfl) rfl rfl (by simp only [List.map_toArray, List.map_cons, List.map_nil]; rfl) ?_; with_reducible refine ((HHX.out _ (below_drew HB.out))).mono ?_
     rintro e w7 ⟨rfl, hb7⟩; refine ⟨_, rfl, ?_⟩; have HB7 := Lib.hid (show Below w.heap.size w w7 from below_then (below_drew HB.out) HB.out.size hb7); have hq7 : Below wr.heap.size wr w7 := below_then (below_drew (Below.refl _ _)) (Nat.le_refl _) hb7; have HR7 := Lib.hid (Kd.R_below HR.out hq7); clear hb7; refine hK.out _ _ ⟨((blk_cell (blk_below HGB.out HB7.out) 3).trans rfl), ((blk_cell (blk_below HGB.out HB7.out) 4).trans rfl), (pw_cell_below hq7 cx)⟩ (fun hHeld => ?_); clear hK K; refine norm_ (a' := ?_) ?_ ?_; rotate_left
     ·
      show Act.put _ (some 56) _ = _; simp only [Act.put, List.setIfInBounds_toArray, List.set_cons_zero, List.set_cons_succ, i64_w, i32_w]; rfl
     apply pv 12 57 (bs 13 8191) HT_; rfl; rfl; kernel_rfl; exact qq; rfl; intro w'; go_simp; with_reducible rfl; simp only [zz]; rfl
     refine done_ (done_of HT_.out (by kernel_rfl)) ?_
     obtain ⟨P, hP⟩ : ∃ P, Q0 ++ (b.oth.take j).filter (pw b) = P := ⟨_, rfl⟩
     have hR7 := HR7.out; rw [hP] at hR7 HLO2; obtain ⟨A6, c6, rfl⟩ := Kd.R_slice hR7; have HR7P := Lib.hid hR7; have HPN := Lib.hid hP; have HLO := HLO2; have c3 : w7.cell? ⟨g, 3, none⟩ = some (.slice (some ad) b.oth.length cO) := (blk_cell (blk_below HGB.out HB7.out) 3).trans rfl; have cx : w7.cell? (ad.add j) = some (.int .i64 x) := pw_cell_below hq7 cx; clear hR7 hP HR7 HR hq7 HLO2 c4
     go_wp2_with (at_builtin; go_loud (refine (Kd.R_append kI (w0 := w) w.heap.size rfl (.tmp 58) (.tmp 66) 22 3 (.int .i64 0) 8 rfl Tryz.underlying22 info3 rfl (by decide) (by omega) (.slice A6 P.length c6) P x [.int .i64 x] (fun _ => True) (fun _ => False) rfl ?aX ?aP (fun _ hk => hk.elim) ?aF ?aO ?aB ?aS ?aL ?_)); go_loud (case aX => rfl); go_loud (case aP => rfl); (case aF => exact (fun _ _ => trivial)); go_loud (case aO => exact HR7P.out); go_loud (case aB => exact HB7.out); go_loud (case aS => exact HB7.out.size); go_loud (case aL => exact HLO.out); intro v8 w8 hR8 hB8 hg8 hat8; have HR8 := Lib.hid hR8; have HB8 := Lib.hid hB8; clear hR8 hB8 hg8 hat8)
     go_roundg (b.oth.length - (j + 1))
     case measure => go_light; exact HIN.out _ HN.out
     case rel => exact ⟨j + 1, by (simp [hwj]; done), ⟨rfl⟩, ⟨hj⟩, ⟨by have := HR8.out; rw [HST.out, ← List.append_assoc, HPN.out]; simpa using this⟩, ⟨HB8.out⟩⟩
   ·
    have hge : ¬ (j : Int) < (b.oth.length : Int) := by omega
    have hje : j = b.oth.length := by have := HJ.out; omega
    have hR9 := HR.out; rw [hje, List.take_length, ← HKEY.out, ← HE.out] at hR9; have HR9 := Lib.hid hR9; clear hje hR9 HR; go_wp2; go_ret
    exact ⟨_, rfl, HR9.out, HB.out⟩
 | false =>
  have HQE := Lib.hid (show Q0 = [b.own.f2] from hQ0.symm); clear hQ0; go_wp2_with fail
  refine start_ (n := 11) (S := fun w' => w'.cell? ⟨g, 2, none⟩ = some (.int .i64 b.own.f2) ∧ w'.cell? ⟨g, 4, none⟩ = some (.slice AG b.giv.length cG)) (ds := []) (bs 11 0) (by kernel_rfl) rfl rfl ⟨c2, c4⟩ (fun hHeld => ?_); refine with_tabW RWants4.tab4 RWants4.bits4 (fun HT_ HW_ => ?_); apply pv 0 17 (bs 11 1) HT_; rfl; rfl; kernel_rfl; exact qq; rfl; intro w'; go_simp; with_reducible rfl; simp only [zz]; rfl
  apply pv 1 18 (bs 11 3) HT_; rfl; rfl; kernel_rfl; exact qq; rfl; intro w'; go_simp; with_reducible rfl; simp only [zz]; rfl
  apply pv 2 19 (bs 11 7) HT_; rfl; rfl; kernel_rfl; exact qq; rfl; intro w'; go_simp; with_reducible rfl; simp only [zz]; rfl
  apply pv 4 21 (bs 11 23) HT_; rfl; rfl; kernel_rfl; exact qq; rfl; intro w'; go_simp; with_reducible rfl; simp only [zz]; rfl
  apply pv 5 22 (bs 11 55) HT_; rfl; rfl; kernel_rfl; exact qq; rfl; intro w'; go_simp; with_reducible rfl; simp only [zz]; rfl
  apply pv 6 23 (bs 11 119) HT_; rfl; rfl; kernel_rfl; exact qq; rfl; intro w'; go_simp; with_reducible rfl; simp only [zz]; rfl
  apply pv 7 24 (bs 11 247) HT_; rfl; rfl; kernel_rfl; exact qq; rfl; intro w'; go_simp; with_reducible rfl; simp only [zz]; rfl
  apply tb 3 20 (bs 11 255) HT_ HW_ hHeld; rfl; rfl; kernel_rfl; exact qq; rfl; rintro w' ⟨s0, s1⟩; go_simp; with_reducible rfl; simp only [zz]; rfl
  apply tb 8 25 (bs 11 511) HT_ HW_ hHeld; rfl; rfl; kernel_rfl; exact qq; rfl; rintro w' ⟨s0, s1⟩; go_simp; with_reducible rfl; simp only [zz]; rfl
  refine one_ (i := 9) (N := some 26) (bs 11 1023) rfl rfl (one_of HT_.out (by kernel_rfl)) (by decide) (fun K hK => ?_); refine goes_ Tryz.func30 (by kernel_rfl) rfl #[.slice AG b.giv.length cG, .int .i64 b.own.f2] (by rfl) rfl rfl (by simp only [List.map_toArray, List.map_cons, List.map_nil]; rfl) ?_; with_reducible refine ((HHF.out _ (below_drew HB4.out))).mono ?_
  rintro e w5 ⟨rfl, hb5⟩; refine ⟨_, rfl, ?_⟩; have HB5 := Lib.hid (show Below w.heap.size w w5 from below_then (below_drew HB4.out) HB4.out.size hb5); have HR5 := Lib.hid (Kd.R_below (Kd.R_drew HR4.out) hb5); clear hb5; refine hK.out _ _ ⟨((blk_cell (blk_below HGB.out HB5.out) 2).trans rfl), ((blk_cell (blk_below HGB.out HB5.out) 4).trans rfl)⟩ (fun hHeld => ?_); clear hK K; refine norm_ (a' := ?_) ?_ ?_; rotate_left
  ·
   show Act.put _ (some 26) _ = _; simp only [Act.put, List.setIfInBounds_toArray, List.set_cons_zero, List.set_cons_succ, i64_w, i32_w]; rfl
  apply pv 10 27 (bs 11 2047) HT_; rfl; rfl; kernel_rfl; exact qq; rfl; intro w'; go_simp; with_reducible rfl; simp only [zz]; rfl
  refine done_ (done_of HT_.out (by kernel_rfl)) ?_; have c2 : w5.cell? ⟨g, 2, none⟩ = some (.int .i64 b.own.f2) := (blk_cell (blk_below HGB.out HB5.out) 2).trans rfl
  obtain ⟨P, hP⟩ : ∃ P : List Int, P = [] := ⟨_, rfl⟩
  have hR5 := HR5.out; rw [← hP] at hR5; obtain ⟨A6, c6, rfl⟩ := Kd.R_slice hR5; have HR5P := Lib.hid hR5; have HPN := Lib.hid hP; have HLO := Lib.hid (show (P.length + 1) * 8 ≤ 140737488355328 by rw [hP]; simp); clear hR5 hP HR5 c1 c4
  go_wp2_with (at_builtin; go_loud (refine (Kd.R_append kI (w0 := w) w.heap.size rfl (.tmp 28) (.tmp 34) 22 3 (.int .i64 0) 8 rfl Tryz.underlying22 info3 rfl (by decide) (by omega) (.slice A6 P.length c6) P b.own.f2 [.int .i64 b.own.f2] (fun _ => True) (fun _ => False) rfl ?aX ?aP (fun _ hk => hk.elim) ?aF ?aO ?aB ?aS ?aL ?_)); go_loud (case aX => rfl); go_loud (case aP => rfl); (case aF => exact (fun _ _ => trivial)); go_loud (case aO => exact HR5P.out); go_loud (case aB => exact HB5.out); go_loud (case aS => exact HB5.out.size); go_loud (case aL => exact HLO.out); intro v8 w8 hR8 hB8 hg8 hat8; have HR8 := Lib.hid hR8; have HB8 := Lib.hid hB8; clear hR8 hB8 hg8 hat8)
  have HRP := Lib.hid (show Kd.R kI 3 w8 w.heap.size (fun _ => True) v8 Q0 from by have := HR8.out; rw [HPN.out] at this; rw [HQE.out]; exact this); clear c2 HR8 HR5P HLO; go_loopg [3, 4] b.oth.length (fun gn v3 v4 wr => ∃ (j : Nat), v4 = .int .i64 (j : Int) ∧ Aside0 (gn = b.oth.length - j) ∧ Aside0 (j ≤ b.oth.length) ∧ Aside0 (Kd.R kI 3 wr w.heap.size (fun _ => True) v3 (Q0 ++ (b.oth.take j).filter (pw b))) ∧ Aside0 (Below w.heap.size w wr))
  case atStart => exact ⟨0, rfl, ⟨rfl⟩, ⟨Nat.zero_le _⟩, ⟨by rw [List.take_zero, List.filter_nil, List.append_nil]; exact HRP.out⟩, ⟨HB8.out⟩⟩
  case round =>
   obtain ⟨j, rfl, HN, HJ, HR, HB⟩ := hrel; have c3 : wr.cell? ⟨g, 3, none⟩ = some (.slice AO b.oth.length cO) := (blk_cell (blk_below HGB.out HB.out) 3).trans rfl; have c4 : wr.cell? ⟨g, 4, none⟩ = some (.slice AG b.giv.length cG) := (blk_cell (blk_below HGB.out HB.out) 4).trans rfl
   by_cases hj : j < b.oth.length
   ·
    have hj0 : (j : Int) < (b.oth.length : Int) := by omega
    have hz : (0 : Int) ≤ (j : Int) := by omega
    have hwj : wrap64 ((j : Int) + 1) = ((j + 1 : Nat) : Int) := wrapI j (by have := HOL.out; omega); obtain ⟨ad, e1, cx⟩ := Kd.at_int (Kd.R_reads' (Kd.R_below HRO.out HB.out)).2.2 (j : Int) (by omega) hj0; cases e1; rw [Int.toNat_natCast, rdI hj] at cx
    obtain ⟨x, hx⟩ : ∃ x, b.oth[j] = x := ⟨_, rfl⟩
    have hst := filter_take (p := pw b) hj; rw [hx] at cx hst
    obtain ⟨q, hq⟩ : ∃ q, decide (x ∈ b.giv) = q := ⟨_, rfl⟩
    have HHX := Lib.hid (fun W (hW : Below w.heap.size w W) => (show Calls Tryz.prog 30 #[.slice AG b.giv.length cG, .int .i64 x] W (fun e w' => e = .returned (.bool q) ∧ Below W.heap.size W w') from by have := HHAS.out W hW x; rwa [hq] at this)); have hpx : pw b x = !q := by unfold pw; rw [hq]
    rw [hpx] at hst; have HST := Lib.hid hst; have HIN := Lib.hid (show ∀ k, k = b.oth.length - j → b.oth.length - (j + 1) < k by intro k hk; omega)
    have HLO2 := Lib.hid (show ((Q0 ++ (b.oth.take j).filter (pw b)).length + 1) * 8 ≤ 140737488355328 by
     have h1 : ((b.oth.take j).filter (pw b)).length ≤ j := Nat.le_trans (List.length_filter_le _ _) (by rw [List.length_take]; omega); rw [List.length_append]; have h2 := HQL.out; have := HOL.out
     omega)
    clear hx hst hq hpx
    cases q with
    | true =>
     go_wp2_with fail
     refine start_ (n := 13) (S := fun w' => w'.cell? ⟨g, 3, none⟩ = some (.slice (some ad) b.oth.length cO) ∧ w'.cell? ⟨g, 4, none⟩ = some (.slice AG b.giv.length cG) ∧ w'.cell? (ad.add j) = some (.int .i64 x)) (ds := []) (bs 13 0) (by kernel_rfl) rfl rfl ⟨c3, c4, cx⟩ (fun hHeld => ?_); refine with_tabW RWants9.tab9 RWants9.bits9 (fun HT_ HW_ => ?_); apply pv 0 45 (bs 13 1) HT_; rfl; rfl; kernel_rfl; exact qq; rfl; intro w'; go_simp; with_reducible rfl; simp only [zz]; rfl
     apply pv 1 46 (bs 13 3) HT_; rfl; rfl; kernel_rfl; exact qq; rfl; intro w'; go_simp; with_reducible rfl; simp only [zz]; rfl
     apply pv 2 47 (bs 13 7) HT_; rfl; rfl; kernel_rfl; exact qq; rfl; intro w'; go_simp; with_reducible rfl; simp only [zz]; rfl
     apply pv 4 49 (bs 13 23) HT_; rfl; rfl; kernel_rfl; exact qq; rfl; intro w'; go_simp; with_reducible rfl; simp only [zz]; rfl
     apply pv 5 50 (bs 13 55) HT_; rfl; rfl; kernel_rfl; exact qq; rfl; intro w'; go_simp; with_reducible rfl; simp only [zz]; rfl
     apply pv 6 51 (bs 13 119) HT_; rfl; rfl; kernel_rfl; exact qq; rfl; intro w'; go_simp; with_reducible rfl; simp only [zz]; rfl
     apply pv 8 53 (bs 13 375) HT_; rfl; rfl; kernel_rfl; exact qq; rfl; intro w'; go_simp; with_reducible rfl; simp only [zz]; rfl
     apply tb 3 48 (bs 13 383) HT_ HW_ hHeld; rfl; rfl; kernel_rfl; exact qq; rfl; rintro w' ⟨s0, s1, s2⟩; go_simp; with_reducible rfl; simp only [zz]; rfl
     apply tb 7 52 (bs 13 511) HT_ HW_ hHeld; rfl; rfl; kernel_rfl; exact qq; rfl; rintro w' ⟨s0, s1, s2⟩; go_simp; with_reducible rfl; simp only [zz]; rfl
     apply pv 9 54 (bs 13 1023) HT_; rfl; rfl; kernel_rfl; exact qq; rfl; intro w'; go_simp; with_reducible rfl; simp only [zz]; rfl
     apply tb 10 55 (bs 13 2047) HT_ HW_ hHeld; rfl; rfl; kernel_rfl; exact qq; rfl; rintro w' ⟨s0, s1, s2⟩; go_simp; with_reducible rfl; simp only [zz]; rfl
     refine one_ (i := 11) (N := some 56) (bs 13 4095) rfl rfl (one_of HT_.out (by kernel_rfl)) (by decide) (fun K hK => ?_); refine goes_ Tryz.func30 (by kernel_rfl) rfl #[.slice AG b.giv.length cG, .int .i64 x] (by rfl) rfl rfl (by simp only [List.map_toArray, List.map_cons, List.map_nil]; rfl) ?_; with_reducible refine ((HHX.out _ (below_drew HB.out))).mono ?_
     rintro e w7 ⟨rfl, hb7⟩; refine ⟨_, rfl, ?_⟩; have HB7 := Lib.hid (show Below w.heap.size w w7 from below_then (below_drew HB.out) HB.out.size hb7); have hq7 : Below wr.heap.size wr w7 := below_then (below_drew (Below.refl _ _)) (Nat.le_refl _) hb7; have HR7 := Lib.hid (Kd.R_below HR.out hq7); clear hb7; refine hK.out _ _ ⟨((blk_cell (blk_below HGB.out HB7.out) 3).trans rfl), ((blk_cell (blk_below HGB.out HB7.out) 4).trans rfl), (pw_cell_below hq7 cx)⟩ (fun hHeld => ?_); clear hK K; refine norm_ (a' := ?_) ?_ ?_; rotate_left
     ·
      show Act.put _ (some 56) _ = _; simp only [Act.put, List.setIfInBounds_toArray, List.set_cons_zero, List.set_cons_succ, i64_w, i32_w]; rfl
     apply pv 12 57 (bs 13 8191) HT_; rfl; rfl; kernel_rfl; exact qq; rfl; intro w'; go_simp; with_reducible rfl; simp only [zz]; rfl
     refine done_ (done_of HT_.out (by kernel_rfl)) ?_; go_wp2_with fail
     go_roundg (b.oth.length - (j + 1))
     case measure => go_light; exact HIN.out _ HN.out
     case rel => exact ⟨j + 1, by (simp [hwj]; done), ⟨rfl⟩, ⟨hj⟩, ⟨by have := HR7.out; rw [HST.out]; simpa using this⟩, ⟨HB7.out⟩⟩
    | false =>
     go_wp2_with fail
     refine start_ (n := 13) (S := fun w' => w'.cell? ⟨g, 3, none⟩ = some (.slice (some ad) b.oth.length cO) ∧ w'.cell? ⟨g, 4, none⟩ = some (.slice AG b.giv.length cG) ∧ w'.cell? (ad.add j) = some (.int .i64 x)) (ds := []) (bs 13 0) (by kernel_rfl) rfl rfl ⟨c3, c4, cx⟩ (fun hHeld => ?_); refine with_tabW RWants9.tab9 RWants9.bits9 (fun HT_ HW_ => ?_); apply pv 0 45 (bs 13 1) HT_; rfl; rfl; kernel_rfl; exact qq; rfl; intro w'; go_simp; with_reducible rfl; simp only [zz]; rfl
     apply pv 1 46 (bs 13 3) HT_; rfl; rfl; kernel_rfl; exact qq; rfl; intro w'; go_simp; with_reducible rfl; simp only [zz]; rfl
     apply pv 2 47 (bs 13 7) HT_; rfl; rfl; kernel_rfl; exact qq; rfl; intro w'; go_simp; with_reducible rfl; simp only [zz]; rfl
     apply pv 4 49 (bs 13 23) HT_; rfl; rfl; kernel_rfl; exact qq; rfl; intro w'; go_simp; with_reducible rfl; simp only [zz]; rfl
     apply pv 5 50 (bs 13 55) HT_; rfl; rfl; kernel_rfl; exact qq; rfl; intro w'; go_simp; with_reducible rfl; simp only [zz]; rfl
     apply pv 6 51 (bs 13 119) HT_; rfl; rfl; kernel_rfl; exact qq; rfl; intro w'; go_simp; with_reducible rfl; simp only [zz]; rfl
     apply pv 8 53 (bs 13 375) HT_; rfl; rfl; kernel_rfl; exact qq; rfl; intro w'; go_simp; with_reducible rfl; simp only [zz]; rfl
     apply tb 3 48 (bs 13 383) HT_ HW_ hHeld; rfl; rfl; kernel_rfl; exact qq; rfl; rintro w' ⟨s0, s1, s2⟩; go_simp; with_reducible rfl; simp only [zz]; rfl
     apply tb 7 52 (bs 13 511) HT_ HW_ hHeld; rfl; rfl; kernel_rfl; exact qq; rfl; rintro w' ⟨s0, s1, s2⟩; go_simp; with_reducible rfl; simp only [zz]; rfl
     apply pv 9 54 (bs 13 1023) HT_; rfl; rfl; kernel_rfl; exact qq; rfl; intro w'; go_simp; with_reducible rfl; simp only [zz]; rfl
     apply tb 10 55 (bs 13 2047) HT_ HW_ hHeld; rfl; rfl; kernel_rfl; exact qq; rfl; rintro w' ⟨s0, s1, s2⟩; go_simp; with_reducible rfl; simp only [zz]; rfl
     refine one_ (i := 11) (N := some 56) (bs 13 4095) rfl rfl (one_of HT_.out (by kernel_rfl)) (by decide) (fun K hK => ?_); refine goes_ Tryz.func30 (by kernel_rfl) rfl #[.slice AG b.giv.length cG, .int .i64 x] (by rfl) rfl rfl (by simp only [List.map_toArray, List.map_cons, List.map_nil]; rfl) ?_; with_reducible refine ((HHX.out _ (below_drew HB.out))).mono ?_
     rintro e w7 ⟨rfl, hb7⟩; refine ⟨_, rfl, ?_⟩; have HB7 := Lib.hid (show Below w.heap.size w w7 from below_then (below_drew HB.out) HB.out.size hb7); have hq7 : Below wr.heap.size wr w7 := below_then (below_drew (Below.refl _ _)) (Nat.le_refl _) hb7; have HR7 := Lib.hid (Kd.R_below HR.out hq7); clear hb7; refine hK.out _ _ ⟨((blk_cell (blk_below HGB.out HB7.out) 3).trans rfl), ((blk_cell (blk_below HGB.out HB7.out) 4).trans rfl), (pw_cell_below hq7 cx)⟩ (fun hHeld => ?_); clear hK K; refine norm_ (a' := ?_) ?_ ?_; rotate_left
     ·
      show Act.put _ (some 56) _ = _; simp only [Act.put, List.setIfInBounds_toArray, List.set_cons_zero, List.set_cons_succ, i64_w, i32_w]; rfl
     apply pv 12 57 (bs 13 8191) HT_; rfl; rfl; kernel_rfl; exact qq; rfl; intro w'; go_simp; with_reducible rfl; simp only [zz]; rfl
     refine done_ (done_of HT_.out (by kernel_rfl)) ?_
     obtain ⟨P, hP⟩ : ∃ P, Q0 ++ (b.oth.take j).filter (pw b) = P := ⟨_, rfl⟩
     have hR7 := HR7.out; rw [hP] at hR7 HLO2; obtain ⟨A6, c6, rfl⟩ := Kd.R_slice hR7; have HR7P := Lib.hid hR7; have HPN := Lib.hid hP; have HLO := HLO2; have c3 : w7.cell? ⟨g, 3, none⟩ = some (.slice (some ad) b.oth.length cO) := (blk_cell (blk_below HGB.out HB7.out) 3).trans rfl; have cx : w7.cell? (ad.add j) = some (.int .i64 x) := pw_cell_below hq7 cx; clear hR7 hP HR7 HR hq7 HLO2 c4
     go_wp2_with (at_builtin; go_loud (refine (Kd.R_append kI (w0 := w) w.heap.size rfl (.tmp 58) (.tmp 66) 22 3 (.int .i64 0) 8 rfl Tryz.underlying22 info3 rfl (by decide) (by omega) (.slice A6 P.length c6) P x [.int .i64 x] (fun _ => True) (fun _ => False) rfl ?aX ?aP (fun _ hk => hk.elim) ?aF ?aO ?aB ?aS ?aL ?_)); go_loud (case aX => rfl); go_loud (case aP => rfl); (case aF => exact (fun _ _ => trivial)); go_loud (case aO => exact HR7P.out); go_loud (case aB => exact HB7.out); go_loud (case aS => exact HB7.out.size); go_loud (case aL => exact HLO.out); intro v8 w8 hR8 hB8 hg8 hat8; have HR8 := Lib.hid hR8; have HB8 := Lib.hid hB8; clear hR8 hB8 hg8 hat8)
     go_roundg (b.oth.length - (j + 1))
     case measure => go_light; exact HIN.out _ HN.out
     case rel => exact ⟨j + 1, by (simp [hwj]; done), ⟨rfl⟩, ⟨hj⟩, ⟨by have := HR8.out; rw [HST.out, ← List.append_assoc, HPN.out]; simpa using this⟩, ⟨HB8.out⟩⟩
   ·
    have hge : ¬ (j : Int) < (b.oth.length : Int) := by omega
    have hje : j = b.oth.length := by have := HJ.out; omega
    have hR9 := HR.out; rw [hje, List.take_length, ← HKEY.out, ← HE.out] at hR9; have HR9 := Lib.hid hR9; clear hje hR9 HR; go_wp2; go_ret; exact ⟨_, rfl, HR9.out, HB.out⟩
end Bt
end Go.Proofs.YtiinmagnpkfbbaaGreat
