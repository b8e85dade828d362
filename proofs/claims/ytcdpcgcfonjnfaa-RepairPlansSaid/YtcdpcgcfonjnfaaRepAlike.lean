/- repair.Alike. -/
import Derived.Test.YtcdpcgcfonjnfaaRepEq
import Derived.Test.YtcdpcgcfonjnfaaRepSelfA
namespace Go.Proofs.Ytcdpcgcfonjnfaa
set_option linter.unusedVariables false
set_option linter.unusedSimpArgs false
open Go.RowKit Go.Proofs.YtcdpcgcfonjnfaaW.PrintWords Go.Proofs.YtcdpcgcfonjnfaaW.PrintLast Go.Proofs.YtcdpcgcfonjnfaaW.PrintMore Go.Proofs.Ytcdpcgcfonjnfaa.QT
namespace Rp
/-- Does it stand as the first does? -/
def eqAt (L : List (List Mt)) (i : Nat) : Bool := eqM (placeM (rd_L4 L 0)) (placeM (rd_L4 L (i : Int)))
def alikeP (L : List (List Mt)) : Bool := (List.range (L.length - 1)).all (fun j => eqAt L (j + 1))
theorem wrapj (j n : Nat) (h : j + 1 < n) (hn : n ≤ 9223372036854775807) : wrap64 ((j : Int) + 1 + 1) = (j : Int) + 1 + 1 := by unfold wrap64; omega
theorem rdLm {L : List (List Mt)} {i : Nat} (h : i < L.length) : rd_L4 L (i : Int) ∈ L := by
  unfold rd_L4
  rw [Int.toNat_natCast, List.getD_eq_getElem?_getD, List.getElem?_eq_getElem h]
  exact List.getElem_mem h
def Alike4.T4 : Bool × List (List Nat × List Nat) := (true, [([], []), ([0], [0]), ([1], [1]), ([2], [2]), ([], []), ([], []), ([4, 5], [4, 5]), ([6], [6]), ([7, 3], [7]), ([3, 8, 8], [3, 8]), ([9], [9])])
def Alike4.B4 : List Nat := [0, 1, 3, 7, 0, 0, 48, 112, 255, 511, 1023]
theorem Alike4.tab4 : rtab .any (opsOf Try.f9 4) = Alike4.T4 := by kernel_rfl
theorem Alike4.bits4 : waitsOk Alike4.T4.2 Alike4.B4 = true := by kernel_rfl
set_option maxHeartbeats 4000000 in
set_option maxRecDepth 100000 in
theorem alike_calls (w : World) (A : Option Addr) (c : Nat) (L : List (List Mt)) (hL : Kd.C kLL w A L.length L) (hok : ∀ l ∈ L, OkL l ∧ l.length ≤ 1000000) :
    Calls Try.prog 9 #[.slice A L.length c] w fun e w' => e = .returned (.bool (alikeP L)) ∧ Below w.heap.size w w' := by
  have HP := Lib.hid (fun (W : World) (hW : Below w.heap.size w W) (A2 : Option Addr) (c2 : Nat) (l : List Mt) (hl : Kd.C k56 w A2 l.length l) (hm : l ∈ L) => placed_calls W A2 c2 l (Kd.C_below hl hW) (hok l hm).1 (hok l hm).2)
  have HL := Lib.hid hL
  have HLM := Lib.hid hL.2.1
  have H0 := Lib.hid (Below.refl w.heap.size w)
  clear hL hok
  go_enter Try.func9, Try.ntmps9
  go_wp2_with fail
  go_loopg [3] L.length (fun gn v3 wr => ∃ (j : Nat), v3 = .int .i64 ((j : Int) + 1) ∧ Aside0 (gn = L.length - j) ∧ Aside0 (∀ q, q < j → q + 1 < L.length → eqAt L (q + 1) = true) ∧ Aside0 (Below w.heap.size w wr))
  case atStart => exact ⟨0, rfl, ⟨rfl⟩, ⟨fun q hq => absurd hq (by omega)⟩, ⟨H0.out⟩⟩
  case round =>
    obtain ⟨j, rfl, HN, HE, HB⟩ := hrel
    by_cases hj : j + 1 < L.length
    · have hj0 : (j : Int) + 1 < (L.length : Int) := by omega
      have hz : (0 : Int) ≤ (j : Int) + 1 := by omega
      have hl0 : 0 < L.length := by omega
      have hw1 := wrapj j L.length hj HLM.out
      obtain ⟨ad, A0, c0, e1, r0, _, hC0⟩ := at_L4 HL.out 0 (by omega) (by omega)
      cases e1
      obtain ⟨ad', A1, c1, e2, r1, _, hC1⟩ := at_L4 HL.out ((j : Int) + 1) (by omega) (by omega)
      cases e2
      rw [show ad.add (0 : Int).toNat = ad from by obtain ⟨bb, oo, pp⟩ := ad; cases pp <;> simp [Addr.add]] at r0
      rw [show ((j : Int) + 1).toNat = j + 1 by omega] at r1
      have hm0 := rdLm hl0
      have hm1 := rdLm hj
      rw [show ((0 : Nat) : Int) = 0 from rfl] at hm0
      rw [show ((j + 1 : Nat) : Int) = (j : Int) + 1 by omega] at hm1
      obtain ⟨x0, hx0⟩ : ∃ x, rd_L4 L 0 = x := ⟨_, rfl⟩
      obtain ⟨x1, hx1⟩ : ∃ x, rd_L4 L ((j : Int) + 1) = x := ⟨_, rfl⟩
      rw [hx0] at r0 hC0 hm0
      rw [hx1] at r1 hC1 hm1
      obtain ⟨q, hq⟩ : ∃ q, eqM (placeM x0) (placeM x1) = q := ⟨_, rfl⟩
      have HEQ := Lib.hid hq
      have HQJ := Lib.hid (show eqAt L (j + 1) = q by unfold eqAt; rw [show ((j + 1 : Nat) : Int) = (j : Int) + 1 by omega, hx0, hx1, hq])
      have HP0 := Lib.hid (fun W (hW : Below wr.heap.size wr W) => HP.out W (below_then HB.out HB.out.size hW) A0 c0 x0 hC0 hm0)
      have HP1 := Lib.hid (fun W (hW : Below wr.heap.size wr W) => HP.out W (below_then HB.out HB.out.size hW) A1 c1 x1 hC1 hm1)
      have HIN := Lib.hid (show ∀ k, k = L.length - j → L.length - (j + 1) < k by intro k hk; omega)
      have HJL := Lib.hid hj
      have r0 := pw_cell_below HB.out r0
      have r1 : wr.cell? ⟨ad.block, ad.off + (j + 1), none⟩ = some (.slice A1 x1.length c1) := pw_cell_below HB.out r1
      clear hx0 hx1 hq hC0 hC1 hm0 hm1
      go_wp2_with fail
      refine start_ (n := 11) (S := fun w' => w'.cell? ad = some (.slice A0 x0.length c0) ∧ w'.cell? ⟨ad.block, ad.off + (j + 1), none⟩ = some (.slice A1 x1.length c1)) (ds := []) #[false, false, false, false, false, false, false, false, false, false, false] (by kernel_rfl) rfl rfl ⟨r0, r1⟩ (fun hHeld => ?_)
      refine with_tabW Alike4.tab4 Alike4.bits4 (fun HT_ HW_ => ?_)
      refine pure_ (i := 0) (N := some 10) (v := ?_) (a' := ?_) #[true, false, false, false, false, false, false, false, false, false, false] rfl rfl (any_of HT_.out (by kernel_rfl)) (fun _ _ _ h => h) (Or.inl ⟨by rfl, ?_⟩) ?_ ?_
      rotate_left
      · intro w'
        go_simp
        with_reducible rfl
      rotate_left
      · simp only [Act.put, List.setIfInBounds_toArray, List.set_cons_zero, List.set_cons_succ, i64_w, i32_w]
        rfl
      refine pure_ (i := 1) (N := some 11) (v := ?_) (a' := ?_) #[true, true, false, false, false, false, false, false, false, false, false] rfl rfl (any_of HT_.out (by kernel_rfl)) (fun _ _ _ h => h) (Or.inl ⟨by rfl, ?_⟩) ?_ ?_
      rotate_left
      · intro w'
        go_simp
        with_reducible rfl
      rotate_left
      · simp only [Act.put, List.setIfInBounds_toArray, List.set_cons_zero, List.set_cons_succ, i64_w, i32_w]
        rfl
      refine pure_ (i := 4) (N := some 14) (v := ?_) (a' := ?_) #[true, true, false, false, true, false, false, false, false, false, false] rfl rfl (any_of HT_.out (by kernel_rfl)) (fun _ _ _ h => h) (Or.inl ⟨by rfl, ?_⟩) ?_ ?_
      rotate_left
      · intro w'
        go_simp
        with_reducible rfl
      rotate_left
      · simp only [Act.put, List.setIfInBounds_toArray, List.set_cons_zero, List.set_cons_succ, i64_w, i32_w]
        rfl
      refine pure_ (i := 5) (N := some 15) (v := ?_) (a' := ?_) #[true, true, false, false, true, true, false, false, false, false, false] rfl rfl (any_of HT_.out (by kernel_rfl)) (fun _ _ _ h => h) (Or.inl ⟨by rfl, ?_⟩) ?_ ?_
      rotate_left
      · intro w'
        go_simp
        with_reducible rfl
      rotate_left
      · simp only [Act.put, List.setIfInBounds_toArray, List.set_cons_zero, List.set_cons_succ, i64_w, i32_w]
        rfl
      refine pure_ (i := 6) (N := some 16) (v := ?_) (a' := ?_) #[true, true, false, false, true, true, true, false, false, false, false] rfl rfl (any_of HT_.out (by kernel_rfl)) (fun _ _ _ h => h) (Or.inl ⟨by rfl, ?_⟩) ?_ ?_
      rotate_left
      · intro w'
        go_simp
        with_reducible rfl
      rotate_left
      · simp only [Act.put, List.setIfInBounds_toArray, List.set_cons_zero, List.set_cons_succ, i64_w, i32_w]
        rfl
      refine take_ (i := 2) (N := some 12) (v := ?_) (a' := ?_) #[true, true, true, false, true, true, true, false, false, false, false] rfl rfl (take_ofW HT_.out HW_.out (by kernel_rfl)) (fun _ _ _ h => h) (Or.inl ⟨by rfl, ?_⟩) hHeld ?_ ?_
      rotate_left
      · rintro w' ⟨s0, s1⟩
        go_simp
        with_reducible rfl
      rotate_left
      · simp only [Act.put, List.setIfInBounds_toArray, List.set_cons_zero, List.set_cons_succ, i64_w, i32_w]
        rfl
      refine take_ (i := 7) (N := some 17) (v := ?_) (a' := ?_) #[true, true, true, false, true, true, true, true, false, false, false] rfl rfl (take_ofW HT_.out HW_.out (by kernel_rfl)) (fun _ _ _ h => h) (Or.inl ⟨by rfl, ?_⟩) hHeld ?_ ?_
      rotate_left
      · rintro w' ⟨s0, s1⟩
        go_simp
        with_reducible rfl
      rotate_left
      · simp only [Act.put, List.setIfInBounds_toArray, List.set_cons_zero, List.set_cons_succ, i64_w, i32_w]
        rfl
      refine one_ (i := 3) (N := some 13) #[true, true, true, true, true, true, true, true, false, false, false] rfl rfl (one_of HT_.out (by kernel_rfl)) (by decide) (fun K hK => ?_)
      refine goes_ Try.func12 (by kernel_rfl) rfl #[.slice A0 x0.length c0] (by rfl) rfl rfl (by simp only [List.map_toArray, List.map_cons, List.map_nil]; rfl) ?_
      with_reducible refine ((HP0.out _ (below_drew (Below.refl _ _)))).mono ?_
      rintro e w3 ⟨b3, rfl, hm3, hge3, hb3⟩
      refine ⟨_, rfl, ?_⟩
      have HM3 := Lib.hid hm3
      have HG3 := Lib.hid hge3
      have HB3 := Lib.hid (show Below wr.heap.size wr w3 from below_then (below_drew (Below.refl _ _)) (Nat.le_refl _) hb3)
      clear hm3 hge3 hb3
      refine hK.out _ _ ⟨(pw_cell_below HB3.out r0), (pw_cell_below HB3.out r1)⟩ (fun hHeld => ?_)
      clear hK K
      refine norm_ (a' := ?_) ?_ ?_
      rotate_left
      · show Act.put _ (some 13) _ = _
        simp only [Act.put, List.setIfInBounds_toArray, List.set_cons_zero, List.set_cons_succ, i64_w, i32_w]
        rfl
      refine one_ (i := 8) (N := some 18) #[true, true, true, true, true, true, true, true, true, false, false] rfl rfl (one_of HT_.out (by kernel_rfl)) (by decide) (fun K hK => ?_)
      refine goes_ Try.func12 (by kernel_rfl) rfl #[.slice A1 x1.length c1] (by rfl) rfl rfl (by simp only [List.map_toArray, List.map_cons, List.map_nil]; rfl) ?_
      with_reducible refine ((HP1.out _ HB3.out)).mono ?_
      rintro e w8 ⟨b8, rfl, hm8, hge8, hb8⟩
      refine ⟨_, rfl, ?_⟩
      have HM8 := Lib.hid hm8
      have HM38 := Lib.hid (show PM w8 b3 (placeM x0) from XM.MapIs.below HM3.out hb8)
      have HB8 := Lib.hid (below_then HB3.out HB3.out.size hb8)
      clear hm8 hge8 hb8
      refine hK.out _ _ ⟨(pw_cell_below HB8.out r0), (pw_cell_below HB8.out r1)⟩ (fun hHeld => ?_)
      clear hK K
      refine norm_ (a' := ?_) ?_ ?_
      rotate_left
      · show Act.put _ (some 18) _ = _
        simp only [Act.put, List.setIfInBounds_toArray, List.set_cons_zero, List.set_cons_succ, i64_w, i32_w]
        rfl
      refine one_ (i := 9) (N := some 19) #[true, true, true, true, true, true, true, true, true, true, false] rfl rfl (one_of HT_.out (by kernel_rfl)) (by decide) (fun K hK => ?_)
      refine goes_ Try.func22 (by kernel_rfl) rfl #[.map (some b3), .map (some b8)] (by rfl) rfl rfl (by simp only [List.map_toArray, List.map_cons, List.map_nil]; rfl) ?_
      with_reducible refine ((equal_calls w8 b3 b8 _ _ HM38.out HM8.out)).mono ?_
      rintro e w9 ⟨rfl, hb9⟩
      refine ⟨_, rfl, ?_⟩
      rw [HEQ.out]
      have HB9 := Lib.hid (below_then HB8.out HB8.out.size hb9)
      clear hb9
      refine hK.out _ _ ⟨(pw_cell_below HB9.out r0), (pw_cell_below HB9.out r1)⟩ (fun hHeld => ?_)
      clear hK K
      refine norm_ (a' := ?_) ?_ ?_
      rotate_left
      · show Act.put _ (some 19) _ = _
        simp only [Act.put, List.setIfInBounds_toArray, List.set_cons_zero, List.set_cons_succ, i64_w, i32_w]
        rfl
      refine pure_ (i := 10) (N := some 20) (v := ?_) (a' := ?_) #[true, true, true, true, true, true, true, true, true, true, true] rfl rfl (any_of HT_.out (by kernel_rfl)) (fun _ _ _ h => h) (Or.inl ⟨by rfl, ?_⟩) ?_ ?_
      rotate_left
      · intro w'
        go_simp
        with_reducible rfl
      rotate_left
      · simp only [Act.put, List.setIfInBounds_toArray, List.set_cons_zero, List.set_cons_succ, i64_w, i32_w]
        rfl
      refine done_ (done_of HT_.out (by kernel_rfl)) ?_
      cases q with
      | true =>
        go_wp2_with fail
        go_roundg (L.length - (j + 1))
        case measure => exact HIN.out _ HN.out
        case rel =>
          refine ⟨j + 1, by first | rfl | (rw [hw1]; rfl) | (simp [hw1]; done) | (simp [hw1]; omega), ⟨rfl⟩, ⟨fun p hp hp2 => ?_⟩, ⟨below_then HB.out HB.out.size HB9.out⟩⟩
          by_cases h : p < j
          · exact HE.out p h hp2
          · rw [show p = j by omega]; exact HQJ.out
      | false =>
        have HX := Lib.hid (show alikeP L = false by
          rw [← Bool.not_eq_true]
          intro h
          unfold alikeP at h
          rw [List.all_eq_true] at h
          have := h j (List.mem_range.2 (by have := HJL.out; omega))
          rw [HQJ.out] at this
          cases this)
        go_wp2
        go_ret
        rw [HX.out]
        exact ⟨rfl, below_then HB.out HB.out.size HB9.out⟩
    · have hge : ¬ (j : Int) + 1 < (L.length : Int) := by omega
      have HX := Lib.hid (show alikeP L = true by
        unfold alikeP
        rw [List.all_eq_true]
        intro p hp
        have := List.mem_range.1 hp
        exact HE.out p (by omega) (by omega))
      go_wp2
      go_ret
      rw [HX.out]
      exact ⟨rfl, HB.out⟩
end Rp
end Go.Proofs.Ytcdpcgcfonjnfaa
