/- RepairPlans: the walk. -/
import Derived.Test.YtcdpcgcfonjnfaaRepRPlan
import Derived.Test.YtcdpcgcfonjnfaaRepAlikeSame
namespace Go.Proofs.Ytcdpcgcfonjnfaa
set_option linter.unusedVariables false
set_option linter.unusedSimpArgs false
open Go.RowKit Go.Proofs.YtcdpcgcfonjnfaaW.PrintWords Go.Proofs.YtcdpcgcfonjnfaaW.PrintLast Go.Proofs.YtcdpcgcfonjnfaaW.PrintMore Go.Proofs.Ytcdpcgcfonjnfaa.QT Go.Proofs.Ytcdpcgcfonjnfaa.QS Go.Proofs.Ytcdpcgcfonjnfaa.StableLaw
namespace Rp
def Plans11.T11 : Bool × List (List Nat × List Nat) := (true, [([], []), ([], []), ([0, 1], [0, 1]), ([2], [2]), ([3], [3]), ([], []), ([], []), ([5, 6], [5, 6]), ([7], [7]), ([8], [8]), ([4, 9], [4, 9]), ([10], [10]), ([11], [11]), ([11], [11]), ([12, 13, 11], [11, 12, 13]), ([14, 11], [11, 14]), ([15, 11], [11, 15]), ([11], [11]), ([11], [11]), ([17, 18, 11], [11, 17, 18]), ([19, 11], [11, 19]), ([20, 11], [11, 20]), ([16, 21, 11], [11, 16, 21]), ([11, 22], [11, 22])])
def Plans11.B11 : List Nat := [0, 0, 3, 7, 15, 0, 0, 96, 224, 480, 1023, 2047, 4095, 4095, 16383, 32767, 65535, 4095, 4095, 397311, 921599, 1970175, 4194303, 8388607]
theorem Plans11.tab11 : rtab .any (opsOf Try.f4 11) = Plans11.T11 := by kernel_rfl
theorem Plans11.bits11 : waitsOk Plans11.T11.2 Plans11.B11 = true := by kernel_rfl
def Plans23.T23 : Bool × List (List Nat × List Nat) := (true, [([], []), ([], []), ([0, 1], [0, 1]), ([2], [2]), ([], []), ([], []), ([4, 5], [4, 5]), ([6], [6]), ([3, 7], [3, 7])])
def Plans23.B23 : List Nat := [0, 0, 3, 7, 0, 0, 48, 112, 255]
theorem Plans23.tab23 : rtab .any (opsOf Try.f4 23) = Plans23.T23 := by kernel_rfl
theorem Plans23.bits23 : waitsOk Plans23.T23.2 Plans23.B23 = true := by kernel_rfl
theorem rd40 {S : List Ak} {j : Nat} (h : j < S.length) : rd_T40 (S.map refA) (j : Int) = refA (rd_T37 S (j : Int)) := by
  unfold rd_T40 rd_T37
  rw [Int.toNat_natCast, List.getD_eq_getElem?_getD, List.getD_eq_getElem?_getD, List.getElem?_map, List.getElem?_eq_getElem h]
  rfl
theorem rdLn (L : List (List Mt)) (h : ∀ l ∈ L, l.length ≤ 1000000) (i : Nat) : (rd_L4 L (i : Int)).length ≤ 1000000 := by
  by_cases hi : i < L.length
  · rw [rdLL hi]; exact h _ (List.getElem_mem hi)
  · unfold rd_L4
    rw [Int.toNat_natCast, List.getD_eq_getElem?_getD, List.getElem?_eq_none (by omega)]
    exact Nat.zero_le _
theorem bool_iff {a b : Bool} (h : a = true ↔ b = true) : a = b := by cases a <;> cases b <;> simp_all
set_option maxHeartbeats 4000000 in
set_option maxRecDepth 100000 in
theorem plans_calls (w : World) (A : Option Addr) (c : Nat) (own : List Mt) (hC : Kd.C k56 w A own.length own) (hlc : own.length ≤ c) (hok : OkL own) (A' : Option Addr) (c' : Nat) (L : List (List Mt)) (hL : Kd.C kLL w A' L.length L) (hLc : L.length ≤ c') (hokL : ∀ l ∈ L, OkL l) :
    Calls Try.prog 4 #[.slice A own.length c, .slice A' L.length c'] w fun e w' => e = .returned (.bool true) ∧ Below w.heap.size w w' := by
  have HLQ := Lib.hid (lit_one w A c own hC hlc)
  have HAL := Lib.hid (below_alloc (Below.refl w.heap.size w) (.cells #[.slice A own.length c] 22))
  have HO := Lib.hid hC
  have HOC := Lib.hid hlc
  have HOK := Lib.hid hok
  have HL := Lib.hid hL
  have HLC := Lib.hid hLc
  have HLK := Lib.hid hokL
  clear hC hlc hok hL hLc hokL
  go_enter Try.func4, Try.ntmps4
  go_wp2_with fail
  obtain ⟨gz, hgz⟩ : ∃ gz, gz = w.heap.size := ⟨_, rfl⟩
  obtain ⟨Z, hZ⟩ : ∃ Z : World, Z = w.alloc (.cells #[.slice A own.length c] 22) := ⟨_, rfl⟩
  rw [← hZ] at HLQ HAL
  rw [← hgz] at HLQ
  rw [← hZ, ← hgz]
  clear hZ hgz
  obtain ⟨r, hr1, hr2⟩ := heavy_any Z A' c' L (Kd.C_below HL.out HAL.out) HLC.out
  have HHV := Lib.hid (show Calls Try.prog 5 #[.slice A' L.length c'] Z (fun e w' => e = .returned (.bool r) ∧ Below Z.heap.size Z w') from hr2)
  have HHW := Lib.hid hr1
  clear hr1 hr2
  with_reducible refine HHV.out.mono ?_
  rintro e w1 ⟨rfl, hb1⟩
  have HB1 := Lib.hid (below_then HAL.out HAL.out.size hb1)
  have HQ1 := Lib.hid (Kd.C_below HLQ.out hb1)
  clear hb1 HHV HLQ
  cases r with
  | true =>
    go_wp2
    go_ret
    exact ⟨rfl, HB1.out⟩
  | false =>
  have HH1 := Lib.hid (show L.length + sumL L ≤ 512 from HHW.out rfl)
  clear HHW
  obtain ⟨r2, hr1, hr2⟩ := heavy_any w1 (some ⟨gz, 0, none⟩) 1 [own] HQ1.out (Nat.le_refl _)
  have HHV := Lib.hid (show Calls Try.prog 5 #[.slice (some ⟨gz, 0, none⟩) 1 1] w1 (fun e w' => e = .returned (.bool r2) ∧ Below w1.heap.size w1 w') from hr2)
  have HHW2 := Lib.hid hr1
  clear hr1 hr2
  go_wp2_with fail
  with_reducible refine HHV.out.mono ?_
  rintro e w2 ⟨rfl, hb2⟩
  have HB2 := Lib.hid (below_then HB1.out HB1.out.size hb2)
  clear hb2 HHV HQ1
  cases r2 with
  | true =>
    go_wp2
    go_ret
    exact ⟨rfl, HB2.out⟩
  | false =>
  have HN := Lib.hid (show own.length ≤ 1000000 by have := HHW2.out rfl; unfold sumL at this; simp at this; omega)
  have HS := Lib.hid (show sumL L ≤ 1000000 by have := HH1.out; omega)
  have HLN := Lib.hid (show L.length ≤ 1000000 by have := HH1.out; omega)
  have HLX := Lib.hid (show ∀ l ∈ L, l.length ≤ 1000000 from fun l hl => Nat.le_trans (sumL_mem hl) HS.out)
  clear HH1 HHW2
  have HPL := Lib.hid (plan_calls w2 A c own (Kd.C_below HO.out HB2.out) HOK.out HN.out A' c' L (Kd.C_below HL.out HB2.out) HLK.out HS.out)
  have HRP := Lib.hid (fun W (hW : Below w.heap.size w W) => rplan_calls W A c own (Kd.C_below HO.out hW) HOC.out HN.out A' c' L (Kd.C_below HL.out hW) HLC.out HLN.out HS.out)
  obtain ⟨S, hS⟩ : ∃ S, srtA (rawN own L L.length) = S := ⟨_, rfl⟩
  rw [hS] at HPL HRP
  clear hS
  go_wp2_with fail
  with_reducible refine HPL.out.mono ?_
  rintro e w3 ⟨v3, rfl, hR3, hb3⟩
  obtain ⟨A3, c3, rfl⟩ := Kd.R_slice hR3
  have HR3 := Lib.hid hR3
  have HB3 := Lib.hid (below_then HB2.out HB2.out.size hb3)
  clear hR3 hb3 HPL
  go_wp2_with fail
  with_reducible refine (HRP.out w3 HB3.out).mono ?_
  rintro e w4 ⟨v4, rfl, hR4, hb4⟩
  obtain ⟨A4, c4, hv4⟩ := Kd.R_slice hR4
  rw [List.length_map] at hv4
  subst hv4
  have HB4 := Lib.hid (below_then HB3.out HB3.out.size hb4)
  have HP4 := Lib.hid (show Kd.C k37 w4 A3 S.length S from Kd.C_below (Kd.R_reads' HR3.out).2.2 hb4)
  have HQ4 := Lib.hid (show Kd.C k40 w4 A4 S.length (S.map refA) by have := (Kd.R_reads' hR4).2.2; rwa [List.length_map] at this)
  have HSM := Lib.hid (show S.length ≤ 9223372036854775807 from HP4.out.2.1)
  clear hR4 hb4 HRP HR3
  have HA1 := Lib.hid (alike_calls w4 A' c' L (Kd.C_below HL.out HB4.out) (fun l hl => ⟨HLK.out l hl, HLX.out l hl⟩))
  have HA2 := Lib.hid (show ∀ W, Below w.heap.size w W → Calls Try.prog 11 #[.slice A' L.length c'] W (fun e w' => e = .returned (.bool (alikeP L)) ∧ Below W.heap.size W w') from fun W hW => by
    obtain ⟨r, hr, hc⟩ := ralike_calls W A' c' L (Kd.C_below HL.out hW) HLC.out HLN.out (rdLn L HLX.out)
    have e : r = alikeP L := bool_iff (hr.trans (alike_same L).symm)
    rw [← e]
    exact hc)
  obtain ⟨al, hal⟩ : ∃ al, alikeP L = al := ⟨_, rfl⟩
  rw [hal] at HA1 HA2
  clear hal
  go_wp2_with fail
  with_reducible refine HA1.out.mono ?_
  rintro e w5 ⟨rfl, hb5⟩
  have HB5 := Lib.hid (below_then HB4.out HB4.out.size hb5)
  have HP5 := Lib.hid (Kd.C_below HP4.out hb5)
  have HQ5 := Lib.hid (Kd.C_below HQ4.out hb5)
  clear hb5 HP4 HQ4 HA1
  go_wp2_with fail
  with_reducible refine (HA2.out w5 HB5.out).mono ?_
  rintro e w6 ⟨rfl, hb6⟩
  have HB6 := Lib.hid (below_then HB5.out HB5.out.size hb6)
  have HP6 := Lib.hid (Kd.C_below HP5.out hb6)
  have HQ6 := Lib.hid (Kd.C_below HQ5.out hb6)
  clear hb6 HP5 HQ5 HA2
  have hse : ((S.length : Int) != (S.length : Int)) = false := by simp
  have hae : (al != al) = false := by cases al <;> rfl
  go_wp2_with fail
  go_loopg [8] S.length (fun gn v8 wr => ∃ (j : Nat), v8 = .int .i64 (j : Int) ∧ Aside0 (gn = S.length - j) ∧ Aside0 (Below w6.heap.size w6 wr))
  case atStart => exact ⟨0, rfl, ⟨rfl⟩, ⟨Below.refl _ _⟩⟩
  case round =>
    obtain ⟨j, rfl, HNJ, HBJ⟩ := hrel
    by_cases hj : j < S.length
    · have hj0 : (j : Int) < (S.length : Int) := by omega
      have hw1 := wrap_lt j S.length hj HSM.out
      obtain ⟨ad, e1, p0, p1, p2⟩ := at_T37 (Kd.C_below HP6.out HBJ.out) (j : Int) (by omega) hj0
      cases e1
      obtain ⟨ad', e2, q0, q1, q2⟩ := at_T40 (Kd.C_below HQ6.out HBJ.out) (j : Int) (by omega) hj0
      cases e2
      rw [Int.toNat_natCast] at p0 p1 p2 q0 q1 q2
      rw [rd40 hj] at q0 q1 q2
      obtain ⟨a, ha⟩ : ∃ a, rd_T37 S (j : Int) = a := ⟨_, rfl⟩
      rw [ha] at p0 p1 p2 q0 q1 q2
      have q0 : wr.cell? (ad'.add (j * 3)) = some (.int .i64 a.f0) := q0
      have q1 : wr.cell? ⟨(ad'.add (j * 3)).block, (ad'.add (j * 3)).off + 1, none⟩ = some (.string a.f1.f0) := q1
      have q2 : wr.cell? ⟨(ad'.add (j * 3)).block, (ad'.add (j * 3)).off + 1 + 1, none⟩ = some (.int .i64 a.f1.f1) := q2
      have p2 : wr.cell? ⟨(ad.add (j * 3)).block, (ad.add (j * 3)).off + 1 + 1, none⟩ = some (.int .i64 a.f1.f1) := p2
      have hz : (0 : Int) ≤ (j : Int) := by omega
      have HIN := Lib.hid (show ∀ k, k = S.length - j → S.length - (j + 1) < k by intro k hk; omega)
      clear ha
      go_wp2_with fail
      refine start_ (n := 24) (S := fun w' => w'.cell? (ad.add (j * 3)) = some (.int .i64 a.f0) ∧ w'.cell? ⟨(ad.add (j * 3)).block, (ad.add (j * 3)).off + 1, none⟩ = some (.string a.f1.f0) ∧ w'.cell? ⟨(ad.add (j * 3)).block, (ad.add (j * 3)).off + 1 + 1, none⟩ = some (.int .i64 a.f1.f1) ∧ w'.cell? (ad'.add (j * 3)) = some (.int .i64 a.f0) ∧ w'.cell? ⟨(ad'.add (j * 3)).block, (ad'.add (j * 3)).off + 1, none⟩ = some (.string a.f1.f0) ∧ w'.cell? ⟨(ad'.add (j * 3)).block, (ad'.add (j * 3)).off + 1 + 1, none⟩ = some (.int .i64 a.f1.f1)) (ds := []) #[false, false, false, false, false, false, false, false, false, false, false, false, false, false, false, false, false, false, false, false, false, false, false, false] (by kernel_rfl) rfl rfl ⟨p0, p1, p2, q0, q1, q2⟩ (fun hHeld => ?_)
      refine with_tabW Plans11.tab11 Plans11.bits11 (fun HT_ HW_ => ?_)
      refine pure_ (i := 0) (N := some 45) (v := ?_) (a' := ?_) #[true, false, false, false, false, false, false, false, false, false, false, false, false, false, false, false, false, false, false, false, false, false, false, false] rfl rfl (any_of HT_.out (by kernel_rfl)) (fun _ _ _ h => h) (Or.inl ⟨by rfl, ?_⟩) ?_ ?_
      rotate_left
      · intro w'
        go_simp
        with_reducible rfl
      rotate_left
      · simp only [Act.put, List.setIfInBounds_toArray, List.set_cons_zero, List.set_cons_succ, i64_w, i32_w]
        rfl
      refine pure_ (i := 1) (N := some 46) (v := ?_) (a' := ?_) #[true, true, false, false, false, false, false, false, false, false, false, false, false, false, false, false, false, false, false, false, false, false, false, false] rfl rfl (any_of HT_.out (by kernel_rfl)) (fun _ _ _ h => h) (Or.inl ⟨by rfl, ?_⟩) ?_ ?_
      rotate_left
      · intro w'
        go_simp
        with_reducible rfl
      rotate_left
      · simp only [Act.put, List.setIfInBounds_toArray, List.set_cons_zero, List.set_cons_succ, i64_w, i32_w]
        rfl
      refine pure_ (i := 2) (N := some 47) (v := ?_) (a' := ?_) #[true, true, true, false, false, false, false, false, false, false, false, false, false, false, false, false, false, false, false, false, false, false, false, false] rfl rfl (any_of HT_.out (by kernel_rfl)) (fun _ _ _ h => h) (Or.inl ⟨by rfl, ?_⟩) ?_ ?_
      rotate_left
      · intro w'
        go_simp
        with_reducible rfl
      rotate_left
      · simp only [Act.put, List.setIfInBounds_toArray, List.set_cons_zero, List.set_cons_succ, i64_w, i32_w]
        rfl
      refine pure_ (i := 3) (N := some 48) (v := ?_) (a' := ?_) #[true, true, true, true, false, false, false, false, false, false, false, false, false, false, false, false, false, false, false, false, false, false, false, false] rfl rfl (any_of HT_.out (by kernel_rfl)) (fun _ _ _ h => h) (Or.inl ⟨by rfl, ?_⟩) ?_ ?_
      rotate_left
      · intro w'
        go_simp
        with_reducible rfl
      rotate_left
      · simp only [Act.put, List.setIfInBounds_toArray, List.set_cons_zero, List.set_cons_succ, i64_w, i32_w]
        rfl
      refine pure_ (i := 5) (N := some 50) (v := ?_) (a' := ?_) #[true, true, true, true, false, true, false, false, false, false, false, false, false, false, false, false, false, false, false, false, false, false, false, false] rfl rfl (any_of HT_.out (by kernel_rfl)) (fun _ _ _ h => h) (Or.inl ⟨by rfl, ?_⟩) ?_ ?_
      rotate_left
      · intro w'
        go_simp
        with_reducible rfl
      rotate_left
      · simp only [Act.put, List.setIfInBounds_toArray, List.set_cons_zero, List.set_cons_succ, i64_w, i32_w]
        rfl
      refine pure_ (i := 6) (N := some 51) (v := ?_) (a' := ?_) #[true, true, true, true, false, true, true, false, false, false, false, false, false, false, false, false, false, false, false, false, false, false, false, false] rfl rfl (any_of HT_.out (by kernel_rfl)) (fun _ _ _ h => h) (Or.inl ⟨by rfl, ?_⟩) ?_ ?_
      rotate_left
      · intro w'
        go_simp
        with_reducible rfl
      rotate_left
      · simp only [Act.put, List.setIfInBounds_toArray, List.set_cons_zero, List.set_cons_succ, i64_w, i32_w]
        rfl
      refine pure_ (i := 7) (N := some 52) (v := ?_) (a' := ?_) #[true, true, true, true, false, true, true, true, false, false, false, false, false, false, false, false, false, false, false, false, false, false, false, false] rfl rfl (any_of HT_.out (by kernel_rfl)) (fun _ _ _ h => h) (Or.inl ⟨by rfl, ?_⟩) ?_ ?_
      rotate_left
      · intro w'
        go_simp
        with_reducible rfl
      rotate_left
      · simp only [Act.put, List.setIfInBounds_toArray, List.set_cons_zero, List.set_cons_succ, i64_w, i32_w]
        rfl
      refine pure_ (i := 8) (N := some 53) (v := ?_) (a' := ?_) #[true, true, true, true, false, true, true, true, true, false, false, false, false, false, false, false, false, false, false, false, false, false, false, false] rfl rfl (any_of HT_.out (by kernel_rfl)) (fun _ _ _ h => h) (Or.inl ⟨by rfl, ?_⟩) ?_ ?_
      rotate_left
      · intro w'
        go_simp
        with_reducible rfl
      rotate_left
      · simp only [Act.put, List.setIfInBounds_toArray, List.set_cons_zero, List.set_cons_succ, i64_w, i32_w]
        rfl
      refine take_ (i := 4) (N := some 49) (v := ?_) (a' := ?_) #[true, true, true, true, true, true, true, true, true, false, false, false, false, false, false, false, false, false, false, false, false, false, false, false] rfl rfl (take_ofW HT_.out HW_.out (by kernel_rfl)) (fun _ _ _ h => h) (Or.inl ⟨by rfl, ?_⟩) hHeld ?_ ?_
      rotate_left
      · rintro w' ⟨s0, s1, s2, s3, s4, s5⟩
        go_simp
        with_reducible rfl
      rotate_left
      · simp only [Act.put, List.setIfInBounds_toArray, List.set_cons_zero, List.set_cons_succ, i64_w, i32_w]
        rfl
      refine take_ (i := 9) (N := some 54) (v := ?_) (a' := ?_) #[true, true, true, true, true, true, true, true, true, true, false, false, false, false, false, false, false, false, false, false, false, false, false, false] rfl rfl (take_ofW HT_.out HW_.out (by kernel_rfl)) (fun _ _ _ h => h) (Or.inl ⟨by rfl, ?_⟩) hHeld ?_ ?_
      rotate_left
      · rintro w' ⟨s0, s1, s2, s3, s4, s5⟩
        go_simp
        with_reducible rfl
      rotate_left
      · simp only [Act.put, List.setIfInBounds_toArray, List.set_cons_zero, List.set_cons_succ, i64_w, i32_w]
        rfl
      refine pure_ (i := 10) (N := some 55) (v := ?_) (a' := ?_) #[true, true, true, true, true, true, true, true, true, true, true, false, false, false, false, false, false, false, false, false, false, false, false, false] rfl rfl (any_of HT_.out (by kernel_rfl)) (fun _ _ _ h => h) (Or.inl ⟨by rfl, ?_⟩) ?_ ?_
      rotate_left
      · intro w'
        go_simp
        with_reducible rfl
      rotate_left
      · simp only [Act.put, List.setIfInBounds_toArray, List.set_cons_zero, List.set_cons_succ, i64_w, i32_w]
        rfl
      refine pure_ (i := 11) (N := some 56) (v := ?_) (a' := ?_) #[true, true, true, true, true, true, true, true, true, true, true, true, false, false, false, false, false, false, false, false, false, false, false, false] rfl rfl (any_of HT_.out (by kernel_rfl)) (fun _ _ _ h => h) (Or.inl ⟨by rfl, ?_⟩) ?_ ?_
      rotate_left
      · intro w'
        go_simp
        with_reducible rfl
      rotate_left
      · simp only [Act.put, List.setIfInBounds_toArray, List.set_cons_zero, List.set_cons_succ, i64_w, i32_w]
        rfl
      refine pure_ (i := 12) (N := some 57) (v := ?_) (a' := ?_) #[true, true, true, true, true, true, true, true, true, true, true, true, true, false, false, false, false, false, false, false, false, false, false, false] rfl rfl (any_of HT_.out (by kernel_rfl)) (fun _ _ _ h => h) (Or.inl ⟨by rfl, ?_⟩) ?_ ?_
      rotate_left
      · intro w'
        go_simp
        with_reducible rfl
      rotate_left
      · simp only [Act.put, List.setIfInBounds_toArray, List.set_cons_zero, List.set_cons_succ, i64_w, i32_w]
        rfl
      refine pure_ (i := 13) (N := some 58) (v := ?_) (a' := ?_) #[true, true, true, true, true, true, true, true, true, true, true, true, true, true, false, false, false, false, false, false, false, false, false, false] rfl rfl (any_of HT_.out (by kernel_rfl)) (fun _ _ _ h => h) (Or.inl ⟨by rfl, ?_⟩) ?_ ?_
      rotate_left
      · intro w'
        go_simp
        with_reducible rfl
      rotate_left
      · simp only [Act.put, List.setIfInBounds_toArray, List.set_cons_zero, List.set_cons_succ, i64_w, i32_w]
        rfl
      refine pure_ (i := 14) (N := some 59) (v := ?_) (a' := ?_) #[true, true, true, true, true, true, true, true, true, true, true, true, true, true, true, false, false, false, false, false, false, false, false, false] rfl rfl (any_of HT_.out (by kernel_rfl)) (fun _ _ _ h => h) (Or.inl ⟨by rfl, ?_⟩) ?_ ?_
      rotate_left
      · intro w'
        go_simp
        with_reducible rfl
      rotate_left
      · simp only [Act.put, List.setIfInBounds_toArray, List.set_cons_zero, List.set_cons_succ, i64_w, i32_w]
        rfl
      refine pure_ (i := 15) (N := some 60) (v := ?_) (a' := ?_) #[true, true, true, true, true, true, true, true, true, true, true, true, true, true, true, true, false, false, false, false, false, false, false, false] rfl rfl (any_of HT_.out (by kernel_rfl)) (fun _ _ _ h => h) (Or.inl ⟨by rfl, ?_⟩) ?_ ?_
      rotate_left
      · intro w'
        go_simp
        with_reducible rfl
      rotate_left
      · simp only [Act.put, List.setIfInBounds_toArray, List.set_cons_zero, List.set_cons_succ, i64_w, i32_w]
        rfl
      refine pure_ (i := 17) (N := some 62) (v := ?_) (a' := ?_) #[true, true, true, true, true, true, true, true, true, true, true, true, true, true, true, true, false, true, false, false, false, false, false, false] rfl rfl (any_of HT_.out (by kernel_rfl)) (fun _ _ _ h => h) (Or.inl ⟨by rfl, ?_⟩) ?_ ?_
      rotate_left
      · intro w'
        go_simp
        with_reducible rfl
      rotate_left
      · simp only [Act.put, List.setIfInBounds_toArray, List.set_cons_zero, List.set_cons_succ, i64_w, i32_w]
        rfl
      refine pure_ (i := 18) (N := some 63) (v := ?_) (a' := ?_) #[true, true, true, true, true, true, true, true, true, true, true, true, true, true, true, true, false, true, true, false, false, false, false, false] rfl rfl (any_of HT_.out (by kernel_rfl)) (fun _ _ _ h => h) (Or.inl ⟨by rfl, ?_⟩) ?_ ?_
      rotate_left
      · intro w'
        go_simp
        with_reducible rfl
      rotate_left
      · simp only [Act.put, List.setIfInBounds_toArray, List.set_cons_zero, List.set_cons_succ, i64_w, i32_w]
        rfl
      refine pure_ (i := 19) (N := some 64) (v := ?_) (a' := ?_) #[true, true, true, true, true, true, true, true, true, true, true, true, true, true, true, true, false, true, true, true, false, false, false, false] rfl rfl (any_of HT_.out (by kernel_rfl)) (fun _ _ _ h => h) (Or.inl ⟨by rfl, ?_⟩) ?_ ?_
      rotate_left
      · intro w'
        go_simp
        with_reducible rfl
      rotate_left
      · simp only [Act.put, List.setIfInBounds_toArray, List.set_cons_zero, List.set_cons_succ, i64_w, i32_w]
        rfl
      refine pure_ (i := 20) (N := some 65) (v := ?_) (a' := ?_) #[true, true, true, true, true, true, true, true, true, true, true, true, true, true, true, true, false, true, true, true, true, false, false, false] rfl rfl (any_of HT_.out (by kernel_rfl)) (fun _ _ _ h => h) (Or.inl ⟨by rfl, ?_⟩) ?_ ?_
      rotate_left
      · intro w'
        go_simp
        with_reducible rfl
      rotate_left
      · simp only [Act.put, List.setIfInBounds_toArray, List.set_cons_zero, List.set_cons_succ, i64_w, i32_w]
        rfl
      refine take_ (i := 16) (N := some 61) (v := ?_) (a' := ?_) #[true, true, true, true, true, true, true, true, true, true, true, true, true, true, true, true, true, true, true, true, true, false, false, false] rfl rfl (take_ofW HT_.out HW_.out (by kernel_rfl)) (fun _ _ _ h => h) (Or.inl ⟨by rfl, ?_⟩) hHeld ?_ ?_
      rotate_left
      · rintro w' ⟨s0, s1, s2, s3, s4, s5⟩
        go_simp
        with_reducible rfl
      rotate_left
      · simp only [Act.put, List.setIfInBounds_toArray, List.set_cons_zero, List.set_cons_succ, i64_w, i32_w]
        rfl
      refine take_ (i := 21) (N := some 66) (v := ?_) (a' := ?_) #[true, true, true, true, true, true, true, true, true, true, true, true, true, true, true, true, true, true, true, true, true, true, false, false] rfl rfl (take_ofW HT_.out HW_.out (by kernel_rfl)) (fun _ _ _ h => h) (Or.inl ⟨by rfl, ?_⟩) hHeld ?_ ?_
      rotate_left
      · rintro w' ⟨s0, s1, s2, s3, s4, s5⟩
        go_simp
        with_reducible rfl
      rotate_left
      · simp only [Act.put, List.setIfInBounds_toArray, List.set_cons_zero, List.set_cons_succ, i64_w, i32_w]
        rfl
      refine pure_ (i := 22) (N := some 67) (v := ?_) (a' := ?_) #[true, true, true, true, true, true, true, true, true, true, true, true, true, true, true, true, true, true, true, true, true, true, true, false] rfl rfl (any_of HT_.out (by kernel_rfl)) (fun _ _ _ h => h) (Or.inl ⟨by rfl, ?_⟩) ?_ ?_
      rotate_left
      · intro w'
        go_simp
        with_reducible rfl
      rotate_left
      · simp only [Act.put, List.setIfInBounds_toArray, List.set_cons_zero, List.set_cons_succ, i64_w, i32_w]
        rfl
      refine pure_ (i := 23) (N := some 68) (v := ?_) (a' := ?_) #[true, true, true, true, true, true, true, true, true, true, true, true, true, true, true, true, true, true, true, true, true, true, true, true] rfl rfl (any_of HT_.out (by kernel_rfl)) (fun _ _ _ h => h) (Or.inl ⟨by rfl, ?_⟩) ?_ ?_
      rotate_left
      · intro w'
        go_simp
        with_reducible rfl
      rotate_left
      · simp only [Act.put, List.setIfInBounds_toArray, List.set_cons_zero, List.set_cons_succ, i64_w, i32_w]
        rfl
      refine done_ (done_of HT_.out (by kernel_rfl)) ?_
      go_wp2_with fail
      go_roundg (S.length - (j + 1))
      case measure => go_light; exact HIN.out _ HNJ.out
      case rel => exact ⟨j + 1, by first | rfl | (rw [hw1]; rfl) | (simp [hw1]; done) | (simp [hw1]; omega), ⟨rfl⟩, ⟨below_drew HBJ.out⟩⟩
    · have hge : ¬ (j : Int) < (S.length : Int) := by omega
      have HBW := Lib.hid (below_then HB6.out HB6.out.size HBJ.out)
      clear HBJ HP6 HQ6
      go_wp2_with fail
      go_loopg [9, 10, 11, 12] L.length (fun gn v9 v10 v11 v12 wq => ∃ (i : Nat), v9 = .int .i64 (i : Int) ∧ Aside0 (gn = L.length - i) ∧ Aside0 (Below w.heap.size w wq))
      case atStart => exact ⟨0, rfl, ⟨rfl⟩, ⟨HBW.out⟩⟩
      case round =>
        clear HBW
        obtain ⟨i, rfl, HNI, HBI⟩ := hrel
        by_cases hi : i < L.length
        · have hi0 : (i : Int) < (L.length : Int) := by omega
          have hwi := wrap_lt i L.length hi (Nat.le_trans HLN.out (by omega))
          obtain ⟨ad, A2, c2, e1, r0, hle, hC2⟩ := at_L4 HL.out (i : Int) (by omega) hi0
          cases e1
          rw [Int.toNat_natCast] at r0
          obtain ⟨x, hx⟩ : ∃ x, rd_L4 L (i : Int) = x := ⟨_, rfl⟩
          rw [hx] at r0 hle hC2
          have hxm : x ∈ L := by rw [← hx, rdLL hi]; exact List.getElem_mem hi
          have HD1 := Lib.hid (fun W (hW : Below w.heap.size w W) => diff_calls W A c own (Kd.C_below HO.out hW) HOK.out HN.out A2 c2 x (Kd.C_below hC2 hW) (HLK.out x hxm) (HLX.out x hxm))
          have HD2 := Lib.hid (fun W (hW : Below w.heap.size w W) => rdiff_calls W A c own (Kd.C_below HO.out hW) HOC.out HN.out A2 c2 x (Kd.C_below hC2 hW) hle (HLX.out x hxm))
          have q0 : wr.cell? (ad.add i) = some (.slice A2 x.length c2) := pw_cell_below HBI.out r0
          have HR0 := Lib.hid r0
          have HIN := Lib.hid (show ∀ k, k = L.length - i → L.length - (i + 1) < k by intro k hk; omega)
          clear hx hxm r0 hle hC2
          go_wp2_with fail
          with_reducible refine (HD1.out _ HBI.out).mono ?_
          rintro e w7 ⟨v7, D, rfl, hD, hR7, hb7⟩
          obtain ⟨A7, c7, rfl⟩ := Kd.R_slice hR7
          have HD := Lib.hid hD
          have HB7 := Lib.hid (below_then HBI.out HBI.out.size hb7)
          have HR7 := Lib.hid hR7
          have q0 : w7.cell? (ad.add i) = some (.slice A2 x.length c2) := pw_cell_below HB7.out HR0.out
          clear hD hR7 hb7 HD1
          go_wp2_with fail
          with_reducible refine (HD2.out _ HB7.out).mono ?_
          rintro e w8 ⟨v8, D8, rfl, hD8, hR8, hb8⟩
          obtain rfl : D8 = D := hD8.unique HD.out
          obtain ⟨A8, c8, rfl⟩ := Kd.R_slice hR8
          have HB8 := Lib.hid (below_then HB7.out HB7.out.size hb8)
          have HP8 := Lib.hid (show Kd.C k38 w8 A7 D8.length D8 from Kd.C_below (Kd.R_reads' HR7.out).2.2 hb8)
          have HQ8 := Lib.hid (show Kd.C k38 w8 A8 D8.length D8 from (Kd.R_reads' hR8).2.2)
          have HDM := Lib.hid (show D8.length ≤ 9223372036854775807 from HP8.out.2.1)
          have hde : ((D8.length : Int) != (D8.length : Int)) = false := by simp
          clear hD8 hR8 hb8 HD2 HR7 q0
          go_wp2_with fail
          go_loopg [12] D8.length (fun gn v12 wq => ∃ (j : Nat), v12 = .int .i64 (j : Int) ∧ Aside0 (gn = D8.length - j) ∧ Aside0 (Below w8.heap.size w8 wq))
          case atStart => exact ⟨0, rfl, ⟨rfl⟩, ⟨Below.refl _ _⟩⟩
          case round =>
            obtain ⟨j, rfl, HNJ, HBJ⟩ := hrel
            by_cases hj : j < D8.length
            · have hj0 : (j : Int) < (D8.length : Int) := by omega
              have hw1 := wrap_lt j D8.length hj HDM.out
              obtain ⟨ad, e1, p0, p1⟩ := at_T38 (Kd.C_below HP8.out HBJ.out) (j : Int) (by omega) hj0
              cases e1
              obtain ⟨ad', e2, q0, q1⟩ := at_T38 (Kd.C_below HQ8.out HBJ.out) (j : Int) (by omega) hj0
              cases e2
              rw [Int.toNat_natCast] at p0 p1 q0 q1
              obtain ⟨a, ha⟩ : ∃ a, rd_T38 D8 (j : Int) = a := ⟨_, rfl⟩
              rw [ha] at p0 p1 q0 q1
              have hz : (0 : Int) ≤ (j : Int) := by omega
              have HJN := Lib.hid (show ∀ k, k = D8.length - j → D8.length - (j + 1) < k by intro k hk; omega)
              clear ha
              go_wp2_with fail
              refine start_ (n := 9) (S := fun w' => w'.cell? (ad.add (j * 2)) = some (.string a.f0) ∧ w'.cell? ⟨(ad.add (j * 2)).block, (ad.add (j * 2)).off + 1, none⟩ = some (.int .i64 a.f1) ∧ w'.cell? (ad'.add (j * 2)) = some (.string a.f0) ∧ w'.cell? ⟨(ad'.add (j * 2)).block, (ad'.add (j * 2)).off + 1, none⟩ = some (.int .i64 a.f1)) (ds := []) #[false, false, false, false, false, false, false, false, false] (by kernel_rfl) rfl rfl ⟨p0, p1, q0, q1⟩ (fun hHeld => ?_)
              refine with_tabW Plans23.tab23 Plans23.bits23 (fun HT_ HW_ => ?_)
              refine pure_ (i := 0) (N := some 98) (v := ?_) (a' := ?_) #[true, false, false, false, false, false, false, false, false] rfl rfl (any_of HT_.out (by kernel_rfl)) (fun _ _ _ h => h) (Or.inl ⟨by rfl, ?_⟩) ?_ ?_
              rotate_left
              · intro w'
                go_simp
                with_reducible rfl
              rotate_left
              · simp only [Act.put, List.setIfInBounds_toArray, List.set_cons_zero, List.set_cons_succ, i64_w, i32_w]
                rfl
              refine pure_ (i := 1) (N := some 99) (v := ?_) (a' := ?_) #[true, true, false, false, false, false, false, false, false] rfl rfl (any_of HT_.out (by kernel_rfl)) (fun _ _ _ h => h) (Or.inl ⟨by rfl, ?_⟩) ?_ ?_
              rotate_left
              · intro w'
                go_simp
                with_reducible rfl
              rotate_left
              · simp only [Act.put, List.setIfInBounds_toArray, List.set_cons_zero, List.set_cons_succ, i64_w, i32_w]
                rfl
              refine pure_ (i := 2) (N := some 100) (v := ?_) (a' := ?_) #[true, true, true, false, false, false, false, false, false] rfl rfl (any_of HT_.out (by kernel_rfl)) (fun _ _ _ h => h) (Or.inl ⟨by rfl, ?_⟩) ?_ ?_
              rotate_left
              · intro w'
                go_simp
                with_reducible rfl
              rotate_left
              · simp only [Act.put, List.setIfInBounds_toArray, List.set_cons_zero, List.set_cons_succ, i64_w, i32_w]
                rfl
              refine pure_ (i := 4) (N := some 102) (v := ?_) (a' := ?_) #[true, true, true, false, true, false, false, false, false] rfl rfl (any_of HT_.out (by kernel_rfl)) (fun _ _ _ h => h) (Or.inl ⟨by rfl, ?_⟩) ?_ ?_
              rotate_left
              · intro w'
                go_simp
                with_reducible rfl
              rotate_left
              · simp only [Act.put, List.setIfInBounds_toArray, List.set_cons_zero, List.set_cons_succ, i64_w, i32_w]
                rfl
              refine pure_ (i := 5) (N := some 103) (v := ?_) (a' := ?_) #[true, true, true, false, true, true, false, false, false] rfl rfl (any_of HT_.out (by kernel_rfl)) (fun _ _ _ h => h) (Or.inl ⟨by rfl, ?_⟩) ?_ ?_
              rotate_left
              · intro w'
                go_simp
                with_reducible rfl
              rotate_left
              · simp only [Act.put, List.setIfInBounds_toArray, List.set_cons_zero, List.set_cons_succ, i64_w, i32_w]
                rfl
              refine pure_ (i := 6) (N := some 104) (v := ?_) (a' := ?_) #[true, true, true, false, true, true, true, false, false] rfl rfl (any_of HT_.out (by kernel_rfl)) (fun _ _ _ h => h) (Or.inl ⟨by rfl, ?_⟩) ?_ ?_
              rotate_left
              · intro w'
                go_simp
                with_reducible rfl
              rotate_left
              · simp only [Act.put, List.setIfInBounds_toArray, List.set_cons_zero, List.set_cons_succ, i64_w, i32_w]
                rfl
              refine take_ (i := 3) (N := some 101) (v := ?_) (a' := ?_) #[true, true, true, true, true, true, true, false, false] rfl rfl (take_ofW HT_.out HW_.out (by kernel_rfl)) (fun _ _ _ h => h) (Or.inl ⟨by rfl, ?_⟩) hHeld ?_ ?_
              rotate_left
              · rintro w' ⟨s0, s1, s2, s3⟩
                go_simp
                with_reducible rfl
              rotate_left
              · simp only [Act.put, List.setIfInBounds_toArray, List.set_cons_zero, List.set_cons_succ, i64_w, i32_w]
                rfl
              refine take_ (i := 7) (N := some 105) (v := ?_) (a' := ?_) #[true, true, true, true, true, true, true, true, false] rfl rfl (take_ofW HT_.out HW_.out (by kernel_rfl)) (fun _ _ _ h => h) (Or.inl ⟨by rfl, ?_⟩) hHeld ?_ ?_
              rotate_left
              · rintro w' ⟨s0, s1, s2, s3⟩
                go_simp
                with_reducible rfl
              rotate_left
              · simp only [Act.put, List.setIfInBounds_toArray, List.set_cons_zero, List.set_cons_succ, i64_w, i32_w]
                rfl
              refine pure_ (i := 8) (N := some 106) (v := ?_) (a' := ?_) #[true, true, true, true, true, true, true, true, true] rfl rfl (any_of HT_.out (by kernel_rfl)) (fun _ _ _ h => h) (Or.inl ⟨by rfl, ?_⟩) ?_ ?_
              rotate_left
              · intro w'
                go_simp
                with_reducible rfl
              rotate_left
              · simp only [Act.put, List.setIfInBounds_toArray, List.set_cons_zero, List.set_cons_succ, i64_w, i32_w]
                rfl
              refine done_ (done_of HT_.out (by kernel_rfl)) ?_
              go_wp2_with fail
              go_roundg (D8.length - (j + 1))
              case measure => go_light; exact HJN.out _ HNJ.out
              case rel => exact ⟨j + 1, by first | rfl | (rw [hw1]; rfl) | (simp [hw1]; done) | (simp [hw1]; omega), ⟨rfl⟩, ⟨below_drew HBJ.out⟩⟩
            · have hge : ¬ (j : Int) < (D8.length : Int) := by omega
              have HBZ := Lib.hid (below_then HB8.out HB8.out.size HBJ.out)
              go_wp2_with fail
              go_roundg (L.length - (i + 1))
              case measure => go_light; exact HIN.out _ HNI.out
              case rel => exact ⟨i + 1, by first | rfl | (rw [hwi]; rfl) | (simp [hwi]; done) | (simp [hwi]; omega), ⟨rfl⟩, ⟨HBZ.out⟩⟩
        · have hge : ¬ (i : Int) < (L.length : Int) := by omega
          go_wp2
          go_ret
          exact ⟨rfl, HBI.out⟩
end Rp
end Go.Proofs.Ytcdpcgcfonjnfaa
