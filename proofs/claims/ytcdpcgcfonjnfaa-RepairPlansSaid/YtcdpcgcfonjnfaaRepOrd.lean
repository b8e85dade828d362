/- repair.order: what it tells; it only lays. -/
import Derived.Test.YtcdpcgcfonjnfaaRepPure
import Derived.Test.YtcdpcgcfonjnfaaQT4
import Derived.Test.YtcdpcgcfonjnfaaLayR
import Derived.Test.YtcdpcgcfonjnfaaWMore
import Derived.Test.YtcdpcgcfonjnfaaWApart
import Derived.Lib.SliceRun
import Derived.Laws.IdiomCopy
import Derived.WalkKit
import Derived.Lib.Hide
import Derived.Outline
namespace Go.Proofs.Ytcdpcgcfonjnfaa
set_option linter.unusedVariables false
set_option linter.unusedSimpArgs false
open Go.RowKit Go.Proofs.YtcdpcgcfonjnfaaW.PrintWords Go.Proofs.YtcdpcgcfonjnfaaW.PrintLast Go.Proofs.YtcdpcgcfonjnfaaW.PrintMore Go.Proofs.Ytcdpcgcfonjnfaa.QT Go.Sort
namespace Rp
def Lays (W w' : World) : Prop := ∃ q os, w' = grow (W.drewN q) os
theorem Lays.refl (W : World) : Lays W W := ⟨0, #[], by rw [grow_empty]; rfl⟩
theorem Lays.trans {a b c : World} (h : Lays a b) (k : Lays b c) : Lays a c := by
  obtain ⟨q, os, rfl⟩ := h
  obtain ⟨q', os', rfl⟩ := k
  exact ⟨q + q', os ++ os', by simp [grow, World.drewN, Nat.add_assoc]⟩
theorem Lays.alloc {a b : World} (h : Lays a b) (o : Obj) : Lays a (b.alloc o) := h.trans ⟨0, #[o], by rw [alloc_eq_grow]; rfl⟩
theorem Lays.draw {a b : World} (h : Lays a b) (n : Nat) : Lays a (b.drewN n) := h.trans ⟨n, #[], by rw [grow_empty]⟩
theorem Lays.of_drawn {a b : World} (h : Drawn0 a b) : Lays a b := by
  obtain ⟨n, rfl⟩ := h
  exact (Lays.refl a).draw n
theorem Lays.below {W w' : World} (h : Lays W w') : Below W.heap.size W w' := by
  obtain ⟨q, os, rfl⟩ := h
  refine ⟨rfl, rfl, rfl, ?_, fun k hk => ?_⟩
  · simp [grow, World.drewN]
  · have : (grow (W.drewN q) os).heap = W.heap ++ os := rfl
    rw [this, Array.getElem?_append_left (by simpa using hk)]
def cmpInt (a b : Int) : Int := if a < b then -1 else if a > b then 1 else 0
/-- By block, then by name. -/
def ordP (a b : Pc) : Int := if cmpInt a.f1 b.f1 ≠ 0 then cmpInt a.f1 b.f1 else cmpStr a.f0 b.f0
theorem cmp_int (a b : Int) (w : World) : Calls Try.prog 27 #[.int .i64 a, .int .i64 b] w fun e w' => e = .returned (.int .i64 (cmpInt a b)) ∧ Lays w w' :=
  (cmp_Compare_int.calls a b (cmpInt a b) w (by
    unfold cmp_Compare_int.f cmp_isNaN_int.f cmpInt
    simp
    split
    · rfl
    · split <;> rfl)).mono fun e w' h => ⟨h.1, Lays.of_drawn h.2⟩
theorem cmp_str (a b : ByteArray) (w : World) : Calls Try.prog 28 #[.string a, .string b] w fun e w' => e = .returned (.int .i64 (cmpStr a b)) ∧ Lays w w' :=
  (cmp_Compare_string.calls a b (cmpStr a b) w rfl).mono fun e w' h => ⟨h.1, Lays.of_drawn h.2⟩
theorem lit_ints (W : World) (x y : Int) : Kd.C (Kd.int .i64) (W.alloc (.cells #[.int .i64 x, .int .i64 y] 3)) (some ⟨W.heap.size, 0, none⟩) 2 [x, y] := by
  refine ⟨rfl, by decide, fun _ => ⟨_, rfl, fun j p hj => ?_⟩⟩
  have hb := blk_new W (.cells #[.int .i64 x, .int .i64 y] 3)
  match j, hj with
  | 0, hj =>
    cases hj
    refine ⟨_, rfl, rfl, fun i u hu => ?_⟩
    match i, hu with
    | 0, hu => cases hu; exact (blk_cell hb 0).trans rfl
  | 1, hj =>
    cases hj
    refine ⟨_, rfl, rfl, fun i u hu => ?_⟩
    match i, hu with
    | 0, hu => cases hu; exact (blk_cell hb 1).trans rfl
theorem or_two (w : World) (A : Option Addr) (x y : Int) (hC : Kd.C (Kd.int .i64) w A 2 [x, y]) : Calls Try.prog 26 #[.slice A 2 2] w fun e w' => e = .returned (.int .i64 (if x ≠ 0 then x else y)) ∧ Lays w w' :=
  (cmp_Or_int.calls 4 A 2 [x, y] (if x ≠ 0 then x else y) w hC (Nat.le_refl _) (by
    unfold cmp_Or_int.f
    have e1 : wrap64 1 = 1 := by unfold wrap64; omega
    have e2 : wrap64 2 = 2 := by unfold wrap64; omega
    have r0 : ∀ p q : Int, rd [p, q] 0 = p := fun _ _ => rfl
    have r1 : ∀ p q : Int, rd [p, q] 1 = q := fun _ _ => rfl
    by_cases hx : x = 0
    · by_cases hy : y = 0 <;> simp [cmp_Or_int.l0, e1, e2, r0, r1, hx, hy]
    · simp [cmp_Or_int.l0, r0, hx])).mono fun e w' h => ⟨h.1, Lays.of_drawn h.2⟩
theorem or_ord (a b : Pc) (w : World) (A : Option Addr) (hC : Kd.C (Kd.int .i64) w A 2 [cmpInt a.f1 b.f1, cmpStr a.f0 b.f0]) : Calls Try.prog 26 #[.slice A 2 2] w fun e w' => e = .returned (.int .i64 (ordP a b)) ∧ Lays w w' :=
  or_two w A (cmpInt a.f1 b.f1) (cmpStr a.f0 b.f0) hC
def Ord1.T1 : Bool × List (List Nat × List Nat) := (true, [([], []), ([0], [0]), ([], []), ([2], [2]), ([1, 3], [1, 3]), ([], []), ([5], [5]), ([], []), ([7], [7]), ([6, 8, 4], [6, 8]), ([4, 9], [4, 9]), ([10, 9], [10]), ([11, 11, 0, 1, 2, 3, 4, 5, 6, 7, 8, 9, 10, 11], [11])])
def Ord1.B1 : List Nat := [0, 1, 0, 4, 15, 0, 32, 0, 128, 511, 1023, 2047, 4095]
theorem Ord1.tab1 : rtab .any (opsOf Try.f17 1) = Ord1.T1 := by kernel_rfl
theorem Ord1.bits1 : waitsOk Ord1.T1.2 Ord1.B1 = true := by kernel_rfl
set_option maxHeartbeats 4000000 in
set_option maxRecDepth 100000 in
theorem order_calls (a b : Pc) (w : World) : Calls Try.prog 17 #[.agg #[.string a.f0, .int .i64 a.f1], .agg #[.string b.f0, .int .i64 b.f1]] w fun e w' => e = .returned (.int .i64 (ordP a b)) ∧ Lays w w' := by
  have HC1 := Lib.hid (fun W => cmp_int a.f1 b.f1 W)
  have HC2 := Lib.hid (fun W => cmp_str a.f0 b.f0 W)
  have HL := Lib.hid (((Lays.refl w).alloc (.cells #[.string a.f0, .int .i64 a.f1] 32)).alloc (.cells #[.string b.f0, .int .i64 b.f1] 32))
  have HB1 := Lib.hid (blk_new w (.cells #[.string a.f0, .int .i64 a.f1] 32))
  have HB2 := Lib.hid (blk_new (w.alloc (.cells #[.string a.f0, .int .i64 a.f1] 32)) (.cells #[.string b.f0, .int .i64 b.f1] 32))
  go_enter Try.func17, Try.ntmps17
  go_wp2_with fail
  obtain ⟨X, hX⟩ : ∃ X : World, X = (w.alloc (.cells #[.string a.f0, .int .i64 a.f1] 32)).alloc (.cells #[.string b.f0, .int .i64 b.f1] 32) := ⟨_, rfl⟩
  obtain ⟨g2, hg2⟩ : ∃ g2, g2 = w.heap.size := ⟨_, rfl⟩
  obtain ⟨g3, hg3⟩ : ∃ g3, g3 = (w.alloc (.cells #[.string a.f0, .int .i64 a.f1] 32)).heap.size := ⟨_, rfl⟩
  have HX2 := Lib.hid (blk_below HB1.out (below_alloc (Below.refl _ _) (.cells #[.string b.f0, .int .i64 b.f1] 32)))
  rw [← hX] at HL HB2 HX2
  rw [← hg3] at HB2
  rw [← hg2] at HX2
  have hg4 : g3 = w.heap.size + 1 := by rw [hg3]; simp
  rw [← hX]
  try rw [← hg4]
  try rw [← hg2]
  have y0 : X.cell? ⟨g2, 0, none⟩ = some (.string a.f0) := (blk_cell HX2.out 0).trans rfl
  have y1 : X.cell? ⟨g2, 1, none⟩ = some (.int .i64 a.f1) := (blk_cell HX2.out 1).trans rfl
  have y2 : X.cell? ⟨g3, 0, none⟩ = some (.string b.f0) := (blk_cell HB2.out 0).trans rfl
  have y3 : X.cell? ⟨g3, 1, none⟩ = some (.int .i64 b.f1) := (blk_cell HB2.out 1).trans rfl
  clear hX hg2 hg3 hg4 HB1
  refine start_ (n := 13) (S := fun w' => w'.cell? ⟨g2, 0, none⟩ = some (.string a.f0) ∧ w'.cell? ⟨g2, 1, none⟩ = some (.int .i64 a.f1) ∧ w'.cell? ⟨g3, 0, none⟩ = some (.string b.f0) ∧ w'.cell? ⟨g3, 1, none⟩ = some (.int .i64 b.f1)) (ds := []) #[false, false, false, false, false, false, false, false, false, false, false, false, false] (by kernel_rfl) rfl rfl ⟨y0, y1, y2, y3⟩ (fun hHeld => ?_)
  refine with_tabW Ord1.tab1 Ord1.bits1 (fun HT_ HW_ => ?_)
  refine pure_ (i := 0) (N := some 5) (v := ?_) (a' := ?_) #[true, false, false, false, false, false, false, false, false, false, false, false, false] rfl rfl (any_of HT_.out (by kernel_rfl)) (fun _ _ _ h => h) (Or.inl ⟨by rfl, ?_⟩) ?_ ?_
  rotate_left
  · intro w'
    go_simp
    with_reducible rfl
  rotate_left
  · simp only [Act.put, List.setIfInBounds_toArray, List.set_cons_zero, List.set_cons_succ, i64_w, i32_w]
    rfl
  refine pure_ (i := 2) (N := some 7) (v := ?_) (a' := ?_) #[true, false, true, false, false, false, false, false, false, false, false, false, false] rfl rfl (any_of HT_.out (by kernel_rfl)) (fun _ _ _ h => h) (Or.inl ⟨by rfl, ?_⟩) ?_ ?_
  rotate_left
  · intro w'
    go_simp
    with_reducible rfl
  rotate_left
  · simp only [Act.put, List.setIfInBounds_toArray, List.set_cons_zero, List.set_cons_succ, i64_w, i32_w]
    rfl
  refine pure_ (i := 5) (N := some 10) (v := ?_) (a' := ?_) #[true, false, true, false, false, true, false, false, false, false, false, false, false] rfl rfl (any_of HT_.out (by kernel_rfl)) (fun _ _ _ h => h) (Or.inl ⟨by rfl, ?_⟩) ?_ ?_
  rotate_left
  · intro w'
    go_simp
    with_reducible rfl
  rotate_left
  · simp only [Act.put, List.setIfInBounds_toArray, List.set_cons_zero, List.set_cons_succ, i64_w, i32_w]
    rfl
  refine pure_ (i := 7) (N := some 12) (v := ?_) (a' := ?_) #[true, false, true, false, false, true, false, true, false, false, false, false, false] rfl rfl (any_of HT_.out (by kernel_rfl)) (fun _ _ _ h => h) (Or.inl ⟨by rfl, ?_⟩) ?_ ?_
  rotate_left
  · intro w'
    go_simp
    with_reducible rfl
  rotate_left
  · simp only [Act.put, List.setIfInBounds_toArray, List.set_cons_zero, List.set_cons_succ, i64_w, i32_w]
    rfl
  refine take_ (i := 1) (N := some 6) (v := ?_) (a' := ?_) #[true, true, true, false, false, true, false, true, false, false, false, false, false] rfl rfl (take_ofW HT_.out HW_.out (by kernel_rfl)) (fun _ _ _ h => h) (Or.inl ⟨by rfl, ?_⟩) hHeld ?_ ?_
  rotate_left
  · rintro w' ⟨s0, s1, s2, s3⟩
    go_simp
    with_reducible rfl
  rotate_left
  · simp only [Act.put, List.setIfInBounds_toArray, List.set_cons_zero, List.set_cons_succ, i64_w, i32_w]
    rfl
  refine take_ (i := 3) (N := some 8) (v := ?_) (a' := ?_) #[true, true, true, true, false, true, false, true, false, false, false, false, false] rfl rfl (take_ofW HT_.out HW_.out (by kernel_rfl)) (fun _ _ _ h => h) (Or.inl ⟨by rfl, ?_⟩) hHeld ?_ ?_
  rotate_left
  · rintro w' ⟨s0, s1, s2, s3⟩
    go_simp
    with_reducible rfl
  rotate_left
  · simp only [Act.put, List.setIfInBounds_toArray, List.set_cons_zero, List.set_cons_succ, i64_w, i32_w]
    rfl
  refine take_ (i := 6) (N := some 11) (v := ?_) (a' := ?_) #[true, true, true, true, false, true, true, true, false, false, false, false, false] rfl rfl (take_ofW HT_.out HW_.out (by kernel_rfl)) (fun _ _ _ h => h) (Or.inl ⟨by rfl, ?_⟩) hHeld ?_ ?_
  rotate_left
  · rintro w' ⟨s0, s1, s2, s3⟩
    go_simp
    with_reducible rfl
  rotate_left
  · simp only [Act.put, List.setIfInBounds_toArray, List.set_cons_zero, List.set_cons_succ, i64_w, i32_w]
    rfl
  refine take_ (i := 8) (N := some 13) (v := ?_) (a' := ?_) #[true, true, true, true, false, true, true, true, true, false, false, false, false] rfl rfl (take_ofW HT_.out HW_.out (by kernel_rfl)) (fun _ _ _ h => h) (Or.inl ⟨by rfl, ?_⟩) hHeld ?_ ?_
  rotate_left
  · rintro w' ⟨s0, s1, s2, s3⟩
    go_simp
    with_reducible rfl
  rotate_left
  · simp only [Act.put, List.setIfInBounds_toArray, List.set_cons_zero, List.set_cons_succ, i64_w, i32_w]
    rfl
  refine one_ (i := 4) (N := some 9) #[true, true, true, true, true, true, true, true, true, false, false, false, false] rfl rfl (one_of HT_.out (by kernel_rfl)) (by decide) (fun K hK => ?_)
  refine goes_ Try.func27 (by kernel_rfl) rfl #[.int .i64 a.f1, .int .i64 b.f1] (by rfl) rfl rfl (by simp only [List.map_toArray, List.map_cons, List.map_nil]; rfl) ?_
  with_reducible refine ((HC1.out _)).mono ?_
  rintro e w1 ⟨rfl, hd1⟩
  refine ⟨_, rfl, ?_⟩
  have HL1 := Lib.hid (show Lays X w1 from ((Lays.refl X).draw 1).trans hd1)
  clear hd1
  refine hK.out _ _ ⟨(pw_cell_below HL1.out.below y0), (pw_cell_below HL1.out.below y1), (pw_cell_below HL1.out.below y2), (pw_cell_below HL1.out.below y3)⟩ (fun hHeld => ?_)
  clear hK K
  refine norm_ (a' := ?_) ?_ ?_
  rotate_left
  · show Act.put _ (some 9) _ = _
    simp only [Act.put, List.setIfInBounds_toArray, List.set_cons_zero, List.set_cons_succ, i64_w, i32_w]
    rfl
  refine one_ (i := 9) (N := some 14) #[true, true, true, true, true, true, true, true, true, true, false, false, false] rfl rfl (one_of HT_.out (by kernel_rfl)) (by decide) (fun K hK => ?_)
  refine goes_ Try.func28 (by kernel_rfl) rfl #[.string a.f0, .string b.f0] (by rfl) rfl rfl (by simp only [List.map_toArray, List.map_cons, List.map_nil]; rfl) ?_
  with_reducible refine ((HC2.out _)).mono ?_
  rintro e w2 ⟨rfl, hd2⟩
  refine ⟨_, rfl, ?_⟩
  have HL2 := Lib.hid (show Lays X w2 from HL1.out.trans hd2)
  clear hd2
  refine hK.out _ _ ⟨(pw_cell_below HL2.out.below y0), (pw_cell_below HL2.out.below y1), (pw_cell_below HL2.out.below y2), (pw_cell_below HL2.out.below y3)⟩ (fun hHeld => ?_)
  clear hK K
  refine norm_ (a' := ?_) ?_ ?_
  rotate_left
  · show Act.put _ (some 14) _ = _
    simp only [Act.put, List.setIfInBounds_toArray, List.set_cons_zero, List.set_cons_succ, i64_w, i32_w]
    rfl
  refine one_ (i := 10) (N := some 15) #[true, true, true, true, true, true, true, true, true, true, true, false, false] rfl rfl (one_of HT_.out (by kernel_rfl)) (by decide) (fun K hK => ?_)
  refine value_ (w1 := ?_) (v := ?_) (by rfl) rfl ?_ ?_
  rotate_left 2
  · go_simp
    constructor
    · rfl
    · rfl
  have HLQ := Lib.hid (HL2.out.alloc (.cells #[.int .i64 (cmpInt a.f1 b.f1), .int .i64 (cmpStr a.f0 b.f0)] 3))
  have HRQ := Lib.hid (lit_ints w2 (cmpInt a.f1 b.f1) (cmpStr a.f0 b.f0))
  refine hK.out _ _ ⟨(pw_cell_below HLQ.out.below y0), (pw_cell_below HLQ.out.below y1), (pw_cell_below HLQ.out.below y2), (pw_cell_below HLQ.out.below y3)⟩ (fun hHeld => ?_)
  clear hK K
  refine norm_ (a' := ?_) ?_ ?_
  rotate_left
  · show Act.put _ (some 15) _ = _
    simp only [Act.put, List.setIfInBounds_toArray, List.set_cons_zero, List.set_cons_succ, i64_w, i32_w]
    rfl
  refine one_ (i := 11) (N := some 16) #[true, true, true, true, true, true, true, true, true, true, true, true, false] rfl rfl (one_of HT_.out (by kernel_rfl)) (by decide) (fun K hK => ?_)
  refine goes_ Try.func26 (by kernel_rfl) rfl #[.slice (some ⟨w2.heap.size, 0, none⟩) 2 2] (by rfl) rfl rfl (by simp only [List.map_toArray, List.map_cons, List.map_nil]; rfl) ?_
  with_reducible refine ((or_ord a b _ _ HRQ.out)).mono ?_
  rintro e w3 ⟨rfl, hd3⟩
  refine ⟨_, rfl, ?_⟩
  have HL3 := Lib.hid (HLQ.out.trans hd3)
  clear hd3
  refine hK.out _ _ ⟨(pw_cell_below HL3.out.below y0), (pw_cell_below HL3.out.below y1), (pw_cell_below HL3.out.below y2), (pw_cell_below HL3.out.below y3)⟩ (fun hHeld => ?_)
  clear hK K
  refine norm_ (a' := ?_) ?_ ?_
  rotate_left
  · show Act.put _ (some 16) _ = _
    simp only [Act.put, List.setIfInBounds_toArray, List.set_cons_zero, List.set_cons_succ, i64_w, i32_w]
    rfl
  refine pure_ (i := 12) (N := some 4) (v := ?_) (a' := ?_) #[true, true, true, true, true, true, true, true, true, true, true, true, true] rfl rfl (any_of HT_.out (by kernel_rfl)) (fun _ _ _ h => h) (Or.inl ⟨by rfl, ?_⟩) ?_ ?_
  rotate_left
  · intro w'
    go_simp
    with_reducible rfl
  rotate_left
  · simp only [Act.put, List.setIfInBounds_toArray, List.set_cons_zero, List.set_cons_succ, i64_w, i32_w]
    rfl
  refine done_ (done_of HT_.out (by kernel_rfl)) ?_
  go_wp2
  go_ret
  exact ⟨rfl, HL.out.trans HL3.out⟩
end Rp
end Go.Proofs.Ytcdpcgcfonjnfaa
