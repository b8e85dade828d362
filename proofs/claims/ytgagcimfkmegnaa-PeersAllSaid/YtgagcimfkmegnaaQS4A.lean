-- Laid by wip/tools/myprint.py of this repo. Not trusted: Lean checks it.
import Derived.Test.YtgagcimfkmegnaaQS1
import Derived.Test.YtgagcimfkmegnaaQS3
set_option maxHeartbeats 8000000
set_option maxRecDepth 100000
namespace Go.Proofs.Ytgagcimfkmegnaa.QS
open Go.Proofs.Ytgagcimfkmegnaa.QT
open Go.RowKit Go.Proofs.YtgagcimfkmegnaaW.PrintWords Go.Proofs.YtgagcimfkmegnaaW.PrintLast Go.Proofs.YtgagcimfkmegnaaW.PrintMore
attribute [local go_sem] max2_int min2_int max_two min_two max_three min_three max_four min_four   -- for this text's walks alone
set_option linter.unusedVariables false
set_option linter.unusedSimpArgs false
mutual
def api_Meta_60.l0 : Nat → List (S25) → Int → Int → Int → Option ((List (S25)))
 | 0, _, _, _, _ => none
 | k + 1, x0, x1, x10, x11 => if x10 < x11 then (if 0 ≤ (wrap64 ((IntKind.u64.wrap (wrap64 (x10 + x11))) / 2)) then (if (wrap64 ((IntKind.u64.wrap (wrap64 (x10 + x11))) / 2)) < (x0.length : Int) then (if 0 ≤ x1 then (if x1 < (x0.length : Int) then ((peers_order.f k ((rd_T25 x0 (wrap64 ((IntKind.u64.wrap (wrap64 (x10 + x11))) / 2))).f0) ((rd_T25 x0 (wrap64 ((IntKind.u64.wrap (wrap64 (x10 + x11))) / 2))).f1) ((rd_T25 x0 (wrap64 ((IntKind.u64.wrap (wrap64 (x10 + x11))) / 2))).f2) ((rd_T25 x0 (wrap64 ((IntKind.u64.wrap (wrap64 (x10 + x11))) / 2))).f3) ((rd_T25 x0 x1).f0) ((rd_T25 x0 x1).f1) ((rd_T25 x0 x1).f2) ((rd_T25 x0 x1).f3)).bind fun t128 => (if t128 < 0 then (api_Meta_60.l0 k x0 x1 (wrap64 ((wrap64 ((IntKind.u64.wrap (wrap64 (x10 + x11))) / 2)) + 1)) x11) else (api_Meta_60.l0 k x0 x1 x10 (wrap64 ((IntKind.u64.wrap (wrap64 (x10 + x11))) / 2))))) else (none)) else (none)) else (none)) else (none)) else (api_Meta_60.l1 k x0 x10 x1)
def api_Meta_60.l1 : Nat → List (S25) → Int → Int → Option ((List (S25)))
 | 0, _, _, _ => none
 | k + 1, x0, x10, x13 => if x13 < (wrap64 (x10 - 1)) then (if 0 ≤ (wrap64 (x13 + 1)) then (if (wrap64 (x13 + 1)) < (x0.length : Int) then (if 0 ≤ x13 then (if x13 < (x0.length : Int) then (api_Meta_60.l1 k ((x0.set (x13 : Int).toNat (⟨(rd_T25 x0 (wrap64 (x13 + 1))).f0, (rd_T25 x0 (wrap64 (x13 + 1))).f1, (rd_T25 x0 (wrap64 (x13 + 1))).f2, (rd_T25 x0 (wrap64 (x13 + 1))).f3⟩ : S25)).set ((wrap64 (x13 + 1)) : Int).toNat (⟨(rd_T25 x0 x13).f0, (rd_T25 x0 x13).f1, (rd_T25 x0 x13).f2, (rd_T25 x0 x13).f3⟩ : S25)) x10 (wrap64 (x13 + 1))) else (none)) else (none)) else (none)) else (none)) else (some x0)
def api_Meta_60.l2 : Nat → List (S25) → Int → Int → Int → Option ((List (S25)))
 | 0, _, _, _, _ => none
 | k + 1, x0, x2, x14, x15 => if x14 < x15 then (if 0 ≤ x2 then (if x2 < (x0.length : Int) then (if 0 ≤ (wrap64 ((IntKind.u64.wrap (wrap64 (x14 + x15))) / 2)) then (if (wrap64 ((IntKind.u64.wrap (wrap64 (x14 + x15))) / 2)) < (x0.length : Int) then ((peers_order.f k ((rd_T25 x0 x2).f0) ((rd_T25 x0 x2).f1) ((rd_T25 x0 x2).f2) ((rd_T25 x0 x2).f3) ((rd_T25 x0 (wrap64 ((IntKind.u64.wrap (wrap64 (x14 + x15))) / 2))).f0) ((rd_T25 x0 (wrap64 ((IntKind.u64.wrap (wrap64 (x14 + x15))) / 2))).f1) ((rd_T25 x0 (wrap64 ((IntKind.u64.wrap (wrap64 (x14 + x15))) / 2))).f2) ((rd_T25 x0 (wrap64 ((IntKind.u64.wrap (wrap64 (x14 + x15))) / 2))).f3)).bind fun t135 => (if t135 < 0 then (api_Meta_60.l2 k x0 x2 x14 (wrap64 ((IntKind.u64.wrap (wrap64 (x14 + x15))) / 2))) else (api_Meta_60.l2 k x0 x2 (wrap64 ((wrap64 ((IntKind.u64.wrap (wrap64 (x14 + x15))) / 2)) + 1)) x15))) else (none)) else (none)) else (none)) else (none)) else (api_Meta_60.l3 k x0 x14 x2)
def api_Meta_60.l3 : Nat → List (S25) → Int → Int → Option ((List (S25)))
 | 0, _, _, _ => none
 | k + 1, x0, x14, x17 => if x17 > x14 then (if 0 ≤ (wrap64 (x17 - 1)) then (if (wrap64 (x17 - 1)) < (x0.length : Int) then (if 0 ≤ x17 then (if x17 < (x0.length : Int) then (api_Meta_60.l3 k ((x0.set (x17 : Int).toNat (⟨(rd_T25 x0 (wrap64 (x17 - 1))).f0, (rd_T25 x0 (wrap64 (x17 - 1))).f1, (rd_T25 x0 (wrap64 (x17 - 1))).f2, (rd_T25 x0 (wrap64 (x17 - 1))).f3⟩ : S25)).set ((wrap64 (x17 - 1)) : Int).toNat (⟨(rd_T25 x0 x17).f0, (rd_T25 x0 x17).f1, (rd_T25 x0 x17).f2, (rd_T25 x0 x17).f3⟩ : S25)) x14 (wrap64 (x17 - 1))) else (none)) else (none)) else (none)) else (none)) else (some x0)
def api_Meta_60.j4 : Nat → List (S25) → Int → Int → Int → Int → Int → Int → Int → Option ((List (S25)))
 | 0, _, _, _, _, _, _, _, _ => none
 | k + 1, x0, x1, x2, x3, x18, x19, x20, x21 => api_Meta_60.l4 k x0 x1 x2 x3 x18 x19 x20 x21 (wrap64 (x19 - 1))
def api_Meta_60.l4 : Nat → List (S25) → Int → Int → Int → Int → Int → Int → Int → Int → Option ((List (S25)))
 | 0, _, _, _, _, _, _, _, _, _ => none
 | k + 1, x0, x1, x2, x3, x18, x19, x20, x21, x22 => if x20 < x21 then (if 0 ≤ (wrap64 (x22 - (wrap64 ((IntKind.u64.wrap (wrap64 (x20 + x21))) / 2)))) then (if (wrap64 (x22 - (wrap64 ((IntKind.u64.wrap (wrap64 (x20 + x21))) / 2)))) < (x0.length : Int) then (if 0 ≤ (wrap64 ((IntKind.u64.wrap (wrap64 (x20 + x21))) / 2)) then (if (wrap64 ((IntKind.u64.wrap (wrap64 (x20 + x21))) / 2)) < (x0.length : Int) then ((peers_order.f k ((rd_T25 x0 (wrap64 (x22 - (wrap64 ((IntKind.u64.wrap (wrap64 (x20 + x21))) / 2))))).f0) ((rd_T25 x0 (wrap64 (x22 - (wrap64 ((IntKind.u64.wrap (wrap64 (x20 + x21))) / 2))))).f1) ((rd_T25 x0 (wrap64 (x22 - (wrap64 ((IntKind.u64.wrap (wrap64 (x20 + x21))) / 2))))).f2) ((rd_T25 x0 (wrap64 (x22 - (wrap64 ((IntKind.u64.wrap (wrap64 (x20 + x21))) / 2))))).f3) ((rd_T25 x0 (wrap64 ((IntKind.u64.wrap (wrap64 (x20 + x21))) / 2))).f0) ((rd_T25 x0 (wrap64 ((IntKind.u64.wrap (wrap64 (x20 + x21))) / 2))).f1) ((rd_T25 x0 (wrap64 ((IntKind.u64.wrap (wrap64 (x20 + x21))) / 2))).f2) ((rd_T25 x0 (wrap64 ((IntKind.u64.wrap (wrap64 (x20 + x21))) / 2))).f3)).bind fun t142 => (if t142 < 0 then (api_Meta_60.l4 k x0 x1 x2 x3 x18 x19 x20 (wrap64 ((IntKind.u64.wrap (wrap64 (x20 + x21))) / 2)) x22) else (api_Meta_60.l4 k x0 x1 x2 x3 x18 x19 (wrap64 ((wrap64 ((IntKind.u64.wrap (wrap64 (x20 + x21))) / 2)) + 1)) x21 x22))) else (none)) else (none)) else (none)) else (none)) else (if x20 < x2 then (api_Meta_60.j6 k x0 x1 x2 x3 x18 x20 (wrap64 (x19 - x20)) (decide (x2 < (wrap64 (x19 - x20))))) else (api_Meta_60.j6 k x0 x1 x2 x3 x18 x20 (wrap64 (x19 - x20)) false))
def api_Meta_60.j6 : Nat → List (S25) → Int → Int → Int → Int → Int → Int → Bool → Option ((List (S25)))
 | 0, _, _, _, _, _, _, _, _ => none
 | k + 1, x0, x1, x2, x3, x18, x20, x24, x185 => if x185 = true then ((api_Meta_71.f k x0 x20 x2 x24).bind fun t143 => (api_Meta_60.j7 k t143 x1 x3 x18 x20 x24)) else (api_Meta_60.j7 k x0 x1 x3 x18 x20 x24)
def api_Meta_60.j7 : Nat → List (S25) → Int → Int → Int → Int → Int → Option ((List (S25)))
 | 0, _, _, _, _, _, _ => none
 | k + 1, x0, x1, x3, x18, x20, x24 => if x1 < x20 then (api_Meta_60.j8 k x0 x1 x3 x18 x20 x24 (decide (x20 < x18))) else (api_Meta_60.j8 k x0 x1 x3 x18 x20 x24 false)
def api_Meta_60.j8 : Nat → List (S25) → Int → Int → Int → Int → Int → Bool → Option ((List (S25)))
 | 0, _, _, _, _, _, _, _ => none
 | k + 1, x0, x1, x3, x18, x20, x24, x199 => if x199 = true then ((api_Meta_60.f k x0 x1 x20 x18).bind fun t144 => (if x18 < x24 then (if x24 < x3 then ((api_Meta_60.f k t144 x18 x24 x3).bind fun t145 => (some t145)) else (some t144)) else (some t144))) else (if x18 < x24 then (if x24 < x3 then ((api_Meta_60.f k x0 x18 x24 x3).bind fun t146 => (some t146)) else (some x0)) else (some x0))
def api_Meta_60.f : Nat → List (S25) → Int → Int → Int → Option ((List (S25)))
 | 0, _, _, _, _ => none
 | k + 1, l0, a1, a2, a3 => if (wrap64 (a2 - a1)) = 1 then (api_Meta_60.l0 k l0 a1 a2 a3) else (if (wrap64 (a3 - a2)) = 1 then (api_Meta_60.l2 k l0 a2 a1 a2) else (if a2 > (wrap64 ((IntKind.u64.wrap (wrap64 (a1 + a3))) / 2)) then (api_Meta_60.j4 k l0 a1 a2 a3 (wrap64 ((IntKind.u64.wrap (wrap64 (a1 + a3))) / 2)) (wrap64 ((wrap64 ((IntKind.u64.wrap (wrap64 (a1 + a3))) / 2)) + a2)) (wrap64 ((wrap64 ((wrap64 ((IntKind.u64.wrap (wrap64 (a1 + a3))) / 2)) + a2)) - a3)) (wrap64 ((IntKind.u64.wrap (wrap64 (a1 + a3))) / 2))) else (api_Meta_60.j4 k l0 a1 a2 a3 (wrap64 ((IntKind.u64.wrap (wrap64 (a1 + a3))) / 2)) (wrap64 ((wrap64 ((IntKind.u64.wrap (wrap64 (a1 + a3))) / 2)) + a2)) a1 a2)))
end
def api_Meta_60.T5 : Bool × List (List Nat × List Nat) := (true, [([], []), ([], []), ([], []), ([1, 2], [1, 2]), ([3], [3]), ([], []), ([], []), ([5, 6], [5, 6]), ([7], [7]), ([0, 4, 8], [0, 4, 8]), ([9], [9])])
def api_Meta_60.B5 : List Nat := [0, 0, 0, 6, 14, 0, 0, 96, 224, 511, 1023]
theorem api_Meta_60.tab5 : rtab .any (opsOf Try.f60 5) = api_Meta_60.T5 := by kernel_rfl
theorem api_Meta_60.bits5 : waitsOk api_Meta_60.T5.2 api_Meta_60.B5 = true := by kernel_rfl
def api_Meta_60.T11 : Bool × List (List Nat × List Nat) := (true, [([], []), ([], []), ([], []), ([], []), ([3], [3]), ([], []), ([], []), ([6], [6]), ([5, 7], [5, 7]), ([8], [8]), ([], []), ([], []), ([10, 11], [10, 11]), ([12], [12]), ([0, 1, 0, 1, 5, 6, 7, 8, 9, 13], [0, 1]), ([14, 9, 0, 1, 5, 6, 7, 8, 9, 13], [9, 14]), ([2, 4, 0, 1, 2, 3, 4, 5, 6, 7, 8, 9, 10, 11, 12, 13, 14, 15], [2, 4]), ([16, 13, 15, 0, 1, 2, 3, 4, 5, 6, 7, 8, 9, 10, 11, 12, 13, 14, 15], [13, 16])])
def api_Meta_60.B11 : List Nat := [0, 0, 0, 0, 8, 0, 0, 64, 224, 480, 0, 0, 3072, 7168, 16355, 32739, 65535, 131071]
theorem api_Meta_60.tab11 : rtab .any (opsOf Try.f60 11) = api_Meta_60.T11 := by kernel_rfl
theorem api_Meta_60.bits11 : waitsOk api_Meta_60.T11.2 api_Meta_60.B11 = true := by kernel_rfl
def api_Meta_60.T17 : Bool × List (List Nat × List Nat) := (true, [([], []), ([], []), ([], []), ([1, 2], [1, 2]), ([3], [3]), ([], []), ([], []), ([5, 6], [5, 6]), ([7], [7]), ([0, 4, 8], [0, 4, 8]), ([9], [9]), ([10], [10])])
def api_Meta_60.B17 : List Nat := [0, 0, 0, 6, 14, 0, 0, 96, 224, 511, 1023, 2047]
theorem api_Meta_60.tab17 : rtab .any (opsOf Try.f60 17) = api_Meta_60.T17 := by kernel_rfl
theorem api_Meta_60.bits17 : waitsOk api_Meta_60.T17.2 api_Meta_60.B17 = true := by kernel_rfl
def api_Meta_60.T23 : Bool × List (List Nat × List Nat) := (true, [([], []), ([], []), ([], []), ([], []), ([3], [3]), ([], []), ([], []), ([6], [6]), ([5, 7], [5, 7]), ([8], [8]), ([], []), ([], []), ([10, 11], [10, 11]), ([12], [12]), ([0, 1, 0, 1, 5, 6, 7, 8, 9, 13], [0, 1]), ([14, 9, 0, 1, 5, 6, 7, 8, 9, 13], [9, 14]), ([2, 4, 0, 1, 2, 3, 4, 5, 6, 7, 8, 9, 10, 11, 12, 13, 14, 15], [2, 4]), ([16, 13, 15, 0, 1, 2, 3, 4, 5, 6, 7, 8, 9, 10, 11, 12, 13, 14, 15], [13, 16])])
def api_Meta_60.B23 : List Nat := [0, 0, 0, 0, 8, 0, 0, 64, 224, 480, 0, 0, 3072, 7168, 16355, 32739, 65535, 131071]
theorem api_Meta_60.tab23 : rtab .any (opsOf Try.f60 23) = api_Meta_60.T23 := by kernel_rfl
theorem api_Meta_60.bits23 : waitsOk api_Meta_60.T23.2 api_Meta_60.B23 = true := by kernel_rfl
def api_Meta_60.T35 : Bool × List (List Nat × List Nat) := (true, [([], []), ([], []), ([], []), ([], []), ([2, 3], [2, 3]), ([1, 4], [1, 4]), ([5], [5]), ([], []), ([], []), ([7, 8], [7, 8]), ([9], [9]), ([0, 6, 10], [0, 6, 10]), ([11], [11]), ([12], [12])])
def api_Meta_60.B35 : List Nat := [0, 0, 0, 0, 12, 30, 62, 0, 0, 384, 896, 2047, 4095, 8191]
theorem api_Meta_60.tab35 : rtab .any (opsOf Try.f60 35) = api_Meta_60.T35 := by kernel_rfl
theorem api_Meta_60.bits35 : waitsOk api_Meta_60.T35.2 api_Meta_60.B35 = true := by kernel_rfl
theorem api_Meta_60.leaf1 (k : Nat) (ih : ∀ k' : Nat, k' < k + 1 → ∀ (P0_ : Nat → Prop) (u9000_ : Value) (l0 : List (S25)) (a1 : Int) (a2 : Int) (a3 : Int)  (r : List (S25)) (w0 w : World) (hB : Below w0.heap.size w0 w) (ho0 : Kd.R k25 25 w w0.heap.size P0_ u9000_ l0) (h : api_Meta_60.f k' l0 a1 a2 a3 = some r),
  Calls Try.prog 60 #[u9000_, .int .i64 a1, .int .i64 a2, .int .i64 a3, .func (.func 27) #[] #[]] w fun e w' => e = .returned (.tuple #[]) ∧ Kd.R k25 25 w' w0.heap.size (fun k_ => (P0_ k_ ∨ w.heap.size ≤ k_)) u9000_ r ∧ Below w0.heap.size w0 w' ∧ Kept w w' (fun k_ => P0_ k_)) : ∀ (P0_ : Nat → Prop) (u9000_ : Value) (l0 : List (S25)) (a1 : Int) (a2 : Int) (a3 : Int)  (r : List (S25)) (w0 w : World) (hB : Below w0.heap.size w0 w) (ho0 : Kd.R k25 25 w w0.heap.size P0_ u9000_ l0) (c6 : (wrap64 (a2 - a1)) = 1) (h : api_Meta_60.f (k + 1) l0 a1 a2 a3 = some r),
  Calls Try.prog 60 #[u9000_, .int .i64 a1, .int .i64 a2, .int .i64 a3, .func (.func 27) #[] #[]] w fun e w' => e = .returned (.tuple #[]) ∧ Kd.R k25 25 w' w0.heap.size (fun k_ => (P0_ k_ ∨ w.heap.size ≤ k_)) u9000_ r ∧ Below w0.heap.size w0 w' ∧ Kept w w' (fun k_ => P0_ k_) := by
 intro P0_ u9000_ l0 a1 a2 a3 r w0 w hB ho0 c6 h; simp only [api_Meta_60.f] at h; have HO0 := Aside0.mk (show Kd.R k25 25 w w0.heap.size (fun k_ => (P0_ k_ ∨ w.heap.size ≤ k_)) u9000_ l0 from Kd.R_mono ho0 (fun k_ hk => (.inl hk))); have HK := Aside0.mk (Kept.refl w (fun k_ => P0_ k_)); have HB := Aside0.mk hB; clear hB; have H : (if (wrap64 (a2 - a1)) = 1 then (api_Meta_60.l0 k l0 a1 a2 a3) else (if (wrap64 (a3 - a2)) = 1 then (api_Meta_60.l2 k l0 a2 a1 a2) else (if a2 > (wrap64 ((IntKind.u64.wrap (wrap64 (a1 + a3))) / 2)) then (api_Meta_60.j4 k l0 a1 a2 a3 (wrap64 ((IntKind.u64.wrap (wrap64 (a1 + a3))) / 2)) (wrap64 ((wrap64 ((IntKind.u64.wrap (wrap64 (a1 + a3))) / 2)) + a2)) (wrap64 ((wrap64 ((wrap64 ((IntKind.u64.wrap (wrap64 (a1 + a3))) / 2)) + a2)) - a3)) (wrap64 ((IntKind.u64.wrap (wrap64 (a1 + a3))) / 2))) else (api_Meta_60.j4 k l0 a1 a2 a3 (wrap64 ((IntKind.u64.wrap (wrap64 (a1 + a3))) / 2)) (wrap64 ((wrap64 ((IntKind.u64.wrap (wrap64 (a1 + a3))) / 2)) + a2)) a1 a2)))) = some r := h; clear h; rw [if_pos c6] at H; have c6b0 : ((wrap64 (a2 - a1)) == 1) = true := beq_iff_eq.mpr c6; clear c6; have H' := Aside0.mk H; clear H; go_enter Try.func60, Try.ntmps60
 go_wp2; go_loopg [10, 11] k (fun kq v10 v11 w' => ∃ (x10_1 : Int) (x11_1 : Int), v10 = .int .i64 x10_1 ∧ v11 = .int .i64 x11_1 ∧ Aside0 (api_Meta_60.l0 kq l0 a1 x10_1 x11_1 = some r) ∧ Aside0 (kq ≤ k) ∧ Aside0 (Kd.R k25 25 w' w0.heap.size (fun k_ => (P0_ k_ ∨ w.heap.size ≤ k_)) u9000_ l0) ∧ Aside0 (Kept w w' (fun k_ => P0_ k_)) ∧ Aside0 (Below w0.heap.size w0 w'))
 case atStart => exact ⟨(a2), (a3), (by rfl), (by rfl), H', ⟨Nat.le_refl _⟩, ⟨HO0.out⟩, ⟨HK.out⟩, ⟨HB.out⟩⟩
 case round =>
  clear H'; try clear c6b0
  obtain ⟨x10_1, x11_1, rfl, rfl, HA, HK1, HO_0, HK, HB⟩ := hrel
  cases gk with
  | zero => exact absurd HA.out (by simp [api_Meta_60.l0])
  | succ k1 =>
   have H := HA.out; clear HA; simp only [api_Meta_60.l0] at H
   by_cases c7 : x10_1 < x11_1
   ·
    rw [if_pos c7] at H; have c7b0 : decide (x10_1 < x11_1) = true := decide_eq_true c7; clear c7
    obtain ⟨ji8, hji8⟩ : ∃ j_ : Int, (wrap64 ((IntKind.u64.wrap (wrap64 (x10_1 + x11_1))) / 2)) = j_ := ⟨_, rfl⟩
    replace H : (if 0 ≤ (ji8) then (if (ji8) < (l0.length : Int) then (if 0 ≤ a1 then (if a1 < (l0.length : Int) then ((peers_order.f k1 ((rd_T25 l0 (ji8)).f0) ((rd_T25 l0 (ji8)).f1) ((rd_T25 l0 (ji8)).f2) ((rd_T25 l0 (ji8)).f3) ((rd_T25 l0 a1).f0) ((rd_T25 l0 a1).f1) ((rd_T25 l0 a1).f2) ((rd_T25 l0 a1).f3)).bind fun t128 => (if t128 < 0 then (api_Meta_60.l0 k1 l0 a1 (wrap64 ((ji8) + 1)) x11_1) else (api_Meta_60.l0 k1 l0 a1 x10_1 ji8))) else (none)) else (none)) else (none)) else (none)) = some r := by (rw [hji8] at H; exact H)
    have hji8w : (IntKind.i64.wrap ((IntKind.u64.wrap (wrap64 (x10_1 + x11_1))) / 2)) = ji8 := (i64_w _).trans hji8
    by_cases c9 : 0 ≤ (ji8)
    ·
     rw [if_pos c9] at H; have c9b0 : decide (0 ≤ (ji8)) = true := decide_eq_true c9; clear c9
     by_cases c10 : (ji8) < (l0.length : Int)
     ·
      rw [if_pos c10] at H; have c10b0 : decide ((ji8) < (l0.length : Int)) = true := decide_eq_true c10; clear c10
      by_cases c11 : 0 ≤ a1
      ·
       rw [if_pos c11] at H; have c11b0 : decide (0 ≤ a1) = true := decide_eq_true c11; clear c11
       by_cases c12 : a1 < (l0.length : Int)
       ·
        rw [if_pos c12] at H; have c12b0 : decide (a1 < (l0.length : Int)) = true := decide_eq_true c12; clear c12; replace H := Option.bind_eq_some_iff.mp H; obtain ⟨t128, A130, H⟩ := H; replace H : (if t128 < 0 then (api_Meta_60.l0 k1 l0 a1 (wrap64 ((ji8) + 1)) x11_1) else (api_Meta_60.l0 k1 l0 a1 x10_1 ji8)) = some r := H; have A13 := Aside0.mk A130; clear A130
        by_cases c14 : t128 < 0
        ·
         rw [if_pos c14] at H; have c14b0 : decide (t128 < 0) = true := decide_eq_true c14; clear c14; have H' := Aside0.mk H; clear H; try go_wp2
         have n0_ := Aside0.mk (Kd.R_drew HO_0.out); have n1_ := Aside0.mk (Kept.drew HK.out); have n2_ := Aside0.mk (below_drew1 HB.out); clear HO_0; clear HK; clear HB; have HO_0 := n0_; have HK := n1_; have HB := n2_; clear n0_ n1_ n2_; obtain ⟨Ao16, co16, eo16⟩ := Kd.R_slice HO_0.out
         ((subst eo16))
         have p126 : 0 ≤ ((ji8) : Int) := of_decide_eq_true (by with_reducible assumption); have q126 : (ji8) < (l0.length : Int) := of_decide_eq_true (by with_reducible assumption); obtain ⟨ad126, e126, hx126_0, hx126_1, hx126_2, hx126_3⟩ := at_T25 (Kd.R_reads' HO_0.out).2.2 (ji8) p126 q126; cases e126; replace p126 := eq_true p126; replace q126 := eq_true q126; have p127 : 0 ≤ (a1 : Int) := of_decide_eq_true (by with_reducible assumption); have q127 : a1 < (l0.length : Int) := of_decide_eq_true (by with_reducible assumption); obtain ⟨ad127, e127, hx127_0, hx127_1, hx127_2, hx127_3⟩ := at_T25 (Kd.R_reads' HO_0.out).2.2 a1 p127 q127
         obtain rfl : ad126 = ad127 := (by injection e127)
         replace p127 := eq_true p127; replace q127 := eq_true q127; refine start_ (n := 11) (S := fun w' => w'.cell? (ad126.add (((ji8)).toNat * 4)) = some (.string ((rd_T25 l0 (ji8)).f0)) ∧ w'.cell? ⟨(ad126.add (((ji8)).toNat * 4)).block, (ad126.add (((ji8)).toNat * 4)).off + 1, none⟩ = some (.int .i64 ((rd_T25 l0 (ji8)).f1)) ∧ w'.cell? ⟨(ad126.add (((ji8)).toNat * 4)).block, (ad126.add (((ji8)).toNat * 4)).off + 2, none⟩ = some (.int .i64 ((rd_T25 l0 (ji8)).f2)) ∧ w'.cell? ⟨(ad126.add (((ji8)).toNat * 4)).block, (ad126.add (((ji8)).toNat * 4)).off + 3, none⟩ = some (.int .u32 ((rd_T25 l0 (ji8)).f3)) ∧ w'.cell? (ad126.add ((a1).toNat * 4)) = some (.string ((rd_T25 l0 a1).f0)) ∧ w'.cell? ⟨(ad126.add ((a1).toNat * 4)).block, (ad126.add ((a1).toNat * 4)).off + 1, none⟩ = some (.int .i64 ((rd_T25 l0 a1).f1)) ∧ w'.cell? ⟨(ad126.add ((a1).toNat * 4)).block, (ad126.add ((a1).toNat * 4)).off + 2, none⟩ = some (.int .i64 ((rd_T25 l0 a1).f2)) ∧ w'.cell? ⟨(ad126.add ((a1).toNat * 4)).block, (ad126.add ((a1).toNat * 4)).off + 3, none⟩ = some (.int .u32 ((rd_T25 l0 a1).f3))) (ds := []) (bs 11 0) (by kernel_rfl) rfl rfl ⟨hx126_0, hx126_1, hx126_2, hx126_3, hx127_0, hx127_1, hx127_2, hx127_3⟩ (fun hHeld => ?_); refine with_tabW api_Meta_60.tab5 api_Meta_60.bits5 (fun HT_ HW_ => ?_); generalize wr.drew = w15 at HO_0 HK HB hx126_0 hx126_1 hx126_2 hx126_3 hx127_0 hx127_1 hx127_2 hx127_3 hHeld ⊢; apply pv 0 40 (bs 11 1) HT_; rfl; rfl; kernel_rfl; exact qq; rfl; intro w'; go_simp; with_reducible rfl; simp only [zz]; rfl
         apply pv 1 41 (bs 11 3) HT_; rfl; rfl; kernel_rfl; exact qq; rfl; intro w'; go_simp; with_reducible rfl; simp only [zz]; rfl
         apply pv 2 42 (bs 11 7) HT_; rfl; rfl; kernel_rfl; exact qq; rfl; intro w'; go_simp; with_reducible rfl; simp only [zz]; rfl
         apply pv 3 43 (bs 11 15) HT_; rfl; rfl; kernel_rfl; exact qq; rfl; intro w'; go_simp; with_reducible rfl; simp only [zz]; rfl
         apply pv 5 45 (bs 11 47) HT_; rfl; rfl; kernel_rfl; exact qq; rfl; intro w'; go_simp; with_reducible rfl; simp only [zz]; rfl
         apply pv 6 46 (bs 11 111) HT_; rfl; rfl; kernel_rfl; exact qq; rfl; intro w'; go_simp; with_reducible rfl; simp only [zz]; rfl
         apply pv 7 47 (bs 11 239) HT_; rfl; rfl; kernel_rfl; exact qq; rfl; intro w'; go_simp; with_reducible rfl; simp only [zz]; rfl
         apply tb 4 44 (bs 11 255) HT_ HW_ hHeld; rfl; rfl; kernel_rfl; exact qq; rfl; rintro w' ⟨s0, s1, s2, s3, s4, s5, s6, s7⟩; go_simp; with_reducible rfl; simp only [zz]; rfl
         apply tb 8 48 (bs 11 511) HT_ HW_ hHeld; rfl; rfl; kernel_rfl; exact qq; rfl; rintro w' ⟨s0, s1, s2, s3, s4, s5, s6, s7⟩; go_simp; with_reducible rfl; simp only [zz]; rfl
         refine one_ (i := 9) (N := some 49) (bs 11 1023) rfl rfl (one_of HT_.out (by kernel_rfl)) (by decide) (fun K hK => ?_)
         (refine goesV_ Try.func27 (by kernel_rfl) rfl #[.agg #[.string ((rd_T25 l0 (ji8)).f0), .int .i64 ((rd_T25 l0 (ji8)).f1), .int .i64 ((rd_T25 l0 (ji8)).f2), .int .u32 ((rd_T25 l0 (ji8)).f3)], .agg #[.string ((rd_T25 l0 a1).f0), .int .i64 ((rd_T25 l0 a1).f1), .int .i64 ((rd_T25 l0 a1).f2), .int .u32 ((rd_T25 l0 a1).f3)]] (by rfl) rfl rfl rfl (by (try simp only [List.map_toArray, List.map_cons, List.map_nil]); rfl) ?_)
         with_reducible refine (peers_order.calls k1 ((rd_T25 l0 (ji8)).f0) ((rd_T25 l0 (ji8)).f1) ((rd_T25 l0 (ji8)).f2) ((rd_T25 l0 (ji8)).f3) ((rd_T25 l0 a1).f0) ((rd_T25 l0 a1).f1) ((rd_T25 l0 a1).f2) ((rd_T25 l0 a1).f3) t128 _ A13.out).mono ?_
         rintro e w17 ⟨rfl, hb⟩; have HS0_ := (hb.cell (World.block_lt_of_cell? _ _ (hHeld.1))).trans (hHeld.1); have HS1_ := (hb.cell (World.block_lt_of_cell? _ _ (hHeld.2.1))).trans (hHeld.2.1); have HS2_ := (hb.cell (World.block_lt_of_cell? _ _ (hHeld.2.2.1))).trans (hHeld.2.2.1); have HS3_ := (hb.cell (World.block_lt_of_cell? _ _ (hHeld.2.2.2.1))).trans (hHeld.2.2.2.1); have HS4_ := (hb.cell (World.block_lt_of_cell? _ _ (hHeld.2.2.2.2.1))).trans (hHeld.2.2.2.2.1); have HS5_ := (hb.cell (World.block_lt_of_cell? _ _ (hHeld.2.2.2.2.2.1))).trans (hHeld.2.2.2.2.2.1); have HS6_ := (hb.cell (World.block_lt_of_cell? _ _ (hHeld.2.2.2.2.2.2.1))).trans (hHeld.2.2.2.2.2.2.1); have HS7_ := (hb.cell (World.block_lt_of_cell? _ _ (hHeld.2.2.2.2.2.2.2))).trans (hHeld.2.2.2.2.2.2.2); refine ⟨_, rfl, ?_⟩; have n0_ := Aside0.mk (Kd.R_below HO_0.out hb); have n1_ := Aside0.mk (Kept.below (S := (fun k_ => P0_ k_)) HK.out hb); have n2_ := Aside0.mk (below_step HB.out hb); clear HO_0; clear HK; clear HB; have HO_0 := n0_; have HK := n1_; have HB := n2_; clear n0_ n1_ n2_
         (try clear hb)
         (try clear hb2)
         (try clear hk)
         (try clear hi)
         refine hK.out _ _ ⟨HS0_, HS1_, HS2_, HS3_, HS4_, HS5_, HS6_, HS7_⟩ (fun hHeld => ?_); clear hK K; refine norm_ (a' := ?_) ?_ ?_; rotate_left
         ·
          show Act.put _ (some 49) _ = _; simp only [Act.put, List.setIfInBounds_toArray, List.set_cons_zero, List.set_cons_succ, i64_w, i32_w]; rfl
         apply pv 10 50 (bs 11 2047) HT_; rfl; rfl; kernel_rfl; exact qq; rfl; intro w'; go_simp; with_reducible rfl; simp only [zz]; rfl
         refine done_ (done_of HT_.out (by kernel_rfl)) ?_; try go_wp2
         go_roundg k1
         case measure => have := HK1.out; omega
         case rel => exact ⟨(wrap64 ((ji8) + 1)), (x11_1), (by rfl), (by rfl), H', ⟨by have := HK1.out; omega⟩, ⟨HO_0.out⟩, ⟨HK.out⟩, ⟨HB.out⟩⟩
        ·
         rw [if_neg c14] at H; have c14b0 : decide (t128 < 0) = false := decide_eq_false c14; clear c14; have H' := Aside0.mk H; clear H; try go_wp2
         have n0_ := Aside0.mk (Kd.R_drew HO_0.out); have n1_ := Aside0.mk (Kept.drew HK.out); have n2_ := Aside0.mk (below_drew1 HB.out); clear HO_0; clear HK; clear HB; have HO_0 := n0_; have HK := n1_; have HB := n2_; clear n0_ n1_ n2_; obtain ⟨Ao19, co19, eo19⟩ := Kd.R_slice HO_0.out
         ((subst eo19))
         have p126 : 0 ≤ ((ji8) : Int) := of_decide_eq_true (by with_reducible assumption); have q126 : (ji8) < (l0.length : Int) := of_decide_eq_true (by with_reducible assumption); obtain ⟨ad126, e126, hx126_0, hx126_1, hx126_2, hx126_3⟩ := at_T25 (Kd.R_reads' HO_0.out).2.2 (ji8) p126 q126; cases e126; replace p126 := eq_true p126; replace q126 := eq_true q126; have p127 : 0 ≤ (a1 : Int) := of_decide_eq_true (by with_reducible assumption); have q127 : a1 < (l0.length : Int) := of_decide_eq_true (by with_reducible assumption); obtain ⟨ad127, e127, hx127_0, hx127_1, hx127_2, hx127_3⟩ := at_T25 (Kd.R_reads' HO_0.out).2.2 a1 p127 q127
         obtain rfl : ad126 = ad127 := (by injection e127)
         replace p127 := eq_true p127; replace q127 := eq_true q127; refine start_ (n := 11) (S := fun w' => w'.cell? (ad126.add (((ji8)).toNat * 4)) = some (.string ((rd_T25 l0 (ji8)).f0)) ∧ w'.cell? ⟨(ad126.add (((ji8)).toNat * 4)).block, (ad126.add (((ji8)).toNat * 4)).off + 1, none⟩ = some (.int .i64 ((rd_T25 l0 (ji8)).f1)) ∧ w'.cell? ⟨(ad126.add (((ji8)).toNat * 4)).block, (ad126.add (((ji8)).toNat * 4)).off + 2, none⟩ = some (.int .i64 ((rd_T25 l0 (ji8)).f2)) ∧ w'.cell? ⟨(ad126.add (((ji8)).toNat * 4)).block, (ad126.add (((ji8)).toNat * 4)).off + 3, none⟩ = some (.int .u32 ((rd_T25 l0 (ji8)).f3)) ∧ w'.cell? (ad126.add ((a1).toNat * 4)) = some (.string ((rd_T25 l0 a1).f0)) ∧ w'.cell? ⟨(ad126.add ((a1).toNat * 4)).block, (ad126.add ((a1).toNat * 4)).off + 1, none⟩ = some (.int .i64 ((rd_T25 l0 a1).f1)) ∧ w'.cell? ⟨(ad126.add ((a1).toNat * 4)).block, (ad126.add ((a1).toNat * 4)).off + 2, none⟩ = some (.int .i64 ((rd_T25 l0 a1).f2)) ∧ w'.cell? ⟨(ad126.add ((a1).toNat * 4)).block, (ad126.add ((a1).toNat * 4)).off + 3, none⟩ = some (.int .u32 ((rd_T25 l0 a1).f3))) (ds := []) (bs 11 0) (by kernel_rfl) rfl rfl ⟨hx126_0, hx126_1, hx126_2, hx126_3, hx127_0, hx127_1, hx127_2, hx127_3⟩ (fun hHeld => ?_); refine with_tabW api_Meta_60.tab5 api_Meta_60.bits5 (fun HT_ HW_ => ?_); generalize wr.drew = w18 at HO_0 HK HB hx126_0 hx126_1 hx126_2 hx126_3 hx127_0 hx127_1 hx127_2 hx127_3 hHeld ⊢; apply pv 0 40 (bs 11 1) HT_; rfl; rfl; kernel_rfl; exact qq; rfl; intro w'; go_simp; with_reducible rfl; simp only [zz]; rfl
         apply pv 1 41 (bs 11 3) HT_; rfl; rfl; kernel_rfl; exact qq; rfl; intro w'; go_simp; with_reducible rfl; simp only [zz]; rfl
         apply pv 2 42 (bs 11 7) HT_; rfl; rfl; kernel_rfl; exact qq; rfl; intro w'; go_simp; with_reducible rfl; simp only [zz]; rfl
         apply pv 3 43 (bs 11 15) HT_; rfl; rfl; kernel_rfl; exact qq; rfl; intro w'; go_simp; with_reducible rfl; simp only [zz]; rfl
         apply pv 5 45 (bs 11 47) HT_; rfl; rfl; kernel_rfl; exact qq; rfl; intro w'; go_simp; with_reducible rfl; simp only [zz]; rfl
         apply pv 6 46 (bs 11 111) HT_; rfl; rfl; kernel_rfl; exact qq; rfl; intro w'; go_simp; with_reducible rfl; simp only [zz]; rfl
         apply pv 7 47 (bs 11 239) HT_; rfl; rfl; kernel_rfl; exact qq; rfl; intro w'; go_simp; with_reducible rfl; simp only [zz]; rfl
         apply tb 4 44 (bs 11 255) HT_ HW_ hHeld; rfl; rfl; kernel_rfl; exact qq; rfl; rintro w' ⟨s0, s1, s2, s3, s4, s5, s6, s7⟩; go_simp; with_reducible rfl; simp only [zz]; rfl
         apply tb 8 48 (bs 11 511) HT_ HW_ hHeld; rfl; rfl; kernel_rfl; exact qq; rfl; rintro w' ⟨s0, s1, s2, s3, s4, s5, s6, s7⟩; go_simp; with_reducible rfl; simp only [zz]; rfl
         refine one_ (i := 9) (N := some 49) (bs 11 1023) rfl rfl (one_of HT_.out (by kernel_rfl)) (by decide) (fun K hK => ?_)
         (refine goesV_ Try.func27 (by kernel_rfl) rfl #[.agg #[.string ((rd_T25 l0 (ji8)).f0), .int .i64 ((rd_T25 l0 (ji8)).f1), .int .i64 ((rd_T25 l0 (ji8)).f2), .int .u32 ((rd_T25 l0 (ji8)).f3)], .agg #[.string ((rd_T25 l0 a1).f0), .int .i64 ((rd_T25 l0 a1).f1), .int .i64 ((rd_T25 l0 a1).f2), .int .u32 ((rd_T25 l0 a1).f3)]] (by rfl) rfl rfl rfl (by (try simp only [List.map_toArray, List.map_cons, List.map_nil]); rfl) ?_)
         with_reducible refine (peers_order.calls k1 ((rd_T25 l0 (ji8)).f0) ((rd_T25 l0 (ji8)).f1) ((rd_T25 l0 (ji8)).f2) ((rd_T25 l0 (ji8)).f3) ((rd_T25 l0 a1).f0) ((rd_T25 l0 a1).f1) ((rd_T25 l0 a1).f2) ((rd_T25 l0 a1).f3) t128 _ A13.out).mono ?_
         rintro e w20 ⟨rfl, hb⟩; have HS0_ := (hb.cell (World.block_lt_of_cell? _ _ (hHeld.1))).trans (hHeld.1); have HS1_ := (hb.cell (World.block_lt_of_cell? _ _ (hHeld.2.1))).trans (hHeld.2.1); have HS2_ := (hb.cell (World.block_lt_of_cell? _ _ (hHeld.2.2.1))).trans (hHeld.2.2.1); have HS3_ := (hb.cell (World.block_lt_of_cell? _ _ (hHeld.2.2.2.1))).trans (hHeld.2.2.2.1); have HS4_ := (hb.cell (World.block_lt_of_cell? _ _ (hHeld.2.2.2.2.1))).trans (hHeld.2.2.2.2.1); have HS5_ := (hb.cell (World.block_lt_of_cell? _ _ (hHeld.2.2.2.2.2.1))).trans (hHeld.2.2.2.2.2.1); have HS6_ := (hb.cell (World.block_lt_of_cell? _ _ (hHeld.2.2.2.2.2.2.1))).trans (hHeld.2.2.2.2.2.2.1); have HS7_ := (hb.cell (World.block_lt_of_cell? _ _ (hHeld.2.2.2.2.2.2.2))).trans (hHeld.2.2.2.2.2.2.2); refine ⟨_, rfl, ?_⟩; have n0_ := Aside0.mk (Kd.R_below HO_0.out hb); have n1_ := Aside0.mk (Kept.below (S := (fun k_ => P0_ k_)) HK.out hb); have n2_ := Aside0.mk (below_step HB.out hb); clear HO_0; clear HK; clear HB; have HO_0 := n0_; have HK := n1_; have HB := n2_; clear n0_ n1_ n2_
         (try clear hb)
         (try clear hb2)
         (try clear hk)
         (try clear hi)
         refine hK.out _ _ ⟨HS0_, HS1_, HS2_, HS3_, HS4_, HS5_, HS6_, HS7_⟩ (fun hHeld => ?_); clear hK K; refine norm_ (a' := ?_) ?_ ?_; rotate_left
         ·
          show Act.put _ (some 49) _ = _; simp only [Act.put, List.setIfInBounds_toArray, List.set_cons_zero, List.set_cons_succ, i64_w, i32_w]; rfl
         apply pv 10 50 (bs 11 2047) HT_; rfl; rfl; kernel_rfl; exact qq; rfl; intro w'; go_simp; with_reducible rfl; simp only [zz]; rfl
         refine done_ (done_of HT_.out (by kernel_rfl)) ?_; try go_wp2
         go_roundg k1
         case measure => have := HK1.out; omega
         case rel => exact ⟨(x10_1), (ji8), (by rfl), (by rfl), H', ⟨by have := HK1.out; omega⟩, ⟨HO_0.out⟩, ⟨HK.out⟩, ⟨HB.out⟩⟩
       ·
        rw [if_neg c12] at H; exact absurd H (by simp)
      ·
       rw [if_neg c11] at H; exact absurd H (by simp)
     ·
      rw [if_neg c10] at H; exact absurd H (by simp)
    ·
     rw [if_neg c9] at H; exact absurd H (by simp)
   ·
    rw [if_neg c7] at H; have c7b0 : decide (x10_1 < x11_1) = false := decide_eq_false c7; clear c7; have H' := Aside0.mk H; clear H; go_wp2; go_loopg [13] k1 (fun kq v13 w' => ∃ (x0_2 : List (S25)) (x13_2 : Int), v13 = .int .i64 x13_2 ∧ Aside0 (api_Meta_60.l1 kq x0_2 x10_1 x13_2 = some r) ∧ Aside0 (kq ≤ k1) ∧ Aside0 (Kd.R k25 25 w' w0.heap.size (fun k_ => (P0_ k_ ∨ w.heap.size ≤ k_)) u9000_ x0_2) ∧ Aside0 (Kept w w' (fun k_ => P0_ k_)) ∧ Aside0 (Below w0.heap.size w0 w'))
    case atStart => exact ⟨(l0), (a1), (by rfl), H', ⟨Nat.le_refl _⟩, ⟨HO_0.out⟩, ⟨HK.out⟩, ⟨HB.out⟩⟩
    case round =>
     clear H'; try clear c7b0
     obtain ⟨x0_2, x13_2, rfl, HA, HK2, HO_0, HK, HB⟩ := hrel
     cases gk with
     | zero => exact absurd HA.out (by simp [api_Meta_60.l1])
     | succ k2 =>
      have H := HA.out; clear HA; simp only [api_Meta_60.l1] at H
      by_cases c21 : x13_2 < (wrap64 (x10_1 - 1))
      ·
       rw [if_pos c21] at H; have c21b0 : decide (x13_2 < (wrap64 (x10_1 - 1))) = true := decide_eq_true c21; clear c21
       obtain ⟨ji22, hji22⟩ : ∃ j_ : Int, (wrap64 (x13_2 + 1)) = j_ := ⟨_, rfl⟩
       replace H : (if 0 ≤ (ji22) then (if (ji22) < (x0_2.length : Int) then (if 0 ≤ x13_2 then (if x13_2 < (x0_2.length : Int) then (api_Meta_60.l1 k2 ((x0_2.set (x13_2 : Int).toNat (⟨(rd_T25 x0_2 (ji22)).f0, (rd_T25 x0_2 (ji22)).f1, (rd_T25 x0_2 (ji22)).f2, (rd_T25 x0_2 (ji22)).f3⟩ : S25)).set ((ji22) : Int).toNat (⟨(rd_T25 x0_2 x13_2).f0, (rd_T25 x0_2 x13_2).f1, (rd_T25 x0_2 x13_2).f2, (rd_T25 x0_2 x13_2).f3⟩ : S25)) x10_1 ji22) else (none)) else (none)) else (none)) else (none)) = some r := by (rw [hji22] at H; exact H)
       have hji22w : (IntKind.i64.wrap (x13_2 + 1)) = ji22 := (i64_w _).trans hji22
       by_cases c23 : 0 ≤ (ji22)
       ·
        rw [if_pos c23] at H; have c23b0 : decide (0 ≤ (ji22)) = true := decide_eq_true c23; clear c23
        by_cases c24 : (ji22) < (x0_2.length : Int)
        ·
         rw [if_pos c24] at H; have c24b0 : decide ((ji22) < (x0_2.length : Int)) = true := decide_eq_true c24; clear c24
         by_cases c25 : 0 ≤ x13_2
         ·
          rw [if_pos c25] at H; have c25b0 : decide (0 ≤ x13_2) = true := decide_eq_true c25; clear c25
          by_cases c26 : x13_2 < (x0_2.length : Int)
          ·
           rw [if_pos c26] at H; have c26b0 : decide (x13_2 < (x0_2.length : Int)) = true := decide_eq_true c26; clear c26
           obtain ⟨y131, hy131⟩ : ∃ y_ : List (S25), y_ = (x0_2.set (x13_2 : Int).toNat (⟨(rd_T25 x0_2 (ji22)).f0, (rd_T25 x0_2 (ji22)).f1, (rd_T25 x0_2 (ji22)).f2, (rd_T25 x0_2 (ji22)).f3⟩ : S25)) := ⟨_, rfl⟩
           replace H : (api_Meta_60.l1 k2 (y131.set ((ji22) : Int).toNat (⟨(rd_T25 x0_2 x13_2).f0, (rd_T25 x0_2 x13_2).f1, (rd_T25 x0_2 x13_2).f2, (rd_T25 x0_2 x13_2).f3⟩ : S25)) x10_1 ji22) = some r := by (rw [hy131]; with_reducible exact H)
           have Ny131 := Aside0.mk hy131; clear hy131
           obtain ⟨y132, hy132⟩ : ∃ y_ : List (S25), y_ = (y131.set ((ji22) : Int).toNat (⟨(rd_T25 x0_2 x13_2).f0, (rd_T25 x0_2 x13_2).f1, (rd_T25 x0_2 x13_2).f2, (rd_T25 x0_2 x13_2).f3⟩ : S25)) := ⟨_, rfl⟩
           replace H : (api_Meta_60.l1 k2 y132 x10_1 ji22) = some r := by (rw [hy132]; with_reducible exact H)
           have Ny132 := Aside0.mk hy132; clear hy132; have H' := Aside0.mk H; clear H; try go_wp2
           have n0_ := Aside0.mk (Kd.R_drew HO_0.out); have n1_ := Aside0.mk (Kept.drew HK.out); have n2_ := Aside0.mk (below_drew1 HB.out); clear HO_0; clear HK; clear HB; have HO_0 := n0_; have HK := n1_; have HB := n2_; clear n0_ n1_ n2_; obtain ⟨Ao30, co30, eo30⟩ := Kd.R_slice HO_0.out
           ((subst eo30))
           have p129 : 0 ≤ ((ji22) : Int) := of_decide_eq_true (by with_reducible assumption); have q129 : (ji22) < (x0_2.length : Int) := of_decide_eq_true (by with_reducible assumption); obtain ⟨ad129, e129, hx129_0, hx129_1, hx129_2, hx129_3⟩ := at_T25 (Kd.R_reads' HO_0.out).2.2 (ji22) p129 q129; cases e129; replace p129 := eq_true p129; replace q129 := eq_true q129; have p130 : 0 ≤ (x13_2 : Int) := of_decide_eq_true (by with_reducible assumption); have q130 : x13_2 < (x0_2.length : Int) := of_decide_eq_true (by with_reducible assumption); obtain ⟨ad130, e130, hx130_0, hx130_1, hx130_2, hx130_3⟩ := at_T25 (Kd.R_reads' HO_0.out).2.2 x13_2 p130 q130
           obtain rfl : ad129 = ad130 := (by injection e130)
           replace p130 := eq_true p130; replace q130 := eq_true q130; have p27 : 0 ≤ (x13_2 : Int) := of_decide_eq_true (by with_reducible assumption); have q27 : (x13_2 : Int) < ((x0_2.length : Int) : Int) := of_decide_eq_true (by with_reducible assumption); obtain ⟨go27, co27, eo27, gb27, gl27, cl27, HG27⟩ := Kd.R_form HO_0.out (by omega)
           ((cases eo27))
           have GB27 := Aside0.mk gb27; have GG27 := Aside0.mk HG27; clear gb27 gl27 HG27; have HMgo27 := Aside0.mk (show (P0_ go27 ∨ w.heap.size ≤ go27) from (HO_0.out.1 _ rfl))
           (simp only [add_plain] at hx129_0)
           (simp only [add_plain] at hx129_1)
           (simp only [add_plain] at hx129_2)
           (simp only [add_plain] at hx129_3)
           (simp only [add_plain] at hx130_0)
           (simp only [add_plain] at hx130_1)
           (simp only [add_plain] at hx130_2)
           (simp only [add_plain] at hx130_3)
           obtain ⟨ce27, hcl27, hM27, hcc27, hfr27⟩ := Kd.R_elem HO_0.out z25 (x13_2 : Int) p27 q27; obtain rfl := k25_openM hM27; have hx27_0 : World.cell? _ ⟨go27, (x13_2 : Int).toNat * 4, none⟩ = some (.string ((rd_T25 x0_2 x13_2).f0)) := hcc27 0 _ rfl; have hx27_1 : World.cell? _ ⟨go27, (x13_2 : Int).toNat * 4 + 1, none⟩ = some (.int .i64 ((rd_T25 x0_2 x13_2).f1)) := hcc27 1 _ rfl; have hx27_2 : World.cell? _ ⟨go27, (x13_2 : Int).toNat * 4 + 2, none⟩ = some (.int .i64 ((rd_T25 x0_2 x13_2).f2)) := hcc27 2 _ rfl; have hx27_3 : World.cell? _ ⟨go27, (x13_2 : Int).toNat * 4 + 3, none⟩ = some (.int .u32 ((rd_T25 x0_2 x13_2).f3)) := hcc27 3 _ rfl; have hf27_0 : World.frozen? _ ⟨go27, (x13_2 : Int).toNat * 4, none⟩ = false := hfr27 0; have hf27_1 : World.frozen? _ ⟨go27, (x13_2 : Int).toNat * 4 + 1, none⟩ = false := hfr27 1; have hf27_2 : World.frozen? _ ⟨go27, (x13_2 : Int).toNat * 4 + 2, none⟩ = false := hfr27 2; have hf27_3 : World.frozen? _ ⟨go27, (x13_2 : Int).toNat * 4 + 3, none⟩ = false := hfr27 3; clear hcl27 hcc27 hfr27 hM27; replace p27 := eq_true p27; replace q27 := eq_true q27; obtain ⟨ce31, hcl31, hM31, hcc31, hfr31⟩ := Kd.R_elem HO_0.out z25 (x13_2 : Int) (of_decide_eq_true (by with_reducible assumption)) (by have h_ : (x13_2 : Int) < ((x0_2.length : Int) : Int) := of_decide_eq_true (by with_reducible assumption); exact h_); obtain rfl := k25_openM hM31; have HP31 := (Kd.R_seg HO_0.out (x13_2 : Int) (of_decide_eq_true (by with_reducible assumption)) (by have h_ : (x13_2 : Int) < ((x0_2.length : Int) : Int) := of_decide_eq_true (by with_reducible assumption); exact h_) (seg := [.string ((rd_T25 x0_2 (ji22)).f0), .int .i64 ((rd_T25 x0_2 (ji22)).f1), .int .i64 ((rd_T25 x0_2 (ji22)).f2), .int .u32 ((rd_T25 x0_2 (ji22)).f3)]) (j := 0) hcl31 hcc31 (show 4 ≤ 4 from by decide) (x' := (⟨(rd_T25 x0_2 (ji22)).f0, (rd_T25 x0_2 (ji22)).f1, (rd_T25 x0_2 (ji22)).f2, (rd_T25 x0_2 (ji22)).f3⟩ : S25)) (k25_mkM _ _ _ (⟨(rd_T25 x0_2 (ji22)).f0, (rd_T25 x0_2 (ji22)).f1, (rd_T25 x0_2 (ji22)).f2, (rd_T25 x0_2 (ji22)).f3⟩ : S25) ) (fun _ hk => hk)).1; rw [← Ny131.out] at HP31; have HQ31 := Aside0.mk HP31; clear hcl31 hcc31 hfr31 hM31 HP31; have p28 : 0 ≤ ((ji22) : Int) := of_decide_eq_true (by with_reducible assumption); have q28 : ((ji22) : Int) < ((x0_2.length : Int) : Int) := of_decide_eq_true (by with_reducible assumption); obtain ⟨ce28, hcl28, hM28, hcc28, hfr28⟩ := Kd.R_elem HQ31.out z25 ((ji22) : Int) p28 q28; obtain rfl := k25_openM hM28; have hx28_0 : World.cell? _ ⟨go27, ((ji22) : Int).toNat * 4, none⟩ = some (.string ((rd_T25 y131 (ji22)).f0)) := hcc28 0 _ rfl; have hx28_1 : World.cell? _ ⟨go27, ((ji22) : Int).toNat * 4 + 1, none⟩ = some (.int .i64 ((rd_T25 y131 (ji22)).f1)) := hcc28 1 _ rfl; have hx28_2 : World.cell? _ ⟨go27, ((ji22) : Int).toNat * 4 + 2, none⟩ = some (.int .i64 ((rd_T25 y131 (ji22)).f2)) := hcc28 2 _ rfl; have hx28_3 : World.cell? _ ⟨go27, ((ji22) : Int).toNat * 4 + 3, none⟩ = some (.int .u32 ((rd_T25 y131 (ji22)).f3)) := hcc28 3 _ rfl; have hf28_0 : World.frozen? _ ⟨go27, ((ji22) : Int).toNat * 4, none⟩ = false := hfr28 0; have hf28_1 : World.frozen? _ ⟨go27, ((ji22) : Int).toNat * 4 + 1, none⟩ = false := hfr28 1; have hf28_2 : World.frozen? _ ⟨go27, ((ji22) : Int).toNat * 4 + 2, none⟩ = false := hfr28 2; have hf28_3 : World.frozen? _ ⟨go27, ((ji22) : Int).toNat * 4 + 3, none⟩ = false := hfr28 3; clear hcl28 hcc28 hfr28 hM28; replace p28 := eq_true p28; replace q28 := eq_true q28; obtain ⟨ce32, hcl32, hM32, hcc32, hfr32⟩ := Kd.R_elem HQ31.out z25 ((ji22) : Int) (of_decide_eq_true (by with_reducible assumption)) (by have h_ : ((ji22) : Int) < ((x0_2.length : Int) : Int) := of_decide_eq_true (by with_reducible assumption); exact h_); obtain rfl := k25_openM hM32; have HP32 := (Kd.R_seg HQ31.out ((ji22) : Int) (of_decide_eq_true (by with_reducible assumption)) (by have h_ : ((ji22) : Int) < ((x0_2.length : Int) : Int) := of_decide_eq_true (by with_reducible assumption); exact h_) (seg := [.string ((rd_T25 x0_2 x13_2).f0), .int .i64 ((rd_T25 x0_2 x13_2).f1), .int .i64 ((rd_T25 x0_2 x13_2).f2), .int .u32 ((rd_T25 x0_2 x13_2).f3)]) (j := 0) hcl32 hcc32 (show 4 ≤ 4 from by decide) (x' := (⟨(rd_T25 x0_2 x13_2).f0, (rd_T25 x0_2 x13_2).f1, (rd_T25 x0_2 x13_2).f2, (rd_T25 x0_2 x13_2).f3⟩ : S25)) (k25_mkM _ _ _ (⟨(rd_T25 x0_2 x13_2).f0, (rd_T25 x0_2 x13_2).f1, (rd_T25 x0_2 x13_2).f2, (rd_T25 x0_2 x13_2).f3⟩ : S25) ) (fun _ hk => hk)).1; rw [← Ny132.out] at HP32; have HQ32 := Aside0.mk HP32; clear hcl32 hcc32 hfr32 hM32 HP32; refine start_ (n := 18) (S := fun w' => w'.cell? ⟨go27, (((ji22)).toNat * 4), none⟩ = some (.string ((rd_T25 x0_2 (ji22)).f0)) ∧ w'.cell? ⟨go27, ((((ji22)).toNat * 4)) + 1, none⟩ = some (.int .i64 ((rd_T25 x0_2 (ji22)).f1)) ∧ w'.cell? ⟨go27, ((((ji22)).toNat * 4)) + 2, none⟩ = some (.int .i64 ((rd_T25 x0_2 (ji22)).f2)) ∧ w'.cell? ⟨go27, ((((ji22)).toNat * 4)) + 3, none⟩ = some (.int .u32 ((rd_T25 x0_2 (ji22)).f3)) ∧ w'.cell? ⟨go27, ((x13_2).toNat * 4), none⟩ = some (.string ((rd_T25 x0_2 x13_2).f0)) ∧ w'.cell? ⟨go27, ((x13_2).toNat * 4) + 1, none⟩ = some (.int .i64 ((rd_T25 x0_2 x13_2).f1)) ∧ w'.cell? ⟨go27, ((x13_2).toNat * 4) + 2, none⟩ = some (.int .i64 ((rd_T25 x0_2 x13_2).f2)) ∧ w'.cell? ⟨go27, ((x13_2).toNat * 4) + 3, none⟩ = some (.int .u32 ((rd_T25 x0_2 x13_2).f3))) (ds := [15, 17]) (bs 18 0) (by kernel_rfl) rfl rfl ⟨hx129_0, hx129_1, hx129_2, hx129_3, hx130_0, hx130_1, hx130_2, hx130_3⟩ (fun hHeld => ?_); refine with_tabW api_Meta_60.tab11 api_Meta_60.bits11 (fun HT_ HW_ => ?_); generalize wr.drew = w29 at HO_0 HK HB GG27 HQ31 HQ32 hf27_0 hf27_1 hf27_2 hf27_3 hf28_0 hf28_1 hf28_2 hf28_3 hx129_0 hx129_1 hx129_2 hx129_3 hx130_0 hx130_1 hx130_2 hx130_3 hx27_0 hx27_1 hx27_2 hx27_3 hx28_0 hx28_1 hx28_2 hx28_3 hHeld ⊢; replace hx28_0 : World.cell? ((((w29.setCell ⟨go27, (x13_2).toNat * 4, none⟩ (.string ((rd_T25 x0_2 (ji22)).f0))).setCell ⟨go27, (x13_2).toNat * 4 + 1, none⟩ (.int .i64 ((rd_T25 x0_2 (ji22)).f1))).setCell ⟨go27, (x13_2).toNat * 4 + 2, none⟩ (.int .i64 ((rd_T25 x0_2 (ji22)).f2))).setCell ⟨go27, (x13_2).toNat * 4 + 3, none⟩ (.int .u32 ((rd_T25 x0_2 (ji22)).f3))) ⟨go27, ((ji22) : Int).toNat * 4, none⟩ = some (.string ((rd_T25 y131 (ji22)).f0)) := hx28_0; replace hx28_1 : World.cell? ((((w29.setCell ⟨go27, (x13_2).toNat * 4, none⟩ (.string ((rd_T25 x0_2 (ji22)).f0))).setCell ⟨go27, (x13_2).toNat * 4 + 1, none⟩ (.int .i64 ((rd_T25 x0_2 (ji22)).f1))).setCell ⟨go27, (x13_2).toNat * 4 + 2, none⟩ (.int .i64 ((rd_T25 x0_2 (ji22)).f2))).setCell ⟨go27, (x13_2).toNat * 4 + 3, none⟩ (.int .u32 ((rd_T25 x0_2 (ji22)).f3))) ⟨go27, ((ji22) : Int).toNat * 4 + 1, none⟩ = some (.int .i64 ((rd_T25 y131 (ji22)).f1)) := hx28_1; replace hx28_2 : World.cell? ((((w29.setCell ⟨go27, (x13_2).toNat * 4, none⟩ (.string ((rd_T25 x0_2 (ji22)).f0))).setCell ⟨go27, (x13_2).toNat * 4 + 1, none⟩ (.int .i64 ((rd_T25 x0_2 (ji22)).f1))).setCell ⟨go27, (x13_2).toNat * 4 + 2, none⟩ (.int .i64 ((rd_T25 x0_2 (ji22)).f2))).setCell ⟨go27, (x13_2).toNat * 4 + 3, none⟩ (.int .u32 ((rd_T25 x0_2 (ji22)).f3))) ⟨go27, ((ji22) : Int).toNat * 4 + 2, none⟩ = some (.int .i64 ((rd_T25 y131 (ji22)).f2)) := hx28_2; replace hx28_3 : World.cell? ((((w29.setCell ⟨go27, (x13_2).toNat * 4, none⟩ (.string ((rd_T25 x0_2 (ji22)).f0))).setCell ⟨go27, (x13_2).toNat * 4 + 1, none⟩ (.int .i64 ((rd_T25 x0_2 (ji22)).f1))).setCell ⟨go27, (x13_2).toNat * 4 + 2, none⟩ (.int .i64 ((rd_T25 x0_2 (ji22)).f2))).setCell ⟨go27, (x13_2).toNat * 4 + 3, none⟩ (.int .u32 ((rd_T25 x0_2 (ji22)).f3))) ⟨go27, ((ji22) : Int).toNat * 4 + 3, none⟩ = some (.int .u32 ((rd_T25 y131 (ji22)).f3)) := hx28_3; replace hf28_0 : World.frozen? ((((w29.setCell ⟨go27, (x13_2).toNat * 4, none⟩ (.string ((rd_T25 x0_2 (ji22)).f0))).setCell ⟨go27, (x13_2).toNat * 4 + 1, none⟩ (.int .i64 ((rd_T25 x0_2 (ji22)).f1))).setCell ⟨go27, (x13_2).toNat * 4 + 2, none⟩ (.int .i64 ((rd_T25 x0_2 (ji22)).f2))).setCell ⟨go27, (x13_2).toNat * 4 + 3, none⟩ (.int .u32 ((rd_T25 x0_2 (ji22)).f3))) ⟨go27, ((ji22) : Int).toNat * 4, none⟩ = false := hf28_0; replace hf28_1 : World.frozen? ((((w29.setCell ⟨go27, (x13_2).toNat * 4, none⟩ (.string ((rd_T25 x0_2 (ji22)).f0))).setCell ⟨go27, (x13_2).toNat * 4 + 1, none⟩ (.int .i64 ((rd_T25 x0_2 (ji22)).f1))).setCell ⟨go27, (x13_2).toNat * 4 + 2, none⟩ (.int .i64 ((rd_T25 x0_2 (ji22)).f2))).setCell ⟨go27, (x13_2).toNat * 4 + 3, none⟩ (.int .u32 ((rd_T25 x0_2 (ji22)).f3))) ⟨go27, ((ji22) : Int).toNat * 4 + 1, none⟩ = false := hf28_1; replace hf28_2 : World.frozen? ((((w29.setCell ⟨go27, (x13_2).toNat * 4, none⟩ (.string ((rd_T25 x0_2 (ji22)).f0))).setCell ⟨go27, (x13_2).toNat * 4 + 1, none⟩ (.int .i64 ((rd_T25 x0_2 (ji22)).f1))).setCell ⟨go27, (x13_2).toNat * 4 + 2, none⟩ (.int .i64 ((rd_T25 x0_2 (ji22)).f2))).setCell ⟨go27, (x13_2).toNat * 4 + 3, none⟩ (.int .u32 ((rd_T25 x0_2 (ji22)).f3))) ⟨go27, ((ji22) : Int).toNat * 4 + 2, none⟩ = false := hf28_2; replace hf28_3 : World.frozen? ((((w29.setCell ⟨go27, (x13_2).toNat * 4, none⟩ (.string ((rd_T25 x0_2 (ji22)).f0))).setCell ⟨go27, (x13_2).toNat * 4 + 1, none⟩ (.int .i64 ((rd_T25 x0_2 (ji22)).f1))).setCell ⟨go27, (x13_2).toNat * 4 + 2, none⟩ (.int .i64 ((rd_T25 x0_2 (ji22)).f2))).setCell ⟨go27, (x13_2).toNat * 4 + 3, none⟩ (.int .u32 ((rd_T25 x0_2 (ji22)).f3))) ⟨go27, ((ji22) : Int).toNat * 4 + 3, none⟩ = false := hf28_3; apply pv 0 61 (bs 18 1) HT_; rfl; rfl; kernel_rfl; exact qq; rfl; intro w'; go_simp; with_reducible rfl; simp only [zz]; rfl
           apply pv 1 62 (bs 18 3) HT_; rfl; rfl; kernel_rfl; exact qq; rfl; intro w'; go_simp; with_reducible rfl; simp only [zz]; rfl
           apply pv 2 63 (bs 18 7) HT_; rfl; rfl; kernel_rfl; exact qq; rfl; intro w'; go_simp; with_reducible rfl; simp only [zz]; rfl
           apply pv 3 64 (bs 18 15) HT_; rfl; rfl; kernel_rfl; exact qq; rfl; intro w'; go_simp; with_reducible rfl; simp only [zz]; rfl
           apply pv 4 65 (bs 18 31) HT_; rfl; rfl; kernel_rfl; exact qq; rfl; intro w'; go_simp; with_reducible rfl; simp only [zz]; rfl
           apply pv 5 66 (bs 18 63) HT_; rfl; rfl; kernel_rfl; exact qq; rfl; intro w'; go_simp; with_reducible rfl; simp only [zz]; rfl
           apply pv 6 67 (bs 18 127) HT_; rfl; rfl; kernel_rfl; exact qq; rfl; intro w'; go_simp; with_reducible rfl; simp only [zz]; rfl
           apply pv 7 68 (bs 18 255) HT_; rfl; rfl; kernel_rfl; exact qq; rfl; intro w'; go_simp; with_reducible rfl; simp only [zz]; rfl
           apply pv 8 69 (bs 18 511) HT_; rfl; rfl; kernel_rfl; exact qq; rfl; intro w'; go_simp; with_reducible rfl; simp only [zz]; rfl
           apply pv 10 71 (bs 18 1535) HT_; rfl; rfl; kernel_rfl; exact qq; rfl; intro w'; go_simp; with_reducible rfl; simp only [zz]; rfl
           apply pv 11 72 (bs 18 3583) HT_; rfl; rfl; kernel_rfl; exact qq; rfl; intro w'; go_simp; with_reducible rfl; simp only [zz]; rfl
           apply pv 12 73 (bs 18 7679) HT_; rfl; rfl; kernel_rfl; exact qq; rfl; intro w'; go_simp; with_reducible rfl; simp only [zz]; rfl
           apply tb 9 70 (bs 18 8191) HT_ HW_ hHeld; rfl; rfl; kernel_rfl; exact qq; rfl; rintro w' ⟨s0, s1, s2, s3, s4, s5, s6, s7⟩; go_simp; with_reducible rfl; simp only [zz]; rfl
           apply tb 13 74 (bs 18 16383) HT_ HW_ hHeld; rfl; rfl; kernel_rfl; exact qq; rfl; rintro w' ⟨s0, s1, s2, s3, s4, s5, s6, s7⟩; go_simp; with_reducible rfl; simp only [zz]; rfl
           apply pv 14 75 (bs 18 32767) HT_; rfl; rfl; kernel_rfl; exact qq; rfl; intro w'; go_simp; with_reducible rfl; simp only [zz]; rfl
           refine last_ (i := 15) (N := none) (bs 18 65535) rfl rfl (one_of HT_.out (by kernel_rfl)) (by decide) (fun K hK => ?_); refine skip_ (w1 := ?_) (by rfl) rfl ?_ ?_; rotate_left
           ·
            go_simp; rfl
           refine hK.out _ _ ?_; clear hK K; apply pv 16 76 (bs 18 131071) HT_; rfl; rfl; kernel_rfl; exact qq; rfl; intro w'; go_simp; with_reducible rfl; simp only [zz]; rfl
           refine last_ (i := 17) (N := none) (bs 18 262143) rfl rfl (one_of HT_.out (by kernel_rfl)) (by decide) (fun K hK => ?_); refine skip_ (w1 := ?_) (by rfl) rfl ?_ ?_; rotate_left
           ·
            go_simp; rfl
           refine hK.out _ _ ?_; clear hK K; refine done_ (done_of HT_.out (by kernel_rfl)) ?_; try go_wp2
           go_roundg k2
           case measure => have := HK1.out; have := HK2.out; omega
           case rel => exact ⟨(y132), (ji22), (by rfl), H', ⟨by have := HK1.out; have := HK2.out; omega⟩, ⟨HQ32.out⟩, ⟨by repeat ((with_reducible first | exact HK.out | refine Kept.setCell ?_ HMgo27.out _))⟩, ⟨by repeat ((with_reducible first | exact HB.out | refine below_set ?_ GB27.out))⟩⟩
          ·
           rw [if_neg c26] at H; exact absurd H (by simp)
         ·
          rw [if_neg c25] at H; exact absurd H (by simp)
        ·
         rw [if_neg c24] at H; exact absurd H (by simp)
       ·
        rw [if_neg c23] at H; exact absurd H (by simp)
      ·
       rw [if_neg c21] at H; have c21b0 : decide (x13_2 < (wrap64 (x10_1 - 1))) = false := decide_eq_false c21; clear c21; obtain rfl := Option.some.inj H; go_wp2
       (refine bodyPost_ret (results_none rfl _ _ _) rfl ?_)
       exact ⟨by rfl, by exact HO_0.out, by repeat ((with_reducible exact HB.out)), by repeat ((with_reducible exact HK.out))⟩
theorem api_Meta_60.leaf2 (k : Nat) (ih : ∀ k' : Nat, k' < k + 1 → ∀ (P0_ : Nat → Prop) (u9000_ : Value) (l0 : List (S25)) (a1 : Int) (a2 : Int) (a3 : Int)  (r : List (S25)) (w0 w : World) (hB : Below w0.heap.size w0 w) (ho0 : Kd.R k25 25 w w0.heap.size P0_ u9000_ l0) (h : api_Meta_60.f k' l0 a1 a2 a3 = some r),
  Calls Try.prog 60 #[u9000_, .int .i64 a1, .int .i64 a2, .int .i64 a3, .func (.func 27) #[] #[]] w fun e w' => e = .returned (.tuple #[]) ∧ Kd.R k25 25 w' w0.heap.size (fun k_ => (P0_ k_ ∨ w.heap.size ≤ k_)) u9000_ r ∧ Below w0.heap.size w0 w' ∧ Kept w w' (fun k_ => P0_ k_)) : ∀ (P0_ : Nat → Prop) (u9000_ : Value) (l0 : List (S25)) (a1 : Int) (a2 : Int) (a3 : Int)  (r : List (S25)) (w0 w : World) (hB : Below w0.heap.size w0 w) (ho0 : Kd.R k25 25 w w0.heap.size P0_ u9000_ l0) (c6 : ¬ ((wrap64 (a2 - a1)) = 1)) (c33 : (wrap64 (a3 - a2)) = 1) (h : api_Meta_60.f (k + 1) l0 a1 a2 a3 = some r),
  Calls Try.prog 60 #[u9000_, .int .i64 a1, .int .i64 a2, .int .i64 a3, .func (.func 27) #[] #[]] w fun e w' => e = .returned (.tuple #[]) ∧ Kd.R k25 25 w' w0.heap.size (fun k_ => (P0_ k_ ∨ w.heap.size ≤ k_)) u9000_ r ∧ Below w0.heap.size w0 w' ∧ Kept w w' (fun k_ => P0_ k_) := by
 intro P0_ u9000_ l0 a1 a2 a3 r w0 w hB ho0 c6 c33 h; simp only [api_Meta_60.f] at h; have HO0 := Aside0.mk (show Kd.R k25 25 w w0.heap.size (fun k_ => (P0_ k_ ∨ w.heap.size ≤ k_)) u9000_ l0 from Kd.R_mono ho0 (fun k_ hk => (.inl hk))); have HK := Aside0.mk (Kept.refl w (fun k_ => P0_ k_)); have HB := Aside0.mk hB; clear hB; have H : (if (wrap64 (a2 - a1)) = 1 then (api_Meta_60.l0 k l0 a1 a2 a3) else (if (wrap64 (a3 - a2)) = 1 then (api_Meta_60.l2 k l0 a2 a1 a2) else (if a2 > (wrap64 ((IntKind.u64.wrap (wrap64 (a1 + a3))) / 2)) then (api_Meta_60.j4 k l0 a1 a2 a3 (wrap64 ((IntKind.u64.wrap (wrap64 (a1 + a3))) / 2)) (wrap64 ((wrap64 ((IntKind.u64.wrap (wrap64 (a1 + a3))) / 2)) + a2)) (wrap64 ((wrap64 ((wrap64 ((IntKind.u64.wrap (wrap64 (a1 + a3))) / 2)) + a2)) - a3)) (wrap64 ((IntKind.u64.wrap (wrap64 (a1 + a3))) / 2))) else (api_Meta_60.j4 k l0 a1 a2 a3 (wrap64 ((IntKind.u64.wrap (wrap64 (a1 + a3))) / 2)) (wrap64 ((wrap64 ((IntKind.u64.wrap (wrap64 (a1 + a3))) / 2)) + a2)) a1 a2)))) = some r := h; clear h; rw [if_neg c6] at H; have c6b0 : ((wrap64 (a2 - a1)) == 1) = false := beq_eq_false_iff_ne.mpr c6; rw [if_pos c33] at H; have c33b0 : ((wrap64 (a3 - a2)) == 1) = true := beq_iff_eq.mpr c33; clear c33; have H' := Aside0.mk H; clear H; go_enter Try.func60, Try.ntmps60
 go_wp2; go_loopg [14, 15] k (fun kq v14 v15 w' => ∃ (x14_1 : Int) (x15_1 : Int), v14 = .int .i64 x14_1 ∧ v15 = .int .i64 x15_1 ∧ Aside0 (api_Meta_60.l2 kq l0 a2 x14_1 x15_1 = some r) ∧ Aside0 (kq ≤ k) ∧ Aside0 (Kd.R k25 25 w' w0.heap.size (fun k_ => (P0_ k_ ∨ w.heap.size ≤ k_)) u9000_ l0) ∧ Aside0 (Kept w w' (fun k_ => P0_ k_)) ∧ Aside0 (Below w0.heap.size w0 w'))
 case atStart => exact ⟨(a1), (a2), (by rfl), (by rfl), H', ⟨Nat.le_refl _⟩, ⟨HO0.out⟩, ⟨HK.out⟩, ⟨HB.out⟩⟩
 case round =>
  clear H'; try clear c6
  try clear c6b0
  try clear c33b0
  obtain ⟨x14_1, x15_1, rfl, rfl, HA, HK1, HO_0, HK, HB⟩ := hrel
  cases gk with
  | zero => exact absurd HA.out (by simp [api_Meta_60.l2])
  | succ k1 =>
   have H := HA.out; clear HA; simp only [api_Meta_60.l2] at H
   by_cases c34 : x14_1 < x15_1
   ·
    rw [if_pos c34] at H; have c34b0 : decide (x14_1 < x15_1) = true := decide_eq_true c34; clear c34
    by_cases c35 : 0 ≤ a2
    ·
     rw [if_pos c35] at H; have c35b0 : decide (0 ≤ a2) = true := decide_eq_true c35; clear c35
     by_cases c36 : a2 < (l0.length : Int)
     ·
      rw [if_pos c36] at H; have c36b0 : decide (a2 < (l0.length : Int)) = true := decide_eq_true c36; clear c36
      obtain ⟨ji37, hji37⟩ : ∃ j_ : Int, (wrap64 ((IntKind.u64.wrap (wrap64 (x14_1 + x15_1))) / 2)) = j_ := ⟨_, rfl⟩
      replace H : (if 0 ≤ (ji37) then (if (ji37) < (l0.length : Int) then ((peers_order.f k1 ((rd_T25 l0 a2).f0) ((rd_T25 l0 a2).f1) ((rd_T25 l0 a2).f2) ((rd_T25 l0 a2).f3) ((rd_T25 l0 (ji37)).f0) ((rd_T25 l0 (ji37)).f1) ((rd_T25 l0 (ji37)).f2) ((rd_T25 l0 (ji37)).f3)).bind fun t135 => (if t135 < 0 then (api_Meta_60.l2 k1 l0 a2 x14_1 ji37) else (api_Meta_60.l2 k1 l0 a2 (wrap64 ((ji37) + 1)) x15_1))) else (none)) else (none)) = some r := by (rw [hji37] at H; exact H)
      have hji37w : (IntKind.i64.wrap ((IntKind.u64.wrap (wrap64 (x14_1 + x15_1))) / 2)) = ji37 := (i64_w _).trans hji37
      by_cases c38 : 0 ≤ (ji37)
      ·
       rw [if_pos c38] at H; have c38b0 : decide (0 ≤ (ji37)) = true := decide_eq_true c38; clear c38
       by_cases c39 : (ji37) < (l0.length : Int)
       ·
        rw [if_pos c39] at H; have c39b0 : decide ((ji37) < (l0.length : Int)) = true := decide_eq_true c39; clear c39; replace H := Option.bind_eq_some_iff.mp H; obtain ⟨t135, A400, H⟩ := H; replace H : (if t135 < 0 then (api_Meta_60.l2 k1 l0 a2 x14_1 ji37) else (api_Meta_60.l2 k1 l0 a2 (wrap64 ((ji37) + 1)) x15_1)) = some r := H; have A40 := Aside0.mk A400; clear A400
        by_cases c41 : t135 < 0
        ·
         rw [if_pos c41] at H; have c41b0 : decide (t135 < 0) = true := decide_eq_true c41; clear c41; have H' := Aside0.mk H; clear H; try go_wp2
         have n0_ := Aside0.mk (Kd.R_drew HO_0.out); have n1_ := Aside0.mk (Kept.drew HK.out); have n2_ := Aside0.mk (below_drew1 HB.out); clear HO_0; clear HK; clear HB; have HO_0 := n0_; have HK := n1_; have HB := n2_; clear n0_ n1_ n2_; obtain ⟨Ao43, co43, eo43⟩ := Kd.R_slice HO_0.out
         ((subst eo43))
         have p133 : 0 ≤ (a2 : Int) := of_decide_eq_true (by with_reducible assumption); have q133 : a2 < (l0.length : Int) := of_decide_eq_true (by with_reducible assumption); obtain ⟨ad133, e133, hx133_0, hx133_1, hx133_2, hx133_3⟩ := at_T25 (Kd.R_reads' HO_0.out).2.2 a2 p133 q133; cases e133; replace p133 := eq_true p133; replace q133 := eq_true q133; have p134 : 0 ≤ ((ji37) : Int) := of_decide_eq_true (by with_reducible assumption); have q134 : (ji37) < (l0.length : Int) := of_decide_eq_true (by with_reducible assumption); obtain ⟨ad134, e134, hx134_0, hx134_1, hx134_2, hx134_3⟩ := at_T25 (Kd.R_reads' HO_0.out).2.2 (ji37) p134 q134
         obtain rfl : ad133 = ad134 := (by injection e134)
         replace p134 := eq_true p134; replace q134 := eq_true q134; refine start_ (n := 12) (S := fun w' => w'.cell? (ad133.add ((a2).toNat * 4)) = some (.string ((rd_T25 l0 a2).f0)) ∧ w'.cell? ⟨(ad133.add ((a2).toNat * 4)).block, (ad133.add ((a2).toNat * 4)).off + 1, none⟩ = some (.int .i64 ((rd_T25 l0 a2).f1)) ∧ w'.cell? ⟨(ad133.add ((a2).toNat * 4)).block, (ad133.add ((a2).toNat * 4)).off + 2, none⟩ = some (.int .i64 ((rd_T25 l0 a2).f2)) ∧ w'.cell? ⟨(ad133.add ((a2).toNat * 4)).block, (ad133.add ((a2).toNat * 4)).off + 3, none⟩ = some (.int .u32 ((rd_T25 l0 a2).f3)) ∧ w'.cell? (ad133.add (((ji37)).toNat * 4)) = some (.string ((rd_T25 l0 (ji37)).f0)) ∧ w'.cell? ⟨(ad133.add (((ji37)).toNat * 4)).block, (ad133.add (((ji37)).toNat * 4)).off + 1, none⟩ = some (.int .i64 ((rd_T25 l0 (ji37)).f1)) ∧ w'.cell? ⟨(ad133.add (((ji37)).toNat * 4)).block, (ad133.add (((ji37)).toNat * 4)).off + 2, none⟩ = some (.int .i64 ((rd_T25 l0 (ji37)).f2)) ∧ w'.cell? ⟨(ad133.add (((ji37)).toNat * 4)).block, (ad133.add (((ji37)).toNat * 4)).off + 3, none⟩ = some (.int .u32 ((rd_T25 l0 (ji37)).f3))) (ds := []) (bs 12 0) (by kernel_rfl) rfl rfl ⟨hx133_0, hx133_1, hx133_2, hx133_3, hx134_0, hx134_1, hx134_2, hx134_3⟩ (fun hHeld => ?_); refine with_tabW api_Meta_60.tab17 api_Meta_60.bits17 (fun HT_ HW_ => ?_); generalize wr.drew = w42 at HO_0 HK HB hx133_0 hx133_1 hx133_2 hx133_3 hx134_0 hx134_1 hx134_2 hx134_3 hHeld ⊢; apply pv 0 92 (bs 12 1) HT_; rfl; rfl; kernel_rfl; exact qq; rfl; intro w'; go_simp; with_reducible rfl; simp only [zz]; rfl
         apply pv 1 93 (bs 12 3) HT_; rfl; rfl; kernel_rfl; exact qq; rfl; intro w'; go_simp; with_reducible rfl; simp only [zz]; rfl
         apply pv 2 94 (bs 12 7) HT_; rfl; rfl; kernel_rfl; exact qq; rfl; intro w'; go_simp; with_reducible rfl; simp only [zz]; rfl
         apply pv 3 95 (bs 12 15) HT_; rfl; rfl; kernel_rfl; exact qq; rfl; intro w'; go_simp; with_reducible rfl; simp only [zz]; rfl
         apply pv 5 97 (bs 12 47) HT_; rfl; rfl; kernel_rfl; exact qq; rfl; intro w'; go_simp; with_reducible rfl; simp only [zz]; rfl
         apply pv 6 98 (bs 12 111) HT_; rfl; rfl; kernel_rfl; exact qq; rfl; intro w'; go_simp; with_reducible rfl; simp only [zz]; rfl
         apply pv 7 99 (bs 12 239) HT_; rfl; rfl; kernel_rfl; exact qq; rfl; intro w'; go_simp; with_reducible rfl; simp only [zz]; rfl
         apply tb 4 96 (bs 12 255) HT_ HW_ hHeld; rfl; rfl; kernel_rfl; exact qq; rfl; rintro w' ⟨s0, s1, s2, s3, s4, s5, s6, s7⟩; go_simp; with_reducible rfl; simp only [zz]; rfl
         apply tb 8 100 (bs 12 511) HT_ HW_ hHeld; rfl; rfl; kernel_rfl; exact qq; rfl; rintro w' ⟨s0, s1, s2, s3, s4, s5, s6, s7⟩; go_simp; with_reducible rfl; simp only [zz]; rfl
         refine one_ (i := 9) (N := some 101) (bs 12 1023) rfl rfl (one_of HT_.out (by kernel_rfl)) (by decide) (fun K hK => ?_)
         (refine goesV_ Try.func27 (by kernel_rfl) rfl #[.agg #[.string ((rd_T25 l0 a2).f0), .int .i64 ((rd_T25 l0 a2).f1), .int .i64 ((rd_T25 l0 a2).f2), .int .u32 ((rd_T25 l0 a2).f3)], .agg #[.string ((rd_T25 l0 (ji37)).f0), .int .i64 ((rd_T25 l0 (ji37)).f1), .int .i64 ((rd_T25 l0 (ji37)).f2), .int .u32 ((rd_T25 l0 (ji37)).f3)]] (by rfl) rfl rfl rfl (by (try simp only [List.map_toArray, List.map_cons, List.map_nil]); rfl) ?_)
         with_reducible refine (peers_order.calls k1 ((rd_T25 l0 a2).f0) ((rd_T25 l0 a2).f1) ((rd_T25 l0 a2).f2) ((rd_T25 l0 a2).f3) ((rd_T25 l0 (ji37)).f0) ((rd_T25 l0 (ji37)).f1) ((rd_T25 l0 (ji37)).f2) ((rd_T25 l0 (ji37)).f3) t135 _ A40.out).mono ?_
         rintro e w44 ⟨rfl, hb⟩; have HS0_ := (hb.cell (World.block_lt_of_cell? _ _ (hHeld.1))).trans (hHeld.1); have HS1_ := (hb.cell (World.block_lt_of_cell? _ _ (hHeld.2.1))).trans (hHeld.2.1); have HS2_ := (hb.cell (World.block_lt_of_cell? _ _ (hHeld.2.2.1))).trans (hHeld.2.2.1); have HS3_ := (hb.cell (World.block_lt_of_cell? _ _ (hHeld.2.2.2.1))).trans (hHeld.2.2.2.1); have HS4_ := (hb.cell (World.block_lt_of_cell? _ _ (hHeld.2.2.2.2.1))).trans (hHeld.2.2.2.2.1); have HS5_ := (hb.cell (World.block_lt_of_cell? _ _ (hHeld.2.2.2.2.2.1))).trans (hHeld.2.2.2.2.2.1); have HS6_ := (hb.cell (World.block_lt_of_cell? _ _ (hHeld.2.2.2.2.2.2.1))).trans (hHeld.2.2.2.2.2.2.1); have HS7_ := (hb.cell (World.block_lt_of_cell? _ _ (hHeld.2.2.2.2.2.2.2))).trans (hHeld.2.2.2.2.2.2.2); refine ⟨_, rfl, ?_⟩; have n0_ := Aside0.mk (Kd.R_below HO_0.out hb); have n1_ := Aside0.mk (Kept.below (S := (fun k_ => P0_ k_)) HK.out hb); have n2_ := Aside0.mk (below_step HB.out hb); clear HO_0; clear HK; clear HB; have HO_0 := n0_; have HK := n1_; have HB := n2_; clear n0_ n1_ n2_
         (try clear hb)
         (try clear hb2)
         (try clear hk)
         (try clear hi)
         refine hK.out _ _ ⟨HS0_, HS1_, HS2_, HS3_, HS4_, HS5_, HS6_, HS7_⟩ (fun hHeld => ?_); clear hK K; refine norm_ (a' := ?_) ?_ ?_; rotate_left
         ·
          show Act.put _ (some 101) _ = _; simp only [Act.put, List.setIfInBounds_toArray, List.set_cons_zero, List.set_cons_succ, i64_w, i32_w]; rfl
         apply pv 10 102 (bs 12 2047) HT_; rfl; rfl; kernel_rfl; exact qq; rfl; intro w'; go_simp; with_reducible rfl; simp only [zz]; rfl
         apply pv 11 103 (bs 12 4095) HT_; rfl; rfl; kernel_rfl; exact qq; rfl; intro w'; go_simp; with_reducible rfl; simp only [zz]; rfl
         refine done_ (done_of HT_.out (by kernel_rfl)) ?_; try go_wp2
         go_roundg k1
         case measure => have := HK1.out; omega
         case rel => exact ⟨(x14_1), (ji37), (by rfl), (by rfl), H', ⟨by have := HK1.out; omega⟩, ⟨HO_0.out⟩, ⟨HK.out⟩, ⟨HB.out⟩⟩
        ·
         rw [if_neg c41] at H; have c41b0 : decide (t135 < 0) = false := decide_eq_false c41; clear c41; have H' := Aside0.mk H; clear H; try go_wp2
         have n0_ := Aside0.mk (Kd.R_drew HO_0.out); have n1_ := Aside0.mk (Kept.drew HK.out); have n2_ := Aside0.mk (below_drew1 HB.out); clear HO_0; clear HK; clear HB; have HO_0 := n0_; have HK := n1_; have HB := n2_; clear n0_ n1_ n2_; obtain ⟨Ao46, co46, eo46⟩ := Kd.R_slice HO_0.out
         ((subst eo46))
         have p133 : 0 ≤ (a2 : Int) := of_decide_eq_true (by with_reducible assumption); have q133 : a2 < (l0.length : Int) := of_decide_eq_true (by with_reducible assumption); obtain ⟨ad133, e133, hx133_0, hx133_1, hx133_2, hx133_3⟩ := at_T25 (Kd.R_reads' HO_0.out).2.2 a2 p133 q133; cases e133; replace p133 := eq_true p133; replace q133 := eq_true q133; have p134 : 0 ≤ ((ji37) : Int) := of_decide_eq_true (by with_reducible assumption); have q134 : (ji37) < (l0.length : Int) := of_decide_eq_true (by with_reducible assumption); obtain ⟨ad134, e134, hx134_0, hx134_1, hx134_2, hx134_3⟩ := at_T25 (Kd.R_reads' HO_0.out).2.2 (ji37) p134 q134
         obtain rfl : ad133 = ad134 := (by injection e134)
         replace p134 := eq_true p134; replace q134 := eq_true q134; refine start_ (n := 12) (S := fun w' => w'.cell? (ad133.add ((a2).toNat * 4)) = some (.string ((rd_T25 l0 a2).f0)) ∧ w'.cell? ⟨(ad133.add ((a2).toNat * 4)).block, (ad133.add ((a2).toNat * 4)).off + 1, none⟩ = some (.int .i64 ((rd_T25 l0 a2).f1)) ∧ w'.cell? ⟨(ad133.add ((a2).toNat * 4)).block, (ad133.add ((a2).toNat * 4)).off + 2, none⟩ = some (.int .i64 ((rd_T25 l0 a2).f2)) ∧ w'.cell? ⟨(ad133.add ((a2).toNat * 4)).block, (ad133.add ((a2).toNat * 4)).off + 3, none⟩ = some (.int .u32 ((rd_T25 l0 a2).f3)) ∧ w'.cell? (ad133.add (((ji37)).toNat * 4)) = some (.string ((rd_T25 l0 (ji37)).f0)) ∧ w'.cell? ⟨(ad133.add (((ji37)).toNat * 4)).block, (ad133.add (((ji37)).toNat * 4)).off + 1, none⟩ = some (.int .i64 ((rd_T25 l0 (ji37)).f1)) ∧ w'.cell? ⟨(ad133.add (((ji37)).toNat * 4)).block, (ad133.add (((ji37)).toNat * 4)).off + 2, none⟩ = some (.int .i64 ((rd_T25 l0 (ji37)).f2)) ∧ w'.cell? ⟨(ad133.add (((ji37)).toNat * 4)).block, (ad133.add (((ji37)).toNat * 4)).off + 3, none⟩ = some (.int .u32 ((rd_T25 l0 (ji37)).f3))) (ds := []) (bs 12 0) (by kernel_rfl) rfl rfl ⟨hx133_0, hx133_1, hx133_2, hx133_3, hx134_0, hx134_1, hx134_2, hx134_3⟩ (fun hHeld => ?_); refine with_tabW api_Meta_60.tab17 api_Meta_60.bits17 (fun HT_ HW_ => ?_); generalize wr.drew = w45 at HO_0 HK HB hx133_0 hx133_1 hx133_2 hx133_3 hx134_0 hx134_1 hx134_2 hx134_3 hHeld ⊢; apply pv 0 92 (bs 12 1) HT_; rfl; rfl; kernel_rfl; exact qq; rfl; intro w'; go_simp; with_reducible rfl; simp only [zz]; rfl
         apply pv 1 93 (bs 12 3) HT_; rfl; rfl; kernel_rfl; exact qq; rfl; intro w'; go_simp; with_reducible rfl; simp only [zz]; rfl
         apply pv 2 94 (bs 12 7) HT_; rfl; rfl; kernel_rfl; exact qq; rfl; intro w'; go_simp; with_reducible rfl; simp only [zz]; rfl
         apply pv 3 95 (bs 12 15) HT_; rfl; rfl; kernel_rfl; exact qq; rfl; intro w'; go_simp; with_reducible rfl; simp only [zz]; rfl
         apply pv 5 97 (bs 12 47) HT_; rfl; rfl; kernel_rfl; exact qq; rfl; intro w'; go_simp; with_reducible rfl; simp only [zz]; rfl
         apply pv 6 98 (bs 12 111) HT_; rfl; rfl; kernel_rfl; exact qq; rfl; intro w'; go_simp; with_reducible rfl; simp only [zz]; rfl
         apply pv 7 99 (bs 12 239) HT_; rfl; rfl; kernel_rfl; exact qq; rfl; intro w'; go_simp; with_reducible rfl; simp only [zz]; rfl
         apply tb 4 96 (bs 12 255) HT_ HW_ hHeld; rfl; rfl; kernel_rfl; exact qq; rfl; rintro w' ⟨s0, s1, s2, s3, s4, s5, s6, s7⟩; go_simp; with_reducible rfl; simp only [zz]; rfl
         apply tb 8 100 (bs 12 511) HT_ HW_ hHeld; rfl; rfl; kernel_rfl; exact qq; rfl; rintro w' ⟨s0, s1, s2, s3, s4, s5, s6, s7⟩; go_simp; with_reducible rfl; simp only [zz]; rfl
         refine one_ (i := 9) (N := some 101) (bs 12 1023) rfl rfl (one_of HT_.out (by kernel_rfl)) (by decide) (fun K hK => ?_)
         (refine goesV_ Try.func27 (by kernel_rfl) rfl #[.agg #[.string ((rd_T25 l0 a2).f0), .int .i64 ((rd_T25 l0 a2).f1), .int .i64 ((rd_T25 l0 a2).f2), .int .u32 ((rd_T25 l0 a2).f3)], .agg #[.string ((rd_T25 l0 (ji37)).f0), .int .i64 ((rd_T25 l0 (ji37)).f1), .int .i64 ((rd_T25 l0 (ji37)).f2), .int .u32 ((rd_T25 l0 (ji37)).f3)]] (by rfl) rfl rfl rfl (by (try simp only [List.map_toArray, List.map_cons, List.map_nil]); rfl) ?_)
         with_reducible refine (peers_order.calls k1 ((rd_T25 l0 a2).f0) ((rd_T25 l0 a2).f1) ((rd_T25 l0 a2).f2) ((rd_T25 l0 a2).f3) ((rd_T25 l0 (ji37)).f0) ((rd_T25 l0 (ji37)).f1) ((rd_T25 l0 (ji37)).f2) ((rd_T25 l0 (ji37)).f3) t135 _ A40.out).mono ?_
         rintro e w47 ⟨rfl, hb⟩; have HS0_ := (hb.cell (World.block_lt_of_cell? _ _ (hHeld.1))).trans (hHeld.1); have HS1_ := (hb.cell (World.block_lt_of_cell? _ _ (hHeld.2.1))).trans (hHeld.2.1); have HS2_ := (hb.cell (World.block_lt_of_cell? _ _ (hHeld.2.2.1))).trans (hHeld.2.2.1); have HS3_ := (hb.cell (World.block_lt_of_cell? _ _ (hHeld.2.2.2.1))).trans (hHeld.2.2.2.1); have HS4_ := (hb.cell (World.block_lt_of_cell? _ _ (hHeld.2.2.2.2.1))).trans (hHeld.2.2.2.2.1); have HS5_ := (hb.cell (World.block_lt_of_cell? _ _ (hHeld.2.2.2.2.2.1))).trans (hHeld.2.2.2.2.2.1); have HS6_ := (hb.cell (World.block_lt_of_cell? _ _ (hHeld.2.2.2.2.2.2.1))).trans (hHeld.2.2.2.2.2.2.1); have HS7_ := (hb.cell (World.block_lt_of_cell? _ _ (hHeld.2.2.2.2.2.2.2))).trans (hHeld.2.2.2.2.2.2.2); refine ⟨_, rfl, ?_⟩; have n0_ := Aside0.mk (Kd.R_below HO_0.out hb); have n1_ := Aside0.mk (Kept.below (S := (fun k_ => P0_ k_)) HK.out hb); have n2_ := Aside0.mk (below_step HB.out hb); clear HO_0; clear HK; clear HB; have HO_0 := n0_; have HK := n1_; have HB := n2_; clear n0_ n1_ n2_
         (try clear hb)
         (try clear hb2)
         (try clear hk)
         (try clear hi)
         refine hK.out _ _ ⟨HS0_, HS1_, HS2_, HS3_, HS4_, HS5_, HS6_, HS7_⟩ (fun hHeld => ?_); clear hK K; refine norm_ (a' := ?_) ?_ ?_; rotate_left
         ·
          show Act.put _ (some 101) _ = _; simp only [Act.put, List.setIfInBounds_toArray, List.set_cons_zero, List.set_cons_succ, i64_w, i32_w]; rfl
         apply pv 10 102 (bs 12 2047) HT_; rfl; rfl; kernel_rfl; exact qq; rfl; intro w'; go_simp; with_reducible rfl; simp only [zz]; rfl
         apply pv 11 103 (bs 12 4095) HT_; rfl; rfl; kernel_rfl; exact qq; rfl; intro w'; go_simp; with_reducible rfl; simp only [zz]; rfl
         refine done_ (done_of HT_.out (by kernel_rfl)) ?_; try go_wp2
         go_roundg k1
         case measure => have := HK1.out; omega
         case rel => exact ⟨(wrap64 ((ji37) + 1)), (x15_1), (by rfl), (by rfl), H', ⟨by have := HK1.out; omega⟩, ⟨HO_0.out⟩, ⟨HK.out⟩, ⟨HB.out⟩⟩
       ·
        rw [if_neg c39] at H; exact absurd H (by simp)
      ·
       rw [if_neg c38] at H; exact absurd H (by simp)
     ·
      rw [if_neg c36] at H; exact absurd H (by simp)
    ·
     rw [if_neg c35] at H; exact absurd H (by simp)
   ·
    rw [if_neg c34] at H; have c34b0 : decide (x14_1 < x15_1) = false := decide_eq_false c34; clear c34; have H' := Aside0.mk H; clear H; go_wp2; go_loopg [17] k1 (fun kq v17 w' => ∃ (x0_2 : List (S25)) (x17_2 : Int), v17 = .int .i64 x17_2 ∧ Aside0 (api_Meta_60.l3 kq x0_2 x14_1 x17_2 = some r) ∧ Aside0 (kq ≤ k1) ∧ Aside0 (Kd.R k25 25 w' w0.heap.size (fun k_ => (P0_ k_ ∨ w.heap.size ≤ k_)) u9000_ x0_2) ∧ Aside0 (Kept w w' (fun k_ => P0_ k_)) ∧ Aside0 (Below w0.heap.size w0 w'))
    case atStart => exact ⟨(l0), (a2), (by rfl), H', ⟨Nat.le_refl _⟩, ⟨HO_0.out⟩, ⟨HK.out⟩, ⟨HB.out⟩⟩
    case round =>
     clear H'; try clear c34b0
     obtain ⟨x0_2, x17_2, rfl, HA, HK2, HO_0, HK, HB⟩ := hrel
     cases gk with
     | zero => exact absurd HA.out (by simp [api_Meta_60.l3])
     | succ k2 =>
      have H := HA.out; clear HA; simp only [api_Meta_60.l3] at H
      by_cases c48 : x17_2 > x14_1
      ·
       rw [if_pos c48] at H; have c48b0 : decide (x14_1 < x17_2) = true := decide_eq_true c48; clear c48
       obtain ⟨ji49, hji49⟩ : ∃ j_ : Int, (wrap64 (x17_2 - 1)) = j_ := ⟨_, rfl⟩
       replace H : (if 0 ≤ (ji49) then (if (ji49) < (x0_2.length : Int) then (if 0 ≤ x17_2 then (if x17_2 < (x0_2.length : Int) then (api_Meta_60.l3 k2 ((x0_2.set (x17_2 : Int).toNat (⟨(rd_T25 x0_2 (ji49)).f0, (rd_T25 x0_2 (ji49)).f1, (rd_T25 x0_2 (ji49)).f2, (rd_T25 x0_2 (ji49)).f3⟩ : S25)).set ((ji49) : Int).toNat (⟨(rd_T25 x0_2 x17_2).f0, (rd_T25 x0_2 x17_2).f1, (rd_T25 x0_2 x17_2).f2, (rd_T25 x0_2 x17_2).f3⟩ : S25)) x14_1 ji49) else (none)) else (none)) else (none)) else (none)) = some r := by (rw [hji49] at H; exact H)
       have hji49w : (IntKind.i64.wrap (x17_2 - 1)) = ji49 := (i64_w _).trans hji49
       by_cases c50 : 0 ≤ (ji49)
       ·
        rw [if_pos c50] at H; have c50b0 : decide (0 ≤ (ji49)) = true := decide_eq_true c50; clear c50
        by_cases c51 : (ji49) < (x0_2.length : Int)
        ·
         rw [if_pos c51] at H; have c51b0 : decide ((ji49) < (x0_2.length : Int)) = true := decide_eq_true c51; clear c51
         by_cases c52 : 0 ≤ x17_2
         ·
          rw [if_pos c52] at H; have c52b0 : decide (0 ≤ x17_2) = true := decide_eq_true c52; clear c52
          by_cases c53 : x17_2 < (x0_2.length : Int)
          ·
           rw [if_pos c53] at H; have c53b0 : decide (x17_2 < (x0_2.length : Int)) = true := decide_eq_true c53; clear c53
           obtain ⟨y138, hy138⟩ : ∃ y_ : List (S25), y_ = (x0_2.set (x17_2 : Int).toNat (⟨(rd_T25 x0_2 (ji49)).f0, (rd_T25 x0_2 (ji49)).f1, (rd_T25 x0_2 (ji49)).f2, (rd_T25 x0_2 (ji49)).f3⟩ : S25)) := ⟨_, rfl⟩
           replace H : (api_Meta_60.l3 k2 (y138.set ((ji49) : Int).toNat (⟨(rd_T25 x0_2 x17_2).f0, (rd_T25 x0_2 x17_2).f1, (rd_T25 x0_2 x17_2).f2, (rd_T25 x0_2 x17_2).f3⟩ : S25)) x14_1 ji49) = some r := by (rw [hy138]; with_reducible exact H)
           have Ny138 := Aside0.mk hy138; clear hy138
           obtain ⟨y139, hy139⟩ : ∃ y_ : List (S25), y_ = (y138.set ((ji49) : Int).toNat (⟨(rd_T25 x0_2 x17_2).f0, (rd_T25 x0_2 x17_2).f1, (rd_T25 x0_2 x17_2).f2, (rd_T25 x0_2 x17_2).f3⟩ : S25)) := ⟨_, rfl⟩
           replace H : (api_Meta_60.l3 k2 y139 x14_1 ji49) = some r := by (rw [hy139]; with_reducible exact H)
           have Ny139 := Aside0.mk hy139; clear hy139; have H' := Aside0.mk H; clear H; try go_wp2
           have n0_ := Aside0.mk (Kd.R_drew HO_0.out); have n1_ := Aside0.mk (Kept.drew HK.out); have n2_ := Aside0.mk (below_drew1 HB.out); clear HO_0; clear HK; clear HB; have HO_0 := n0_; have HK := n1_; have HB := n2_; clear n0_ n1_ n2_; obtain ⟨Ao57, co57, eo57⟩ := Kd.R_slice HO_0.out
           ((subst eo57))
           have p136 : 0 ≤ ((ji49) : Int) := of_decide_eq_true (by with_reducible assumption); have q136 : (ji49) < (x0_2.length : Int) := of_decide_eq_true (by with_reducible assumption); obtain ⟨ad136, e136, hx136_0, hx136_1, hx136_2, hx136_3⟩ := at_T25 (Kd.R_reads' HO_0.out).2.2 (ji49) p136 q136; cases e136; replace p136 := eq_true p136; replace q136 := eq_true q136; have p137 : 0 ≤ (x17_2 : Int) := of_decide_eq_true (by with_reducible assumption); have q137 : x17_2 < (x0_2.length : Int) := of_decide_eq_true (by with_reducible assumption); obtain ⟨ad137, e137, hx137_0, hx137_1, hx137_2, hx137_3⟩ := at_T25 (Kd.R_reads' HO_0.out).2.2 x17_2 p137 q137
           obtain rfl : ad136 = ad137 := (by injection e137)
           replace p137 := eq_true p137; replace q137 := eq_true q137; have p54 : 0 ≤ (x17_2 : Int) := of_decide_eq_true (by with_reducible assumption); have q54 : (x17_2 : Int) < ((x0_2.length : Int) : Int) := of_decide_eq_true (by with_reducible assumption); obtain ⟨go54, co54, eo54, gb54, gl54, cl54, HG54⟩ := Kd.R_form HO_0.out (by omega)
           ((cases eo54))
           have GB54 := Aside0.mk gb54; have GG54 := Aside0.mk HG54; clear gb54 gl54 HG54; have HMgo54 := Aside0.mk (show (P0_ go54 ∨ w.heap.size ≤ go54) from (HO_0.out.1 _ rfl))
           (simp only [add_plain] at hx136_0)
           (simp only [add_plain] at hx136_1)
           (simp only [add_plain] at hx136_2)
           (simp only [add_plain] at hx136_3)
           (simp only [add_plain] at hx137_0)
           (simp only [add_plain] at hx137_1)
           (simp only [add_plain] at hx137_2)
           (simp only [add_plain] at hx137_3)
           obtain ⟨ce54, hcl54, hM54, hcc54, hfr54⟩ := Kd.R_elem HO_0.out z25 (x17_2 : Int) p54 q54; obtain rfl := k25_openM hM54; have hx54_0 : World.cell? _ ⟨go54, (x17_2 : Int).toNat * 4, none⟩ = some (.string ((rd_T25 x0_2 x17_2).f0)) := hcc54 0 _ rfl; have hx54_1 : World.cell? _ ⟨go54, (x17_2 : Int).toNat * 4 + 1, none⟩ = some (.int .i64 ((rd_T25 x0_2 x17_2).f1)) := hcc54 1 _ rfl; have hx54_2 : World.cell? _ ⟨go54, (x17_2 : Int).toNat * 4 + 2, none⟩ = some (.int .i64 ((rd_T25 x0_2 x17_2).f2)) := hcc54 2 _ rfl; have hx54_3 : World.cell? _ ⟨go54, (x17_2 : Int).toNat * 4 + 3, none⟩ = some (.int .u32 ((rd_T25 x0_2 x17_2).f3)) := hcc54 3 _ rfl; have hf54_0 : World.frozen? _ ⟨go54, (x17_2 : Int).toNat * 4, none⟩ = false := hfr54 0; have hf54_1 : World.frozen? _ ⟨go54, (x17_2 : Int).toNat * 4 + 1, none⟩ = false := hfr54 1; have hf54_2 : World.frozen? _ ⟨go54, (x17_2 : Int).toNat * 4 + 2, none⟩ = false := hfr54 2; have hf54_3 : World.frozen? _ ⟨go54, (x17_2 : Int).toNat * 4 + 3, none⟩ = false := hfr54 3; clear hcl54 hcc54 hfr54 hM54; replace p54 := eq_true p54; replace q54 := eq_true q54; obtain ⟨ce58, hcl58, hM58, hcc58, hfr58⟩ := Kd.R_elem HO_0.out z25 (x17_2 : Int) (of_decide_eq_true (by with_reducible assumption)) (by have h_ : (x17_2 : Int) < ((x0_2.length : Int) : Int) := of_decide_eq_true (by with_reducible assumption); exact h_); obtain rfl := k25_openM hM58; have HP58 := (Kd.R_seg HO_0.out (x17_2 : Int) (of_decide_eq_true (by with_reducible assumption)) (by have h_ : (x17_2 : Int) < ((x0_2.length : Int) : Int) := of_decide_eq_true (by with_reducible assumption); exact h_) (seg := [.string ((rd_T25 x0_2 (ji49)).f0), .int .i64 ((rd_T25 x0_2 (ji49)).f1), .int .i64 ((rd_T25 x0_2 (ji49)).f2), .int .u32 ((rd_T25 x0_2 (ji49)).f3)]) (j := 0) hcl58 hcc58 (show 4 ≤ 4 from by decide) (x' := (⟨(rd_T25 x0_2 (ji49)).f0, (rd_T25 x0_2 (ji49)).f1, (rd_T25 x0_2 (ji49)).f2, (rd_T25 x0_2 (ji49)).f3⟩ : S25)) (k25_mkM _ _ _ (⟨(rd_T25 x0_2 (ji49)).f0, (rd_T25 x0_2 (ji49)).f1, (rd_T25 x0_2 (ji49)).f2, (rd_T25 x0_2 (ji49)).f3⟩ : S25) ) (fun _ hk => hk)).1; rw [← Ny138.out] at HP58; have HQ58 := Aside0.mk HP58; clear hcl58 hcc58 hfr58 hM58 HP58; have p55 : 0 ≤ ((ji49) : Int) := of_decide_eq_true (by with_reducible assumption); have q55 : ((ji49) : Int) < ((x0_2.length : Int) : Int) := of_decide_eq_true (by with_reducible assumption); obtain ⟨ce55, hcl55, hM55, hcc55, hfr55⟩ := Kd.R_elem HQ58.out z25 ((ji49) : Int) p55 q55; obtain rfl := k25_openM hM55; have hx55_0 : World.cell? _ ⟨go54, ((ji49) : Int).toNat * 4, none⟩ = some (.string ((rd_T25 y138 (ji49)).f0)) := hcc55 0 _ rfl; have hx55_1 : World.cell? _ ⟨go54, ((ji49) : Int).toNat * 4 + 1, none⟩ = some (.int .i64 ((rd_T25 y138 (ji49)).f1)) := hcc55 1 _ rfl; have hx55_2 : World.cell? _ ⟨go54, ((ji49) : Int).toNat * 4 + 2, none⟩ = some (.int .i64 ((rd_T25 y138 (ji49)).f2)) := hcc55 2 _ rfl; have hx55_3 : World.cell? _ ⟨go54, ((ji49) : Int).toNat * 4 + 3, none⟩ = some (.int .u32 ((rd_T25 y138 (ji49)).f3)) := hcc55 3 _ rfl; have hf55_0 : World.frozen? _ ⟨go54, ((ji49) : Int).toNat * 4, none⟩ = false := hfr55 0; have hf55_1 : World.frozen? _ ⟨go54, ((ji49) : Int).toNat * 4 + 1, none⟩ = false := hfr55 1; have hf55_2 : World.frozen? _ ⟨go54, ((ji49) : Int).toNat * 4 + 2, none⟩ = false := hfr55 2; have hf55_3 : World.frozen? _ ⟨go54, ((ji49) : Int).toNat * 4 + 3, none⟩ = false := hfr55 3; clear hcl55 hcc55 hfr55 hM55; replace p55 := eq_true p55; replace q55 := eq_true q55; obtain ⟨ce59, hcl59, hM59, hcc59, hfr59⟩ := Kd.R_elem HQ58.out z25 ((ji49) : Int) (of_decide_eq_true (by with_reducible assumption)) (by have h_ : ((ji49) : Int) < ((x0_2.length : Int) : Int) := of_decide_eq_true (by with_reducible assumption); exact h_); obtain rfl := k25_openM hM59; have HP59 := (Kd.R_seg HQ58.out ((ji49) : Int) (of_decide_eq_true (by with_reducible assumption)) (by have h_ : ((ji49) : Int) < ((x0_2.length : Int) : Int) := of_decide_eq_true (by with_reducible assumption); exact h_) (seg := [.string ((rd_T25 x0_2 x17_2).f0), .int .i64 ((rd_T25 x0_2 x17_2).f1), .int .i64 ((rd_T25 x0_2 x17_2).f2), .int .u32 ((rd_T25 x0_2 x17_2).f3)]) (j := 0) hcl59 hcc59 (show 4 ≤ 4 from by decide) (x' := (⟨(rd_T25 x0_2 x17_2).f0, (rd_T25 x0_2 x17_2).f1, (rd_T25 x0_2 x17_2).f2, (rd_T25 x0_2 x17_2).f3⟩ : S25)) (k25_mkM _ _ _ (⟨(rd_T25 x0_2 x17_2).f0, (rd_T25 x0_2 x17_2).f1, (rd_T25 x0_2 x17_2).f2, (rd_T25 x0_2 x17_2).f3⟩ : S25) ) (fun _ hk => hk)).1; rw [← Ny139.out] at HP59; have HQ59 := Aside0.mk HP59; clear hcl59 hcc59 hfr59 hM59 HP59; refine start_ (n := 18) (S := fun w' => w'.cell? ⟨go54, (((ji49)).toNat * 4), none⟩ = some (.string ((rd_T25 x0_2 (ji49)).f0)) ∧ w'.cell? ⟨go54, ((((ji49)).toNat * 4)) + 1, none⟩ = some (.int .i64 ((rd_T25 x0_2 (ji49)).f1)) ∧ w'.cell? ⟨go54, ((((ji49)).toNat * 4)) + 2, none⟩ = some (.int .i64 ((rd_T25 x0_2 (ji49)).f2)) ∧ w'.cell? ⟨go54, ((((ji49)).toNat * 4)) + 3, none⟩ = some (.int .u32 ((rd_T25 x0_2 (ji49)).f3)) ∧ w'.cell? ⟨go54, ((x17_2).toNat * 4), none⟩ = some (.string ((rd_T25 x0_2 x17_2).f0)) ∧ w'.cell? ⟨go54, ((x17_2).toNat * 4) + 1, none⟩ = some (.int .i64 ((rd_T25 x0_2 x17_2).f1)) ∧ w'.cell? ⟨go54, ((x17_2).toNat * 4) + 2, none⟩ = some (.int .i64 ((rd_T25 x0_2 x17_2).f2)) ∧ w'.cell? ⟨go54, ((x17_2).toNat * 4) + 3, none⟩ = some (.int .u32 ((rd_T25 x0_2 x17_2).f3))) (ds := [15, 17]) (bs 18 0) (by kernel_rfl) rfl rfl ⟨hx136_0, hx136_1, hx136_2, hx136_3, hx137_0, hx137_1, hx137_2, hx137_3⟩ (fun hHeld => ?_); refine with_tabW api_Meta_60.tab23 api_Meta_60.bits23 (fun HT_ HW_ => ?_); generalize wr.drew = w56 at HO_0 HK HB GG54 HQ58 HQ59 hf54_0 hf54_1 hf54_2 hf54_3 hf55_0 hf55_1 hf55_2 hf55_3 hx136_0 hx136_1 hx136_2 hx136_3 hx137_0 hx137_1 hx137_2 hx137_3 hx54_0 hx54_1 hx54_2 hx54_3 hx55_0 hx55_1 hx55_2 hx55_3 hHeld ⊢; replace hx55_0 : World.cell? ((((w56.setCell ⟨go54, (x17_2).toNat * 4, none⟩ (.string ((rd_T25 x0_2 (ji49)).f0))).setCell ⟨go54, (x17_2).toNat * 4 + 1, none⟩ (.int .i64 ((rd_T25 x0_2 (ji49)).f1))).setCell ⟨go54, (x17_2).toNat * 4 + 2, none⟩ (.int .i64 ((rd_T25 x0_2 (ji49)).f2))).setCell ⟨go54, (x17_2).toNat * 4 + 3, none⟩ (.int .u32 ((rd_T25 x0_2 (ji49)).f3))) ⟨go54, ((ji49) : Int).toNat * 4, none⟩ = some (.string ((rd_T25 y138 (ji49)).f0)) := hx55_0; replace hx55_1 : World.cell? ((((w56.setCell ⟨go54, (x17_2).toNat * 4, none⟩ (.string ((rd_T25 x0_2 (ji49)).f0))).setCell ⟨go54, (x17_2).toNat * 4 + 1, none⟩ (.int .i64 ((rd_T25 x0_2 (ji49)).f1))).setCell ⟨go54, (x17_2).toNat * 4 + 2, none⟩ (.int .i64 ((rd_T25 x0_2 (ji49)).f2))).setCell ⟨go54, (x17_2).toNat * 4 + 3, none⟩ (.int .u32 ((rd_T25 x0_2 (ji49)).f3))) ⟨go54, ((ji49) : Int).toNat * 4 + 1, none⟩ = some (.int .i64 ((rd_T25 y138 (ji49)).f1)) := hx55_1; replace hx55_2 : World.cell? ((((w56.setCell ⟨go54, (x17_2).toNat * 4, none⟩ (.string ((rd_T25 x0_2 (ji49)).f0))).setCell ⟨go54, (x17_2).toNat * 4 + 1, none⟩ (.int .i64 ((rd_T25 x0_2 (ji49)).f1))).setCell ⟨go54, (x17_2).toNat * 4 + 2, none⟩ (.int .i64 ((rd_T25 x0_2 (ji49)).f2))).setCell ⟨go54, (x17_2).toNat * 4 + 3, none⟩ (.int .u32 ((rd_T25 x0_2 (ji49)).f3))) ⟨go54, ((ji49) : Int).toNat * 4 + 2, none⟩ = some (.int .i64 ((rd_T25 y138 (ji49)).f2)) := hx55_2; replace hx55_3 : World.cell? ((((w56.setCell ⟨go54, (x17_2).toNat * 4, none⟩ (.string ((rd_T25 x0_2 (ji49)).f0))).setCell ⟨go54, (x17_2).toNat * 4 + 1, none⟩ (.int .i64 ((rd_T25 x0_2 (ji49)).f1))).setCell ⟨go54, (x17_2).toNat * 4 + 2, none⟩ (.int .i64 ((rd_T25 x0_2 (ji49)).f2))).setCell ⟨go54, (x17_2).toNat * 4 + 3, none⟩ (.int .u32 ((rd_T25 x0_2 (ji49)).f3))) ⟨go54, ((ji49) : Int).toNat * 4 + 3, none⟩ = some (.int .u32 ((rd_T25 y138 (ji49)).f3)) := hx55_3; replace hf55_0 : World.frozen? ((((w56.setCell ⟨go54, (x17_2).toNat * 4, none⟩ (.string ((rd_T25 x0_2 (ji49)).f0))).setCell ⟨go54, (x17_2).toNat * 4 + 1, none⟩ (.int .i64 ((rd_T25 x0_2 (ji49)).f1))).setCell ⟨go54, (x17_2).toNat * 4 + 2, none⟩ (.int .i64 ((rd_T25 x0_2 (ji49)).f2))).setCell ⟨go54, (x17_2).toNat * 4 + 3, none⟩ (.int .u32 ((rd_T25 x0_2 (ji49)).f3))) ⟨go54, ((ji49) : Int).toNat * 4, none⟩ = false := hf55_0; replace hf55_1 : World.frozen? ((((w56.setCell ⟨go54, (x17_2).toNat * 4, none⟩ (.string ((rd_T25 x0_2 (ji49)).f0))).setCell ⟨go54, (x17_2).toNat * 4 + 1, none⟩ (.int .i64 ((rd_T25 x0_2 (ji49)).f1))).setCell ⟨go54, (x17_2).toNat * 4 + 2, none⟩ (.int .i64 ((rd_T25 x0_2 (ji49)).f2))).setCell ⟨go54, (x17_2).toNat * 4 + 3, none⟩ (.int .u32 ((rd_T25 x0_2 (ji49)).f3))) ⟨go54, ((ji49) : Int).toNat * 4 + 1, none⟩ = false := hf55_1; replace hf55_2 : World.frozen? ((((w56.setCell ⟨go54, (x17_2).toNat * 4, none⟩ (.string ((rd_T25 x0_2 (ji49)).f0))).setCell ⟨go54, (x17_2).toNat * 4 + 1, none⟩ (.int .i64 ((rd_T25 x0_2 (ji49)).f1))).setCell ⟨go54, (x17_2).toNat * 4 + 2, none⟩ (.int .i64 ((rd_T25 x0_2 (ji49)).f2))).setCell ⟨go54, (x17_2).toNat * 4 + 3, none⟩ (.int .u32 ((rd_T25 x0_2 (ji49)).f3))) ⟨go54, ((ji49) : Int).toNat * 4 + 2, none⟩ = false := hf55_2; replace hf55_3 : World.frozen? ((((w56.setCell ⟨go54, (x17_2).toNat * 4, none⟩ (.string ((rd_T25 x0_2 (ji49)).f0))).setCell ⟨go54, (x17_2).toNat * 4 + 1, none⟩ (.int .i64 ((rd_T25 x0_2 (ji49)).f1))).setCell ⟨go54, (x17_2).toNat * 4 + 2, none⟩ (.int .i64 ((rd_T25 x0_2 (ji49)).f2))).setCell ⟨go54, (x17_2).toNat * 4 + 3, none⟩ (.int .u32 ((rd_T25 x0_2 (ji49)).f3))) ⟨go54, ((ji49) : Int).toNat * 4 + 3, none⟩ = false := hf55_3; apply pv 0 113 (bs 18 1) HT_; rfl; rfl; kernel_rfl; exact qq; rfl; intro w'; go_simp; with_reducible rfl; simp only [zz]; rfl
           apply pv 1 114 (bs 18 3) HT_; rfl; rfl; kernel_rfl; exact qq; rfl; intro w'; go_simp; with_reducible rfl; simp only [zz]; rfl
           apply pv 2 115 (bs 18 7) HT_; rfl; rfl; kernel_rfl; exact qq; rfl; intro w'; go_simp; with_reducible rfl; simp only [zz]; rfl
           apply pv 3 116 (bs 18 15) HT_; rfl; rfl; kernel_rfl; exact qq; rfl; intro w'; go_simp; with_reducible rfl; simp only [zz]; rfl
           apply pv 4 117 (bs 18 31) HT_; rfl; rfl; kernel_rfl; exact qq; rfl; intro w'; go_simp; with_reducible rfl; simp only [zz]; rfl
           apply pv 5 118 (bs 18 63) HT_; rfl; rfl; kernel_rfl; exact qq; rfl; intro w'; go_simp; with_reducible rfl; simp only [zz]; rfl
           apply pv 6 119 (bs 18 127) HT_; rfl; rfl; kernel_rfl; exact qq; rfl; intro w'; go_simp; with_reducible rfl; simp only [zz]; rfl
           apply pv 7 120 (bs 18 255) HT_; rfl; rfl; kernel_rfl; exact qq; rfl; intro w'; go_simp; with_reducible rfl; simp only [zz]; rfl
           apply pv 8 121 (bs 18 511) HT_; rfl; rfl; kernel_rfl; exact qq; rfl; intro w'; go_simp; with_reducible rfl; simp only [zz]; rfl
           apply pv 10 123 (bs 18 1535) HT_; rfl; rfl; kernel_rfl; exact qq; rfl; intro w'; go_simp; with_reducible rfl; simp only [zz]; rfl
           apply pv 11 124 (bs 18 3583) HT_; rfl; rfl; kernel_rfl; exact qq; rfl; intro w'; go_simp; with_reducible rfl; simp only [zz]; rfl
           apply pv 12 125 (bs 18 7679) HT_; rfl; rfl; kernel_rfl; exact qq; rfl; intro w'; go_simp; with_reducible rfl; simp only [zz]; rfl
           apply tb 9 122 (bs 18 8191) HT_ HW_ hHeld; rfl; rfl; kernel_rfl; exact qq; rfl; rintro w' ⟨s0, s1, s2, s3, s4, s5, s6, s7⟩; go_simp; with_reducible rfl; simp only [zz]; rfl
           apply tb 13 126 (bs 18 16383) HT_ HW_ hHeld; rfl; rfl; kernel_rfl; exact qq; rfl; rintro w' ⟨s0, s1, s2, s3, s4, s5, s6, s7⟩; go_simp; with_reducible rfl; simp only [zz]; rfl
           apply pv 14 127 (bs 18 32767) HT_; rfl; rfl; kernel_rfl; exact qq; rfl; intro w'; go_simp; with_reducible rfl; simp only [zz]; rfl
           refine last_ (i := 15) (N := none) (bs 18 65535) rfl rfl (one_of HT_.out (by kernel_rfl)) (by decide) (fun K hK => ?_); refine skip_ (w1 := ?_) (by rfl) rfl ?_ ?_; rotate_left
           ·
            go_simp; rfl
           refine hK.out _ _ ?_; clear hK K; apply pv 16 128 (bs 18 131071) HT_; rfl; rfl; kernel_rfl; exact qq; rfl; intro w'; go_simp; with_reducible rfl; simp only [zz]; rfl
           refine last_ (i := 17) (N := none) (bs 18 262143) rfl rfl (one_of HT_.out (by kernel_rfl)) (by decide) (fun K hK => ?_); refine skip_ (w1 := ?_) (by rfl) rfl ?_ ?_; rotate_left
           ·
            go_simp; rfl
           refine hK.out _ _ ?_; clear hK K; refine done_ (done_of HT_.out (by kernel_rfl)) ?_; try go_wp2
           go_roundg k2
           case measure => have := HK1.out; have := HK2.out; omega
           case rel => exact ⟨(y139), (ji49), (by rfl), H', ⟨by have := HK1.out; have := HK2.out; omega⟩, ⟨HQ59.out⟩, ⟨by repeat ((with_reducible first | exact HK.out | refine Kept.setCell ?_ HMgo54.out _))⟩, ⟨by repeat ((with_reducible first | exact HB.out | refine below_set ?_ GB54.out))⟩⟩
          ·
           rw [if_neg c53] at H; exact absurd H (by simp)
         ·
          rw [if_neg c52] at H; exact absurd H (by simp)
        ·
         rw [if_neg c51] at H; exact absurd H (by simp)
       ·
        rw [if_neg c50] at H; exact absurd H (by simp)
      ·
       rw [if_neg c48] at H; have c48b0 : decide (x14_1 < x17_2) = false := decide_eq_false c48; clear c48; obtain rfl := Option.some.inj H; go_wp2
       (refine bodyPost_ret (results_none rfl _ _ _) rfl ?_)
       exact ⟨by rfl, by exact HO_0.out, by repeat ((with_reducible exact HB.out)), by repeat ((with_reducible exact HK.out))⟩
end Go.Proofs.Ytgagcimfkmegnaa.QS
