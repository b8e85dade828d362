-- Laid by wip/tools/myprint.py of this repo. Not trusted: Lean checks it.
import Derived.Test.YtgagcimfkmegnaaQX2
import Derived.Shelf.SlSortCmp.WholeK
section
namespace Go.Proofs.Ytgagcimfkmegnaa
set_option linter.unusedVariables false
set_option linter.unusedSimpArgs false
open Go.RowKit Go.Proofs.YtgagcimfkmegnaaW.PrintWords Go.Proofs.Ytgagcimfkmegnaa.QT
def compFrom (p : S42) : List S42 → List S42
 | [] => []
 | y :: r => if y.f0 = p.f0 then compFrom y r else y :: compFrom y r
def compT : List S42 → List S42
 | [] => []
 | x :: r => x :: compFrom x r
theorem compFrom_snoc (q y : S42) : ∀ (l : List S42) (p : S42), compFrom p (l ++ [q] ++ [y]) = compFrom p (l ++ [q]) ++ (if y.f0 = q.f0 then [] else [y])
 | [], p => by
  simp only [List.nil_append, List.cons_append, compFrom]
  split <;> split <;> simp
 | x :: l, p => by
  have ih := compFrom_snoc q y l x; simp only [List.cons_append, compFrom]
  split
  ·
   exact ih
  ·
   rw [ih]; rfl
theorem compT_snoc (q y : S42) : ∀ (l : List S42), compT (l ++ [q] ++ [y]) = compT (l ++ [q]) ++ (if y.f0 = q.f0 then [] else [y])
 | [] => by
  simp only [List.nil_append, List.cons_append, compT, compFrom]
 | x :: l => by
  simp only [List.cons_append, compT]; rw [compFrom_snoc]
theorem c64 {x : Int} (h : -9223372036854775808 ≤ x) (h' : x < 9223372036854775808) : wrap64 x = x := by unfold wrap64; omega
theorem rd_mid (l P S : List S42) (x : S42) (i : Int) (hl : l = P ++ x :: S) (hi : i = P.length) : rd_T42 l i = x := by
 subst hl; subst hi; unfold rd_T42; simp
theorem comp_l1 (n : Nat) (hn : n ≤ 1099511627776) : ∀ (R x0 y B A' : List S42) (q : S42) (kk : Nat) (l A : List S42), l = A ++ B ++ R → y = B ++ R → B ≠ [] → A ++ B = A' ++ [q] → (∃ B', B = B' ++ [q]) → x0.length = n → l.length = n → kk = (compT (A ++ B)).length → kk < n → x0.take kk = compT (A ++ B) → kk < (A ++ B).length →
  ∃ r2, Ev (fun k => QX.api_Point.l1 k x0 kk y B.length) (((compT l).length : Int), r2) ∧ r2.take (compT l).length = compT l
 | [], x0, y, B, A', q, kk, l, A, hl, hy, hB, hAB, hBq, hx, hln, hk, hkn, ht, hkl => by
  simp only [List.append_nil] at hl hy; rw [hl, ← hk]; refine ⟨x0, Ev.step (f := fun _ => some ((kk : Int), x0)) (fun k => ?_) (Ev.now _), ht⟩
  rw [QX.api_Point.l1, hy, if_neg (by omega), if_pos (by omega), if_pos (by omega)]
 | u :: R, x0, y, B, A', q, kk, l, A, hl, hy, hB, hAB, ⟨B', hB'⟩, hx, hln, hk, hkn, ht, hkl => by
  have hBl : 1 ≤ B.length := by rw [hB']; simp
  have hyl : y.length = B.length + R.length + 1 := by rw [hy]; simp; omega
  have hl2 : l.length = A.length + B.length + R.length + 1 := by rw [hl]; simp; omega
  have e1 : rd_T42 y (B.length : Int) = u := rd_mid y B R u _ hy rfl; have e2 : rd_T42 y ((B.length : Int) - 1) = q := rd_mid y B' (u :: R) q _ (by rw [hy, hB']; simp) (by rw [hB']; simp)
  have hstep : ∀ k, QX.api_Point.l1 (k + 1) x0 kk y B.length = if (u.f0 == q.f0) = true then QX.api_Point.l1 k x0 kk y ((B.length + 1 : Nat) : Int) else QX.api_Point.l1 k (x0.set kk u) ((kk + 1 : Nat) : Int) y ((B.length + 1 : Nat) : Int) := by
   intro k; rw [QX.api_Point.l1, if_pos (by omega), if_pos (by omega), c64 (x := (B.length : Int) - 1) (by omega) (by omega), if_pos (by omega), if_pos (by omega), e1, e2, c64 (x := (B.length : Int) + 1) (by omega) (by omega), c64 (x := (kk : Int) + 1) (by omega) (by omega), if_pos (by omega), if_pos (by omega)]; rfl
  have hsn := compT_snoc q u A'; rw [← hAB] at hsn; have hlen : (A ++ (B ++ [u])).length = A.length + B.length + 1 := by simp; omega
  rw [List.length_append] at hkl
  by_cases he : u.f0 = q.f0
  ·
   rw [if_pos he, List.append_nil, List.append_assoc] at hsn; obtain ⟨r2, hev, hr⟩ := comp_l1 n hn R x0 y (B ++ [u]) (A ++ B) u kk l A (by rw [hl]; simp) (by rw [hy]; simp) (by simp) (by simp) ⟨B, rfl⟩ hx hln (by rw [hsn]; exact hk) hkn (by rw [hsn]; exact ht) (by omega); rw [List.length_append, List.length_singleton] at hev; exact ⟨r2, Ev.step hstep (Ev.congr (fun k => if_pos (by simp [he])) hev), hr⟩
  ·
   rw [if_neg he, List.append_assoc] at hsn
   obtain ⟨r2, hev, hr⟩ := comp_l1 n hn R (x0.set kk u) y (B ++ [u]) (A ++ B) u (kk + 1) l A (by rw [hl]; simp) (by rw [hy]; simp) (by simp) (by simp) ⟨B, rfl⟩ (by simpa using hx) hln (by rw [hsn, List.length_append, ← hk]; rfl) (by omega) (by
    rw [hsn, ← ht, List.take_add_one, List.take_set_of_le (Nat.le_refl kk), List.getElem?_set_self (by omega)]; rfl) (by omega)
   rw [List.length_append, List.length_singleton] at hev; exact ⟨r2, Ev.step hstep (Ev.congr (fun k => if_neg (by simp [he])) hev), hr⟩
theorem comp_l0 (n : Nat) (hn : n ≤ 1099511627776) : ∀ (R A' : List S42) (p : S42) (l : List S42), l = A' ++ [p] ++ R → l.length = n → compT (A' ++ [p]) = A' ++ [p] →
  ∃ r1 r2, Ev (fun k => QX.api_Point.l0 k l ((A'.length + 1 : Nat) : Int)) (r1, r2) ∧ (if r1 = -1 then r2 else r2.take r1.toNat) = compT l
 | [], A', p, l, hl, hln, hc => by
  simp only [List.append_nil] at hl; refine ⟨-1, l, Ev.step (f := fun _ => some (-1, l)) (fun k => ?_) (Ev.now _), ?_⟩
  ·
   have : l.length = A'.length + 1 := by rw [hl]; simp
   rw [QX.api_Point.l0, if_neg (by omega)]
  ·
   rw [if_pos rfl, hl, hc]
 | u :: R, A', p, l, hl, hln, hc => by
  have hl2 : l.length = A'.length + R.length + 2 := by rw [hl]; simp; omega
  have e1 : rd_T42 l ((A'.length + 1 : Nat) : Int) = u := rd_mid l (A' ++ [p]) R u _ (by rw [hl]) (by simp); have e2 : rd_T42 l (((A'.length + 1 : Nat) : Int) - 1) = p := rd_mid l A' (u :: R) p _ (by rw [hl]; simp) (by omega)
  have hd : l.drop (((A'.length + 1 : Nat) : Int)).toNat = u :: R := by
   rw [hl, Int.toNat_natCast]; exact List.drop_left' (by simp)
  have hstep : ∀ k, QX.api_Point.l0 (k + 1) l ((A'.length + 1 : Nat) : Int) = if (u.f0 == p.f0) = true then QX.api_Point.l1 k l ((A'.length + 1 : Nat) : Int) (u :: R) 1 else QX.api_Point.l0 k l ((A'.length + 1 + 1 : Nat) : Int) := by
   intro k; rw [QX.api_Point.l0, if_pos (by omega), if_pos (by omega), c64 (x := ((A'.length + 1 : Nat) : Int) - 1) (by omega) (by omega), if_pos (by omega), if_pos (by omega), e1, e2, c64 (x := ((A'.length + 1 : Nat) : Int) + 1) (by omega) (by omega), if_pos (by omega), hd]; rfl
  have hsn := compT_snoc p u A'
  by_cases he : u.f0 = p.f0
  ·
   rw [if_pos he, List.append_nil, hc] at hsn
   obtain ⟨r2, hev, hr⟩ := comp_l1 n hn R l (u :: R) [u] (A' ++ [p]) u (A'.length + 1) l (A' ++ [p]) (by rw [hl]; simp) rfl (by simp) rfl ⟨[], rfl⟩ hln hln (by rw [hsn]; simp) (by omega) (by
    rw [hsn, hl]
    exact List.take_left' (by simp)) (by simp)
   refine ⟨_, r2, Ev.step hstep (Ev.congr (fun k => if_pos (by simp [he])) hev), ?_⟩; rw [if_neg (by omega), Int.toNat_natCast]; exact hr
  ·
   rw [if_neg he, hc] at hsn; obtain ⟨r1, r2, hev, hr⟩ := comp_l0 n hn R (A' ++ [p]) u l (by rw [hl]; simp) hln hsn; rw [List.length_append, List.length_singleton] at hev; exact ⟨r1, r2, Ev.step hstep (Ev.congr (fun k => if_neg (by simp [he])) hev), hr⟩
/-- CompactFunc by times. -/
theorem compact_ev (l : List S42) (hn : l.length ≤ 1099511627776) : ∃ r1 r2, Ev (fun k => QX.api_Point.f k l) (r1, r2) ∧ (if r1 = -1 then r2 else r2.take r1.toNat) = compT l := by
 unfold QX.api_Point.f
 match l, hn with
 | [], hn => exact ⟨-1, [], Ev.now _, rfl⟩
 | [x], hn => exact ⟨-1, [x], Ev.now _, rfl⟩
 | x :: y :: r, hn =>
  obtain ⟨r1, r2, hev, hr⟩ := comp_l0 _ hn (y :: r) [] x (x :: y :: r) rfl rfl rfl; exact ⟨r1, r2, Ev.congr (fun k => if_neg (by simp; omega)) hev, hr⟩
end Go.Proofs.Ytgagcimfkmegnaa
end
section
namespace Go.Proofs
open Go.Shelf
def Try.sortPoint_ren : Go.Shelf.Ren := ⟨fun | 6 => 52 | 15 => 67 | 14 => 69 | 28 => 82 | 29 => 83 | 20 => 84 | 21 => 85 | 22 => 86 | 23 => 87 | 24 => 88 | 25 => 89 | 26 => 90 | 27 => 91 | 46 => 98 | 47 => 94 | 48 => 95 | 49 => 99 | 50 => 100 | 57 => 102 | n => n, fun | 22 => 44 | 24 => 42 | 25 => 101 | 3 => 3 | 39 => 114 | 0 => 0 | 53 => 23 | 55 => 40 | 4 => 4 | 46 => 120 | 45 => 119 | 50 => 125 | 5 => 5 | 9 => 9 | 66 => 134 | 70 => 138 | 76 => 142 | 77 => 143 | n => n, fun | n => n⟩
theorem Try.sortPoint : Go.Proofs.SlLaysF0.n6 Try.prog Try.sortPoint_ren := {
 mixed := by kernel_rfl
 f6 := ⟨Try.f52.name, by decide, Try.func52.trans (congrArg some (by kernel_rfl))⟩
 f14 := ⟨Try.f69.name, by decide, Try.func69.trans (congrArg some (by kernel_rfl))⟩
 f15 := Try.func67.trans (congrArg some (by kernel_rfl))
 f20 := ⟨Try.f84.name, by decide, Try.func84.trans (congrArg some (by kernel_rfl))⟩
 f21 := ⟨Try.f85.name, by decide, Try.func85.trans (congrArg some (by kernel_rfl))⟩
 f22 := ⟨Try.f86.name, by decide, Try.func86.trans (congrArg some (by kernel_rfl))⟩
 f23 := ⟨Try.f87.name, by decide, Try.func87.trans (congrArg some (by kernel_rfl))⟩
 f24 := ⟨Try.f88.name, by decide, Try.func88.trans (congrArg some (by kernel_rfl))⟩
 f25 := ⟨Try.f89.name, by decide, Try.func89.trans (congrArg some (by kernel_rfl))⟩
 f26 := ⟨Try.f90.name, by decide, Try.func90.trans (congrArg some (by kernel_rfl))⟩
 f27 := ⟨Try.f91.name, by decide, Try.func91.trans (congrArg some (by kernel_rfl))⟩
 f28 := Try.func82.trans (congrArg some (by kernel_rfl))
 f29 := Try.func83.trans (congrArg some (by kernel_rfl))
 f46 := ⟨Try.f98.name, by decide, Try.func98.trans (congrArg some (by kernel_rfl))⟩
 f47 := Try.func94.trans (congrArg some (by kernel_rfl))
 f48 := Try.func95.trans (congrArg some (by kernel_rfl))
 f49 := ⟨Try.f99.name, by decide, Try.func99.trans (congrArg some (by kernel_rfl))⟩
 f50 := ⟨Try.f100.name, by decide, Try.func100.trans (congrArg some (by kernel_rfl))⟩
 f57 := ⟨Try.f102.name, by decide, Try.func102.trans (congrArg some (by kernel_rfl))⟩
 t0 := Try.underlying0
 a0 := Try.isAgg0
 z0 := Try.sizeOf0
 v0 := Try.zeroValue0
 t3 := Try.underlying3
 a3 := Try.isAgg3
 z3 := Try.sizeOf3
 v3 := Try.zeroValue3
 t4 := Try.underlying4
 a4 := Try.isAgg4
 z4 := Try.sizeOf4
 v4 := Try.zeroValue4
 t5 := Try.underlying5
 a5 := Try.isAgg5
 z5 := Try.sizeOf5
 v5 := Try.zeroValue5
 t9 := Try.underlying9
 a9 := Try.isAgg9
 z9 := Try.sizeOf9
 v9 := Try.zeroValue9
 t22 := Try.underlying44
 a22 := Try.isAgg44
 z22 := Try.sizeOf44
 v22 := Try.zeroValue44
 t25 := Try.underlying101
 a25 := Try.isAgg101
 z25 := Try.sizeOf101
 v25 := Try.zeroValue101
 t39 := Try.underlying114
 a39 := Try.isAgg114
 z39 := Try.sizeOf114
 v39 := Try.zeroValue114
 t45 := Try.underlying119
 a45 := Try.isAgg119
 z45 := Try.sizeOf119
 v45 := Try.zeroValue119
 t46 := Try.underlying120
 a46 := Try.isAgg120
 z46 := Try.sizeOf120
 v46 := Try.zeroValue120
 t50 := Try.underlying125
 a50 := Try.isAgg125
 z50 := Try.sizeOf125
 v50 := Try.zeroValue125
 t53 := Try.underlying23
 a53 := Try.isAgg23
 z53 := Try.sizeOf23
 v53 := Try.zeroValue23
 t55 := Try.underlying40
 a55 := Try.isAgg40
 z55 := Try.sizeOf40
 v55 := Try.zeroValue40
 t66 := Try.underlying134
 a66 := Try.isAgg134
 z66 := Try.sizeOf134
 v66 := Try.zeroValue134
 t70 := Try.underlying138
 a70 := Try.isAgg138
 z70 := Try.sizeOf138
 v70 := Try.zeroValue138
 t76 := Try.underlying142
 a76 := Try.isAgg142
 z76 := Try.sizeOf142
 v76 := Try.zeroValue142
 t77 := Try.underlying143
 a77 := Try.isAgg143
 z77 := Try.sizeOf143
 v77 := Try.zeroValue143 }
end Go.Proofs
end
section
set_option maxHeartbeats 4000000
namespace Go.Proofs.Ytgagcimfkmegnaa
set_option linter.unusedVariables false
set_option linter.unusedSimpArgs false
open Go.RowKit Go.Proofs.YtgagcimfkmegnaaW.PrintWords Go.Proofs.YtgagcimfkmegnaaW.PrintLast Go.Proofs.YtgagcimfkmegnaaW.PrintMore Go.Proofs.Ytgagcimfkmegnaa.QT Go.Sort
instance : Inhabited S42 := ⟨z42⟩
def cellsPoint (x : S42) : List Value := [.int .i64 x.f0, .int .u64 x.f1, .int .u64 x.f2]
/-- Wins. -/
def winsP (a b : S42) : Bool := decide (a.f2 > b.f2) || (a.f2 == b.f2 && decide (a.f1 > b.f1))
/-- What lays blocks and draws alone. -/
def Lays (W w' : World) : Prop := ∃ q os, w' = grow (W.drewN q) os
theorem wins_calls (a b : S42) (W : World) : Calls Try.prog 70 #[.agg #[.int .i64 a.f0, .int .u64 a.f1, .int .u64 a.f2], .agg #[.int .i64 b.f0, .int .u64 b.f1, .int .u64 b.f2]] W fun e w' => e = .returned (.bool (winsP a b)) ∧ Lays W w' := by
 obtain ⟨a0, a1, a2⟩ := a; obtain ⟨b0, b1, b2⟩ := b; have hw : winsP ⟨a0, a1, a2⟩ ⟨b0, b1, b2⟩ = (decide (a2 > b2) || (a2 == b2 && decide (a1 > b1))) := rfl; rw [hw]; clear hw
 by_cases h1 : a2 > b2
 ·
  have h1b : decide (a2 > b2) = true := decide_eq_true h1; rw [h1b, Bool.true_or]; clear h1; go_enter Try.func70, Try.ntmps70
  go_wp2; go_ret; exact ⟨rfl, 0, _, by rw [alloc_eq_grow, alloc_eq_grow, grow_grow]; rfl⟩
 ·
  have h1b : decide (a2 > b2) = false := decide_eq_false h1; rw [h1b, Bool.false_or]
  by_cases h2 : a2 = b2
  ·
   subst h2; have h2b : (a2 == a2) = true := by simp
   rw [h2b, Bool.true_and]; clear h1
   obtain ⟨c, hc⟩ : ∃ c, decide (a1 > b1) = c := ⟨_, rfl⟩
   rw [hc]; go_enter Try.func70, Try.ntmps70
   go_wp2; go_ret; exact ⟨rfl, 0, _, by rw [alloc_eq_grow, alloc_eq_grow, grow_grow]; rfl⟩
  ·
   have h2b : (a2 == b2) = false := by simpa using h2
   rw [h2b, Bool.false_and]; clear h1 h2; go_enter Try.func70, Try.ntmps70
   go_wp2; go_ret; exact ⟨rfl, 0, _, by rw [alloc_eq_grow, alloc_eq_grow, grow_grow]; rfl⟩
theorem Lays.refl (W : World) : Lays W W := ⟨0, #[], by rw [grow_empty]; rfl⟩
theorem Lays.trans {a b c : World} (h : Lays a b) (k : Lays b c) : Lays a c := by
 obtain ⟨q, os, rfl⟩ := h; obtain ⟨q', os', rfl⟩ := k; exact ⟨q + q', os ++ os', by simp [grow, World.drewN, Nat.add_assoc]⟩
theorem Lays.alloc {a b : World} (h : Lays a b) (o : Obj) : Lays a (b.alloc o) := h.trans ⟨0, #[o], by rw [alloc_eq_grow]; rfl⟩
theorem Lays.below {W w' : World} (h : Lays W w') : Below W.heap.size W w' := by
 obtain ⟨q, os, rfl⟩ := h; refine ⟨rfl, rfl, rfl, by simp [grow, World.drewN], fun k hk => ?_⟩; simp only [grow, World.drewN]; rw [Array.getElem?_append_left hk]
/-- ahead: by times, of one time the one that wins. -/
def aheadP (a b : S42) : Int := if a.f0 = b.f0 then (if winsP a b = true then -1 else if winsP b a = true then 1 else 0) else if a.f0 < b.f0 then -1 else 1
theorem ahead_calls (a b : S42) (W : World) : Calls Try.prog 53 #[.agg #[.int .i64 a.f0, .int .u64 a.f1, .int .u64 a.f2], .agg #[.int .i64 b.f0, .int .u64 b.f1, .int .u64 b.f2]] W fun e w' => e = .returned (.int .i64 (aheadP a b)) ∧ Lays W w' := by
 by_cases h0 : a.f0 = b.f0
 ·
  have hw : aheadP a b = (if winsP a b = true then -1 else if winsP b a = true then 1 else 0) := by unfold aheadP; rw [if_pos h0]
  rw [hw]; clear hw; have h0n : (a.f0 != b.f0) = false := by simp [h0]
  have HC1 := Lib.hid (fun w => wins_calls a b w); have HC2 := Lib.hid (fun w => wins_calls b a w)
  obtain ⟨r1, hr1⟩ : ∃ r, winsP a b = r := ⟨_, rfl⟩
  obtain ⟨r2, hr2⟩ : ∃ r, winsP b a = r := ⟨_, rfl⟩
  rw [hr1, hr2]; rw [hr1] at HC1; rw [hr2] at HC2; have hx := blk_new W (.cells #[.int .i64 a.f0, .int .u64 a.f1, .int .u64 a.f2] 42); have HL := Lib.hid (((Lays.refl W).alloc (.cells #[.int .i64 a.f0, .int .u64 a.f1, .int .u64 a.f2] 42)).alloc (.cells #[.int .i64 b.f0, .int .u64 b.f1, .int .u64 b.f2] 42)); have Hx := Lib.hid (blk_alloc hx (.cells #[.int .i64 b.f0, .int .u64 b.f1, .int .u64 b.f2] 42) ); have Hy := Lib.hid (blk_new (W.alloc (.cells #[.int .i64 a.f0, .int .u64 a.f1, .int .u64 a.f2] 42)) (.cells #[.int .i64 b.f0, .int .u64 b.f1, .int .u64 b.f2] 42)); clear hr1 hr2 h0 hx; go_enter Try.func53, Try.ntmps53
  go_wp2_with fail
  with_reducible refine (HC1.out _).mono ?_
  rintro e w1 ⟨rfl, hl1⟩; have hb1 := hl1.below; have hx1 := blk_below Hx.out hb1; have hy1 := blk_below Hy.out hb1; have x0 : w1.cell? ⟨W.heap.size, 0, none⟩ = some (.int .i64 a.f0) := (blk_cell hx1 0).trans rfl; have x1 : w1.cell? ⟨W.heap.size, 1, none⟩ = some (.int .u64 a.f1) := (blk_cell hx1 1).trans rfl; have x2 : w1.cell? ⟨W.heap.size, 2, none⟩ = some (.int .u64 a.f2) := (blk_cell hx1 2).trans rfl; have y0 := (blk_cell hy1 0).trans (show _ = some (.int .i64 b.f0) from rfl); have y1 := (blk_cell hy1 1).trans (show _ = some (.int .u64 b.f1) from rfl); have y2 := (blk_cell hy1 2).trans (show _ = some (.int .u64 b.f2) from rfl); have esz : (W.alloc (.cells #[.int .i64 a.f0, .int .u64 a.f1, .int .u64 a.f2] 42)).heap.size = W.heap.size + 1 := by simp
  rw [esz] at y0 y1 y2; clear esz; have HL1 := Lib.hid (HL.out.trans hl1); clear hl1 hb1 hx1 hy1
  cases r1 with
  | true =>
   go_wp2; go_ret
   exact ⟨rfl, HL1.out⟩
  | false =>
   go_wp2_with fail
   with_reducible refine (HC2.out _).mono ?_
   rintro e w2 ⟨rfl, hl2⟩; have HL2 := Lib.hid (HL1.out.trans hl2); clear hl2 x0 x1 x2 y0 y1 y2
   cases r2 with
   | true =>
    go_wp2; go_ret
    exact ⟨rfl, HL2.out⟩
   | false =>
    go_wp2; go_ret; exact ⟨rfl, HL2.out⟩
 ·
  have h0n : (a.f0 != b.f0) = true := by simp [h0]
  have HL := Lib.hid (((Lays.refl W).alloc (.cells #[.int .i64 a.f0, .int .u64 a.f1, .int .u64 a.f2] 42)).alloc (.cells #[.int .i64 b.f0, .int .u64 b.f1, .int .u64 b.f2] 42))
  by_cases h1 : a.f0 < b.f0
  ·
   have hw : aheadP a b = -1 := by unfold aheadP; rw [if_neg h0, if_pos h1]
   rw [hw]; clear hw h0; have h1b := decide_eq_true h1; clear h1; go_enter Try.func53, Try.ntmps53
   go_wp2; go_ret; exact ⟨rfl, HL.out⟩
  ·
   have hw : aheadP a b = 1 := by unfold aheadP; rw [if_neg h0, if_neg h1]
   rw [hw]; clear hw h0; have h1b := decide_eq_false h1; clear h1; go_enter Try.func53, Try.ntmps53
   go_wp2; go_ret; exact ⟨rfl, HL.out⟩
end Go.Proofs.Ytgagcimfkmegnaa
end
section
namespace Go.Proofs.Ytgagcimfkmegnaa
set_option linter.unusedVariables false
set_option linter.unusedSimpArgs false
open Go.RowKit Go.Proofs.YtgagcimfkmegnaaW.PrintWords Go.Proofs.YtgagcimfkmegnaaW.PrintLast Go.Proofs.YtgagcimfkmegnaaW.PrintMore Go.Proofs.Ytgagcimfkmegnaa.QT Go.Sort
local instance : Inhabited S42 := ⟨z42⟩
theorem flat_len : ∀ l : List S42, (l.flatMap cellsPoint).length = l.length * 3
 | [] => rfl
 | y :: ys => by rw [List.flatMap_cons, List.length_append, flat_len ys]; simp [cellsPoint]; omega
theorem flat_at : ∀ (l : List S42) (j : Nat), j < l.length * 3 → (l.flatMap cellsPoint)[j]? = some ((cellsPoint l[j / 3]!)[j % 3]!)
 | [], j, h => by simp at h
 | y :: ys, j, h => by
  rw [List.flatMap_cons]
  by_cases hj : j < 3
  ·
   rw [List.getElem?_append_left (by simpa [cellsPoint] using hj), Nat.div_eq_of_lt hj, Nat.mod_eq_of_lt hj]
   match j, hj with
   | 0, _ => rfl
   | 1, _ => rfl
   | 2, _ => rfl
  ·
   rw [List.getElem?_append_right (by simp [cellsPoint]; omega), show j - (cellsPoint y).length = j - 3 from rfl, flat_at ys (j - 3) (by simp at h; omega)]; rw [show j / 3 = (j - 3) / 3 + 1 from by omega, show j % 3 = (j - 3) % 3 from by omega, List.getElem!_cons_succ]
theorem flat_reps (l : List S42) (W : World) (base : Nat) (ok : Nat → Prop) : Reps (k42.M W base ok) 3 l (l.flatMap cellsPoint) := by
 refine ⟨flat_len l, fun j x hj => ?_⟩; have hjl : j < l.length := (List.getElem?_eq_some_iff.1 hj).1
 have e4 : ((l.flatMap cellsPoint).drop (j * 3)).take 3 = cellsPoint x := by
  apply List.ext_getElem?; intro i
  by_cases hi4 : i < 3
  ·
   rw [List.getElem?_take_of_lt hi4, List.getElem?_drop, flat_at l _ (by omega), show (j * 3 + i) / 3 = j from by omega, show (j * 3 + i) % 3 = i from by omega, show l[j]! = x from by simp [List.getElem!_eq_getElem?_getD, hj]]
   match i, hi4 with
   | 0, _ => rfl
   | 1, _ => rfl
   | 2, _ => rfl
  ·
   rw [List.getElem?_eq_none (by rw [List.length_take]; omega), List.getElem?_eq_none (by simp [cellsPoint]; omega)]
 rw [e4]; exact k42_mkM _ _ _ x
/-- A row whose cells were put anew. -/
theorem row_put (w : World) (base gb n cap m : Nat) (P0 : Nat → Prop) (l l' : List S42) (os : Array Obj) (hl : l'.length = l.length) (hR : Kd.R k42 42 w base P0 (.slice (some ⟨gb, 0, none⟩) n cap) l) :
  Kd.R k42 42 (sortWorldK cellsPoint 3 w gb 0 m l'.toArray os) base P0 (.slice (some ⟨gb, 0, none⟩) n cap) l' ∧ w.grownBy (sortWorldK cellsPoint 3 w gb 0 m l'.toArray os) (some gb) := by
 obtain ⟨hok, inner, ho, hr⟩ := hR; obtain ⟨hil, ⟨hv, _⟩ | ⟨g, cap', cur, hv, hb, hh, hn, hcm, hcs, htk⟩⟩ := ho
 ·
  cases hv
 ·
  cases hv; have hlt : gb < w.heap.size := (Array.getElem?_eq_some_iff.1 hh).1
  have hget : (sortWorldK cellsPoint 3 w gb 0 m l'.toArray os).heap[gb]? = some (.cells (putCells id 0 (flatK cellsPoint 3 l'.toArray) cur) 42 (0, 0)) := by
   unfold sortWorldK putRowK putRow mapBlock grow Go.Sort.ahead; simp only; rw [Array.getElem?_append_left (by simpa using hlt), Array.getElem?_modify, if_pos rfl, hh]; rfl
  refine ⟨⟨hok, l'.flatMap cellsPoint, ⟨flat_len l', .inr ⟨gb, cap, _, by rw [hl], hb, hget, by rw [hl]; exact hn, hcm, by simp [putCells, hcs], ?_⟩⟩, flat_reps _ _ _ _⟩, ⟨rfl, rfl, rfl, ?_, fun k hk hne => ?_⟩⟩
  ·
   apply List.ext_getElem?; intro j; have hcz : cur.size = cap * 3 := hcs; have hcl : (k42.sz) = 3 := rfl
   by_cases hj : j < l'.length * 3
   ·
    rw [hcl, List.getElem?_take_of_lt hj, flat_at l' j hj, Array.getElem?_toList]; unfold putCells; rw [Array.getElem?_mapIdx]; have hjc : j < cur.size := by omega
    rw [Array.getElem?_eq_getElem hjc, Option.map_some, if_pos ⟨Nat.zero_le _, by rw [size_flatK]; simp; omega⟩, Nat.sub_zero, get_flatK _ _ _ _ (by simpa using hj)]; simp
   ·
    rw [List.getElem?_eq_none (by rw [List.length_take, hcl]; omega), List.getElem?_eq_none (by rw [flat_len]; omega)]
  ·
   simp [sortWorldK, putRowK, putRow, mapBlock, grow, Go.Sort.ahead]
  ·
   have hne' : gb ≠ k := fun e => hne (by rw [e]); unfold sortWorldK putRowK putRow mapBlock grow Go.Sort.ahead; simp only; rw [Array.getElem?_append_left (by simpa using hk), Array.getElem?_modify, if_neg hne']
theorem row_holds (w : World) (base gb n cap : Nat) (P0 : Nat → Prop) (l : List S42) (hR : Kd.R k42 42 w base P0 (.slice (some ⟨gb, 0, none⟩) n cap) l) : HoldsK cellsPoint 3 w gb 0 l.toArray := by
 intro j hj; rw [size_flatK] at hj; have hj' : j < l.length * 3 := by simpa using hj
 obtain ⟨hn, _, _⟩ := Kd.R_reads' hR; obtain ⟨c, hcl, hM, hcc, hfr⟩ := Kd.R_elem hR z42 ((j / 3 : Nat) : Int) (by omega) (by omega); rw [Int.toNat_natCast] at hM hcc hfr; obtain rfl := k42_openM hM
 have e : (flatK cellsPoint 3 l.toArray)[j]! = (cellsPoint (l.getD (j / 3) z42))[j % 3]! := by
  rw [get_flatK _ _ _ _ hj]
  congr 2
  simp [List.getD_eq_getElem?_getD, List.getElem!_eq_getElem?_getD]
  rfl
 rw [e, Nat.zero_add]; have e3 : j / 3 * 3 + j % 3 = j := by omega
 have h3 : j % 3 < 3 := Nat.mod_lt _ (by omega)
 constructor
 ·
  have := hcc (j % 3) _ (List.getElem?_eq_getElem (by simpa using h3)); rw [show k42.sz = 3 from rfl, e3] at this; rw [this]; simp only [id, cellsPoint]; rw [getElem!_pos _ _ (by simpa using h3)]
 ·
  have := hfr (j % 3); rw [show k42.sz = 3 from rfl, e3] at this; exact this
def ltA (a b : S42) : Bool := ltOf aheadP a b
theorem ltA_iff (a b : S42) : ltA a b = true ↔ a.f0 < b.f0 ∨ (a.f0 = b.f0 ∧ (a.f2 > b.f2 ∨ (a.f2 = b.f2 ∧ a.f1 > b.f1))) := by
 unfold ltA ltOf aheadP winsP; rw [decide_eq_true_iff]; simp only [Bool.or_eq_true, Bool.and_eq_true, decide_eq_true_eq, beq_iff_eq]
 split
 ·
  split
  ·
   constructor <;> intro <;> omega
  ·
   split
   ·
    constructor
    ·
     intro h; omega
    ·
     intro h; omega
   ·
    constructor
    ·
     intro h; omega
    ·
     intro h; omega
 ·
  split
  ·
   constructor <;> intro <;> omega
  ·
   constructor <;> intro <;> omega
theorem ltA_false (a b : S42) : ltA a b = false ↔ ¬ (a.f0 < b.f0 ∨ (a.f0 = b.f0 ∧ (a.f2 > b.f2 ∨ (a.f2 = b.f2 ∧ a.f1 > b.f1)))) := by
 rw [← ltA_iff, Bool.not_eq_true]
theorem swoA : SWO (ltOf (aheadP)) := by
 refine ⟨fun x => ?_, fun x y z h h' => ?_, fun x y z h h' => ?_⟩
 ·
  exact (ltA_false x x).2 (by omega)
 ·
  exact (ltA_iff x z).2 (by have h1 := (ltA_iff x y).1 h; have h2 := (ltA_iff y z).1 h'; omega)
 ·
  exact (ltA_false x z).2 (by have h1 := (ltA_false x y).1 h; have h2 := (ltA_false y z).1 h'; omega)
theorem ltA_eq {a b : S42} (h : ltA a b = false) (h' : ltA b a = false) : a = b := by
 have h1 := (ltA_false a b).1 h; have h2 := (ltA_false b a).1 h'; obtain ⟨a0, a1, a2⟩ := a; obtain ⟨b0, b1, b2⟩ := b; simp only at h1 h2; obtain rfl : a0 = b0 := by omega
 obtain rfl : a2 = b2 := by omega
 obtain rfl : a1 = b1 := by omega
 rfl
abbrev UpA (l : List S42) : Prop := l.Pairwise (fun a b => ltA b a = false)
def insA (x : S42) : List S42 → List S42
 | [] => [x]
 | y :: r => if ltA y x then y :: insA x r else x :: y :: r
def srtA : List S42 → List S42
 | [] => []
 | x :: r => insA x (srtA r)
theorem insA_perm (x : S42) : ∀ r, (insA x r).Perm (x :: r)
 | [] => List.Perm.refl _
 | y :: r => by
  unfold insA
  split
  ·
   exact ((insA_perm x r).cons y).trans (List.Perm.swap _ _ _)
  ·
   exact List.Perm.refl _
theorem insA_up (x : S42) : ∀ r, UpA r → UpA (insA x r)
 | [], _ => List.pairwise_singleton _ _
 | y :: r, h => by
  have h1 := List.pairwise_cons.1 h; unfold insA
  split
  ·
   rename_i hyx
   refine List.pairwise_cons.2 ⟨fun z hz => ?_, insA_up x r h1.2⟩; rcases List.mem_cons.1 ((insA_perm x r).mem_iff.1 hz) with rfl | hz
   ·
    rw [ltA_iff] at hyx; rw [ltA_false]; omega
   ·
    exact h1.1 z hz
  ·
   rename_i hyx
   rw [Bool.not_eq_true] at hyx; refine List.pairwise_cons.2 ⟨fun z hz => ?_, h⟩; rcases List.mem_cons.1 hz with rfl | hz
   ·
    exact hyx
   ·
    exact swoA.ntrans _ _ _ (h1.1 z hz) hyx
theorem srtA_perm : ∀ l, (srtA l).Perm l
 | [] => List.Perm.refl _
 | x :: r => (insA_perm x _).trans ((srtA_perm r).cons x)
theorem srtA_up : ∀ l, UpA (srtA l)
 | [] => List.Pairwise.nil
 | x :: r => insA_up x _ (srtA_up r)
theorem upA_unique : ∀ {l r : List S42}, l.Perm r → UpA l → UpA r → l = r
 | [], r, h, _, _ => (List.eq_nil_of_length_eq_zero (by simpa using h.length_eq.symm)).symm
 | x :: l, [], h, _, _ => by have := h.length_eq; simp at this
 | x :: l, y :: r, h, hl, hr => by
  have e : x = y := by
   have h1 : ltA y x = false := by
    rcases List.mem_cons.1 (h.mem_iff.2 (List.mem_cons_self : y ∈ y :: r)) with e | hm
    ·
     rw [e]; exact swoA.irrefl _
    ·
     exact (List.pairwise_cons.1 hl).1 y hm
   have h2 : ltA x y = false := by
    rcases List.mem_cons.1 (h.mem_iff.1 (List.mem_cons_self : x ∈ x :: l)) with e | hm
    ·
     rw [e]; exact swoA.irrefl _
    ·
     exact (List.pairwise_cons.1 hr).1 x hm
   exact ltA_eq h2 h1
  subst e; rw [upA_unique h.cons_inv (List.pairwise_cons.1 hl).2 (List.pairwise_cons.1 hr).2]
theorem enter_ahead : ∀ args w, (callFunc 53 args).run Try.prog w = .ok (.enter 53 args) w := fun args w => by kernel_rfl
theorem aggPoint : ∀ w, (isAgg 42).run Try.prog w = .ok true w := fun w => by kernel_rfl
theorem sizePoint : ∀ w, (Go.sizeOf 42).run Try.prog w = .ok 3 w := fun w => by kernel_rfl
/-- SortFunc at a row that is not nil. -/
theorem sort_row (base gb n cap : Nat) (P0 : Nat → Prop) (l : List S42) (w : World) (hR : Kd.R k42 42 w base P0 (.slice (some ⟨gb, 0, none⟩) n cap) l) (hb : l.length < 4611686018427387904) :
  Calls Try.prog 52 #[.slice (some ⟨gb, 0, none⟩) n cap, .func (.func 53) #[] #[]] w fun e w' => e = .returned (.tuple #[]) ∧ Kd.R k42 42 w' base P0 (.slice (some ⟨gb, 0, none⟩) n cap) (srtA l) ∧ w.grownBy w' (some gb) := by
 have hlt := Kd.R_lt hR gb rfl; obtain ⟨hn, _, _⟩ := Kd.R_reads' hR
 have h := AnyQ.slices_SortFunc Try.sortPoint 3 aggPoint sizePoint cellsPoint (fun _ => rfl) (fun x v hv => by
  simp only [cellsPoint, List.mem_cons, List.not_mem_nil, or_false] at hv
  rcases hv with rfl | rfl | rfl <;> rfl) aheadP swoA 53 #[] gb 0 cap l.toArray w enter_ahead (fun m os dk _ x y => ahead_calls x y _) (row_holds w base gb n cap P0 l hR) hlt (by simpa using hb)
 have e : l.toArray.size = n := by simp [hn]
 rw [e] at h; refine h.mono fun e w' ⟨he, d', m, os, hperm, hsort, hw⟩ => ?_; have hsz : d'.size = n := by have := hperm.1; simpa [hn] using this
 have hp : d'.toList.Perm l := by
  have h1 := hperm.2.2; have e1 : d'.extract 0 n = d' := by rw [← hsz]; simp
  have e2 : l.toArray.extract 0 n = l.toArray := by rw [show n = l.toArray.size from by simp [hn]]; simp
  rw [e1, e2] at h1; simpa using h1
 have hu : UpA d'.toList := by
  refine List.pairwise_iff_getElem.2 ?_; intro i j hi hj hij; have := hsort i j (Nat.zero_le _) hij (by rw [← hsz]; simpa using hj); rw [getElem!_pos d' j (by simpa using hj), getElem!_pos d' i (by simpa using hi)] at this; show ltOf aheadP _ _ = false; simpa using this
 have hd : d'.toList = srtA l := upA_unique (hp.trans (srtA_perm l).symm) hu (srtA_up l); have hrow := row_put w base gb n cap m P0 l (srtA l) os (by rw [(srtA_perm l).length_eq]) hR; rw [← hd] at hrow ⊢; rw [show d'.toList.toArray = d' from by simp] at hrow; rw [hw]; exact ⟨he, hrow⟩
end Go.Proofs.Ytgagcimfkmegnaa
end
section
namespace Go.Proofs.Ytgagcimfkmegnaa
set_option linter.unusedVariables false
set_option linter.unusedSimpArgs false
open Go.RowKit Go.Proofs.YtgagcimfkmegnaaW.PrintWords Go.Proofs.Ytgagcimfkmegnaa.QT Go.Sort
namespace Vw
abbrev Pt := S42
/-- p is no worse than q. -/
def Ge (p q : Pt) : Prop := p.f2 > q.f2 ∨ (p.f2 = q.f2 ∧ p.f1 ≥ q.f1)
theorem Ge.refl (p : Pt) : Ge p p := Or.inr ⟨rfl, Int.le_refl _⟩
theorem Ge.trans {p q r : Pt} (h : Ge p q) (k : Ge q r) : Ge p r := by unfold Ge at *; omega
theorem Ge.total (p q : Pt) : Ge p q ∨ Ge q p := by unfold Ge; omega
theorem Ge.eq {p q : Pt} (h : Ge p q) (k : Ge q p) (ht : p.f0 = q.f0) : p = q := by
 obtain ⟨a, b, c⟩ := p; obtain ⟨a', b', c'⟩ := q; unfold Ge at *; simp only at *; obtain rfl : b = b' := by omega
 obtain rfl : c = c' := by omega
 subst ht; rfl
theorem wins_iff (p q : Pt) : winsP p q = true ↔ ¬ Ge q p := by
 unfold winsP Ge; simp only [Bool.or_eq_true, Bool.and_eq_true, decide_eq_true_eq, beq_iff_eq]; omega
theorem wins_false (p q : Pt) : winsP p q = false ↔ Ge q p := by
 rw [← Bool.not_eq_true, wins_iff, Classical.not_not]
/-- Strictly rising times. -/
abbrev Up (l : List Pt) : Prop := l.Pairwise (fun a b => a.f0 < b.f0)
/-- c stands for l: its points are l's, and each of l's is met by one of its time that is no worse. -/
def Dom (l c : List Pt) : Prop := (∀ p ∈ c, p ∈ l) ∧ ∀ q ∈ l, ∃ p ∈ c, p.f0 = q.f0 ∧ Ge p q
theorem Dom.refl (l : List Pt) : Dom l l := ⟨fun _ h => h, fun q h => ⟨q, h, rfl, Ge.refl q⟩⟩
theorem Dom.trans {l c d : List Pt} (h : Dom l c) (k : Dom c d) : Dom l d :=
 ⟨fun p hp => h.1 p (k.1 p hp), fun q hq => by
  obtain ⟨p, hp, h1, h2⟩ := h.2 q hq; obtain ⟨r, hr, h3, h4⟩ := k.2 p hp
  exact ⟨r, hr, h3.trans h1, h4.trans h2⟩⟩
theorem Dom.of_mem {l c : List Pt} (h : ∀ p, p ∈ l ↔ p ∈ c) : Dom l c := ⟨fun p hp => (h p).2 hp, fun q hq => ⟨q, (h q).1 hq, rfl, Ge.refl q⟩⟩
theorem Dom.perm {l c : List Pt} (h : l.Perm c) : Dom l c := Dom.of_mem fun p => h.mem_iff
theorem Dom.append {l c l' c' : List Pt} (h : Dom l c) (k : Dom l' c') : Dom (l ++ l') (c ++ c') :=
 ⟨fun p hp => by
  rcases List.mem_append.1 hp with hp | hp
  ·
   exact List.mem_append_left _ (h.1 p hp)
  ·
   exact List.mem_append_right _ (k.1 p hp), fun q hq => by
  rcases List.mem_append.1 hq with hq | hq
  ·
   obtain ⟨p, hp, r⟩ := h.2 q hq; exact ⟨p, List.mem_append_left _ hp, r⟩
  ·
   obtain ⟨p, hp, r⟩ := k.2 q hq
   exact ⟨p, List.mem_append_right _ hp, r⟩⟩
/-- v is the view of l. -/
def Is (l v : List Pt) : Prop := Up v ∧ Dom l v
theorem Is.of_dom {l c v : List Pt} (h : Dom l c) (k : Is c v) : Is l v := ⟨k.1, h.trans k.2⟩
theorem up_inj {v : List Pt} (h : Up v) {p q : Pt} (hp : p ∈ v) (hq : q ∈ v) (ht : p.f0 = q.f0) : p = q := by
 induction v with
 | nil => cases hp
 | cons a r ih =>
  obtain ⟨h1, h2⟩ := List.pairwise_cons.1 h; rcases List.mem_cons.1 hp with ep | hp
  ·
   rcases List.mem_cons.1 hq with eq | hq
   ·
    rw [ep, eq]
   ·
    have := h1 q hq; rw [ep] at ht; omega
  ·
   rcases List.mem_cons.1 hq with eq | hq
   ·
    have := h1 p hp; rw [eq] at ht; omega
   ·
    exact ih h2 hp hq
theorem up_ext : ∀ {v v' : List Pt}, Up v → Up v' → (∀ p, p ∈ v ↔ p ∈ v') → v = v'
 | [], [], _, _, _ => rfl
 | [], b :: s, _, _, h => by have := (h b).2 (by simp); simp at this
 | a :: r, [], _, _, h => by have := (h a).1 (by simp); simp at this
 | a :: r, b :: s, h1, h2, h => by
  obtain ⟨a1, a2⟩ := List.pairwise_cons.1 h1; obtain ⟨b1, b2⟩ := List.pairwise_cons.1 h2
  have hab : a = b := by
   rcases List.mem_cons.1 ((h a).1 (by simp)) with e | ha
   ·
    exact e
   ·
    rcases List.mem_cons.1 ((h b).2 (by simp)) with e | hb
    ·
     exact e.symm
    ·
     have := a1 b hb; have := b1 a ha; omega
  subst hab
  rw [up_ext a2 b2 (fun p => ⟨fun hp => by
   rcases List.mem_cons.1 ((h p).1 (by simp [hp])) with e | hp'
   ·
    have := a1 p hp; rw [e] at this; omega
   ·
    exact hp', fun hp => by
   rcases List.mem_cons.1 ((h p).2 (by simp [hp])) with e | hp'
   ·
    have := b1 p hp; rw [e] at this; omega
   ·
    exact hp'⟩)]
theorem Is.unique {l v v' : List Pt} (h : Is l v) (k : Is l v') : v = v' := by
 have one : ∀ {v v' : List Pt}, Is l v → Is l v' → ∀ p, p ∈ v → p ∈ v' := by
  intro v v' h k p hp; obtain ⟨q, hq, h1, h2⟩ := k.2.2 p (h.2.1 p hp); obtain ⟨r, hr, h3, h4⟩ := h.2.2 q (k.2.1 q hq); have e : r = p := up_inj h.1 hr hp (h3.trans h1); subst e; rw [h4.eq h2 h3]; exact hq
 exact up_ext h.1 k.1 (fun p => ⟨one h k p, one k h p⟩)
theorem Is.nil : Is [] [] := ⟨List.Pairwise.nil, Dom.refl _⟩
theorem Is.self {v : List Pt} (h : Up v) : Is v v := ⟨h, Dom.refl _⟩
/-- What compT leaves of a list in order. -/
theorem compFrom_mem (p : Pt) : ∀ (l : List Pt) (x : Pt), x ∈ compFrom p l → x ∈ l
 | [], x, h => by simp [compFrom] at h
 | y :: r, x, h => by
  unfold compFrom at h
  split at h
  ·
   exact List.mem_cons_of_mem _ (compFrom_mem y r x h)
  ·
   rcases List.mem_cons.1 h with rfl | h
   ·
    simp
   ·
    exact List.mem_cons_of_mem _ (compFrom_mem y r x h)
theorem up_lt {a b : Pt} (h : ltA b a = false) : a.f0 < b.f0 ∨ (a.f0 = b.f0 ∧ Ge a b) := by
 rw [ltA_false] at h; unfold Ge; omega
theorem compFrom_is (p : Pt) : ∀ (l : List Pt), UpA (p :: l) → Up (p :: compFrom p l) ∧ ∀ q ∈ l, ∃ x ∈ p :: compFrom p l, x.f0 = q.f0 ∧ Ge x q
 | [], _ => ⟨List.pairwise_singleton _ _, by simp⟩
 | y :: r, h => by
  obtain ⟨h1, h2⟩ := List.pairwise_cons.1 h; obtain ⟨i1, i2⟩ := compFrom_is y r h2; have hy := up_lt (h1 y (by simp)); unfold compFrom
  split
  ·
   rename_i e
   have hpy : Ge p y := hy.elim (fun h => by omega) (fun h => h.2); obtain ⟨j1, j2⟩ := List.pairwise_cons.1 i1; refine ⟨List.pairwise_cons.2 ⟨fun z hz => by have := j1 z hz; omega, j2⟩, fun q hq => ?_⟩; rcases List.mem_cons.1 hq with rfl | hq
   ·
    exact ⟨p, by simp, e.symm, hpy⟩
   ·
    obtain ⟨x, hx, h3, h4⟩ := i2 q hq; rcases List.mem_cons.1 hx with rfl | hx
    ·
     exact ⟨p, by simp, e.symm.trans h3, hpy.trans h4⟩
    ·
     exact ⟨x, List.mem_cons_of_mem _ hx, h3, h4⟩
  ·
   rename_i e
   have hpy : p.f0 < y.f0 := by rcases hy with h | h <;> omega
   refine ⟨List.pairwise_cons.2 ⟨fun z hz => ?_, i1⟩, fun q hq => ?_⟩
   ·
    rcases List.mem_cons.1 hz with rfl | hz
    ·
     exact hpy
    ·
     have := (List.pairwise_cons.1 i1).1 z hz; omega
   ·
    rcases List.mem_cons.1 hq with rfl | hq
    ·
     exact ⟨q, by simp, rfl, Ge.refl _⟩
    ·
     obtain ⟨x, hx, h3, h4⟩ := i2 q hq; exact ⟨x, List.mem_cons_of_mem _ hx, h3, h4⟩
theorem comp_is (l : List Pt) (h : UpA l) : Is l (compT l) := by
 match l, h with
 | [], _ => exact Is.nil
 | p :: r, h =>
  obtain ⟨h1, h2⟩ := compFrom_is p r h; refine ⟨h1, fun x hx => ?_, fun q hq => ?_⟩
  ·
   rcases List.mem_cons.1 hx with rfl | hx
   ·
    simp
   ·
    exact List.mem_cons_of_mem _ (compFrom_mem p r x hx)
  ·
   rcases List.mem_cons.1 hq with rfl | hq
   ·
    exact ⟨q, by simp [compT], rfl, Ge.refl _⟩
   ·
    exact h2 q hq
/-- The view of any points. -/
def view (l : List Pt) : List Pt := compT (srtA l)
theorem view_is (l : List Pt) : Is l (view l) := Is.of_dom (Dom.perm (srtA_perm l).symm) (comp_is _ (srtA_up l))
theorem view_eq {l v : List Pt} (h : Is l v) : view l = v := (view_is l).unique h
theorem view_len (l : List Pt) : (view l).length ≤ l.length := by
 have h2 : ∀ (p : Pt) (l : List Pt), (compFrom p l).length ≤ l.length := by
  intro p l
  induction l generalizing p with
  | nil => simp [compFrom]
  | cons y r ih =>
   unfold compFrom; have := ih y
   split <;> simp <;> omega
 have h3 : ∀ l : List Pt, (compT l).length ≤ l.length := by
  intro l
  cases l with
  | nil => simp [compT]
  | cons p r => have := h2 p r; simp [compT]; omega
 have := h3 (srtA l); rw [(srtA_perm l).length_eq] at this; exact this
end Vw
end Go.Proofs.Ytgagcimfkmegnaa
end
section
namespace Go.Proofs.Ytgagcimfkmegnaa.QT
open Go.RowKit Go.Proofs.YtgagcimfkmegnaaW.PrintWords Go.Proofs.YtgagcimfkmegnaaW.PrintLast Go.Proofs.YtgagcimfkmegnaaW.PrintMore
attribute [local go_sem] max2_int min2_int max_two min_two max_three min_three max_four min_four   -- for this text's walks alone
set_option linter.unusedVariables false
set_option linter.unusedSimpArgs false
theorem eqA42 (d : Nat) (w : World) (x0 y0 : Int) (x1 y1 : Int) (x2 y2 : Int) :
  (Op.equalIn (d + 2) 42 (.agg #[.int .i64 x0, .int .u64 x1, .int .u64 x2]) (.agg #[.int .i64 y0, .int .u64 y1, .int .u64 y2])).run Try.prog w = .ok (x0 == y0 && (x1 == y1 && (x2 == y2))) w := by
 refine eqA_of Try.underlying42 (by kernel_rfl) ?_; refine eqf_cons (by rfl) (by go_simp; rfl) (by go_simp; rfl) (by go_simp) ?_; refine eqf_cons (by rfl) (by go_simp; rfl) (by go_simp; rfl) (by go_simp) ?_; exact eqf_last (by rfl) (by go_simp; rfl) (by go_simp; rfl) (by go_simp)
end Go.Proofs.Ytgagcimfkmegnaa.QT
end
