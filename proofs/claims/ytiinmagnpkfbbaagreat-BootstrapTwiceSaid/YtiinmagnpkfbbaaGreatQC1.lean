-- Laid by wip/tools/myprint.py of this repo. Not trusted: Lean checks it.
import Derived.Test.YtiinmagnpkfbbaaGreatQX2
import Derived.Shelf.SlIter.Nil
import Derived.Shelf.SortM.Plain
import Derived.Shelf.SortM.SortNone
import Derived.Test.YtiinmagnpkfbbaaGreatHold
section
namespace Go.Proofs.YtiinmagnpkfbbaaGreat
set_option linter.unusedVariables false
set_option linter.unusedSimpArgs false
open Go.RowKit Go.Proofs.YtiinmagnpkfbbaaGreatW.PrintWords Go.Proofs.YtiinmagnpkfbbaaGreat.QT
def compFrom (p : S99) : List S99 → List S99
 | [] => []
 | y :: r => if y.f0 = p.f0 then compFrom y r else y :: compFrom y r
def compT : List S99 → List S99
 | [] => []
 | x :: r => x :: compFrom x r
theorem compFrom_snoc (q y : S99) : ∀ (l : List S99) (p : S99), compFrom p (l ++ [q] ++ [y]) = compFrom p (l ++ [q]) ++ (if y.f0 = q.f0 then [] else [y])
 | [], p => by
  simp only [List.nil_append, List.cons_append, compFrom]
  split <;> split <;> simp
 | x :: l, p => by
  have ih := compFrom_snoc q y l x; simp only [List.cons_append, compFrom]
  split
  ·
   exact ih
  ·
   rw [ih]; rfl
theorem compT_snoc (q y : S99) : ∀ (l : List S99), compT (l ++ [q] ++ [y]) = compT (l ++ [q]) ++ (if y.f0 = q.f0 then [] else [y])
 | [] => by
  simp only [List.nil_append, List.cons_append, compT, compFrom]
 | x :: l => by
  simp only [List.cons_append, compT]; rw [compFrom_snoc]
theorem c64 {x : Int} (h : -9223372036854775808 ≤ x) (h' : x < 9223372036854775808) : wrap64 x = x := by unfold wrap64; omega
theorem rd_mid (l P S : List S99) (x : S99) (i : Int) (hl : l = P ++ x :: S) (hi : i = P.length) : rd_T99 l i = x := by
 subst hl; subst hi; unfold rd_T99; simp
theorem comp_l1 (n : Nat) (hn : n ≤ 1099511627776) : ∀ (R x0 y B A' : List S99) (q : S99) (kk : Nat) (l A : List S99), l = A ++ B ++ R → y = B ++ R → B ≠ [] → A ++ B = A' ++ [q] → (∃ B', B = B' ++ [q]) → x0.length = n → l.length = n → kk = (compT (A ++ B)).length → kk < n → x0.take kk = compT (A ++ B) → kk < (A ++ B).length →
  ∃ r2, Ev (fun k => QX.api_Point.l1 k x0 kk y B.length) (((compT l).length : Int), r2) ∧ r2.take (compT l).length = compT l
 | [], x0, y, B, A', q, kk, l, A, hl, hy, hB, hAB, hBq, hx, hln, hk, hkn, ht, hkl => by
  simp only [List.append_nil] at hl hy; rw [hl, ← hk]; refine ⟨x0, Ev.step (f := fun _ => some ((kk : Int), x0)) (fun k => ?_) (Ev.now _), ht⟩
  rw [QX.api_Point.l1, hy, if_neg (by omega), if_pos (by omega), if_pos (by omega)]
 | u :: R, x0, y, B, A', q, kk, l, A, hl, hy, hB, hAB, ⟨B', hB'⟩, hx, hln, hk, hkn, ht, hkl => by
  have hBl : 1 ≤ B.length := by rw [hB']; simp
  have hyl : y.length = B.length + R.length + 1 := by rw [hy]; simp; omega
  have hl2 : l.length = A.length + B.length + R.length + 1 := by rw [hl]; simp; omega
  have e1 : rd_T99 y (B.length : Int) = u := rd_mid y B R u _ hy rfl; have e2 : rd_T99 y ((B.length : Int) - 1) = q := rd_mid y B' (u :: R) q _ (by rw [hy, hB']; simp) (by rw [hB']; simp)
  have hstep : ∀ k, QX.api_Point.l1 (k + 1) x0 kk y B.length = if (u.f0 == q.f0) = true then QX.api_Point.l1 k x0 kk y ((B.length + 1 : Nat) : Int) else QX.api_Point.l1 k (x0.set kk u) ((kk + 1 : Nat) : Int) y ((B.length + 1 : Nat) : Int) := by
   intro k; rw [QX.api_Point.l1, if_pos (by omega), if_pos (by omega), c64 (x := (B.length : Int) - 1) (by omega) (by omega), if_pos (by omega), if_pos (by omega), e1, e2, c64 (x := (B.length : Int) + 1) (by omega) (by omega), c64 (x := (kk : Int) + 1) (by omega) (by omega), if_pos (by omega), if_pos (by omega)]; rfl
  have hsn := compT_snoc q u A'; rw [← hAB] at hsn; have hlen : (A ++ (B ++ [u])).length = A.length + B.length + 1 := by simp; omega
  rw [List.length_append] at hkl
  by_cases he : u.f0 = q.f0
  ·
   rw [if_pos he, List.append_nil, List.append_assoc] at hsn; obtain ⟨r2, hev, hr⟩ := comp_l1 n hn R x0 y (B ++ [u]) (A ++ B) u kk l A (by rw [hl]; simp) (by rw [hy]; simp) (by simp) (by simp) ⟨B, rfl⟩ hx hln (by rw [hsn]; exact hk) hkn (by rw [hsn]; exact ht) (by omega); rw [List.length_append, List.length_singleton] at hev; exact ⟨r2, Ev.step hstep (Ev.congr (fun k => if_pos (by simp [he])) hev), hr⟩
  ·
   rw [if_neg he, List.append_assoc] at hsn
   obtain ⟨r2, hev, hr⟩ := comp_l1 n hn R (x0.set kk u) y (B ++ [u]) (A ++ B) u (kk + 1) l A (by rw [hl]; simp) (by rw [hy]; simp) (by simp) (by simp) ⟨B, rfl⟩ (by simpa using hx) hln (by rw [hsn, List.length_append, ← hk]; rfl) (by omega) (by
    rw [hsn, ← ht, List.take_add_one, List.take_set_of_le (Nat.le_refl kk), List.getElem?_set_self (by omega)]; rfl) (by omega)
   rw [List.length_append, List.length_singleton] at hev; exact ⟨r2, Ev.step hstep (Ev.congr (fun k => if_neg (by simp [he])) hev), hr⟩
theorem comp_l0 (n : Nat) (hn : n ≤ 1099511627776) : ∀ (R A' : List S99) (p : S99) (l : List S99), l = A' ++ [p] ++ R → l.length = n → compT (A' ++ [p]) = A' ++ [p] →
  ∃ r1 r2, Ev (fun k => QX.api_Point.l0 k l ((A'.length + 1 : Nat) : Int)) (r1, r2) ∧ (if r1 = -1 then r2 else r2.take r1.toNat) = compT l
 | [], A', p, l, hl, hln, hc => by
  simp only [List.append_nil] at hl; refine ⟨-1, l, Ev.step (f := fun _ => some (-1, l)) (fun k => ?_) (Ev.now _), ?_⟩
  ·
   have : l.length = A'.length + 1 := by rw [hl]; simp
   rw [QX.api_Point.l0, if_neg (by omega)]
  ·
   rw [if_pos rfl, hl, hc]
 | u :: R, A', p, l, hl, hln, hc => by
  have hl2 : l.length = A'.length + R.length + 2 := by rw [hl]; simp; omega
  have e1 : rd_T99 l ((A'.length + 1 : Nat) : Int) = u := rd_mid l (A' ++ [p]) R u _ (by rw [hl]) (by simp); have e2 : rd_T99 l (((A'.length + 1 : Nat) : Int) - 1) = p := rd_mid l A' (u :: R) p _ (by rw [hl]; simp) (by omega)
  have hd : l.drop (((A'.length + 1 : Nat) : Int)).toNat = u :: R := by
   rw [hl, Int.toNat_natCast]; exact List.drop_left' (by simp)
  have hstep : ∀ k, QX.api_Point.l0 (k + 1) l ((A'.length + 1 : Nat) : Int) = if (u.f0 == p.f0) = true then QX.api_Point.l1 k l ((A'.length + 1 : Nat) : Int) (u :: R) 1 else QX.api_Point.l0 k l ((A'.length + 1 + 1 : Nat) : Int) := by
   intro k; rw [QX.api_Point.l0, if_pos (by omega), if_pos (by omega), c64 (x := ((A'.length + 1 : Nat) : Int) - 1) (by omega) (by omega), if_pos (by omega), if_pos (by omega), e1, e2, c64 (x := ((A'.length + 1 : Nat) : Int) + 1) (by omega) (by omega), if_pos (by omega), hd]; rfl
  have hsn := compT_snoc p u A'
  by_cases he : u.f0 = p.f0
  ·
   rw [if_pos he, List.append_nil, hc] at hsn
   obtain ⟨r2, hev, hr⟩ := comp_l1 n hn R l (u :: R) [u] (A' ++ [p]) u (A'.length + 1) l (A' ++ [p]) (by rw [hl]; simp) rfl (by simp) rfl ⟨[], rfl⟩ hln hln (by rw [hsn]; simp) (by omega) (by
    rw [hsn, hl]
    exact List.take_left' (by simp)) (by simp)
   refine ⟨_, r2, Ev.step hstep (Ev.congr (fun k => if_pos (by simp [he])) hev), ?_⟩; rw [if_neg (by omega), Int.toNat_natCast]; exact hr
  ·
   rw [if_neg he, hc] at hsn; obtain ⟨r1, r2, hev, hr⟩ := comp_l0 n hn R (A' ++ [p]) u l (by rw [hl]; simp) hln hsn; rw [List.length_append, List.length_singleton] at hev; exact ⟨r1, r2, Ev.step hstep (Ev.congr (fun k => if_neg (by simp [he])) hev), hr⟩
/-- CompactFunc by times. -/
theorem compact_ev (l : List S99) (hn : l.length ≤ 1099511627776) : ∃ r1 r2, Ev (fun k => QX.api_Point.f k l) (r1, r2) ∧ (if r1 = -1 then r2 else r2.take r1.toNat) = compT l := by
 unfold QX.api_Point.f
 match l, hn with
 | [], hn => exact ⟨-1, [], Ev.now _, rfl⟩
 | [x], hn => exact ⟨-1, [x], Ev.now _, rfl⟩
 | x :: y :: r, hn =>
  obtain ⟨r1, r2, hev, hr⟩ := comp_l0 _ hn (y :: r) [] x (x :: y :: r) rfl rfl rfl; exact ⟨r1, r2, Ev.congr (fun k => if_neg (by simp; omega)) hev, hr⟩
end Go.Proofs.YtiinmagnpkfbbaaGreat
end
section
set_option maxHeartbeats 2000000
set_option maxRecDepth 100000
namespace Go.Proofs.YtiinmagnpkfbbaaGreat
set_option linter.unusedVariables false
set_option linter.unusedSimpArgs false
open Go.RowKit Go.Proofs.YtiinmagnpkfbbaaGreatW.PrintWords Go.Proofs.YtiinmagnpkfbbaaGreatW.PrintLast Go.Proofs.YtiinmagnpkfbbaaGreatW.PrintMore Go.Proofs.YtiinmagnpkfbbaaGreat.QT
theorem grow_nil (n : Int) (h0 : 0 ≤ n) (hb : n ≤ 1099511627776) (w : World) :
  Calls Tryz.prog 86 #[.slice none 0 0, .int .i64 n] w fun e w' => ∃ v, e = .returned v ∧ Kd.R k99 99 w' w.heap.size (fun _ => True) v [] ∧ Below w.heap.size w w' := by
 have HB := Aside0.mk (Below.refl w.heap.size w); have hn0 : decide (n < 0) = false := decide_eq_false (by omega); have hs0 : IntKind.i64.wrap (n - 0) = n := by rw [Int.sub_zero]; exact (i64_w n).trans (by unfold wrap64; omega)
 have hs1 : IntKind.i64.wrap n = n := (i64_w n).trans (by unfold wrap64; omega)
 by_cases h : n > 0
 ·
  have hd : decide (n > 0) = true := decide_eq_true h; go_enter Tryz.func86, Tryz.ntmps86
  go_wp2_with (at_builtin; refine Kd.R_append_zeros k99 (w0 := w) w.heap.size rfl (.tmp 20) (.tmp 21) 53 3 99 (.agg #[.int .i64 0, .int .u64 0, .int .u64 0]) 24 rfl Tryz.underlying53 Tryz.underlying3 info99 rfl (by decide) (by omega) (.slice none 0 0) [] z99 n (fun _ => True) rfl rfl (k99_mkM _ _ _ _) (fun _ _ => trivial) (Kd.R_nil _ _ _ _ _) h0 HB.out (Nat.le_refl _) (by simp; omega) ?_; intro v1 w1 hR hB hg hat; obtain ⟨A1, c1, rfl⟩ := Kd.R_slice hR; have HR := Aside0.mk hR; have HB1 := Aside0.mk hB; clear hR hB hg hat)
  go_ret; exact ⟨_, rfl, by have := Kd.R_take (m := 0) HR.out (Nat.zero_le _); simpa using this, HB1.out⟩
 ·
  have hd : decide (n > 0) = false := decide_eq_false h; go_enter Tryz.func86, Tryz.ntmps86
  go_wp2; go_ret; exact ⟨_, rfl, Kd.R_nil _ _ _ _ _, HB.out⟩
end Go.Proofs.YtiinmagnpkfbbaaGreat
end
section
namespace Go.Proofs
open Go.Shelf
def Tryz.keysL_ren : Go.Shelf.Ren := ⟨fun | 7 => 37 | 10 => 65 | n => n, fun | 23 => 63 | 26 => 9 | 3 => 53 | 28 => 76 | 0 => 0 | 27 => 75 | 33 => 102 | 4 => 4 | n => n, fun | n => n⟩
theorem Tryz.keysL : Go.Proofs.SlLaysZ.n7 Tryz.prog Tryz.keysL_ren := {
 mixed := by kernel_rfl
 f7 := ⟨Tryz.f37.name, by decide, Tryz.func37.trans (congrArg some (by kernel_rfl))⟩
 f10 := ⟨Tryz.f65.name, by decide, Tryz.func65.trans (congrArg some (by kernel_rfl))⟩
 t0 := Tryz.underlying0
 a0 := Tryz.isAgg0
 z0 := Tryz.sizeOf0
 v0 := Tryz.zeroValue0
 t4 := Tryz.underlying4
 a4 := Tryz.isAgg4
 z4 := Tryz.sizeOf4
 v4 := Tryz.zeroValue4
 t23 := Tryz.underlying63
 a23 := Tryz.isAgg63
 z23 := Tryz.sizeOf63
 v23 := Tryz.zeroValue63
 t26 := Tryz.underlying9
 a26 := Tryz.isAgg9
 z26 := Tryz.sizeOf9
 v26 := Tryz.zeroValue9
 t27 := Tryz.underlying75
 a27 := Tryz.isAgg75
 z27 := Tryz.sizeOf75
 v27 := Tryz.zeroValue75
 t28 := Tryz.underlying76
 a28 := Tryz.isAgg76
 z28 := Tryz.sizeOf76
 v28 := Tryz.zeroValue76
 t33 := Tryz.underlying102
 a33 := Tryz.isAgg102
 z33 := Tryz.sizeOf102
 v33 := Tryz.zeroValue102 }
def Tryz.sortedL_ren : Go.Shelf.Ren := ⟨fun | 6 => 36 | 8 => 63 | 9 => 64 | 11 => 84 | 13 => 80 | 12 => 85 | 23 => 99 | 24 => 100 | 14 => 101 | 15 => 102 | 16 => 103 | 17 => 104 | 18 => 105 | 19 => 106 | 20 => 107 | 21 => 108 | 22 => 109 | 25 => 123 | 26 => 119 | 27 => 120 | 28 => 124 | 29 => 125 | 30 => 126 | 31 => 131 | n => n, fun | 26 => 9 | 28 => 76 | 24 => 73 | 0 => 0 | 3 => 3 | 37 => 117 | 48 => 132 | 50 => 97 | 4 => 4 | 40 => 125 | 39 => 124 | 45 => 129 | 5 => 5 | 9 => 9 | 51 => 145 | 55 => 149 | 57 => 155 | 58 => 156 | 33 => 102 | n => n, fun | n => n⟩
theorem Tryz.sortedL : Go.Proofs.SlLaysZ.n6 Tryz.prog Tryz.sortedL_ren := {
 mixed := by kernel_rfl
 f6 := ⟨Tryz.f36.name, by decide, Tryz.func36.trans (congrArg some (by kernel_rfl))⟩
 f8 := ⟨Tryz.f63.name, by decide, Tryz.func63.trans (congrArg some (by kernel_rfl))⟩
 f11 := ⟨Tryz.f84.name, by decide, Tryz.func84.trans (congrArg some (by kernel_rfl))⟩
 t0 := Tryz.underlying0
 a0 := Tryz.isAgg0
 z0 := Tryz.sizeOf0
 v0 := Tryz.zeroValue0
 t24 := Tryz.underlying73
 a24 := Tryz.isAgg73
 z24 := Tryz.sizeOf73
 v24 := Tryz.zeroValue73
 t26 := Tryz.underlying9
 a26 := Tryz.isAgg9
 z26 := Tryz.sizeOf9
 v26 := Tryz.zeroValue9
 t28 := Tryz.underlying76
 a28 := Tryz.isAgg76
 z28 := Tryz.sizeOf76
 v28 := Tryz.zeroValue76
 i26 := by kernel_rfl }
def Tryz.sortL_ren : Go.Shelf.Ren := ⟨fun | 6 => 64 | 8 => 80 | 9 => 85 | 19 => 99 | 20 => 100 | 21 => 101 | 22 => 102 | 23 => 103 | 24 => 104 | 25 => 105 | 26 => 106 | 27 => 107 | 28 => 108 | 29 => 109 | 36 => 123 | 31 => 119 | 32 => 120 | 37 => 124 | 38 => 125 | 39 => 126 | 41 => 131 | n => n, fun | 27 => 73 | 29 => 9 | 3 => 3 | 32 => 117 | 26 => 73 | 0 => 0 | 44 => 132 | 46 => 97 | 4 => 4 | 36 => 125 | 35 => 124 | 41 => 129 | 5 => 5 | 9 => 9 | 53 => 145 | 57 => 149 | 63 => 155 | 64 => 156 | n => n, fun | n => n⟩
theorem Tryz.sortL : Go.Proofs.SlLaysM.n6 Tryz.prog Tryz.sortL_ren := {
 mixed := by kernel_rfl
 f6 := ⟨Tryz.f64.name, by decide, Tryz.func64.trans (congrArg some (by kernel_rfl))⟩
 f8 := Tryz.func80.trans (congrArg some (by kernel_rfl))
 f9 := ⟨Tryz.f85.name, by decide, Tryz.func85.trans (congrArg some (by kernel_rfl))⟩
 f19 := Tryz.func99.trans (congrArg some (by kernel_rfl))
 f20 := Tryz.func100.trans (congrArg some (by kernel_rfl))
 f21 := ⟨Tryz.f101.name, by decide, Tryz.func101.trans (congrArg some (by kernel_rfl))⟩
 f22 := ⟨Tryz.f102.name, by decide, Tryz.func102.trans (congrArg some (by kernel_rfl))⟩
 f23 := ⟨Tryz.f103.name, by decide, Tryz.func103.trans (congrArg some (by kernel_rfl))⟩
 f24 := ⟨Tryz.f104.name, by decide, Tryz.func104.trans (congrArg some (by kernel_rfl))⟩
 f25 := ⟨Tryz.f105.name, by decide, Tryz.func105.trans (congrArg some (by kernel_rfl))⟩
 f26 := ⟨Tryz.f106.name, by decide, Tryz.func106.trans (congrArg some (by kernel_rfl))⟩
 f27 := ⟨Tryz.f107.name, by decide, Tryz.func107.trans (congrArg some (by kernel_rfl))⟩
 f28 := ⟨Tryz.f108.name, by decide, Tryz.func108.trans (congrArg some (by kernel_rfl))⟩
 f29 := ⟨Tryz.f109.name, by decide, Tryz.func109.trans (congrArg some (by kernel_rfl))⟩
 f31 := Tryz.func119.trans (congrArg some (by kernel_rfl))
 f32 := Tryz.func120.trans (congrArg some (by kernel_rfl))
 f36 := ⟨Tryz.f123.name, by decide, Tryz.func123.trans (congrArg some (by kernel_rfl))⟩
 f37 := ⟨Tryz.f124.name, by decide, Tryz.func124.trans (congrArg some (by kernel_rfl))⟩
 f38 := ⟨Tryz.f125.name, by decide, Tryz.func125.trans (congrArg some (by kernel_rfl))⟩
 f39 := ⟨Tryz.f126.name, by decide, Tryz.func126.trans (congrArg some (by kernel_rfl))⟩
 f41 := ⟨Tryz.f131.name, by decide, Tryz.func131.trans (congrArg some (by kernel_rfl))⟩
 t0 := Tryz.underlying0
 a0 := Tryz.isAgg0
 z0 := Tryz.sizeOf0
 v0 := Tryz.zeroValue0
 t3 := Tryz.underlying3
 a3 := Tryz.isAgg3
 z3 := Tryz.sizeOf3
 v3 := Tryz.zeroValue3
 t4 := Tryz.underlying4
 a4 := Tryz.isAgg4
 z4 := Tryz.sizeOf4
 v4 := Tryz.zeroValue4
 t5 := Tryz.underlying5
 a5 := Tryz.isAgg5
 z5 := Tryz.sizeOf5
 v5 := Tryz.zeroValue5
 t9 := Tryz.underlying9
 a9 := Tryz.isAgg9
 z9 := Tryz.sizeOf9
 v9 := Tryz.zeroValue9
 t26 := Tryz.underlying73
 a26 := Tryz.isAgg73
 z26 := Tryz.sizeOf73
 v26 := Tryz.zeroValue73
 t27 := Tryz.underlying73
 a27 := Tryz.isAgg73
 z27 := Tryz.sizeOf73
 v27 := Tryz.zeroValue73
 t29 := Tryz.underlying9
 a29 := Tryz.isAgg9
 z29 := Tryz.sizeOf9
 v29 := Tryz.zeroValue9
 t32 := Tryz.underlying117
 a32 := Tryz.isAgg117
 z32 := Tryz.sizeOf117
 v32 := Tryz.zeroValue117
 t35 := Tryz.underlying124
 a35 := Tryz.isAgg124
 z35 := Tryz.sizeOf124
 v35 := Tryz.zeroValue124
 t36 := Tryz.underlying125
 a36 := Tryz.isAgg125
 z36 := Tryz.sizeOf125
 v36 := Tryz.zeroValue125
 t41 := Tryz.underlying129
 a41 := Tryz.isAgg129
 z41 := Tryz.sizeOf129
 v41 := Tryz.zeroValue129
 t44 := Tryz.underlying132
 a44 := Tryz.isAgg132
 z44 := Tryz.sizeOf132
 v44 := Tryz.zeroValue132
 t46 := Tryz.underlying97
 a46 := Tryz.isAgg97
 z46 := Tryz.sizeOf97
 v46 := Tryz.zeroValue97
 t53 := Tryz.underlying145
 a53 := Tryz.isAgg145
 z53 := Tryz.sizeOf145
 v53 := Tryz.zeroValue145
 t57 := Tryz.underlying149
 a57 := Tryz.isAgg149
 z57 := Tryz.sizeOf149
 v57 := Tryz.zeroValue149
 t63 := Tryz.underlying155
 a63 := Tryz.isAgg155
 z63 := Tryz.sizeOf155
 v63 := Tryz.zeroValue155
 t64 := Tryz.underlying156
 a64 := Tryz.isAgg156
 z64 := Tryz.sizeOf156
 v64 := Tryz.zeroValue156 }
end Go.Proofs
end
section
set_option maxHeartbeats 1000000
namespace Go.Proofs
open Go.RowKit Go.Maps Go.Sort Go.Shelf
/-- slices.Sort's two contracts at this dump, at the fence that asks nothing. -/
theorem Tryz.sortsK (m : Nat) : AnyZ.SortsIn Tryz.prog Tryz.sortedL_ren Fence.wide m :=
  ⟨fun blk off cap ss W hH hblk hsz => callsIn_wide.2 (AnyM.slices_Sort_string Tryz.sortL blk off cap ss W hH hblk hsz),
   fun p cap W => callsIn_wide.2 (AnyM.slices_Sort_string_none Tryz.sortL p cap W)⟩
/-- **maps.Keys[map[string][]thermograph/api.Point,string,[]thermograph/api.Point], at whatever map, the nil one too:** a function value over ONE NEW BLOCK, which holds the map. -/
theorem Tryz.maps_Keys (mb : Option Nat) (W : World) : CallsIn Fence.wide 5 Tryz.prog 37 #[.map mb] W fun e w' => e = .returned (.func (.func 65) #[] #[.pointer (some ⟨W.heap.size, 0, none⟩)]) ∧ w' = W.alloc (.cells #[.map mb] 63) :=
  AnyZ.keys_in Tryz.keysL Fence.wide 5 trivial rfl mb W
/-- **slices.Sorted[string] AT WHAT maps.Keys[map[string][]thermograph/api.Point,string,[]thermograph/api.Point] HANDED BACK FOR A MAP THAT IS NOT nil** ('w': the world AHEAD of maps.Keys' call): A NEW SLICE THAT HOLDS THE MAP's KEYS, SORTED; nil just where it has none; nothing that lay before has turned. -/
theorem Tryz.slices_Sorted_keys {H : Type} (b nn : Nat) (D0 : DataW H) (R : Value → Option (DataW H × List MemPlace)) (w : World) (hown : w.ownsMap Tryz.prog 9 R b nn D0) (hmax : Maps.size D0 ≤ maxLen) (hbytes : Maps.size D0 * 16 ≤ 140737488355328) :
    CallsIn Fence.wide 5 Tryz.prog 36 #[.func (.func 65) #[] #[.pointer (some ⟨w.heap.size, 0, none⟩)]] (w.alloc (.cells #[.map (some b)] 63)) fun e w' => ∃ (v : Value) (ss : List (List UInt8)), e = .returned v ∧ ss.Perm (strKeys D0) ∧
      w'.ownsRow (w.alloc (.cells #[.map (some b)] 63)).heap.size 9 1 v ss.length ((ss.mergeSort (fun x y => decide (x ≤ y))).map encStr) ∧ (v = .slice none 0 0 ↔ ss = []) ∧ Below (w.alloc (.cells #[.map (some b)] 63)).heap.size (w.alloc (.cells #[.map (some b)] 63)) w' := by
  have hbl := hown.lt
  have hseq : SeqGives Fence.wide 2 Tryz.prog 65 #[.pointer (some ⟨w.heap.size, 0, none⟩)] encStr (fun ss => ss.Perm (strKeys D0)) (Maps.size D0) (w.alloc (.cells #[.map (some b)] 63)) :=
    AnyZ.keys_gives (ρ := Tryz.keysL_ren) { Tryz.keysL with } Fence.wide _ trivial rfl (by omega) w.heap.size b nn D0 _ (by simp) (by simp) (by
      obtain ⟨es, clock, hb, Ft, hs, hD⟩ := hown
      exact ⟨es, clock, (Below.heap_alloc _ _ b hbl).trans hb, Ft, hs, hD⟩)
  exact AnyZ.sorted_in Tryz.sortedL Fence.wide 5 trivial trivial trivial trivial rfl (by omega) (Tryz.sortsK _) (enters_of Tryz.func64 (by kernel_rfl) rfl) 65 #[.pointer (some ⟨w.heap.size, 0, none⟩)] trivial (enters_of Tryz.func65 (by kernel_rfl) rfl) _ _ hmax hbytes _ hseq
end Go.Proofs
end
section
namespace Go.Proofs.YtiinmagnpkfbbaaGreat
set_option linter.unusedVariables false
set_option linter.unusedSimpArgs false
open Go.RowKit Go.Proofs.YtiinmagnpkfbbaaGreatW.PrintWords Go.Proofs.YtiinmagnpkfbbaaGreatW.PrintLast Go.Proofs.YtiinmagnpkfbbaaGreatW.PrintMore Go.Proofs.YtiinmagnpkfbbaaGreat.QT Go.Sort
namespace Hm
theorem key_of {s : ByteArray} (h : XM.IsK Tryz.prog 9 Bt.ekS s) : keyOf Tryz.prog 9 (.string s) = some (.string s.data.toList) := by
 obtain ⟨kl, hk⟩ := h; have hk : keyOf Tryz.prog 9 (.string s) = some kl := hk; obtain ⟨x, h1, h2, _⟩ := Maps.keyOf_str Tryz.underlying9 hk
 have e : s.data.toList = x := by
  have h3 : Value.string s = .string ⟨x.toArray⟩ := h1; cases h3; simp
 rw [hk, h2, e]
theorem own_of {w : World} {b : Nat} {gm : Hp} (h : HMap w b gm) : ∃ D0 : DataW Unit, w.ownsMap Tryz.prog 9 (fun _ => some (.nil, [])) b gm.length D0 ∧ (strKeys D0).Perm (gm.map (·.1.data.toList)) ∧ Maps.size D0 = gm.length := by
 obtain ⟨es, clock, hb, hs, hst, hm, hk⟩ := h; have hlen : es.size = gm.length := by have := congrArg List.length hm; simpa using this
 have hrg : ∀ x ∈ es.toList, ∃ s : ByteArray, x.key = .string s ∧ WideElems.rd Tryz.prog 9 (fun _ => some ((.nil : DataW Unit), [])) x = some (.string s.data.toList, .nil) := by
  intro x hx; have h1 : XM.me x ∈ gm.map (XM.pe Bt.ekS evH) := by rw [← hm]; exact List.mem_map.2 ⟨x, hx, rfl⟩
  obtain ⟨p, hp, he⟩ := List.mem_map.1 h1; have hkey : x.key = .string p.1 := (congrArg Prod.fst he).symm; refine ⟨p.1, hkey, ?_⟩; unfold WideElems.rd; rw [hkey, key_of (hk p hp)]; rfl
 refine ⟨.map ((es.toList.map (WideElems.rg Tryz.prog 9 (fun _ => some (.nil, [])))).foldr DataW.insert []), ⟨es, clock, hb, ⟨hs, hst, fun x hx => ?_⟩, by omega, rfl⟩, ?_, ?_⟩
 ·
  obtain ⟨s, _, h2⟩ := hrg x hx; exact ⟨_, h2⟩
 ·
  have hp := WideShapes.sorted_perm (es.toList.map (WideElems.rg Tryz.prog 9 (fun _ => some ((.nil : DataW Unit), [])))); refine (hp.map _).trans ?_; rw [List.map_map]
  have e1 : es.toList.map ((fun p : Lit × DataW Unit => strOf p.1) ∘ WideElems.rg Tryz.prog 9 (fun _ => some (.nil, []))) = (es.toList.map XM.me).map (fun p => match p.1 with | .string s => s.data.toList | _ => []) := by
   rw [List.map_map]; refine List.map_congr_left (fun x hx => ?_); obtain ⟨s, h1, h2⟩ := hrg x hx; simp only [Function.comp, WideElems.rg, h2, XM.me, h1]; rfl
  rw [e1, hm, List.map_map]; exact List.Perm.of_eq (List.map_congr_left (fun p _ => rfl))
 ·
  rw [Maps.size_eq, (WideShapes.sorted_perm _).length_eq]; simp [hlen]
def leN (a b : ByteArray) : Prop := a.data.toList ≤ b.data.toList
/-- The sorted keys of a map with names as keys. -/
theorem keys_calls (w : World) (mb : Nat) (gm : Hp) (h : HMap w mb gm) (hl : gm.length ≤ 1000000) :
  Calls Tryz.prog 36 #[.func (.func 65) #[] #[.pointer (some ⟨w.heap.size, 0, none⟩)]] (w.alloc (.cells #[.map (some mb)] 63)) fun e w' => ∃ (v : Value) (ns : List ByteArray), e = .returned v ∧ ns.Perm (gm.map (·.1)) ∧ ns.Pairwise leN ∧
   Kd.R Kd.string 9 w' w.heap.size (fun _ => True) v ns ∧ Below w.heap.size w w' := by
 obtain ⟨D0, h1, h2, h3⟩ := own_of h; refine (callsIn_wide.1 (Tryz.slices_Sorted_keys (H := Unit) mb gm.length D0 _ w h1 (by rw [h3]; unfold maxLen; omega) (by rw [h3]; omega))).mono ?_; rintro e w' ⟨v, ss, rfl, hs, hr, hn, hb⟩; have hperm := List.mergeSort_perm ss (fun x y => decide (x ≤ y))
 have hpw : (ss.mergeSort (fun x y => decide (x ≤ y))).Pairwise (fun a b => a ≤ b) := by
  have := List.pairwise_mergeSort (le := fun x y : List UInt8 => decide (x ≤ y)) (fun a b c h1 h2 => by simp only [decide_eq_true_eq] at *; exact List.le_trans h1 h2) (fun a b => by simp only [Bool.or_eq_true, decide_eq_true_eq]; exact List.le_total a b) ss; exact this.imp (fun h => of_decide_eq_true h)
 have hsz : w.heap.size ≤ (w.alloc (.cells #[.map (some mb)] 63)).heap.size := by simp
 refine ⟨v, (ss.mergeSort (fun x y => decide (x ≤ y))).map (fun l => ⟨l.toArray⟩), rfl, ?_, ?_, ?_, below_then (below_alloc (Below.refl _ _) _) hsz hb⟩
 ·
  have hp2 := (hperm.trans (hs.trans h2)).map (fun l : List UInt8 => (⟨l.toArray⟩ : ByteArray)); rw [List.map_map] at hp2; refine hp2.trans (List.Perm.of_eq (List.map_congr_left (fun p _ => ?_))); simp
 ·
  rw [List.pairwise_map]; exact hpw.imp (fun h => by unfold leN; simpa using h)
 ·
  refine Kd.R_lower (Kd.R_of_own (h1 := fun _ => rfl) ?_ (fun _ _ => trivial)) hsz; have hln : ((ss.mergeSort (fun x y => decide (x ≤ y))).map (fun l : List UInt8 => (⟨l.toArray⟩ : ByteArray))).length = ss.length := by rw [List.length_map, hperm.length_eq]
  rw [hln]
  have e1 : encs Value.string ((ss.mergeSort (fun x y => decide (x ≤ y))).map (fun l : List UInt8 => (⟨l.toArray⟩ : ByteArray))) = (ss.mergeSort (fun x y => decide (x ≤ y))).map encStr := by
   unfold encs; rw [List.map_map]; exact List.map_congr_left (fun l _ => rfl)
  rw [e1]; exact hr
end Hm
end Go.Proofs.YtiinmagnpkfbbaaGreat
end
section
set_option maxHeartbeats 8000000
set_option maxRecDepth 100000
namespace Go.Proofs.YtiinmagnpkfbbaaGreat.QC
open Go.Proofs.YtiinmagnpkfbbaaGreat.QT
open Go.RowKit Go.Proofs.YtiinmagnpkfbbaaGreatW.PrintWords Go.Proofs.YtiinmagnpkfbbaaGreatW.PrintLast Go.Proofs.YtiinmagnpkfbbaaGreatW.PrintMore
attribute [local go_sem] max2_int min2_int max_two min_two max_three min_three max_four min_four   -- for this text's walks alone
set_option linter.unusedVariables false
set_option linter.unusedSimpArgs false
mutual
def api_Point_66.l0 : Nat → List (List (S99)) → Int → List (List (S99)) → Int → Int → Option ((List (S99)))
 | 0, _, _, _, _, _ => none
 | k + 1, x0, x3, x9, x10, x11 => if x11 < x10 then (if 0 ≤ x11 then (if x11 < (x9.length : Int) then (if (wrap64 (x3 + ((rd_L8 x9 x11).length : Int))) < 0 then (none) else (api_Point_66.l0 k x0 (wrap64 (x3 + ((rd_L8 x9 x11).length : Int))) x9 x10 (wrap64 (x11 + 1)))) else (none)) else (none)) else (api_Point_66.l1 k (([] : List (S99))) x0 (x0.length : Int) 0)
def api_Point_66.l1 : Nat → List (S99) → List (List (S99)) → Int → Int → Option ((List (S99)))
 | 0, _, _, _, _ => none
 | k + 1, x6, x25, x26, x27 => if x27 < x26 then (if 0 ≤ x27 then (if x27 < (x25.length : Int) then (if x6.length + (rd_L8 x25 x27).length < 5864062014805 then (api_Point_66.l1 k (x6 ++ (rd_L8 x25 x27)) x25 x26 (wrap64 (x27 + 1))) else (none)) else (none)) else (none)) else (some x6)
end
def api_Point_66.f (k : Nat) (l0 : List (List (S99))) : Option ((List (S99))) := api_Point_66.l0 k l0 0 l0 (l0.length : Int) 0
theorem sum_take_le (l : List (List (S99))) : ∀ n : Nat, ((l.take n).map List.length).sum ≤ (l.map List.length).sum := by
 intro n; have e : l = l.take n ++ l.drop n := (List.take_append_drop n l).symm; have e2 := congrArg (fun z => (List.map List.length z).sum) e; simp only [List.map_append, List.sum_append] at e2; omega
theorem sum_take_succ (l : List (List (S99))) (i : Int) (h0 : 0 ≤ i) (h1 : i < (l.length : Int)) : ((l.take (i + 1).toNat).map List.length).sum = ((l.take i.toNat).map List.length).sum + (rd_L8 l i).length := by
 have h2 : i.toNat < l.length := by omega
 rw [show (i + 1).toNat = i.toNat + 1 from by omega, List.take_add_one, List.getElem?_eq_getElem h2]; simp only [Option.toList_some, List.map_append, List.map_cons, List.map_nil, List.sum_append, List.sum_cons, List.sum_nil]; unfold rd_L8; rw [List.getD_eq_getElem?_getD, List.getElem?_eq_getElem h2]; simp
theorem api_Point_66.calls (k : Nat) (A0 : Option Addr) (c0 : Nat) (l0 : List (List (S99))) (r : List (S99)) (w : World) (hr0 : Kd.C (Kd.slice 99 k99) w A0 l0.length l0) (hc0 : l0.length ≤ c0) (hS : (l0.map List.length).sum ≤ 1099511627776) (h : api_Point_66.f k l0 = some r) :
  Calls Tryz.prog 66 #[.slice A0 l0.length c0] w fun e w' => ∃ v0_ : Value, e = .returned (v0_) ∧ Kd.R k99 99 w' w.heap.size (fun _ => True) v0_ r ∧ Below w.heap.size w w' := by
 have HR0 := Aside0.mk hr0; clear hr0 hc0; have HS := Aside0.mk hS; clear hS; have HB := Aside0.mk (Below.refl w.heap.size w); have H : (api_Point_66.l0 k l0 0 l0 (l0.length : Int) 0) = some r := h; clear h; have H' := Aside0.mk H; clear H; go_enter Tryz.func66, Tryz.ntmps66
 go_wp2; go_loopg [3, 11] k (fun kq v3 v11 w' => ∃ (x3_1 : Int) (x11_1 : Int), v3 = .int .i64 x3_1 ∧ v11 = .int .i64 x11_1 ∧ Aside0 (api_Point_66.l0 kq l0 x3_1 l0 (l0.length : Int) x11_1 = some r) ∧ Aside0 (kq ≤ k) ∧ Aside0 (Below w.heap.size w w') ∧ Aside0 (0 ≤ x11_1 ∧ x11_1 ≤ (l0.length : Int) ∧ x3_1 = ((((l0.take x11_1.toNat).map List.length).sum : Nat) : Int)))
 case atStart => exact ⟨(0), (0), (by rfl), (by rfl), H', ⟨Nat.le_refl _⟩, ⟨HB.out⟩, ⟨⟨by omega, by omega, by simp⟩⟩⟩
 case round =>
  clear H'; obtain ⟨x3_1, x11_1, rfl, rfl, HA, HK1, HB, HZ⟩ := hrel
  cases gk with
  | zero => exact absurd HA.out (by simp [api_Point_66.l0])
  | succ k1 =>
   have H := HA.out; clear HA; simp only [api_Point_66.l0] at H
   by_cases c2 : x11_1 < (l0.length : Int)
   ·
    rw [if_pos c2] at H; have c2b0 : decide (x11_1 < (l0.length : Int)) = true := decide_eq_true c2; clear c2
    by_cases c3 : 0 ≤ x11_1
    ·
     rw [if_pos c3] at H; have c3b0 : decide (0 ≤ x11_1) = true := decide_eq_true c3; clear c3
     by_cases c4 : x11_1 < (l0.length : Int)
     ·
      rw [if_pos c4] at H; have c4b0 : decide (x11_1 < (l0.length : Int)) = true := decide_eq_true c4; clear c4
      by_cases c5 : (wrap64 (x3_1 + ((rd_L8 l0 x11_1).length : Int))) < 0
      ·
       rw [if_pos c5] at H; exact absurd H (by simp)
      ·
       rw [if_neg c5] at H; have c5b0 : decide ((wrap64 (x3_1 + ((rd_L8 l0 x11_1).length : Int))) < 0) = false := decide_eq_false c5; clear c5; have H' := Aside0.mk H; clear H; have p101 : 0 ≤ (x11_1 : Int) := of_decide_eq_true (by with_reducible assumption); have q101 : x11_1 < (l0.length : Int) := of_decide_eq_true (by with_reducible assumption); obtain ⟨ad101, A101_0, c101_0, e101, hx101_0, hl101_0, hi101_0⟩ := at_L8 HR0.out x11_1 p101 q101; cases e101; replace hx101_0 := (HB.out.cell (World.block_lt_of_cell? w _ hx101_0)).trans hx101_0; clear hi101_0 hl101_0; replace p101 := eq_true p101; replace q101 := eq_true q101; go_wp2; go_roundg k1
       case measure => have := HK1.out; omega
       case rel => exact ⟨(wrap64 (x3_1 + ((rd_L8 l0 x11_1).length : Int))), (wrap64 (x11_1 + 1)), (by rfl), (by rfl), H', ⟨by have := HK1.out; omega⟩, ⟨HB.out⟩, ⟨by have h1_ := HZ.out; have h2_ := HS.out; have h3_ : x11_1 < (l0.length : Int) := of_decide_eq_true (by with_reducible assumption); have h4_ := sum_take_succ l0 x11_1 h1_.1 h3_; have h5_ := sum_take_le l0 (x11_1 + 1).toNat; have h6_ := Kd.C_max HR0.out; rw [show wrap64 (x11_1 + 1) = x11_1 + 1 from by unfold wrap64; omega, show wrap64 (x3_1 + ((rd_L8 l0 x11_1).length : Int)) = x3_1 + ((rd_L8 l0 x11_1).length : Int) from by unfold wrap64; omega]; exact ⟨by omega, by omega, by omega⟩⟩⟩
     ·
      rw [if_neg c4] at H; exact absurd H (by simp)
    ·
     rw [if_neg c3] at H; exact absurd H (by simp)
   ·
    rw [if_neg c2] at H; have c2b0 : decide (x11_1 < (l0.length : Int)) = false := decide_eq_false c2; clear c2
    obtain ⟨y102, hy102⟩ : ∃ y_ : List (S99), y_ = (([] : List (S99))) := ⟨_, rfl⟩
    replace H : (api_Point_66.l1 k1 y102 l0 (l0.length : Int) 0) = some r := by (rw [hy102]; with_reducible exact H)
    have Ny102 := Aside0.mk hy102; clear hy102; have H' := Aside0.mk H; clear H; have hz_ : 0 ≤ x3_1 ∧ x3_1 ≤ 1099511627776 := by have h1_ := HZ.out; have h2_ := HS.out; have h5_ := sum_take_le l0 x11_1.toNat; omega
    have HG := Aside0.mk (fun w => grow_nil x3_1 hz_.1 hz_.2 w); clear hz_; go_wp2_with fail
    with_reducible refine (HG.out _).mono ?_
    rintro e w6 ⟨v6_, rfl, hR6, hB6⟩; have HO104 := Aside0.mk (show Kd.R k99 99 w6 w.heap.size (fun _ => True) v6_ y102 from by rw [Ny102.out]; exact Kd.R_lower hR6 HB.out.size); have HB' := Aside0.mk (below_then HB.out HB.out.size hB6); clear HB hR6 hB6; have HB := HB'; clear HB'; go_wp2; try go_frame
    go_loopg [6, 27] k1 (fun kq v6 v27 w' => ∃ (x6_2 : List (S99)) (x27_2 : Int), v27 = .int .i64 x27_2 ∧ Aside0 (api_Point_66.l1 kq x6_2 l0 (l0.length : Int) x27_2 = some r) ∧ Aside0 (kq ≤ k1) ∧ Aside0 (Kd.R k99 99 w' w.heap.size (fun _ => True) v6 x6_2) ∧ Aside0 (Below w.heap.size w w'))
    case atStart => exact ⟨(y102), (0), (by rfl), H', ⟨Nat.le_refl _⟩, ⟨HO104.out⟩, ⟨HB.out⟩⟩
    case round =>
     clear H'; try clear c2b0
     obtain ⟨x6_2, x27_2, rfl, HA, HK2, HO_6, HB⟩ := hrel
     cases gk with
     | zero => exact absurd HA.out (by simp [api_Point_66.l1])
     | succ k2 =>
      have H := HA.out; clear HA; simp only [api_Point_66.l1] at H
      by_cases c8 : x27_2 < (l0.length : Int)
      ·
       rw [if_pos c8] at H; have c8b0 : decide (x27_2 < (l0.length : Int)) = true := decide_eq_true c8; clear c8
       by_cases c9 : 0 ≤ x27_2
       ·
        rw [if_pos c9] at H; have c9b0 : decide (0 ≤ x27_2) = true := decide_eq_true c9; clear c9
        by_cases c10 : x27_2 < (l0.length : Int)
        ·
         rw [if_pos c10] at H; have c10b0 : decide (x27_2 < (l0.length : Int)) = true := decide_eq_true c10; clear c10
         by_cases c11 : x6_2.length + (rd_L8 l0 x27_2).length < 5864062014805
         ·
          rw [if_pos c11] at H; have LMc11 := Aside0.mk c11; clear c11
          obtain ⟨y106, hy106⟩ : ∃ y_ : List (S99), y_ = (x6_2 ++ (rd_L8 l0 x27_2)) := ⟨_, rfl⟩
          replace H : (api_Point_66.l1 k2 y106 l0 (l0.length : Int) (wrap64 (x27_2 + 1))) = some r := by (rw [hy106]; with_reducible exact H)
          have Ny106 := Aside0.mk hy106; clear hy106; have H' := Aside0.mk H; clear H; have p105 : 0 ≤ (x27_2 : Int) := of_decide_eq_true (by with_reducible assumption); have q105 : x27_2 < (l0.length : Int) := of_decide_eq_true (by with_reducible assumption); obtain ⟨ad105, A105_0, c105_0, e105, hx105_0, hl105_0, hi105_0⟩ := at_L8 HR0.out x27_2 p105 q105; cases e105; replace hx105_0 := (HB.out.cell (World.block_lt_of_cell? w _ hx105_0)).trans hx105_0; have HR105_0 := Aside0.mk hi105_0; clear hi105_0 hl105_0; replace p105 := eq_true p105; replace q105 := eq_true q105
          go_wp2_with (((with_reducible refine gate_builtin (b := .append) (xs := #[.tmp 31, .tmp 32]) rfl ?_); at_builtin; refine Kd.R_append_rows k99 (w0 := w) w.heap.size rfl (.tmp 31) (.tmp 32) 53 99 (.agg #[(.int .i64 0), (.int .u64 0), (.int .u64 0)]) 24 rfl Tryz.underlying53 info99 rfl (by decide) (by omega) u6 x6_2 (rd_L8 l0 x27_2) _ _ _ (fun _ => True) (fun _ => False) rfl rfl ?aO ?aR (fun _ _ h => h) (fun _ h => h.elim) ?aF ?aB ?aS ?aL ?_; (case aR => repeat (exact (Kd.C_below HR105_0.out HB.out))); (case aB => exact HB.out); (case aF => exact (fun _ _ => trivial)); (case aO => exact HO_6.out); (case aS => exact (below_size HB.out)); (case aL => have := LMc11.out; omega); intro v107 w12 ho hb hg hat; rw [← Ny106.out] at ho; have n0_ := Aside0.mk (hb); have n1_ := Aside0.mk (ho); clear HB; clear HO_6; have HB := n0_; have HO108 := n1_; clear n0_ n1_; clear ho hb hg hat))
          go_roundg k2
          case measure => have := HK1.out; have := HK2.out; omega
          case rel => exact ⟨(y106), (wrap64 (x27_2 + 1)), (by rfl), H', ⟨by have := HK1.out; have := HK2.out; omega⟩, ⟨HO108.out⟩, ⟨HB.out⟩⟩
         ·
          rw [if_neg c11] at H; exact absurd H (by simp)
        ·
         rw [if_neg c10] at H; exact absurd H (by simp)
       ·
        rw [if_neg c9] at H; exact absurd H (by simp)
      ·
       rw [if_neg c8] at H; have c8b0 : decide (x27_2 < (l0.length : Int)) = false := decide_eq_false c8; clear c8; obtain rfl := Option.some.inj H; go_wp2; go_ret; exact ⟨_, by rfl, by exact HO_6.out, by repeat ((with_reducible exact HB.out))⟩
end Go.Proofs.YtiinmagnpkfbbaaGreat.QC
end
