/- slices.CompactFunc at Points by times: of each run of equal times the first. Plain law. -/
import Derived.Test.YtmocpglnoehknaaQX2
namespace Go.Proofs.Ytmocpglnoehknaa
set_option linter.unusedVariables false
set_option linter.unusedSimpArgs false
open Go.RowKit Go.Proofs.YtmocpglnoehknaaW.PrintWords Go.Proofs.Ytmocpglnoehknaa.QT
def compFrom (p : S24) : List S24 → List S24
  | [] => []
  | y :: r => if y.f0 = p.f0 then compFrom y r else y :: compFrom y r
def compT : List S24 → List S24
  | [] => []
  | x :: r => x :: compFrom x r
theorem compFrom_snoc (q y : S24) : ∀ (l : List S24) (p : S24), compFrom p (l ++ [q] ++ [y]) = compFrom p (l ++ [q]) ++ (if y.f0 = q.f0 then [] else [y])
  | [], p => by
    simp only [List.nil_append, List.cons_append, compFrom]
    split <;> split <;> simp
  | x :: l, p => by
    have ih := compFrom_snoc q y l x
    simp only [List.cons_append, compFrom]
    split
    · exact ih
    · rw [ih]; rfl
theorem compT_snoc (q y : S24) : ∀ (l : List S24), compT (l ++ [q] ++ [y]) = compT (l ++ [q]) ++ (if y.f0 = q.f0 then [] else [y])
  | [] => by
    simp only [List.nil_append, List.cons_append, compT, compFrom]
    try (split <;> simp)
  | x :: l => by
    simp only [List.cons_append, compT]
    rw [compFrom_snoc]
theorem c64 {x : Int} (h : -9223372036854775808 ≤ x) (h' : x < 9223372036854775808) : wrap64 x = x := by unfold wrap64; omega
theorem rd_mid (l P S : List S24) (x : S24) (i : Int) (hl : l = P ++ x :: S) (hi : i = P.length) : rd_T24 l i = x := by
  subst hl; subst hi; unfold rd_T24; simp
theorem comp_l1 (n : Nat) (hn : n ≤ 1099511627776) : ∀ (R x0 y B A' : List S24) (q : S24) (kk : Nat) (l A : List S24), l = A ++ B ++ R → y = B ++ R → B ≠ [] → A ++ B = A' ++ [q] → (∃ B', B = B' ++ [q]) → x0.length = n → l.length = n → kk = (compT (A ++ B)).length → kk < n → x0.take kk = compT (A ++ B) → kk < (A ++ B).length →
    ∃ r2, Ev (fun k => QX.api_Point.l1 k x0 kk y B.length) (((compT l).length : Int), r2) ∧ r2.take (compT l).length = compT l
  | [], x0, y, B, A', q, kk, l, A, hl, hy, hB, hAB, hBq, hx, hln, hk, hkn, ht, hkl => by
    simp only [List.append_nil] at hl hy
    rw [hl, ← hk]
    refine ⟨x0, Ev.step (f := fun _ => some ((kk : Int), x0)) (fun k => ?_) (Ev.now _), ht⟩
    rw [QX.api_Point.l1, hy, if_neg (by omega), if_pos (by omega), if_pos (by omega)]
  | u :: R, x0, y, B, A', q, kk, l, A, hl, hy, hB, hAB, ⟨B', hB'⟩, hx, hln, hk, hkn, ht, hkl => by
    have hBl : 1 ≤ B.length := by rw [hB']; simp
    have hyl : y.length = B.length + R.length + 1 := by rw [hy]; simp; omega
    have hl2 : l.length = A.length + B.length + R.length + 1 := by rw [hl]; simp; omega
    have e1 : rd_T24 y (B.length : Int) = u := rd_mid y B R u _ hy rfl
    have e2 : rd_T24 y ((B.length : Int) - 1) = q := rd_mid y B' (u :: R) q _ (by rw [hy, hB']; simp) (by rw [hB']; simp)
    have hstep : ∀ k, QX.api_Point.l1 (k + 1) x0 kk y B.length = if (u.f0 == q.f0) = true then QX.api_Point.l1 k x0 kk y ((B.length + 1 : Nat) : Int) else QX.api_Point.l1 k (x0.set kk u) ((kk + 1 : Nat) : Int) y ((B.length + 1 : Nat) : Int) := by
      intro k
      rw [QX.api_Point.l1, if_pos (by omega), if_pos (by omega), c64 (x := (B.length : Int) - 1) (by omega) (by omega), if_pos (by omega), if_pos (by omega), e1, e2, c64 (x := (B.length : Int) + 1) (by omega) (by omega), c64 (x := (kk : Int) + 1) (by omega) (by omega), if_pos (by omega), if_pos (by omega)]
      rfl
    have hsn := compT_snoc q u A'
    rw [← hAB] at hsn
    have hlen : (A ++ (B ++ [u])).length = A.length + B.length + 1 := by simp; omega
    rw [List.length_append] at hkl
    by_cases he : u.f0 = q.f0
    · rw [if_pos he, List.append_nil, List.append_assoc] at hsn
      obtain ⟨r2, hev, hr⟩ := comp_l1 n hn R x0 y (B ++ [u]) (A ++ B) u kk l A (by rw [hl]; simp) (by rw [hy]; simp) (by simp) (by simp) ⟨B, rfl⟩ hx hln (by rw [hsn]; exact hk) hkn (by rw [hsn]; exact ht) (by omega)
      rw [List.length_append, List.length_singleton] at hev
      exact ⟨r2, Ev.step hstep (Ev.congr (fun k => if_pos (by simp [he])) hev), hr⟩
    · rw [if_neg he, List.append_assoc] at hsn
      obtain ⟨r2, hev, hr⟩ := comp_l1 n hn R (x0.set kk u) y (B ++ [u]) (A ++ B) u (kk + 1) l A (by rw [hl]; simp) (by rw [hy]; simp) (by simp) (by simp) ⟨B, rfl⟩ (by simpa using hx) hln (by rw [hsn, List.length_append, ← hk]; rfl) (by omega) (by
        rw [hsn, ← ht, List.take_add_one, List.take_set_of_le (Nat.le_refl kk), List.getElem?_set_self (by omega)]; rfl) (by omega)
      rw [List.length_append, List.length_singleton] at hev
      exact ⟨r2, Ev.step hstep (Ev.congr (fun k => if_neg (by simp [he])) hev), hr⟩
theorem comp_l0 (n : Nat) (hn : n ≤ 1099511627776) : ∀ (R A' : List S24) (p : S24) (l : List S24), l = A' ++ [p] ++ R → l.length = n → compT (A' ++ [p]) = A' ++ [p] →
    ∃ r1 r2, Ev (fun k => QX.api_Point.l0 k l ((A'.length + 1 : Nat) : Int)) (r1, r2) ∧ (if r1 = -1 then r2 else r2.take r1.toNat) = compT l
  | [], A', p, l, hl, hln, hc => by
    simp only [List.append_nil] at hl
    refine ⟨-1, l, Ev.step (f := fun _ => some (-1, l)) (fun k => ?_) (Ev.now _), ?_⟩
    · have : l.length = A'.length + 1 := by rw [hl]; simp
      rw [QX.api_Point.l0, if_neg (by omega)]
    · rw [if_pos rfl, hl, hc]
  | u :: R, A', p, l, hl, hln, hc => by
    have hl2 : l.length = A'.length + R.length + 2 := by rw [hl]; simp; omega
    have e1 : rd_T24 l ((A'.length + 1 : Nat) : Int) = u := rd_mid l (A' ++ [p]) R u _ (by rw [hl]) (by simp)
    have e2 : rd_T24 l (((A'.length + 1 : Nat) : Int) - 1) = p := rd_mid l A' (u :: R) p _ (by rw [hl]; simp) (by omega)
    have hd : l.drop (((A'.length + 1 : Nat) : Int)).toNat = u :: R := by
      rw [hl, Int.toNat_natCast]
      exact List.drop_left' (by simp)
    have hstep : ∀ k, QX.api_Point.l0 (k + 1) l ((A'.length + 1 : Nat) : Int) = if (u.f0 == p.f0) = true then QX.api_Point.l1 k l ((A'.length + 1 : Nat) : Int) (u :: R) 1 else QX.api_Point.l0 k l ((A'.length + 1 + 1 : Nat) : Int) := by
      intro k
      rw [QX.api_Point.l0, if_pos (by omega), if_pos (by omega), c64 (x := ((A'.length + 1 : Nat) : Int) - 1) (by omega) (by omega), if_pos (by omega), if_pos (by omega), e1, e2, c64 (x := ((A'.length + 1 : Nat) : Int) + 1) (by omega) (by omega), if_pos (by omega), hd]
      rfl
    have hsn := compT_snoc p u A'
    by_cases he : u.f0 = p.f0
    · rw [if_pos he, List.append_nil, hc] at hsn
      obtain ⟨r2, hev, hr⟩ := comp_l1 n hn R l (u :: R) [u] (A' ++ [p]) u (A'.length + 1) l (A' ++ [p]) (by rw [hl]; simp) rfl (by simp) rfl ⟨[], rfl⟩ hln hln (by rw [hsn]; simp) (by omega) (by
        rw [hsn, hl]
        exact List.take_left' (by simp)) (by simp)
      refine ⟨_, r2, Ev.step hstep (Ev.congr (fun k => if_pos (by simp [he])) hev), ?_⟩
      rw [if_neg (by omega), Int.toNat_natCast]
      exact hr
    · rw [if_neg he, hc] at hsn
      obtain ⟨r1, r2, hev, hr⟩ := comp_l0 n hn R (A' ++ [p]) u l (by rw [hl]; simp) hln hsn
      rw [List.length_append, List.length_singleton] at hev
      exact ⟨r1, r2, Ev.step hstep (Ev.congr (fun k => if_neg (by simp [he])) hev), hr⟩
/-- CompactFunc by times. -/
theorem compact_ev (l : List S24) (hn : l.length ≤ 1099511627776) : ∃ r1 r2, Ev (fun k => QX.api_Point.f k l) (r1, r2) ∧ (if r1 = -1 then r2 else r2.take r1.toNat) = compT l := by
  unfold QX.api_Point.f
  match l, hn with
  | [], hn => exact ⟨-1, [], Ev.now _, rfl⟩
  | [x], hn => exact ⟨-1, [x], Ev.now _, rfl⟩
  | x :: y :: r, hn =>
    obtain ⟨r1, r2, hev, hr⟩ := comp_l0 _ hn (y :: r) [] x (x :: y :: r) rfl rfl rfl
    exact ⟨r1, r2, Ev.congr (fun k => if_neg (by simp; omega)) hev, hr⟩
end Go.Proofs.Ytmocpglnoehknaa
