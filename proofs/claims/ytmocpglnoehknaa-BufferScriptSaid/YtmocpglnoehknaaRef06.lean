/- What the printed forms of merge.Cut and of thermographref06's Cut, half, View answer. -/
import Derived.Test.YtmocpglnoehknaaQT0
import Derived.Test.YtmocpglnoehknaaQT1
import Derived.Test.YtmocpglnoehknaaQT2
import Derived.Test.YtmocpglnoehknaaQT3
import Derived.Test.YtmocpglnoehknaaQT4
import Derived.Test.YtmocpglnoehknaaView
namespace Go.Proofs.Ytmocpglnoehknaa
set_option linter.unusedVariables false
set_option linter.unusedSimpArgs false
open Go.RowKit Go.Proofs.YtmocpglnoehknaaW.PrintWords Go.Proofs.Ytmocpglnoehknaa.QT
namespace Vw
def cut (l : List Pt) (a b : Int) : List Pt := l.filter (fun p => decide (a ≤ p.f0) && decide (p.f0 < b))
theorem rd_mid' (P S : List Pt) (x : Pt) (i : Int) (hi : i = P.length) : rd_T24 (P ++ x :: S) i = x := by subst hi; unfold rd_T24; simp
theorem w1 (n : Nat) (h : n ≤ 1099511627776) : wrap64 ((n : Int) + 1) = ((n + 1 : Nat) : Int) := by unfold wrap64; omega
theorem cut_ev0 (a b : Int) : ∀ (R P acc l : List Pt), l = P ++ R → acc.length + R.length ≤ l.length → l.length ≤ 1099511627776 →
    Ev (fun k => merge_Cut.l0 k acc l l.length (P.length : Int) a b) (acc ++ cut R a b)
  | [], P, acc, l, hl, ha, hn => by
    simp only [List.append_nil] at hl
    have hln : l.length = P.length := by rw [hl]
    refine Ev.step (f := fun _ => some acc) (fun k => ?_) (by simpa [cut] using Ev.now acc)
    rw [merge_Cut.l0, if_neg (by omega)]
  | x :: R, P, acc, l, hl, ha, hn => by
    have e : rd_T24 l (P.length : Int) = x := by rw [hl]; exact rd_mid' P R x _ rfl
    have hln : l.length = P.length + R.length + 1 := by rw [hl]; simp; omega
    simp only [List.length_cons] at ha
    have step : ∀ k, merge_Cut.l0 (k + 1) acc l l.length (P.length : Int) a b = if a ≤ x.f0 then (if x.f0 < b then merge_Cut.l0 k (acc ++ [x]) l l.length ((P.length + 1 : Nat) : Int) a b else merge_Cut.l0 k acc l l.length ((P.length + 1 : Nat) : Int) a b) else merge_Cut.l0 k acc l l.length ((P.length + 1 : Nat) : Int) a b := by
      intro k
      have hq : acc.length < 5864062014805 := by omega
      rw [merge_Cut.l0, if_pos (by omega), if_pos (by omega), if_pos (by omega), e, w1 _ (by omega)]
      simp only [hq, if_true]
    by_cases h1 : a ≤ x.f0 ∧ x.f0 < b
    · have ih := cut_ev0 a b R (P ++ [x]) (acc ++ [x]) l (by rw [hl]; simp) (by simp; omega) hn
      rw [List.length_append, List.length_singleton] at ih
      have ec : cut (x :: R) a b = x :: cut R a b := by unfold cut; rw [List.filter_cons, if_pos (by simp [h1])]
      rw [ec, show acc ++ x :: cut R a b = acc ++ [x] ++ cut R a b from by simp]
      exact Ev.step (fun k => by rw [step k, if_pos h1.1, if_pos h1.2]) ih
    · have ih := cut_ev0 a b R (P ++ [x]) acc l (by rw [hl]; simp) (by omega) hn
      rw [List.length_append, List.length_singleton] at ih
      have ec : cut (x :: R) a b = cut R a b := by unfold cut; rw [List.filter_cons, if_neg (by simpa using h1)]
      rw [ec]
      refine Ev.step (fun k => ?_) ih
      rw [step k]
      by_cases h2 : a ≤ x.f0
      · rw [if_pos h2, if_neg (fun h3 => h1 ⟨h2, h3⟩)]
      · rw [if_neg h2]
/-- merge.Cut. -/
theorem cut_ev (l : List Pt) (a b : Int) (hn : l.length ≤ 1099511627776) : Ev (fun k => merge_Cut.f k l a b) (cut l a b) := cut_ev0 a b l [] [] l rfl (by simp) hn
theorem rcut_ev0 (a b : Int) : ∀ (R P acc l : List Pt), l = P ++ R → acc.length + R.length ≤ l.length → l.length ≤ 1099511627776 →
    Ev (fun k => thermographref06_Cut.l0 k l acc (P.length : Int) a b) (acc ++ cut R a b)
  | [], P, acc, l, hl, ha, hn => by
    simp only [List.append_nil] at hl
    have hln : l.length = P.length := by rw [hl]
    refine Ev.step (f := fun _ => some acc) (fun k => ?_) (by simpa [cut] using Ev.now acc)
    rw [thermographref06_Cut.l0, if_neg (by omega)]
  | x :: R, P, acc, l, hl, ha, hn => by
    have e : rd_T24 l (P.length : Int) = x := by rw [hl]; exact rd_mid' P R x _ rfl
    have hln : l.length = P.length + R.length + 1 := by rw [hl]; simp; omega
    simp only [List.length_cons] at ha
    have step : ∀ k, thermographref06_Cut.l0 (k + 1) l acc (P.length : Int) a b = if a ≤ x.f0 then (if x.f0 < b then thermographref06_Cut.l0 k l (acc ++ [x]) ((P.length + 1 : Nat) : Int) a b else thermographref06_Cut.l0 k l acc ((P.length + 1 : Nat) : Int) a b) else thermographref06_Cut.l0 k l acc ((P.length + 1 : Nat) : Int) a b := by
      intro k
      have hq : acc.length < 5864062014805 := by omega
      rw [thermographref06_Cut.l0, if_pos (by omega), if_pos (by omega), e, w1 _ (by omega)]
      simp only [hq, if_true, ge_iff_le]
    by_cases h1 : a ≤ x.f0 ∧ x.f0 < b
    · have ih := rcut_ev0 a b R (P ++ [x]) (acc ++ [x]) l (by rw [hl]; simp) (by simp; omega) hn
      rw [List.length_append, List.length_singleton] at ih
      have ec : cut (x :: R) a b = x :: cut R a b := by unfold cut; rw [List.filter_cons, if_pos (by simp [h1])]
      rw [ec, show acc ++ x :: cut R a b = acc ++ [x] ++ cut R a b from by simp]
      exact Ev.step (fun k => by rw [step k, if_pos h1.1, if_pos h1.2]) ih
    · have ih := rcut_ev0 a b R (P ++ [x]) acc l (by rw [hl]; simp) (by omega) hn
      rw [List.length_append, List.length_singleton] at ih
      have ec : cut (x :: R) a b = cut R a b := by unfold cut; rw [List.filter_cons, if_neg (by simpa using h1)]
      rw [ec]
      refine Ev.step (fun k => ?_) ih
      rw [step k]
      by_cases h2 : a ≤ x.f0
      · rw [if_pos h2, if_neg (fun h3 => h1 ⟨h2, h3⟩)]
      · rw [if_neg h2]
/-- thermographref06.Cut. -/
theorem rcut_ev (l : List Pt) (a b : Int) (hn : l.length ≤ 1099511627776) : Ev (fun k => thermographref06_Cut.f k l a b) (cut l a b) := rcut_ev0 a b l [] [] l rfl (by simp) hn
/-- Two views put together. -/
def hf : List Pt → List Pt → List Pt
  | [], B => B
  | A, [] => A
  | a :: A, b :: B => if a.f0 < b.f0 then a :: hf A (b :: B) else if b.f0 < a.f0 then b :: hf (a :: A) B else (if winsP b a = true then b else a) :: hf A B
termination_by A B => A.length + B.length
theorem hf_nil (A : List Pt) : hf A [] = A := by cases A <;> simp [hf]
theorem rwins (a b : Pt) : thermographref06_Wins.f a.f0 a.f1 a.f2 b.f0 b.f1 b.f2 = some (winsP a b) := by
  unfold thermographref06_Wins.f winsP
  by_cases h1 : a.f2 > b.f2
  · rw [if_pos h1, decide_eq_true h1]; rfl
  · rw [if_neg h1, decide_eq_false h1]
    by_cases h2 : a.f2 = b.f2
    · rw [if_pos h2, h2]; simp
    · rw [if_neg h2]; simp [h2]
theorem half_ev0 (n : Nat) (hn : n ≤ 1099511627776) : ∀ (d : Nat) (A B A' B' acc x0 x1 : List Pt), A.length + B.length = d → x0 = A' ++ A → x1 = B' ++ B → acc.length + A.length + B.length ≤ n → x0.length + x1.length ≤ n →
    Ev (fun k => thermographref06_half.l0 k x0 x1 acc (A'.length : Int) (B'.length : Int)) (acc ++ hf A B) := by
  intro d
  induction d using Nat.strongRecOn with
  | _ d ih =>
    intro A B A' B' acc x0 x1 hd h0 h1 ha hl
    have l0 : x0.length = A'.length + A.length := by rw [h0]; simp
    have l1 : x1.length = B'.length + B.length := by rw [h1]; simp
    match A, B with
    | [], [] =>
      simp only [List.length_nil, Nat.add_zero] at l0 l1
      refine Ev.step (f := fun k => thermographref06_half.j1 k x0 x1 acc A'.length B'.length false) (fun k => ?_) (Ev.step (f := fun _ => some acc) (fun k => ?_) (by simpa [hf] using Ev.now acc))
      · rw [thermographref06_half.l0, if_neg (by omega), show decide ((B'.length : Int) < (x1.length : Int)) = false from decide_eq_false (by omega)]
      · rw [thermographref06_half.j1, if_neg (by simp)]
    | a :: A, [] =>
      simp only [List.length_cons, List.length_nil, Nat.add_zero] at l0 l1 ha hd
      have e0 : rd_T24 x0 (A'.length : Int) = a := by rw [h0]; exact rd_mid' A' A a _ rfl
      have h2 := ih (A.length) (by omega) A [] (A' ++ [a]) B' (acc ++ [a]) x0 x1 (by simp) (by rw [h0]; simp) h1 (by simp; omega) hl
      rw [hf_nil] at h2 ⊢
      rw [show acc ++ a :: A = acc ++ [a] ++ A from by simp]
      rw [List.length_append, List.length_singleton] at h2
      refine Ev.step (f := fun k => thermographref06_half.j1 k x0 x1 acc A'.length B'.length true) (fun k => ?_) (Ev.step (f := fun k => thermographref06_half.j2 k x0 x1 acc A'.length B'.length true) (fun k => ?_) (Ev.step (fun k => ?_) h2))
      · rw [thermographref06_half.l0, if_pos (by omega)]
      · rw [thermographref06_half.j1, if_pos rfl, if_pos (by omega)]
      · rw [thermographref06_half.j2, if_pos rfl, if_pos (by omega), if_pos (by omega), if_pos (by omega), e0, w1 _ (by omega)]
    | [], b :: B =>
      simp only [List.length_cons, List.length_nil, Nat.add_zero, Nat.zero_add] at l0 l1 ha hd
      have e1 : rd_T24 x1 (B'.length : Int) = b := by rw [h1]; exact rd_mid' B' B b _ rfl
      have h2 := ih (B.length) (by omega) [] B A' (B' ++ [b]) (acc ++ [b]) x0 x1 (by simp) h0 (by rw [h1]; simp) (by simp; omega) hl
      rw [show hf [] B = B from by simp [hf]] at h2
      rw [show hf [] (b :: B) = b :: B from by simp [hf], show acc ++ b :: B = acc ++ [b] ++ B from by simp]
      rw [List.length_append, List.length_singleton] at h2
      refine Ev.step (f := fun k => thermographref06_half.j1 k x0 x1 acc A'.length B'.length true) (fun k => ?_) (Ev.step (f := fun k => thermographref06_half.j2 k x0 x1 acc A'.length B'.length false) (fun k => ?_) (Ev.step (f := fun k => thermographref06_half.j3 k x0 x1 acc A'.length B'.length true) (fun k => ?_) (Ev.step (fun k => ?_) h2)))
      · rw [thermographref06_half.l0, if_neg (by omega), show decide ((B'.length : Int) < (x1.length : Int)) = true from decide_eq_true (by omega)]
      · rw [thermographref06_half.j1, if_pos rfl, if_neg (by omega), if_neg (by omega)]
      · rw [thermographref06_half.j2, if_neg (by simp), if_pos (by omega)]
      · rw [thermographref06_half.j3, if_pos rfl, if_pos (by omega), if_pos (by omega), if_pos (by omega), e1, w1 _ (by omega)]
    | a :: A, b :: B =>
      simp only [List.length_cons] at l0 l1 ha hd
      have e0 : rd_T24 x0 (A'.length : Int) = a := by rw [h0]; exact rd_mid' A' A a _ rfl
      have e1 : rd_T24 x1 (B'.length : Int) = b := by rw [h1]; exact rd_mid' B' B b _ rfl
      have s1 : ∀ k, thermographref06_half.l0 (k + 1) x0 x1 acc A'.length B'.length = thermographref06_half.j1 k x0 x1 acc A'.length B'.length true := by
        intro k
        rw [thermographref06_half.l0, if_pos (by omega)]
      have s2 : ∀ k, thermographref06_half.j1 (k + 1) x0 x1 acc A'.length B'.length true = thermographref06_half.j2 k x0 x1 acc A'.length B'.length (decide (a.f0 < b.f0)) := by
        intro k
        rw [thermographref06_half.j1, if_pos rfl, if_neg (by omega), if_pos (by omega), if_pos (by omega), if_pos (by omega), if_pos (by omega), e0, e1]
      by_cases c1 : a.f0 < b.f0
      · have h2 := ih (A.length + (b :: B).length) (by simp; omega) A (b :: B) (A' ++ [a]) B' (acc ++ [a]) x0 x1 rfl (by rw [h0]; simp) h1 (by simp; omega) hl
        rw [List.length_append, List.length_singleton] at h2
        rw [hf, if_pos c1, show acc ++ a :: hf A (b :: B) = acc ++ [a] ++ hf A (b :: B) from by simp]
        rw [decide_eq_true c1] at s2
        refine Ev.step s1 (Ev.step s2 (Ev.step (fun k => ?_) h2))
        rw [thermographref06_half.j2, if_pos rfl, if_pos (by omega), if_pos (by omega), if_pos (by omega), e0, w1 _ (by omega)]
      · rw [decide_eq_false c1] at s2
        have s3 : ∀ k, thermographref06_half.j2 (k + 1) x0 x1 acc A'.length B'.length false = thermographref06_half.j3 k x0 x1 acc A'.length B'.length (decide (b.f0 < a.f0)) := by
          intro k
          rw [thermographref06_half.j2, if_neg (by simp), if_neg (by omega), if_pos (by omega), if_pos (by omega), if_pos (by omega), if_pos (by omega), e0, e1]
        rw [hf, if_neg c1]
        by_cases c2 : b.f0 < a.f0
        · have h2 := ih ((a :: A).length + B.length) (by simp; omega) (a :: A) B A' (B' ++ [b]) (acc ++ [b]) x0 x1 rfl h0 (by rw [h1]; simp) (by simp; omega) hl
          rw [List.length_append, List.length_singleton] at h2
          rw [if_pos c2, show acc ++ b :: hf (a :: A) B = acc ++ [b] ++ hf (a :: A) B from by simp]
          rw [decide_eq_true c2] at s3
          refine Ev.step s1 (Ev.step s2 (Ev.step s3 (Ev.step (fun k => ?_) h2)))
          rw [thermographref06_half.j3, if_pos rfl, if_pos (by omega), if_pos (by omega), if_pos (by omega), e1, w1 _ (by omega)]
        · rw [if_neg c2]
          rw [decide_eq_false c2] at s3
          have h2 := fun x => ih (A.length + B.length) (by omega) A B (A' ++ [a]) (B' ++ [b]) (acc ++ [x]) x0 x1 rfl (by rw [h0]; simp) (by rw [h1]; simp) (by simp; omega) hl
          simp only [List.length_append, List.length_singleton] at h2
          have s4 : ∀ k, thermographref06_half.j3 (k + 1) x0 x1 acc A'.length B'.length false = if winsP b a = true then thermographref06_half.l0 k x0 x1 (acc ++ [b]) ((A'.length + 1 : Nat) : Int) ((B'.length + 1 : Nat) : Int) else thermographref06_half.l0 k x0 x1 (acc ++ [a]) ((A'.length + 1 : Nat) : Int) ((B'.length + 1 : Nat) : Int) := by
            intro k
            rw [thermographref06_half.j3, if_neg (by simp), if_pos (by omega), if_pos (by omega), if_pos (by omega), if_pos (by omega), e0, e1, rwins, w1 _ (by omega), w1 _ (by omega)]
            have hq : acc.length < 5864062014805 := by omega
            simp only [Option.bind_some, hq, if_true]
          by_cases c3 : winsP b a = true
          · rw [if_pos c3, show acc ++ b :: hf A B = acc ++ [b] ++ hf A B from by simp]
            exact Ev.step s1 (Ev.step s2 (Ev.step s3 (Ev.step (fun k => by rw [s4 k, if_pos c3]) (h2 b))))
          · rw [if_neg c3, show acc ++ a :: hf A B = acc ++ [a] ++ hf A B from by simp]
            exact Ev.step s1 (Ev.step s2 (Ev.step s3 (Ev.step (fun k => by rw [s4 k, if_neg c3]) (h2 a))))
theorem half_ev (a b : List Pt) (hn : a.length + b.length ≤ 1099511627776) : Ev (fun k => thermographref06_half.f k a b) (hf a b) := half_ev0 _ hn _ a b [] [] [] a b rfl rfl rfl (by simp) (Nat.le_refl _)
theorem hf_is : ∀ (d : Nat) (A B : List Pt), A.length + B.length = d → Up A → Up B → Is (A ++ B) (hf A B) := by
  intro d
  induction d using Nat.strongRecOn with
  | _ d ih =>
    intro A B hd hA hB
    match A, B with
    | [], B => simpa [hf] using Is.self hB
    | a :: A, [] => rw [hf_nil]; simpa using Is.self hA
    | a :: A, b :: B =>
      simp only [List.length_cons] at hd
      obtain ⟨a1, a2⟩ := List.pairwise_cons.1 hA
      obtain ⟨b1, b2⟩ := List.pairwise_cons.1 hB
      rw [hf]
      by_cases c1 : a.f0 < b.f0
      · rw [if_pos c1]
        have h2 := ih (A.length + (b :: B).length) (by simp; omega) A (b :: B) rfl a2 hB
        refine ⟨List.pairwise_cons.2 ⟨fun z hz => ?_, h2.1⟩, ?_⟩
        · rcases List.mem_append.1 (h2.2.1 z hz) with h | h
          · exact a1 z h
          · rcases List.mem_cons.1 h with rfl | h
            · exact c1
            · have := b1 z h; omega
        · exact Dom.append (l := [a]) (c := [a]) (Dom.refl _) h2.2
      · rw [if_neg c1]
        by_cases c2 : b.f0 < a.f0
        · rw [if_pos c2]
          have h2 := ih ((a :: A).length + B.length) (by simp; omega) (a :: A) B rfl hA b2
          refine ⟨List.pairwise_cons.2 ⟨fun z hz => ?_, h2.1⟩, ?_⟩
          · rcases List.mem_append.1 (h2.2.1 z hz) with h | h
            · rcases List.mem_cons.1 h with rfl | h
              · exact c2
              · have := a1 z h; omega
            · exact b1 z h
          · exact (Dom.perm List.perm_middle).trans (Dom.append (l := [b]) (c := [b]) (Dom.refl _) h2.2)
        · rw [if_neg c2]
          have he : a.f0 = b.f0 := by omega
          have h2 := ih (A.length + B.length) (by omega) A B rfl a2 b2
          have hd2 : Dom ([a, b]) [if winsP b a = true then b else a] := by
            refine ⟨fun p hp => ?_, fun q hq => ⟨_, List.mem_singleton.2 rfl, ?_⟩⟩
            · rw [List.mem_singleton] at hp
              subst hp
              split <;> simp
            · by_cases c3 : winsP b a = true
              · rw [if_pos c3]
                have hg : Ge b a := by rcases Ge.total b a with h | h; · exact h
                                       · exact absurd h ((wins_iff b a).1 c3)
                rcases List.mem_cons.1 hq with rfl | hq
                · exact ⟨he.symm, hg⟩
                · rw [List.mem_singleton] at hq; subst hq; exact ⟨rfl, Ge.refl _⟩
              · rw [if_neg c3]
                have hg : Ge a b := (wins_false b a).1 (by simpa using c3)
                rcases List.mem_cons.1 hq with rfl | hq
                · exact ⟨rfl, Ge.refl _⟩
                · rw [List.mem_singleton] at hq; subst hq; exact ⟨he, hg⟩
          refine ⟨List.pairwise_cons.2 ⟨fun z hz => ?_, h2.1⟩, ?_⟩
          · have hz0 : (if winsP b a = true then b else a).f0 = a.f0 := by split <;> omega
            rw [hz0]
            rcases List.mem_append.1 (h2.2.1 z hz) with h | h
            · exact a1 z h
            · have := b1 z h; omega
          · have hp : (a :: A ++ b :: B).Perm ([a, b] ++ (A ++ B)) := by
              simp only [List.cons_append, List.nil_append]
              exact (List.perm_middle).cons a
            exact (Dom.perm hp).trans (Dom.append hd2 h2.2)
theorem view_ev : ∀ (n : Nat) (l : List Pt), l.length = n → n ≤ 1099511627776 → Ev (fun k => thermographref06_View.f k l) (view l) := by
  intro n
  induction n using Nat.strongRecOn with
  | _ n ih =>
    intro l hl hn
    by_cases h1 : l.length ≤ 1
    · have hv : view l = l := by
        match l, h1 with
        | [], _ => rfl
        | [x], _ => rfl
      rw [hv]
      refine Ev.step (f := fun _ => some l) (fun k => ?_) (Ev.now l)
      rw [thermographref06_View.f]
      simp only [Option.bind_some]
      rw [if_pos (by omega), if_pos (by simp; omega)]
      rfl
    · have hw : wrap64 ((l.length : Int) / 2) = ((l.length / 2 : Nat) : Int) := by unfold wrap64; omega
      have e1 := ih (l.take (l.length / 2)).length (by simp; omega) _ rfl (by simp; omega)
      have e2 := ih (l.drop (l.length / 2)).length (by simp; omega) _ rfl (by simp; omega)
      have l1 := view_len (l.take (l.length / 2))
      have l2 := view_len (l.drop (l.length / 2))
      simp only [List.length_take, List.length_drop] at l1 l2
      have e3 := half_ev (view (l.take (l.length / 2))) (view (l.drop (l.length / 2))) (by omega)
      have hv : view l = hf (view (l.take (l.length / 2))) (view (l.drop (l.length / 2))) := by
        refine view_eq (Is.of_dom ?_ (hf_is _ _ _ rfl (view_is _).1 (view_is _).1))
        have := Dom.append (view_is (l.take (l.length / 2))).2 (view_is (l.drop (l.length / 2))).2
        rwa [List.take_append_drop] at this
      rw [hv]
      refine Ev.step (f := fun k => (thermographref06_View.f k (l.take (l.length / 2))).bind fun a => (thermographref06_View.f k (l.drop (l.length / 2))).bind fun b => (thermographref06_half.f k a b).bind fun c => some c) (fun k => ?_)
        (Ev.bind (f := fun k a => (thermographref06_View.f k (l.drop (l.length / 2))).bind fun b => (thermographref06_half.f k a b).bind fun c => some c) e1
          (Ev.bind (f := fun k b => (thermographref06_half.f k (view (l.take (l.length / 2))) b).bind fun c => some c) e2 (Ev.bind (f := fun _ c => some c) e3 (Ev.now _))))
      rw [thermographref06_View.f]
      simp only [Option.bind_some]
      rw [if_neg (by omega), hw, if_pos (by omega), if_pos (by omega), Int.toNat_natCast]
theorem view_ref (l : List Pt) (hn : l.length ≤ 1099511627776) : Ev (fun k => thermographref06_View.f k l) (view l) := view_ev _ l rfl hn
theorem cut_len (l : List Pt) (a b : Int) : (cut l a b).length ≤ l.length := List.length_filter_le _ _
end Vw
end Go.Proofs.Ytmocpglnoehknaa
