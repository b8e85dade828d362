/- PeersTurns: what the law computes is true. Plain law. -/
import Derived.Test.YtgagcimfkmegnaaQL
namespace Go.Proofs.Ytgagcimfkmegnaa
set_option linter.unusedVariables false
set_option linter.unusedSimpArgs false
open Go.RowKit Go.Proofs.YtgagcimfkmegnaaW.PrintWords Go.Proofs.Ytgagcimfkmegnaa.QT Go.Proofs.Ytgagcimfkmegnaa.StableLaw
abbrev M : Type := S25

theorem past_eq (c x : M) : (!past ⟨c.f0, c.f1, 0, 0⟩ x) = ltM c x := by
  have h : past ⟨c.f0, c.f1, 0, 0⟩ x = true ↔ ¬ ltM c x = true := by
    unfold past
    rw [decide_eq_true_iff, ltM_iff]
    unfold ordM
    by_cases h1 : x.f1 < c.f1
    · simp only [h1, if_true]
      constructor
      · rintro _ (h | ⟨h, _⟩) <;> omega
      · intro _; omega
    · by_cases h2 : x.f1 > c.f1
      · rw [if_neg h1, if_pos h2]
        constructor
        · intro h; omega
        · intro h; exact absurd (.inl h2) h
      · rw [if_neg h1, if_neg h2]
        constructor
        · rintro h (h3 | ⟨_, h3⟩)
          · omega
          · have h5 := cmpStr_gt.2 h3; have h6 : cmpStr x.f0 c.f0 ≤ 0 := h; omega
        · intro h
          by_cases h3 : cmpStr x.f0 c.f0 ≤ 0
          · exact h3
          · exact absurd (.inr ⟨by omega, cmpStr_gt.1 (by omega)⟩) h
  cases hp : past ⟨c.f0, c.f1, 0, 0⟩ x with
  | true => rw [Bool.not_true]; exact ((Bool.not_eq_true _).mp (h.1 hp)).symm
  | false =>
    rw [Bool.not_false]
    cases hl : ltM c x with
    | true => rfl
    | false => exact absurd (h.2 (by rw [hl]; simp)) (by rw [hp]; simp)
theorem srtM_filter (p : M → Bool) (l : List M) : srtM (l.filter p) = (srtM l).filter p := by
  refine Srt.unique ordLt _ _ ?_ (srtM_srt _).up ((srtM_srt l).up.filter p)
  refine (srtM_srt _).same.trans ⟨((srtM_srt l).same.perm.filter p).symm, fun a => ?_⟩
  rw [List.filter_filter, List.filter_filter]
  have h := (srtM_srt l).same.cls a
  have h2 := congrArg (List.filter p) h
  rw [List.filter_filter, List.filter_filter] at h2
  simp only [Bool.and_comm (p _)] at h2
  exact h2.symm
theorem behind_eq (l : List M) (c : M) : behind l c.f1 c.f0 = (srtM l).filter (ltM c) := by
  unfold behind
  rw [srtM_filter]
  exact List.filter_congr (fun x _ => past_eq c x)

def lst (c : M) : List M → M
  | [] => c
  | x :: r => lst x r
abbrev Asc (l : List M) : Prop := l.Pairwise (fun a b => ltM a b = true)
theorem lst_top : ∀ (R : List M) (c : M), Asc (c :: R) → ∀ x ∈ c :: R, ltM (lst c R) x = false
  | [], c, _, x, hx => by rw [List.mem_singleton.1 hx]; exact ordLt.irrefl _
  | y :: R, c, h, x, hx => by
    have h1 := List.pairwise_cons.1 h
    have ih := lst_top R y h1.2
    rcases List.mem_cons.1 hx with rfl | hx
    · exact ordLt.neg _ _ _ (ih y (by simp)) (ordLt.asymm _ _ (h1.1 y (by simp)))
    · exact ih x hx
theorem lst_asc : ∀ (R T : List M) (c : M), Asc (c :: (R ++ T)) → Asc (lst c R :: T)
  | [], _, _, h => h
  | y :: R, T, c, h => lst_asc R T y (List.pairwise_cons.1 h).2
theorem lst_mem : ∀ (R : List M) (c : M), lst c R ∈ c :: R
  | [], c => by simp [lst]
  | y :: R, c => by
    have := lst_mem R y
    simp only [lst]
    exact List.mem_cons_of_mem _ this

/-- The loop over a page. -/
theorem l3_ev (S p : List M) (i : Int) (more : Bool) (r : Bool) : ∀ (R D : List M) (c : M) (n : Int), p = D ++ R → Asc (c :: R) → 0 ≤ n → n + R.length ≤ 1099511627776 → p.length ≤ 1099511627776 →
    Ev (fun k => QL.thermographlaw17_PeersTurns.l3 k S (n + R.length) i p more p.length (lst c R).f0 (lst c R).f1 (lst c R).f2 (lst c R).f3) r → Ev (fun k => QL.thermographlaw17_PeersTurns.l3 k S n i p more D.length c.f0 c.f1 c.f2 c.f3) r
  | [], D, c, n, hp, _, _, _, _, h => by
    simp only [List.append_nil] at hp
    subst hp
    simpa [lst] using h
  | x :: R, D, c, n, hp, ha, h0, hn, hpl, h => by
    have h1 := List.pairwise_cons.1 ha
    have hcx := (ltM_iff c x).1 (h1.1 x (by simp))
    simp only [List.length_cons] at hn h
    have hlen : p.length = D.length + R.length + 1 := by rw [hp]; simp; omega
    have ih := l3_ev S p i more r R (D ++ [x]) x (n + 1) (by rw [hp]; simp) h1.2 (by omega) (by omega) hpl (by
      have e : n + ((R.length + 1 : Nat) : Int) = n + 1 + R.length := by omega
      rw [e] at h
      exact h)
    have hx : rd_T25 p (D.length : Int) = x := by
      rw [hp]; unfold rd_T25; simp
    refine Ev.step (fun k => ?_) ih
    rw [QL.thermographlaw17_PeersTurns.l3, if_pos (by omega), if_pos (by omega), hx, w64 (x := n + 1) (by omega) (by omega), w64 (x := (D.length : Int) + 1) (by omega) (by omega)]
    rw [List.length_append, List.length_singleton]
    rcases hcx with hcx | ⟨hcx, hs⟩
    · rw [if_neg (by omega), if_neg (by omega)]
      rfl
    · rw [if_neg (by omega), if_pos hcx.symm, if_pos (by rw [bytesLess_eq]; exact decide_eq_true hs)]
      rfl

/-- Page behind page. -/
theorem l2_ev (S : List M) (hS : S.length ≤ 256) : ∀ (t : Nat) (Q1 Q2 : List M) (c : M) (i : Int), Q2.length ≤ t → srtM S = Q1 ++ Q2 → Asc (c :: Q2) → (∀ x ∈ Q1, ltM c x = false) → 8 * i = Q1.length → 0 ≤ i →
    Ev (fun k => QL.thermographlaw17_PeersTurns.l2 k S Q1.length i c.f0 c.f1 c.f2 c.f3) true
  | t, Q1, Q2, c, i, ht, hQ, ha, hle, hi, h0 => by
    have hl : S.length = Q1.length + Q2.length := by rw [← (srtM_srt S).len, hQ, List.length_append]
    have hb : behind S c.f1 c.f0 = Q2 := by
      rw [behind_eq, hQ, List.filter_append, List.filter_eq_nil_iff.2 (fun x hx => by rw [hle x hx]; simp), List.nil_append]
      exact List.filter_eq_self.2 (fun x hx => (List.pairwise_cons.1 ha).1 x hx)
    have hpage : peers_Page.f S c.f1 c.f0 = if Q2.length ≤ 8 then some (Q2, false) else some (Q2.take 8, true) := by
      unfold peers_Page.f
      rw [if_pos (by omega), hb]
    by_cases h8 : Q2.length ≤ 8
    · rw [if_pos h8] at hpage
      have h3 := l3_ev S Q2 i false true Q2 [] c Q1.length rfl ha (by omega) (by omega) (by omega) (by
        have e : (Q1.length : Int) + Q2.length = S.length := by omega
        rw [e]
        refine Ev.step (f := fun k => QL.thermographlaw17_PeersTurns.j5 k S S.length i false false (lst c Q2).f0 (lst c Q2).f1 (lst c Q2).f2 (lst c Q2).f3) (fun k => ?_) (Ev.step (f := fun _ => some true) (fun k => ?_) (Ev.now _))
        · rw [QL.thermographlaw17_PeersTurns.l3, if_neg (by omega)]
          simp
        · rw [QL.thermographlaw17_PeersTurns.j5]
          simp)
      refine Ev.step (fun k => ?_) h3
      rw [QL.thermographlaw17_PeersTurns.l2, if_pos (by omega), hpage]
      rfl
    · rw [if_neg h8] at hpage
      match t, ht with
      | 0, ht => omega
      | t + 1, ht =>
        obtain ⟨P, T, hPT, hP⟩ : ∃ P T, Q2 = P ++ T ∧ P.length = 8 := ⟨Q2.take 8, Q2.drop 8, (List.take_append_drop _ _).symm, by rw [List.length_take]; omega⟩
        have htk : Q2.take 8 = P := by rw [hPT, ← hP, List.take_left]
        rw [htk] at hpage
        subst hPT
        rw [List.length_append] at h8 hl ht
        have haP : Asc (c :: P) := ha.sublist (by simp)
        have ih := l2_ev S hS t (Q1 ++ P) T (lst c P) (i + 1) (by omega) (by rw [hQ]; simp) (lst_asc P T c ha) (fun x hx => by
          rcases List.mem_append.1 hx with hx | hx
          · have h1 := lst_top P c haP c (by simp)
            exact ordLt.neg _ _ _ h1 (hle x hx)
          · exact lst_top P c haP x (List.mem_cons_of_mem _ hx)) (by rw [List.length_append]; omega) (by omega)
        have h3 := l3_ev S P i true true P [] c Q1.length rfl haP (by omega) (by omega) (by omega) (by
          refine Ev.step (f := fun k => QL.thermographlaw17_PeersTurns.j5 k S ((Q1.length : Int) + P.length) i true false (lst c P).f0 (lst c P).f1 (lst c P).f2 (lst c P).f3) (fun k => ?_) (Ev.step (f := fun k => QL.thermographlaw17_PeersTurns.l2 k S ((Q1 ++ P).length : Int) (i + 1) (lst c P).f0 (lst c P).f1 (lst c P).f2 (lst c P).f3) (fun k => ?_) ih)
          · have h1 : (Q1.length : Int) + P.length < S.length := by omega
            rw [QL.thermographlaw17_PeersTurns.l3, if_neg (by omega), decide_eq_true h1, if_neg (by simp), if_pos rfl, hP]
            rfl
          · rw [QL.thermographlaw17_PeersTurns.j5, w64 (x := i + 1) (by omega) (by omega)]
            simp)
        refine Ev.step (fun k => ?_) h3
        rw [QL.thermographlaw17_PeersTurns.l2, if_pos (by omega), hpage]
        rfl

/-- Another place. -/
def Apart (a b : M) : Prop := ¬ (a.f0.toList = b.f0.toList ∧ a.f1 = b.f1)
structure Good (l : List M) : Prop where
  apart : l.Pairwise Apart
  fit : ∀ x ∈ l, x.f0.toList ≠ [] ∧ 0 ≤ x.f1
theorem good_turns (S : List M) (hS : S.length ≤ 256) (g : Good S) : Ev (fun k => QL.thermographlaw17_PeersTurns.l2 k S 0 0 (⟨#[]⟩ : ByteArray) 0 0 0) true := by
  have h1 : (srtM S).Pairwise Apart := ((srtM_srt S).same.perm.pairwise_iff (fun {a b} h => fun h2 => h ⟨h2.1.symm, h2.2.symm⟩)).2 g.apart
  have h2 : Asc (srtM S) := by
    refine (List.Pairwise.and h1 (srtM_srt S).up).imp (fun {a b} h => ?_)
    cases hl : ltM a b with
    | true => rfl
    | false =>
      exfalso
      have e1 := (ltM_false _ _).1 hl
      have e2 := (ltM_false _ _).1 h.2
      apply h.1
      rcases e1 with e1 | ⟨e1, e3⟩
      · rcases e2 with e2 | ⟨e2, _⟩ <;> omega
      · rcases e2 with e2 | ⟨e2, e4⟩
        · omega
        · exact ⟨List.le_antisymm (List.not_lt.mp e4) (List.not_lt.mp e3), e1⟩
  refine l2_ev S hS S.length [] (srtM S) ⟨⟨#[]⟩, 0, 0, 0⟩ 0 (by rw [(srtM_srt S).len]; exact Nat.le_refl _) rfl (List.pairwise_cons.2 ⟨fun x hx => ?_, h2⟩) (by simp) (by simp) (by omega)
  have hf := g.fit x ((srtM_srt S).mem hx)
  rw [ltM_iff]
  by_cases h : (0 : Int) < x.f1
  · exact .inl h
  · refine .inr ⟨by have := hf.2; show (0 : Int) = x.f1; omega, ?_⟩
    have : (⟨#[]⟩ : ByteArray).toList = [] := by rw [Lib.toList_data]
    show (⟨#[]⟩ : ByteArray).toList < x.f0.toList
    rw [this]
    cases hx0 : x.f0.toList with
    | nil => exact absurd hx0 hf.1
    | cons a b => exact List.nil_lt_cons a b

/-- The loop that looks for a like one. -/
theorem l1_ev (x0 x3 : List M) (x4 : Int) (h0 : 0 ≤ x4) (h1 : x4 < x0.length) (hb : x4 ≤ 256) (hx3 : x3.length ≤ 256) (hno : Ev (fun k => QL.thermographlaw17_PeersTurns.l0 k x0 x3 (x4 + 1)) true) :
    ∀ (R D : List M) (b : Bool), x3 = D ++ R → (b = false → (∀ x ∈ R, Apart x (rd_T25 x0 x4)) → Ev (fun k => QL.thermographlaw17_PeersTurns.l0 k x0 (x3 ++ [rd_T25 x0 x4]) (x4 + 1)) true) →
    Ev (fun k => QL.thermographlaw17_PeersTurns.l1 k x0 x3 x4 b D.length) true
  | [], D, b, hD, hyes => by
    have hl : x3.length = D.length := by rw [hD]; simp
    cases b with
    | true =>
      refine Ev.step (fun k => ?_) hno
      rw [QL.thermographlaw17_PeersTurns.l1, if_neg (by omega), if_pos rfl, w64 (x := x4 + 1) (by omega) (by omega)]
    | false =>
      refine Ev.step (fun k => ?_) (hyes rfl (by simp))
      rw [QL.thermographlaw17_PeersTurns.l1, if_neg (by omega), if_neg (by simp), if_pos h0, if_pos h1, if_pos (by omega), w64 (x := x4 + 1) (by omega) (by omega)]
  | x :: R, D, b, hD, hyes => by
    have hl : x3.length = D.length + R.length + 1 := by rw [hD]; simp; omega
    have hx : rd_T25 x3 (D.length : Int) = x := by rw [hD]; unfold rd_T25; simp
    have ihx := fun b' => l1_ev x0 x3 x4 h0 h1 hb hx3 hno R (D ++ [x]) b' (by rw [hD]; simp)
    simp only [List.length_append, List.length_singleton] at ihx
    cases b with
    | true =>
      refine Ev.step (fun k => ?_) (ihx true (fun h => by cases h))
      rw [QL.thermographlaw17_PeersTurns.l1, if_pos (by omega), if_pos rfl, w64 (x := (D.length : Int) + 1) (by omega) (by omega)]
      rfl
    | false =>
      have hstep : ∀ k, QL.thermographlaw17_PeersTurns.l1 (k + 1) x0 x3 x4 false D.length = if x.f0.toList = (rd_T25 x0 x4).f0.toList then QL.thermographlaw17_PeersTurns.l1 k x0 x3 x4 (x.f1 == (rd_T25 x0 x4).f1) ((D.length + 1 : Nat) : Int) else QL.thermographlaw17_PeersTurns.l1 k x0 x3 x4 false ((D.length + 1 : Nat) : Int) := by
        intro k
        rw [QL.thermographlaw17_PeersTurns.l1, if_pos (by omega), if_neg (by simp), if_pos (by omega), if_pos h0, if_pos h1, hx, w64 (x := (D.length : Int) + 1) (by omega) (by omega)]
        rfl
      by_cases he : x.f0.toList = (rd_T25 x0 x4).f0.toList
      · refine Ev.step hstep (Ev.congr (fun k => if_pos he) (ihx _ (fun hf hR => hyes rfl (fun y hy => ?_))))
        rcases List.mem_cons.1 hy with rfl | hy
        · exact fun h => by rw [beq_eq_false_iff_ne] at hf; exact hf h.2
        · exact hR y hy
      · refine Ev.step hstep (Ev.congr (fun k => if_neg he) (ihx false (fun hf hR => hyes rfl (fun y hy => ?_))))
        rcases List.mem_cons.1 hy with rfl | hy
        · exact fun h => he h.1
        · exact hR y hy

theorem l0_ev (x0 : List M) (hx : x0.length ≤ 256) : ∀ (t : Nat) (x3 : List M) (x4 : Int), 0 ≤ x4 → (x0.length : Int) - x4 ≤ t → Good x3 → x3.length ≤ x4 → x4 ≤ x0.length →
    Ev (fun k => QL.thermographlaw17_PeersTurns.l0 k x0 x3 x4) true
  | t, x3, x4, h0, ht, g, hl, hl4 => by
    by_cases h1 : x4 < x0.length
    · match t, ht with
      | 0, ht => omega
      | t + 1, ht =>
        have hno := l0_ev x0 hx t x3 (x4 + 1) (by omega) (by omega) g (by omega) (by omega)
        have hl1 := fun b => l1_ev x0 x3 x4 h0 h1 (by omega) (by omega) hno x3 [] b rfl
        have hj1 : ∀ b, (b = false → (rd_T25 x0 x4).f0.toList ≠ [] ∧ 0 ≤ (rd_T25 x0 x4).f1) → Ev (fun k => QL.thermographlaw17_PeersTurns.j1 k x0 x3 x4 b) true := by
          intro b hbf
          refine Ev.step (fun k => by rw [QL.thermographlaw17_PeersTurns.j1]; rfl) (hl1 b (fun hb hR => ?_))
          refine l0_ev x0 hx t _ (x4 + 1) (by omega) (by omega) ⟨List.pairwise_append.2 ⟨g.apart, List.pairwise_singleton _ _, fun a ha b hb => ?_⟩, fun y hy => ?_⟩ (by simp; omega) (by omega)
          · rw [List.mem_singleton.1 hb]; exact hR a ha
          · rcases List.mem_append.1 hy with hy | hy
            · exact g.fit y hy
            · rw [List.mem_singleton.1 hy]; exact hbf hb
        by_cases he : (rd_T25 x0 x4).f0.toList = []
        · refine Ev.step (fun k => ?_) (hj1 true (fun h => by cases h))
          rw [QL.thermographlaw17_PeersTurns.l0, if_pos h1, if_pos h0, if_pos he]
        · refine Ev.step (fun k => ?_) (hj1 (decide ((rd_T25 x0 x4).f1 < 0)) (fun h => ⟨he, by have := of_decide_eq_false h; omega⟩))
          rw [QL.thermographlaw17_PeersTurns.l0, if_pos h1, if_pos h0, if_neg he]
    · refine Ev.step (fun k => ?_) (good_turns x3 (by omega) g)
      rw [QL.thermographlaw17_PeersTurns.l0, if_neg h1]

/-- The law is true. -/
theorem turns_true (l : List M) : ∃ k, QL.thermographlaw17_PeersTurns.f k l = some true := by
  unfold QL.thermographlaw17_PeersTurns.f
  by_cases h : (l.length : Int) > 256
  · exact ⟨0, by rw [if_pos h]⟩
  · obtain ⟨k, hk⟩ := (l0_ev l (by omega) l.length [] 0 (by omega) (by omega) ⟨List.Pairwise.nil, by simp⟩ (by simp) (by omega)).rounds
    exact ⟨k, by rw [if_neg h]; exact hk⟩
end Go.Proofs.Ytgagcimfkmegnaa
