/- The document's Diff: the same. -/
import Derived.Test.YtcdpcgcfonjnfaaRepPure
import Derived.Test.YtcdpcgcfonjnfaaRepOrd
import Derived.Test.YtcdpcgcfonjnfaaQT3
namespace Go.Proofs.Ytcdpcgcfonjnfaa
set_option linter.unusedVariables false
set_option linter.unusedSimpArgs false
open Go.RowKit Go.Proofs.YtcdpcgcfonjnfaaW.PrintWords Go.Proofs.YtcdpcgcfonjnfaaW.PrintLast Go.Proofs.YtcdpcgcfonjnfaaW.PrintMore Go.Proofs.Ytcdpcgcfonjnfaa.QT
namespace Rp
theorem rdM {l : List Mt} {i : Nat} (h : i < l.length) : rd_T56 l (i : Int) = l[i] := by
  unfold rd_T56
  rw [Int.toNat_natCast, List.getD_eq_getElem?_getD, List.getElem?_eq_getElem h]
  rfl
theorem wrapN (i : Nat) (h : i ≤ 1000000) : wrap64 ((i : Int) + 1) = ((i + 1 : Nat) : Int) := by unfold wrap64; omega
def firstT (l : List Mt) (p : Pc) : ByteArray × Int × Int × Int × Bool := match first l p with
  | some x => (x.f0, x.f1, x.f2, x.f3, true)
  | none => ((⟨#[]⟩ : ByteArray), 0, 0, 0, false)
theorem firstT_cons (x : Mt) (l : List Mt) (p : Pc) : firstT (x :: l) p = if plc x = p then (x.f0, x.f1, x.f2, x.f3, true) else firstT l p := by
  unfold firstT first
  rw [List.find?_cons]
  by_cases h : plc x = p
  · rw [if_pos h]; simp [h]
  · rw [if_neg h]; simp [h]
theorem first_ev0 (l : List Mt) (hl : l.length ≤ 1000000) (p : Pc) : ∀ (d i : Nat), i + d = l.length → Ev (fun k => thermographref19_first.l0 k l (i : Int) p.f0 p.f1) (firstT (l.drop i) p)
  | 0, i, h => by
    rw [List.drop_eq_nil_of_le (by omega)]
    exact Ev.step (f := fun _ => some (firstT [] p)) (fun k => by rw [thermographref19_first.l0, if_neg (by omega)]; rfl) (Ev.now _)
  | d + 1, i, h => by
    have hi : i < l.length := by omega
    have ih := first_ev0 l hl p d (i + 1) (by omega)
    rw [List.drop_eq_getElem_cons hi, firstT_cons]
    by_cases h0 : l[i].f0.toList = p.f0.toList
    · by_cases h1 : l[i].f1 = p.f1
      · rw [if_pos (show plc l[i] = p by unfold plc; rw [toList_inj' h0, h1])]
        exact Ev.step (f := fun _ => some _) (fun k => by rw [thermographref19_first.l0, if_pos (by omega), if_pos (by omega), rdM hi, if_pos h0, if_pos h1]) (Ev.now _)
      · rw [if_neg (show ¬ plc l[i] = p from fun e => h1 (by rw [← e]; rfl))]
        exact Ev.step (fun k => by rw [thermographref19_first.l0, if_pos (by omega), if_pos (by omega), rdM hi, if_pos h0, if_neg h1, wrapN i (by omega)]) ih
    · rw [if_neg (show ¬ plc l[i] = p from fun e => h0 (by rw [← e]; rfl))]
      exact Ev.step (fun k => by rw [thermographref19_first.l0, if_pos (by omega), if_pos (by omega), rdM hi, if_neg h0, wrapN i (by omega)]) ih
theorem first_ev (l : List Mt) (hl : l.length ≤ 1000000) (p : Pc) : Ev (fun k => thermographref19_first.f k l p.f0 p.f1) (firstT l p) := by
  have h := first_ev0 l hl p l.length 0 (by omega)
  rw [List.drop_zero] at h
  exact Ev.congr (fun k => by unfold thermographref19_first.f; rfl) h
instance (a b : Pc) : Decidable (lt a b) := inferInstanceAs (Decidable (_ ∨ _))
theorem less_eq (a b : Pc) : thermographref19_less.f a.f0 a.f1 b.f0 b.f1 = some (decide (lt a b)) := by
  unfold thermographref19_less.f
  by_cases hab : lt a b
  · rw [decide_eq_true hab]
    rcases hab with h | ⟨h1, h2⟩
    · rw [if_pos h]
    · rw [if_neg (by omega), if_pos h1, bytesLess_eq, decide_eq_true h2]
  · rw [decide_eq_false hab, if_neg (fun h => hab (.inl h))]
    by_cases h2 : a.f1 = b.f1
    · rw [if_pos h2, bytesLess_eq, decide_eq_false (fun h => hab (.inr ⟨h2, h⟩))]
    · rw [if_neg h2]
/-- A place is put where it belongs, once. -/
def ins (p : Pc) : List Pc → List Pc
  | [] => [p]
  | y :: r => if lt y p then y :: ins p r else if y = p then y :: r else p :: y :: r
theorem mem_ins (p q : Pc) : ∀ l : List Pc, q ∈ ins p l ↔ q = p ∨ q ∈ l
  | [] => by simp [ins]
  | y :: r => by
    unfold ins
    split
    · rw [List.mem_cons, mem_ins p q r, List.mem_cons]
      constructor
      · rintro (h | h | h)
        · exact .inr (.inl h)
        · exact .inl h
        · exact .inr (.inr h)
      · rintro (h | h | h)
        · exact .inr (.inl h)
        · exact .inl h
        · exact .inr (.inr h)
    · split
      · rename_i h2
        rw [List.mem_cons]
        constructor
        · exact fun h => .inr h
        · rintro (h | h)
          · exact .inl (h.trans h2.symm)
          · exact h
      · rw [List.mem_cons]
theorem ins_up (p : Pc) : ∀ l : List Pc, l.Pairwise lt → (ins p l).Pairwise lt
  | [], _ => List.pairwise_singleton _ _
  | y :: r, h => by
    obtain ⟨h1, h2⟩ := List.pairwise_cons.1 h
    unfold ins
    split
    · rename_i hyp
      refine List.pairwise_cons.2 ⟨fun z hz => ?_, ins_up p r h2⟩
      rcases (mem_ins p z r).1 hz with e | e
      · rw [e]; exact hyp
      · exact h1 z e
    · split
      · exact h
      · rename_i hyp hne
        have hpy : lt p y := by
          by_cases h3 : lt p y
          · exact h3
          · exact absurd (lt_tri y p hyp h3) hne
        refine List.pairwise_cons.2 ⟨fun z hz => ?_, h⟩
        rcases List.mem_cons.1 hz with e | e
        · rw [e]; exact hpy
        · exact lt_trans hpy (h1 z e)
theorem ins_len (p : Pc) : ∀ l : List Pc, (ins p l).length ≤ l.length + 1
  | [] => by simp [ins]
  | y :: r => by
    unfold ins
    split
    · have := ins_len p r; simp only [List.length_cons]; omega
    · split <;> simp
theorem rdP {A B : List Pc} {y : Pc} (n : Int) (h : n = A.length) : rd_T38 (A ++ y :: B) n = y := by subst h; unfold rd_T38; simp
theorem ins_ev (own other : List Mt) (i : Nat) (hi : i ≤ 1000000) (p : Pc) (r : List Pc) : ∀ (B A : List Pc), A.length + B.length ≤ 1000000 → Ev (fun k => thermographref19_Diff.l0 k own other (A ++ ins p B) ((i + 1 : Nat) : Int)) r →
    Ev (fun k => thermographref19_Diff.l1 k own other (A ++ B) (i : Int) (A.length : Int) p.f0 p.f1) r
  | [], A, hl, h => by
    refine Ev.step (fun k => ?_) h
    rw [List.append_nil, thermographref19_Diff.l1, if_neg (by omega)]
    simp only [Option.bind_some, List.nil_append, List.length_nil]
    rw [if_pos (by omega), if_pos (by omega), if_pos (by rw [List.length_take]; simp only [List.length_nil] at hl; omega)]
    rw [Int.toNat_natCast, List.take_length, List.drop_length]
    rw [if_pos (by simp only [List.length_nil] at hl; omega), if_pos (by simp only [List.length_append, List.length_nil, List.length_cons] at hl ⊢; omega), wrapN i hi]
    simp [ins]
  | y :: B, A, hl, h => by
    simp only [List.length_cons] at hl
    have hlt : (A.length : Int) < ((A ++ y :: B).length : Int) := by simp only [List.length_append, List.length_cons]; omega
    by_cases h1 : lt y p
    · have ih := ins_ev own other i hi p r B (A ++ [y]) (by simp only [List.length_append, List.length_cons, List.length_nil]; omega) (by
        have e : A ++ ins p (y :: B) = (A ++ [y]) ++ ins p B := by rw [ins, if_pos h1]; simp
        rwa [e] at h)
      refine Ev.step (fun k => ?_) ih
      rw [thermographref19_Diff.l1, if_pos hlt, if_pos (by omega), rdP _ rfl, less_eq, Option.bind_some, decide_eq_true h1, if_pos rfl, wrapN _ (by omega)]
      simp
    · by_cases h2 : y = p
      · have e : A ++ ins p (y :: B) = A ++ y :: B := by rw [ins, if_neg h1, if_pos h2]
        rw [e] at h
        refine Ev.step (fun k => ?_) h
        rw [thermographref19_Diff.l1, if_pos hlt, if_pos (by omega), rdP _ rfl, less_eq, Option.bind_some, decide_eq_false h1, if_neg (by simp), if_pos (by rw [h2]; simp), wrapN i hi]
      · have e : A ++ ins p (y :: B) = A ++ p :: y :: B := by rw [ins, if_neg h1, if_neg h2]
        rw [e] at h
        refine Ev.step (fun k => ?_) h
        rw [thermographref19_Diff.l1, if_pos hlt, if_pos (by omega), rdP _ rfl, less_eq, Option.bind_some, decide_eq_false h1, if_neg (by simp), if_neg (by
          intro hh
          rw [Bool.and_eq_true, beq_iff_eq, beq_iff_eq] at hh
          apply h2
          cases y; cases p
          simp only at hh
          rw [toList_inj' hh.1, hh.2])]
        simp only [Option.bind_some, List.nil_append, List.length_nil]
        rw [if_pos (by omega), if_pos (by rw [List.length_take]; simp only [List.length_append, List.length_cons]; omega)]
        rw [Int.toNat_natCast, List.take_left, List.drop_left]
        rw [if_pos (by omega), if_pos (by simp only [List.length_append, List.length_cons, List.length_nil]; omega), wrapN i hi]
        simp
/-- One round of the document's Diff. -/
def refStep (own other : List Mt) (out : List Pc) (x : Mt) : List Pc := if dif own other (plc x) then ins (plc x) out else out
theorem refStep_len (own other : List Mt) (out : List Pc) (x : Mt) : (refStep own other out x).length ≤ out.length + 1 := by
  unfold refStep
  split
  · exact ins_len _ _
  · omega
theorem rdiff_ev0 (own other : List Mt) (ho : own.length ≤ 1000000) (hl : other.length ≤ 1000000) : ∀ (d i : Nat) (out : List Pc), i + d = other.length → out.length ≤ i → Ev (fun k => thermographref19_Diff.l0 k own other out (i : Int)) ((other.drop i).foldl (refStep own other) out)
  | 0, i, out, h, hn => by
    rw [List.drop_eq_nil_of_le (by omega)]
    exact Ev.step (f := fun _ => some out) (fun k => by rw [thermographref19_Diff.l0, if_neg (by omega)]) (Ev.now _)
  | d + 1, i, out, h, hn => by
    have hi : i < other.length := by omega
    have hs := refStep_len own other out other[i]
    have ih := rdiff_ev0 own other ho hl d (i + 1) (refStep own other out other[i]) (by omega) (by omega)
    rw [List.drop_eq_getElem_cons hi, List.foldl_cons]
    obtain ⟨x, hx⟩ : ∃ x, other[i] = x := ⟨_, rfl⟩
    have hxm : x ∈ other := by rw [← hx]; exact List.getElem_mem hi
    rw [hx] at ih ⊢
    have f1 := first_ev other hl (plc x)
    have f2 := first_ev own ho (plc x)
    obtain ⟨z, hz⟩ : ∃ z, first other (plc x) = some z := by
      cases hf : first other (plc x) with
      | none => exact absurd rfl (first_none.1 hf x hxm)
      | some z => exact ⟨z, rfl⟩
    have e1 : firstT other (plc x) = (z.f0, z.f1, z.f2, z.f3, true) := by unfold firstT; rw [hz]
    rw [e1] at f1
    have fin : ∀ (b : Bool), b = decide (¬ dif own other (plc x)) → Ev (fun k => thermographref19_Diff.j1 k own other out (i : Int) b x.f0 x.f1) ((other.drop (i + 1)).foldl (refStep own other) (refStep own other out x)) := by
      intro b hb
      by_cases hd : dif own other (plc x)
      · rw [hb, decide_eq_false (fun hh => hh hd)]
        unfold refStep at ih ⊢
        rw [if_pos hd] at ih ⊢
        have h3 := ins_ev own other i (by omega) (plc x) _ out [] (by simp only [List.length_nil]; omega) (by rw [List.nil_append]; exact ih)
        exact Ev.step (fun k => by rw [thermographref19_Diff.j1, if_neg (by simp)]; rfl) h3
      · rw [hb, decide_eq_true hd]
        unfold refStep at ih ⊢
        rw [if_neg hd] at ih ⊢
        exact Ev.step (fun k => by rw [thermographref19_Diff.j1, if_pos rfl, wrapN i (by omega)]) ih
    obtain ⟨K1, h1⟩ := f1
    obtain ⟨K2, h2⟩ := f2
    have key : ∃ b, b = decide (¬ dif own other (plc x)) ∧ ∀ k, K1 ≤ k → K2 ≤ k → thermographref19_Diff.l0 (k + 1) own other out (i : Int) = thermographref19_Diff.j1 k own other out (i : Int) b x.f0 x.f1 := by
      refine ⟨_, rfl, fun k hk1 hk2 => ?_⟩
      rw [thermographref19_Diff.l0, if_pos (by omega), if_pos (by omega), rdM hi, hx]
      have g1 : thermographref19_first.f k other x.f0 x.f1 = some (z.f0, z.f1, z.f2, z.f3, true) := h1 k hk1
      have g2 : thermographref19_first.f k own x.f0 x.f1 = some (firstT own (plc x)) := h2 k hk2
      rw [g1, Option.bind_some, g2, Option.bind_some]
      have hne : first other (plc x) ≠ none := by rw [hz]; simp
      cases hf : first own (plc x) with
      | none =>
        have e2 : firstT own (plc x) = ((⟨#[]⟩ : ByteArray), 0, 0, 0, false) := by unfold firstT; rw [hf]
        have ed : decide (¬ dif own other (plc x)) = false := decide_eq_false (fun h => h ⟨hne, by rw [hf, hz]; simp⟩)
        rw [e2, ed, if_neg (by simp)]
      | some y =>
        have e2 : firstT own (plc x) = (y.f0, y.f1, y.f2, y.f3, true) := by unfold firstT; rw [hf]
        rw [e2, if_pos rfl]
        by_cases hc : z.f2 = y.f2
        · rw [if_pos hc]
          by_cases hs3 : z.f3 = y.f3
          · have ed : decide (¬ dif own other (plc x)) = true := decide_eq_true (fun hd => hd.2 (by rw [hf, hz]; show some (kpt y) = some (kpt z); unfold kpt; rw [hc, hs3]))
            rw [ed]
            show thermographref19_Diff.j1 k own other out (i : Int) (z.f3 == y.f3) x.f0 x.f1 = _
            rw [hs3, beq_self_eq_true]
          · have ed : decide (¬ dif own other (plc x)) = false := decide_eq_false (fun h => h ⟨hne, by
              rw [hf, hz]
              intro e
              have e3 := Option.some.inj e
              unfold kpt at e3
              simp only [Kt.mk.injEq] at e3
              exact hs3 e3.2.symm⟩)
            rw [ed]
            show thermographref19_Diff.j1 k own other out (i : Int) (z.f3 == y.f3) x.f0 x.f1 = _
            rw [beq_eq_false_iff_ne.2 hs3]
        · rw [if_neg hc]
          have ed : decide (¬ dif own other (plc x)) = false := decide_eq_false (fun h => h ⟨hne, by
            rw [hf, hz]
            intro e
            have e3 := Option.some.inj e
            unfold kpt at e3
            simp only [Kt.mk.injEq] at e3
            exact hc e3.1.symm⟩)
          rw [ed]
    obtain ⟨b, hb, hk⟩ := key
    obtain ⟨K3, h3⟩ := fin b hb
    refine ⟨max (max K1 K2) K3 + 1, fun k hk0 => ?_⟩
    obtain ⟨k', rfl⟩ : ∃ k', k = k' + 1 := ⟨k - 1, by omega⟩
    show thermographref19_Diff.l0 (k' + 1) own other out (i : Int) = _
    rw [hk k' (by omega) (by omega)]
    exact h3 k' (by omega)
theorem rdiff_is (own other : List Mt) : IsD own other (other.foldl (refStep own other) []) := by
  have h : ∀ (l pre : List Mt) (out : List Pc), out.Pairwise lt → (∀ p, p ∈ out ↔ dif own other p ∧ ∃ x ∈ pre, plc x = p) → (l.foldl (refStep own other) out).Pairwise lt ∧ ∀ p, p ∈ l.foldl (refStep own other) out ↔ dif own other p ∧ ∃ x ∈ pre ++ l, plc x = p := by
    intro l
    induction l with
    | nil => intro pre out h1 h2; rw [List.append_nil]; exact ⟨h1, h2⟩
    | cons x l ih =>
      intro pre out h1 h2
      rw [List.foldl_cons, show pre ++ x :: l = (pre ++ [x]) ++ l from by simp]
      refine ih (pre ++ [x]) _ ?_ (fun p => ?_)
      · unfold refStep; split
        · exact ins_up _ _ h1
        · exact h1
      · unfold refStep
        split
        · rename_i hd
          rw [mem_ins, h2 p]
          constructor
          · rintro (e | ⟨e1, y, e2, e3⟩)
            · rw [e]; exact ⟨hd, x, by simp, rfl⟩
            · exact ⟨e1, y, List.mem_append_left _ e2, e3⟩
          · rintro ⟨e1, y, e2, e3⟩
            rcases List.mem_append.1 e2 with e4 | e4
            · exact .inr ⟨e1, y, e4, e3⟩
            · rw [List.mem_singleton.1 e4] at e3
              exact .inl e3.symm
        · rename_i hd
          rw [h2 p]
          constructor
          · rintro ⟨e1, y, e2, e3⟩
            exact ⟨e1, y, List.mem_append_left _ e2, e3⟩
          · rintro ⟨e1, y, e2, e3⟩
            rcases List.mem_append.1 e2 with e4 | e4
            · exact ⟨e1, y, e4, e3⟩
            · rw [List.mem_singleton.1 e4] at e3
              rw [← e3] at e1
              exact absurd e1 hd
  obtain ⟨h1, h2⟩ := h other [] [] List.Pairwise.nil (by simp)
  refine ⟨h1, fun p => (h2 p).trans ⟨fun hh => hh.1, fun hh => ⟨hh, ?_⟩⟩⟩
  cases hf : first other p with
  | none => exact absurd hf hh.1
  | some x => obtain ⟨h3, h4⟩ := first_some hf; exact ⟨x, by simpa using h3, h4⟩
theorem rdiff_calls (w : World) (A : Option Addr) (c : Nat) (own : List Mt) (hC : Kd.C k56 w A own.length own) (hc : own.length ≤ c) (hn : own.length ≤ 1000000) (A' : Option Addr) (c' : Nat) (other : List Mt) (hC' : Kd.C k56 w A' other.length other) (hc' : other.length ≤ c') (hn' : other.length ≤ 1000000) :
    Calls Try.prog 7 #[.slice A own.length c, .slice A' other.length c'] w fun e w' => ∃ (v : Value) (D : List Pc), e = .returned v ∧ IsD own other D ∧ Kd.R k38 38 w' w.heap.size (fun _ => True) v D ∧ Below w.heap.size w w' := by
  have h := rdiff_ev0 own other hn hn' other.length 0 [] (by omega) (Nat.le_refl _)
  rw [List.drop_zero] at h
  obtain ⟨k, hk⟩ := h.rounds
  exact (thermographref19_Diff.calls k A c own A' c' other _ w hC hc hC' hc' hk).mono fun e w' ⟨v, he, hR, hb⟩ => ⟨v, _, he, rdiff_is own other, hR, hb⟩
end Rp
end Go.Proofs.Ytcdpcgcfonjnfaa
