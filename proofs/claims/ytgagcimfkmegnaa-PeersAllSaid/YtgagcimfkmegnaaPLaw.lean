/- What a fetch tells, and the document's series: the same. -/
import Derived.Test.YtgagcimfkmegnaaPRStr
import Derived.Test.YtgagcimfkmegnaaPSer
section
namespace Go.Proofs.Ytgagcimfkmegnaa
set_option linter.unusedVariables false
set_option linter.unusedSimpArgs false
open Go.RowKit Go.Proofs.YtgagcimfkmegnaaW.PrintWords Go.Proofs.Ytgagcimfkmegnaa.QT
namespace Vw
theorem rd_mid' (P S : List Pt) (x : Pt) (i : Int) (hi : i = P.length) : rd_T42 (P ++ x :: S) i = x := by subst hi; unfold rd_T42; simp
theorem w1 (n : Nat) (h : n ≤ 1099511627776) : wrap64 ((n : Int) + 1) = ((n + 1 : Nat) : Int) := by unfold wrap64; omega
def hf : List Pt → List Pt → List Pt
  | [], B => B
  | A, [] => A
  | a :: A, b :: B => if a.f0 < b.f0 then a :: hf A (b :: B) else if b.f0 < a.f0 then b :: hf (a :: A) B else (if winsP b a = true then b else a) :: hf A B
termination_by A B => A.length + B.length
theorem hf_nil (A : List Pt) : hf A [] = A := by cases A <;> simp [hf]
theorem rwins (a b : Pt) : thermographref06_Wins.f a.f0 a.f1 a.f2 b.f0 b.f1 b.f2 = some (winsP a b) := by
  unfold thermographref06_Wins.f winsP
  by_cases h1 : a.f2 > b.f2
  · rw [if_pos h1, decide_eq_true h1]; rfl
  · rw [if_neg h1, decide_eq_false h1]
    by_cases h2 : a.f2 = b.f2
    · rw [if_pos h2, h2]; simp
    · rw [if_neg h2]; simp [h2]
theorem half_ev0 (n : Nat) (hn : n ≤ 1099511627776) : ∀ (d : Nat) (A B A' B' acc x0 x1 : List Pt), A.length + B.length = d → x0 = A' ++ A → x1 = B' ++ B → acc.length + A.length + B.length ≤ n → x0.length + x1.length ≤ n →
    Ev (fun k => thermographref06_half.l0 k x0 x1 acc (A'.length : Int) (B'.length : Int)) (acc ++ hf A B) := by
  intro d
  induction d using Nat.strongRecOn with
  | _ d ih =>
    intro A B A' B' acc x0 x1 hd h0 h1 ha hl; have l0 : x0.length = A'.length + A.length := by rw [h0]; simp
    have l1 : x1.length = B'.length + B.length := by rw [h1]; simp
    match A, B with
    | [], [] =>
      simp only [List.length_nil, Nat.add_zero] at l0 l1; refine Ev.step (f := fun k => thermographref06_half.j1 k x0 x1 acc A'.length B'.length false) (fun k => ?_) (Ev.step (f := fun _ => some acc) (fun k => ?_) (by simpa [hf] using Ev.now acc))
      · rw [thermographref06_half.l0, if_neg (by omega), show decide ((B'.length : Int) < (x1.length : Int)) = false from decide_eq_false (by omega)]
      · rw [thermographref06_half.j1, if_neg (by simp)]
    | a :: A, [] =>
      simp only [List.length_cons, List.length_nil, Nat.add_zero] at l0 l1 ha hd; have e0 : rd_T42 x0 (A'.length : Int) = a := by rw [h0]; exact rd_mid' A' A a _ rfl
      have h2 := ih (A.length) (by omega) A [] (A' ++ [a]) B' (acc ++ [a]) x0 x1 (by simp) (by rw [h0]; simp) h1 (by simp; omega) hl; rw [hf_nil] at h2 ⊢; rw [show acc ++ a :: A = acc ++ [a] ++ A from by simp]; rw [List.length_append, List.length_singleton] at h2; refine Ev.step (f := fun k => thermographref06_half.j1 k x0 x1 acc A'.length B'.length true) (fun k => ?_) (Ev.step (f := fun k => thermographref06_half.j2 k x0 x1 acc A'.length B'.length true) (fun k => ?_) (Ev.step (fun k => ?_) h2))
      · rw [thermographref06_half.l0, if_pos (by omega)]
      · rw [thermographref06_half.j1, if_pos rfl, if_pos (by omega)]
      · rw [thermographref06_half.j2, if_pos rfl, if_pos (by omega), if_pos (by omega), if_pos (by omega), e0, w1 _ (by omega)]
    | [], b :: B =>
      simp only [List.length_cons, List.length_nil, Nat.add_zero, Nat.zero_add] at l0 l1 ha hd; have e1 : rd_T42 x1 (B'.length : Int) = b := by rw [h1]; exact rd_mid' B' B b _ rfl
      have h2 := ih (B.length) (by omega) [] B A' (B' ++ [b]) (acc ++ [b]) x0 x1 (by simp) h0 (by rw [h1]; simp) (by simp; omega) hl; rw [show hf [] B = B from by simp [hf]] at h2; rw [show hf [] (b :: B) = b :: B from by simp [hf], show acc ++ b :: B = acc ++ [b] ++ B from by simp]; rw [List.length_append, List.length_singleton] at h2; refine Ev.step (f := fun k => thermographref06_half.j1 k x0 x1 acc A'.length B'.length true) (fun k => ?_) (Ev.step (f := fun k => thermographref06_half.j2 k x0 x1 acc A'.length B'.length false) (fun k => ?_) (Ev.step (f := fun k => thermographref06_half.j3 k x0 x1 acc A'.length B'.length true) (fun k => ?_) (Ev.step (fun k => ?_) h2)))
      · rw [thermographref06_half.l0, if_neg (by omega), show decide ((B'.length : Int) < (x1.length : Int)) = true from decide_eq_true (by omega)]
      · rw [thermographref06_half.j1, if_pos rfl, if_neg (by omega), if_neg (by omega)]
      · rw [thermographref06_half.j2, if_neg (by simp), if_pos (by omega)]
      · rw [thermographref06_half.j3, if_pos rfl, if_pos (by omega), if_pos (by omega), if_pos (by omega), e1, w1 _ (by omega)]
    | a :: A, b :: B =>
      simp only [List.length_cons] at l0 l1 ha hd; have e0 : rd_T42 x0 (A'.length : Int) = a := by rw [h0]; exact rd_mid' A' A a _ rfl
      have e1 : rd_T42 x1 (B'.length : Int) = b := by rw [h1]; exact rd_mid' B' B b _ rfl
      have s1 : ∀ k, thermographref06_half.l0 (k + 1) x0 x1 acc A'.length B'.length = thermographref06_half.j1 k x0 x1 acc A'.length B'.length true := by
        intro k; rw [thermographref06_half.l0, if_pos (by omega)]
      have s2 : ∀ k, thermographref06_half.j1 (k + 1) x0 x1 acc A'.length B'.length true = thermographref06_half.j2 k x0 x1 acc A'.length B'.length (decide (a.f0 < b.f0)) := by
        intro k; rw [thermographref06_half.j1, if_pos rfl, if_neg (by omega), if_pos (by omega), if_pos (by omega), if_pos (by omega), if_pos (by omega), e0, e1]
      by_cases c1 : a.f0 < b.f0
      · have h2 := ih (A.length + (b :: B).length) (by simp; omega) A (b :: B) (A' ++ [a]) B' (acc ++ [a]) x0 x1 rfl (by rw [h0]; simp) h1 (by simp; omega) hl
        rw [List.length_append, List.length_singleton] at h2; rw [hf, if_pos c1, show acc ++ a :: hf A (b :: B) = acc ++ [a] ++ hf A (b :: B) from by simp]; rw [decide_eq_true c1] at s2; refine Ev.step s1 (Ev.step s2 (Ev.step (fun k => ?_) h2)); rw [thermographref06_half.j2, if_pos rfl, if_pos (by omega), if_pos (by omega), if_pos (by omega), e0, w1 _ (by omega)]
      · rw [decide_eq_false c1] at s2
        have s3 : ∀ k, thermographref06_half.j2 (k + 1) x0 x1 acc A'.length B'.length false = thermographref06_half.j3 k x0 x1 acc A'.length B'.length (decide (b.f0 < a.f0)) := by
          intro k; rw [thermographref06_half.j2, if_neg (by simp), if_neg (by omega), if_pos (by omega), if_pos (by omega), if_pos (by omega), if_pos (by omega), e0, e1]
        rw [hf, if_neg c1]
        by_cases c2 : b.f0 < a.f0
        · have h2 := ih ((a :: A).length + B.length) (by simp; omega) (a :: A) B A' (B' ++ [b]) (acc ++ [b]) x0 x1 rfl h0 (by rw [h1]; simp) (by simp; omega) hl
          rw [List.length_append, List.length_singleton] at h2; rw [if_pos c2, show acc ++ b :: hf (a :: A) B = acc ++ [b] ++ hf (a :: A) B from by simp]; rw [decide_eq_true c2] at s3; refine Ev.step s1 (Ev.step s2 (Ev.step s3 (Ev.step (fun k => ?_) h2))); rw [thermographref06_half.j3, if_pos rfl, if_pos (by omega), if_pos (by omega), if_pos (by omega), e1, w1 _ (by omega)]
        · rw [if_neg c2]
          rw [decide_eq_false c2] at s3; have h2 := fun x => ih (A.length + B.length) (by omega) A B (A' ++ [a]) (B' ++ [b]) (acc ++ [x]) x0 x1 rfl (by rw [h0]; simp) (by rw [h1]; simp) (by simp; omega) hl; simp only [List.length_append, List.length_singleton] at h2
          have s4 : ∀ k, thermographref06_half.j3 (k + 1) x0 x1 acc A'.length B'.length false = if winsP b a = true then thermographref06_half.l0 k x0 x1 (acc ++ [b]) ((A'.length + 1 : Nat) : Int) ((B'.length + 1 : Nat) : Int) else thermographref06_half.l0 k x0 x1 (acc ++ [a]) ((A'.length + 1 : Nat) : Int) ((B'.length + 1 : Nat) : Int) := by
            intro k; rw [thermographref06_half.j3, if_neg (by simp), if_pos (by omega), if_pos (by omega), if_pos (by omega), if_pos (by omega), e0, e1, rwins, w1 _ (by omega), w1 _ (by omega)]; have hq : acc.length < 5864062014805 := by omega
            simp only [Option.bind_some, hq, if_true]
          by_cases c3 : winsP b a = true
          · rw [if_pos c3, show acc ++ b :: hf A B = acc ++ [b] ++ hf A B from by simp]
            exact Ev.step s1 (Ev.step s2 (Ev.step s3 (Ev.step (fun k => by rw [s4 k, if_pos c3]) (h2 b))))
          · rw [if_neg c3, show acc ++ a :: hf A B = acc ++ [a] ++ hf A B from by simp]
            exact Ev.step s1 (Ev.step s2 (Ev.step s3 (Ev.step (fun k => by rw [s4 k, if_neg c3]) (h2 a))))
theorem half_ev (a b : List Pt) (hn : a.length + b.length ≤ 1099511627776) : Ev (fun k => thermographref06_half.f k a b) (hf a b) := half_ev0 _ hn _ a b [] [] [] a b rfl rfl rfl (by simp) (Nat.le_refl _)
theorem hf_is : ∀ (d : Nat) (A B : List Pt), A.length + B.length = d → Up A → Up B → Is (A ++ B) (hf A B) := by
  intro d
  induction d using Nat.strongRecOn with
  | _ d ih =>
    intro A B hd hA hB
    match A, B with
    | [], B => simpa [hf] using Is.self hB
    | a :: A, [] => rw [hf_nil]; simpa using Is.self hA
    | a :: A, b :: B =>
      simp only [List.length_cons] at hd; obtain ⟨a1, a2⟩ := List.pairwise_cons.1 hA; obtain ⟨b1, b2⟩ := List.pairwise_cons.1 hB; rw [hf]
      by_cases c1 : a.f0 < b.f0
      · rw [if_pos c1]
        have h2 := ih (A.length + (b :: B).length) (by simp; omega) A (b :: B) rfl a2 hB; refine ⟨List.pairwise_cons.2 ⟨fun z hz => ?_, h2.1⟩, ?_⟩
        · rcases List.mem_append.1 (h2.2.1 z hz) with h | h
          · exact a1 z h
          · rcases List.mem_cons.1 h with rfl | h
            · exact c1
            · have := b1 z h; omega
        · exact Dom.append (l := [a]) (c := [a]) (Dom.refl _) h2.2
      · rw [if_neg c1]
        by_cases c2 : b.f0 < a.f0
        · rw [if_pos c2]
          have h2 := ih ((a :: A).length + B.length) (by simp; omega) (a :: A) B rfl hA b2; refine ⟨List.pairwise_cons.2 ⟨fun z hz => ?_, h2.1⟩, ?_⟩
          · rcases List.mem_append.1 (h2.2.1 z hz) with h | h
            · rcases List.mem_cons.1 h with rfl | h
              · exact c2
              · have := a1 z h; omega
            · exact b1 z h
          · exact (Dom.perm List.perm_middle).trans (Dom.append (l := [b]) (c := [b]) (Dom.refl _) h2.2)
        · rw [if_neg c2]
          have he : a.f0 = b.f0 := by omega
          have h2 := ih (A.length + B.length) (by omega) A B rfl a2 b2
          have hd2 : Dom ([a, b]) [if winsP b a = true then b else a] := by
            refine ⟨fun p hp => ?_, fun q hq => ⟨_, List.mem_singleton.2 rfl, ?_⟩⟩
            · rw [List.mem_singleton] at hp
              subst hp
              split <;> simp
            · by_cases c3 : winsP b a = true
              · rw [if_pos c3]
                have hg : Ge b a := by rcases Ge.total b a with h | h; · exact h
                                       · exact absurd h ((wins_iff b a).1 c3)
                rcases List.mem_cons.1 hq with rfl | hq
                · exact ⟨he.symm, hg⟩
                · rw [List.mem_singleton] at hq; subst hq; exact ⟨rfl, Ge.refl _⟩
              · rw [if_neg c3]
                have hg : Ge a b := (wins_false b a).1 (by simpa using c3); rcases List.mem_cons.1 hq with rfl | hq
                · exact ⟨rfl, Ge.refl _⟩
                · rw [List.mem_singleton] at hq; subst hq; exact ⟨he, hg⟩
          refine ⟨List.pairwise_cons.2 ⟨fun z hz => ?_, h2.1⟩, ?_⟩
          · have hz0 : (if winsP b a = true then b else a).f0 = a.f0 := by split <;> omega
            rw [hz0]; rcases List.mem_append.1 (h2.2.1 z hz) with h | h
            · exact a1 z h
            · have := b1 z h; omega
          · have hp : (a :: A ++ b :: B).Perm ([a, b] ++ (A ++ B)) := by
              simp only [List.cons_append, List.nil_append]; exact (List.perm_middle).cons a
            exact (Dom.perm hp).trans (Dom.append hd2 h2.2)
theorem view_ev : ∀ (n : Nat) (l : List Pt), l.length = n → n ≤ 1099511627776 → Ev (fun k => thermographref06_View.f k l) (view l) := by
  intro n
  induction n using Nat.strongRecOn with
  | _ n ih =>
    intro l hl hn
    by_cases h1 : l.length ≤ 1
    · have hv : view l = l := by
        match l, h1 with
        | [], _ => rfl
        | [x], _ => rfl
      rw [hv]; refine Ev.step (f := fun _ => some l) (fun k => ?_) (Ev.now l); rw [thermographref06_View.f]; simp only [Option.bind_some]; rw [if_pos (by omega), if_pos (by simp; omega)]; rfl
    · have hw : wrap64 ((l.length : Int) / 2) = ((l.length / 2 : Nat) : Int) := by unfold wrap64; omega
      have e1 := ih (l.take (l.length / 2)).length (by simp; omega) _ rfl (by simp; omega); have e2 := ih (l.drop (l.length / 2)).length (by simp; omega) _ rfl (by simp; omega); have l1 := view_len (l.take (l.length / 2)); have l2 := view_len (l.drop (l.length / 2)); simp only [List.length_take, List.length_drop] at l1 l2; have e3 := half_ev (view (l.take (l.length / 2))) (view (l.drop (l.length / 2))) (by omega)
      have hv : view l = hf (view (l.take (l.length / 2))) (view (l.drop (l.length / 2))) := by
        refine view_eq (Is.of_dom ?_ (hf_is _ _ _ rfl (view_is _).1 (view_is _).1)); have := Dom.append (view_is (l.take (l.length / 2))).2 (view_is (l.drop (l.length / 2))).2
        rwa [List.take_append_drop] at this
      rw [hv]
      refine Ev.step (f := fun k => (thermographref06_View.f k (l.take (l.length / 2))).bind fun a => (thermographref06_View.f k (l.drop (l.length / 2))).bind fun b => (thermographref06_half.f k a b).bind fun c => some c) (fun k => ?_)
        (Ev.bind (f := fun k a => (thermographref06_View.f k (l.drop (l.length / 2))).bind fun b => (thermographref06_half.f k a b).bind fun c => some c) e1
          (Ev.bind (f := fun k b => (thermographref06_half.f k (view (l.take (l.length / 2))) b).bind fun c => some c) e2 (Ev.bind (f := fun _ c => some c) e3 (Ev.now _))))
      rw [thermographref06_View.f]; simp only [Option.bind_some]; rw [if_neg (by omega), hw, if_pos (by omega), if_pos (by omega), Int.toNat_natCast]
theorem view_ref (l : List Pt) (hn : l.length ≤ 1099511627776) : Ev (fun k => thermographref06_View.f k l) (view l) := view_ev _ l rfl hn
end Vw
end Go.Proofs.Ytgagcimfkmegnaa
end
section
namespace Go.Proofs.Ytgagcimfkmegnaa
set_option linter.unusedVariables false
set_option linter.unusedSimpArgs false
open Go.RowKit Go.Proofs.YtgagcimfkmegnaaW.PrintWords Go.Proofs.YtgagcimfkmegnaaW.PrintLast Go.Proofs.YtgagcimfkmegnaaW.PrintMore Go.Proofs.Ytgagcimfkmegnaa.QT
namespace Ps
theorem view_calls (w : World) (A : Option Addr) (c : Nat) (l : List Pt) (hC : Kd.C k42 w A l.length l) (hc : l.length ≤ c) (hl : l.length ≤ 1000000) :
  Calls Try.prog 22 #[.slice A l.length c] w fun e w' => ∃ v : Value, e = .returned v ∧ Kd.R k42 42 w' w.heap.size (fun _ => True) v (Vw.view l) ∧ Below w.heap.size w w' := by
 obtain ⟨k, hk⟩ := (Vw.view_ref l (by omega)).rounds; exact thermographref06_View.calls k A c l _ w hC hc hk
def vs (s : S65) : S65 := ⟨s.f0, Vw.view s.f1⟩
theorem rdS {l : List S65} {i : Nat} (h : i < l.length) : rd_T65 l (i : Int) = l[i] := by
 unfold rd_T65; rw [Int.toNat_natCast, List.getD_eq_getElem?_getD, List.getElem?_eq_getElem h]; rfl
end Ps
end Go.Proofs.Ytgagcimfkmegnaa
end
section
namespace Go.Proofs.Ytgagcimfkmegnaa
set_option linter.unusedVariables false
set_option linter.unusedSimpArgs false
open Go.RowKit Go.Proofs.YtgagcimfkmegnaaW.PrintWords Go.Proofs.YtgagcimfkmegnaaW.PrintLast Go.Proofs.YtgagcimfkmegnaaW.PrintMore Go.Proofs.Ytgagcimfkmegnaa.QT
namespace Ps
open Hm (Hp cur put)
theorem ltN_iff {a b : ByteArray} : Ra.ltN a b = true ↔ a.data.toList < b.data.toList := by
 unfold Ra.ltN; rw [bytesLess_eq, ByteArray.toList_eq, ByteArray.toList_eq, decide_eq_true_iff]
theorem ltN_not {a b : ByteArray} : Ra.ltN a b = false ↔ Hm.leN b a := by
 rw [← Bool.not_eq_true, ltN_iff]; unfold Hm.leN; exact List.not_lt
theorem insS_names (n : ByteArray) (p : S42) : ∀ (l : List S65) (x : ByteArray), x ∈ (Ra.insS n p l).map (·.f0) ↔ x = n ∨ x ∈ l.map (·.f0)
 | [], x => by simp [Ra.insS]
 | s :: r, x => by
  unfold Ra.insS
  split
  ·
   rw [List.map_cons, List.mem_cons, insS_names n p r x, List.map_cons, List.mem_cons]
   constructor
   ·
    rintro (h | h | h)
    ·
     exact .inr (.inl h)
    ·
     exact .inl h
    ·
     exact .inr (.inr h)
   ·
    rintro (h | h | h)
    ·
     exact .inr (.inl h)
    ·
     exact .inl h
    ·
     exact .inr (.inr h)
  ·
   split
   ·
    rename_i h2
    rw [List.map_cons, List.map_cons, List.mem_cons, List.mem_cons, h2]
    constructor
    ·
     rintro (h | h)
     ·
      exact .inl h
     ·
      exact .inr (.inr h)
    ·
     rintro (h | h | h)
     ·
      exact .inl h
     ·
      exact .inl h
     ·
      exact .inr h
   ·
    simp
theorem insS_up (n : ByteArray) (p : S42) : ∀ (l : List S65), (l.map (·.f0)).Pairwise Hm.leN → (l.map (·.f0)).Nodup → ((Ra.insS n p l).map (·.f0)).Pairwise Hm.leN ∧ ((Ra.insS n p l).map (·.f0)).Nodup
 | [], _, _ => by simp [Ra.insS]
 | s :: r, h1, h2 => by
  rw [List.map_cons] at h1 h2; obtain ⟨a1, a2⟩ := List.pairwise_cons.1 h1; obtain ⟨b1, b2⟩ := List.nodup_cons.1 h2; obtain ⟨c1, c2⟩ := insS_up n p r a2 b2; unfold Ra.insS
  split
  ·
   rename_i hlt
   rw [List.map_cons]; have hle : Hm.leN s.f0 n := by unfold Hm.leN; exact List.le_of_lt (ltN_iff.1 hlt)
   have hne : s.f0 ≠ n := fun e => by rw [e] at hlt; exact absurd (ltN_iff.1 hlt) (List.lt_irrefl _)
   refine ⟨List.pairwise_cons.2 ⟨fun x hx => ?_, c1⟩, List.nodup_cons.2 ⟨fun hx => ?_, c2⟩⟩
   ·
    rcases (insS_names n p r x).1 hx with rfl | hx
    ·
     exact hle
    ·
     exact a1 x hx
   ·
    rcases (insS_names n p r _).1 hx with e | hx
    ·
     exact hne e
    ·
     exact b1 hx
  ·
   rename_i hlt
   have hle : Hm.leN n s.f0 := ltN_not.1 (by simpa using hlt)
   split
   ·
    rename_i h3
    rw [List.map_cons]; exact ⟨by rw [← h3]; exact h1, by rw [← h3]; exact h2⟩
   ·
    rename_i h3
    rw [List.map_cons, List.map_cons]
    have hall : ∀ x ∈ s.f0 :: r.map (·.f0), Hm.leN n x := by
     intro x hx; rcases List.mem_cons.1 hx with rfl | hx
     ·
      exact hle
     ·
      exact List.le_trans hle (a1 x hx)
    refine ⟨List.pairwise_cons.2 ⟨hall, h1⟩, List.nodup_cons.2 ⟨fun hx => ?_, h2⟩⟩; rcases List.mem_cons.1 hx with e | hx
    ·
     exact h3 e.symm
    ·
     have h4 := a1 n hx; exact h3 (ByteArray.ext (Array.toList_inj.1 (List.le_antisymm h4 hle)))
theorem insS_mem (n : ByteArray) (p : S42) : ∀ (l : List S65), (l.map (·.f0)).Pairwise Hm.leN → (l.map (·.f0)).Nodup → ∀ s ∈ Ra.insS n p l,
  (s ∈ l ∧ s.f0 ≠ n) ∨ (s.f0 = n ∧ ((∃ t ∈ l, t.f0 = n ∧ s.f1 = Ra.addP p t.f1) ∨ ((∀ t ∈ l, t.f0 ≠ n) ∧ s.f1 = [p])))
 | [], _, _, s, hs => by
  have := List.mem_singleton.1 hs; subst this
  exact .inr ⟨rfl, .inr ⟨by simp, rfl⟩⟩
 | q :: r, h1, h2, s, hs => by
  rw [List.map_cons] at h1 h2; obtain ⟨a1, a2⟩ := List.pairwise_cons.1 h1; obtain ⟨b1, b2⟩ := List.nodup_cons.1 h2; unfold Ra.insS at hs
  split at hs
  ·
   rename_i hlt
   have hne : q.f0 ≠ n := fun e => by rw [e] at hlt; exact absurd (ltN_iff.1 hlt) (List.lt_irrefl _)
   rcases List.mem_cons.1 hs with rfl | hs
   ·
    exact .inl ⟨by simp, hne⟩
   ·
    rcases insS_mem n p r a2 b2 s hs with ⟨h3, h4⟩ | ⟨h3, ⟨t, h4, h5, h6⟩ | ⟨h4, h5⟩⟩
    ·
     exact .inl ⟨List.mem_cons_of_mem _ h3, h4⟩
    ·
     exact .inr ⟨h3, .inl ⟨t, List.mem_cons_of_mem _ h4, h5, h6⟩⟩
    ·
     refine .inr ⟨h3, .inr ⟨fun t ht => ?_, h5⟩⟩; rcases List.mem_cons.1 ht with rfl | ht
     ·
      exact hne
     ·
      exact h4 t ht
  ·
   rename_i hlt
   have hle : Hm.leN n q.f0 := ltN_not.1 (by simpa using hlt)
   split at hs
   ·
    rename_i h3
    rcases List.mem_cons.1 hs with rfl | hs
    ·
     exact .inr ⟨rfl, .inl ⟨q, by simp, h3, rfl⟩⟩
    ·
     exact .inl ⟨List.mem_cons_of_mem _ hs, fun e => b1 (by rw [h3, ← e]; exact List.mem_map.2 ⟨s, hs, rfl⟩)⟩
   ·
    rename_i h3
    have hall : ∀ t ∈ q :: r, t.f0 ≠ n := by
     intro t ht e; rcases List.mem_cons.1 ht with rfl | ht
     ·
      exact h3 e
     ·
      have h4 := a1 t.f0 (List.mem_map.2 ⟨t, ht, rfl⟩); rw [e] at h4; exact h3 (ByteArray.ext (Array.toList_inj.1 (List.le_antisymm h4 hle)))
    rcases List.mem_cons.1 hs with rfl | hs
    ·
     exact .inr ⟨rfl, .inr ⟨hall, rfl⟩⟩
    ·
     exact .inl ⟨hs, hall s hs⟩
theorem best_f0 (q p : Pt) (h : q.f0 = p.f0) : (Ra.best q p).f0 = q.f0 := by
 unfold Ra.best
 split
 ·
  rfl
 ·
  exact h.symm
theorem best_mem (q p : Pt) : Ra.best q p = q ∨ Ra.best q p = p := by
 unfold Ra.best
 split
 ·
  exact .inl rfl
 ·
  exact .inr rfl
theorem best_ge (q p : Pt) : Vw.Ge (Ra.best q p) q ∧ Vw.Ge (Ra.best q p) p := by
 unfold Ra.best
 split
 ·
  rename_i h
  have h1 := (Vw.wins_iff q p).1 h; rcases Vw.Ge.total q p with h2 | h2
  ·
   exact ⟨Vw.Ge.refl _, h2⟩
  ·
   exact absurd h2 h1
 ·
  rename_i h
  have h1 := (Vw.wins_false q p).1 (by simpa using h); exact ⟨h1, Vw.Ge.refl _⟩
/-- A point laid into a view is the view of one point more. -/
theorem addP_up (p : Pt) : ∀ l : List Pt, Vw.Up l → Vw.Is (l ++ [p]) (Ra.addP p l)
 | [], _ => by
  show Vw.Is [p] [p]
  exact Vw.Is.self (List.pairwise_singleton _ _)
 | q :: r, h => by
  obtain ⟨h1, h2⟩ := List.pairwise_cons.1 h; have ih := addP_up p r h2; unfold Ra.addP
  by_cases hq : q.f0 < p.f0
  ·
   rw [if_pos hq]; refine ⟨List.pairwise_cons.2 ⟨fun z hz => ?_, ih.1⟩, ?_⟩
   ·
    rcases List.mem_append.1 (ih.2.1 z hz) with h3 | h3
    ·
     exact h1 z h3
    ·
     rw [List.mem_singleton.1 h3]; exact hq
   ·
    exact Vw.Dom.append (Vw.Dom.refl [q]) ih.2
  ·
   rw [if_neg hq]
   by_cases he : q.f0 = p.f0
   ·
    rw [if_pos he]; have hb := best_f0 q p he; have hg := best_ge q p; refine ⟨List.pairwise_cons.2 ⟨fun z hz => by rw [hb]; exact h1 z hz, h2⟩, fun z hz => ?_, fun z hz => ?_⟩
    ·
     rcases List.mem_cons.1 hz with rfl | hz
     ·
      rcases best_mem q p with e | e
      ·
       rw [e]; simp
      ·
       rw [e]; simp
     ·
      simp [hz]
    ·
     rw [List.cons_append] at hz; rcases List.mem_cons.1 hz with rfl | hz
     ·
      exact ⟨_, List.mem_cons_self, hb, hg.1⟩
     ·
      rcases List.mem_append.1 hz with hz | hz
      ·
       exact ⟨z, List.mem_cons_of_mem _ hz, rfl, Vw.Ge.refl z⟩
      ·
       rw [List.mem_singleton.1 hz]; exact ⟨_, List.mem_cons_self, hb.trans he, hg.2⟩
   ·
    rw [if_neg he]; refine ⟨List.pairwise_cons.2 ⟨fun z hz => ?_, h⟩, Vw.Dom.of_mem fun z => ?_⟩
    ·
     rcases List.mem_cons.1 hz with rfl | hz
     ·
      omega
     ·
      have := h1 z hz; omega
    ·
     simp only [List.mem_append, List.mem_cons, List.not_mem_nil, or_false]
     constructor
     ·
      rintro ((h | h) | h)
      ·
       exact .inr (.inl h)
      ·
       exact .inr (.inr h)
      ·
       exact .inl h
     ·
      rintro (h | h | h)
      ·
       exact .inr h
      ·
       exact .inl (.inl h)
      ·
       exact .inl (.inr h)
theorem addP_is {c l : List Pt} (p : Pt) (h : Vw.Is c l) : Vw.Is (c ++ [p]) (Ra.addP p l) := Vw.Is.of_dom (Vw.Dom.append h.2 (Vw.Dom.refl [p])) (addP_up p l h.1)
theorem addP_ne (p : Pt) (l : List Pt) : Ra.addP p l ≠ [] := by
 cases l with
 | nil => simp [Ra.addP]
 | cons q r =>
  unfold Ra.addP
  split
  ·
   simp
  ·
   split <;> simp
/-- A view cut to some times is the view of what is cut. -/
theorem cut_is {c l : List Pt} (a b : Int) (h : Vw.Is c l) : Vw.Is (Hm.cut c a b) (Hm.cut l a b) := by
 unfold Hm.cut; refine ⟨List.Pairwise.filter _ h.1, fun p hp => ?_, fun q hq => ?_⟩
 ·
  obtain ⟨h1, h2⟩ := List.mem_filter.1 hp; exact List.mem_filter.2 ⟨h.2.1 p h1, h2⟩
 ·
  obtain ⟨h1, h2⟩ := List.mem_filter.1 hq; obtain ⟨p, h3, h4, h5⟩ := h.2.2 q h1; exact ⟨p, List.mem_filter.2 ⟨h3, by rw [h4]; exact h2⟩, h4, h5⟩
theorem cut_view (c : List Pt) (a b : Int) : Hm.cut (Vw.view c) a b = Vw.view (Hm.cut c a b) := (Vw.view_eq (cut_is a b (Vw.view_is c))).symm
/-- The document's series say what was told, by name: the views of what lies in the times that were asked for. -/
structure SR (rg : S30) (told : ByteArray → List Pt) (S : List S65) : Prop where
 up : (S.map (·.f0)).Pairwise Hm.leN
 nd : (S.map (·.f0)).Nodup
 val : ∀ s ∈ S, s.f1 ≠ [] ∧ Vw.Is (Hm.cut (told s.f0) rg.f0 rg.f1) s.f1
 all : ∀ n, Hm.cut (told n) rg.f0 rg.f1 ≠ [] → ∃ s ∈ S, s.f0 = n
theorem SR.nil (rg : S30) : SR rg (fun _ => []) [] := ⟨List.Pairwise.nil, List.nodup_nil, by simp, fun n h => absurd rfl h⟩
def tell (told : ByteArray → List Pt) (n : ByteArray) (P : List Pt) (k : ByteArray) : List Pt := if k = n then told k ++ P else told k
theorem cut_append (l r : List Pt) (a b : Int) : Hm.cut (l ++ r) a b = Hm.cut l a b ++ Hm.cut r a b := List.filter_append ..
theorem SR.one {rg : S30} {told : ByteArray → List Pt} {S : List S65} (h : SR rg told S) (n : ByteArray) (p : Pt) : SR rg (tell told n [p]) (add1 rg n S p) := by
 unfold add1
 by_cases hp : rg.f0 ≤ p.f0 ∧ p.f0 < rg.f1
 ·
  rw [if_pos hp]; have hc : Hm.cut [p] rg.f0 rg.f1 = [p] := by unfold Hm.cut; rw [List.filter_cons, if_pos (by simp [hp]), List.filter_nil]
  have hn : Hm.cut (tell told n [p] n) rg.f0 rg.f1 = Hm.cut (told n) rg.f0 rg.f1 ++ [p] := by unfold tell; rw [if_pos rfl, cut_append, hc]
  have ho : ∀ k, k ≠ n → tell told n [p] k = told k := fun k hk => by unfold tell; rw [if_neg hk]
  obtain ⟨u1, u2⟩ := insS_up n p S h.up h.nd; refine ⟨u1, u2, fun s hs => ?_, fun k hk => ?_⟩
  ·
   rcases insS_mem n p S h.up h.nd s hs with ⟨h1, h2⟩ | ⟨h1, ⟨t, h2, h3, h4⟩ | ⟨h2, h3⟩⟩
   ·
    rw [ho _ h2]; exact h.val s h1
   ·
    rw [h1, hn, h4]; have := (h.val t h2).2; rw [h3] at this; exact ⟨addP_ne p t.f1, addP_is p this⟩
   ·
    rw [h1, hn, h3]
    have he : Hm.cut (told n) rg.f0 rg.f1 = [] := by
     cases hh : Hm.cut (told n) rg.f0 rg.f1 with
     | nil => rfl
     | cons q r =>
      obtain ⟨s2, h5, h6⟩ := h.all n (by rw [hh]; simp); exact absurd h6 (h2 s2 h5)
    rw [he, List.nil_append]; exact ⟨by simp, Vw.Is.self (List.pairwise_singleton _ _)⟩
  ·
   by_cases hkn : k = n
   ·
    subst hkn; obtain ⟨s, h1, h2⟩ := List.mem_map.1 ((insS_names k p S k).2 (.inl rfl)); exact ⟨s, h1, h2⟩
   ·
    rw [ho k hkn] at hk; obtain ⟨s, h1, h2⟩ := h.all k hk; obtain ⟨s2, h3, h4⟩ := List.mem_map.1 ((insS_names n p S k).2 (.inr (List.mem_map.2 ⟨s, h1, h2⟩))); exact ⟨s2, h3, h4⟩
 ·
  rw [if_neg hp]; have hc : Hm.cut [p] rg.f0 rg.f1 = [] := by unfold Hm.cut; rw [List.filter_cons, if_neg (by simpa using hp), List.filter_nil]
  have ho : ∀ k, Hm.cut (tell told n [p] k) rg.f0 rg.f1 = Hm.cut (told k) rg.f0 rg.f1 := fun k => by
   unfold tell
   split
   ·
    rw [cut_append, hc, List.append_nil]
   ·
    rfl
  exact ⟨h.up, h.nd, fun s hs => by rw [ho]; exact h.val s hs, fun k hk => h.all k (by rw [← ho]; exact hk)⟩
theorem SR.more {rg : S30} (n : ByteArray) : ∀ (P : List Pt) (told : ByteArray → List Pt) (S : List S65), SR rg told S → SR rg (tell told n P) (addP rg n S P)
 | [], told, S, h => by
  have : tell told n [] = told := by funext k; unfold tell; split <;> simp
  rw [this]; exact h
 | p :: P, told, S, h => by
  have ih := SR.more n P (tell told n [p]) (add1 rg n S p) (h.one n p)
  have : tell (tell told n [p]) n P = tell told n (p :: P) := by
   funext k
   unfold tell
   split <;> simp
  rw [this] at ih; exact ih
/-- Strictly rising names with the same members are one list. -/
theorem names_ext : ∀ {l m : List ByteArray}, l.Pairwise Hm.leN → l.Nodup → m.Pairwise Hm.leN → m.Nodup → (∀ x, x ∈ l ↔ x ∈ m) → l = m
 | [], [], _, _, _, _, _ => rfl
 | [], y :: m, _, _, _, _, h => absurd ((h y).2 List.mem_cons_self) (by simp)
 | x :: l, [], _, _, _, _, h => absurd ((h x).1 List.mem_cons_self) (by simp)
 | x :: l, y :: m, h1, h2, h3, h4, h => by
  obtain ⟨a1, a2⟩ := List.pairwise_cons.1 h1; obtain ⟨b1, b2⟩ := List.nodup_cons.1 h2; obtain ⟨c1, c2⟩ := List.pairwise_cons.1 h3; obtain ⟨d1, d2⟩ := List.nodup_cons.1 h4
  have hxy : x = y := by
   rcases List.mem_cons.1 ((h x).1 List.mem_cons_self) with e | e
   ·
    exact e
   ·
    rcases List.mem_cons.1 ((h y).2 List.mem_cons_self) with e2 | e2
    ·
     exact e2.symm
    ·
     exact ByteArray.ext (Array.toList_inj.1 (List.le_antisymm (a1 y e2) (c1 x e)))
  subst hxy
  congr 1
  refine names_ext a2 b2 c2 d2 (fun z => ⟨fun hz => ?_, fun hz => ?_⟩)
  ·
   rcases List.mem_cons.1 ((h z).1 (List.mem_cons_of_mem _ hz)) with e | e
   ·
    exact absurd (by rw [← e]; exact hz) b1
   ·
    exact e
  ·
   rcases List.mem_cons.1 ((h z).2 (List.mem_cons_of_mem _ hz)) with e | e
   ·
    exact absurd (by rw [← e]; exact hz) d1
   ·
    exact e
theorem aget_put_self {α β : Type} [DecidableEq α] (a : α) (v : β) : ∀ m : List (α × β), XM.aget (XM.aput m a v) a = some v
 | [] => by simp [XM.aput, XM.aget]
 | y :: r => by
  have ih := aget_put_self a v r
  by_cases h : y.1 = a
  ·
   simp only [XM.aput, if_pos h, XM.aget]; simp
  ·
   simp only [XM.aput, if_neg h, XM.aget]; exact ih
theorem aget_put_other {α β : Type} [DecidableEq α] (a b : α) (v : β) (hb : b ≠ a) : ∀ m : List (α × β), XM.aget (XM.aput m a v) b = XM.aget m b
 | [] => by
  have : ¬ a = b := fun e => hb e.symm
  simp [XM.aput, XM.aget, this]
 | y :: r => by
  have ih := aget_put_other a b v hb r
  by_cases h : y.1 = a
  ·
   have h1 : ¬ a = b := fun e => hb e.symm; have h2 : ¬ y.1 = b := fun e => hb (by rw [← e, h]); simp only [XM.aput, if_pos h, XM.aget, if_neg h1, if_neg h2]
  ·
   by_cases h2 : y.1 = b
   ·
    simp only [XM.aput, if_neg h, XM.aget, if_pos h2]
   ·
    simp only [XM.aput, if_neg h, XM.aget, if_neg h2]; exact ih
theorem cur_tell (hm : Hp) (i : ByteArray) (v : Value) (P : List Pt) : (fun n => (cur (put hm i v P) n).2) = tell (fun n => (cur hm n).2) i P := by
 funext k
 unfold tell; have h1 := Hm.cont_cur k (put hm i v P); have h2 := Hm.cont_cur k hm; have h3 := Hm.cont_cur i hm; unfold put at h1 ⊢; rw [Hm.cont_aput] at h1
 by_cases hk : k = i
 ·
  subst hk; rw [if_pos rfl, h1, aget_put_self]; rfl
 ·
  rw [if_neg hk, h1, aget_put_other _ _ _ hk, ← h2]
theorem view_nil {l : List Pt} : Vw.view l = [] ↔ l = [] := by
 constructor
 ·
  intro h
  cases l with
  | nil => rfl
  | cons p r =>
   obtain ⟨q, hq, _⟩ := (Vw.view_is (p :: r)).2.2 p List.mem_cons_self; rw [h] at hq; cases hq
 ·
  intro h; have := Vw.view_len l; rw [h] at this ⊢; exact List.eq_nil_of_length_eq_zero (by simpa using this)
theorem serOf_map (rg : S30) (hm : Hp) : ∀ ns : List ByteArray, serOf rg hm ns = (ns.filter (fun n => decide (Hm.cut (cur hm n).2 rg.f0 rg.f1 ≠ []))).map (fun n => (⟨n, Vw.view (Hm.cut (cur hm n).2 rg.f0 rg.f1)⟩ : S65))
 | [] => rfl
 | n :: r => by
  have ih := serOf_map rg hm r; unfold serOf at ih ⊢; rw [List.flatMap_cons, ih]; unfold one; rw [cut_view]
  by_cases h : Hm.cut (cur hm n).2 rg.f0 rg.f1 = []
  ·
   rw [List.filter_cons_of_neg (by simp [h]), if_neg (by rw [view_nil.2 h]; simp), List.nil_append]
  ·
   rw [List.filter_cons_of_pos (by simp [h]), List.map_cons, if_pos (by
    rcases Nat.eq_zero_or_pos (Vw.view (Hm.cut (cur hm n).2 rg.f0 rg.f1)).length with h2 | h2
    ·
     exact absurd (view_nil.1 (List.eq_nil_of_length_eq_zero h2)) h
    ·
     exact h2)]
   rfl
theorem cur_mem {hm : Hp} {n : ByteArray} (h : (cur hm n).2 ≠ []) : n ∈ hm.map (·.1) := by
 unfold cur at h
 cases hg : XM.aget hm n with
 | none => rw [hg] at h; exact absurd rfl h
 | some v => exact List.mem_map.2 ⟨(n, v), XM.aget_some hg, rfl⟩
/-- What the fetch tells is what the document's tells. -/
theorem series_eq {rg : S30} {hm : Hp} {ns : List ByteArray} {S : List S65} (h : SR rg (fun n => (cur hm n).2) S) (hp : ns.Perm (hm.map (·.1))) (hpw : ns.Pairwise Hm.leN) (hnd : (hm.map (·.1)).Nodup) : serOf rg hm ns = S.map vs := by
 have hF : ns.filter (fun n => decide (Hm.cut (cur hm n).2 rg.f0 rg.f1 ≠ [])) = S.map (·.f0) := by
  refine names_ext (hpw.filter _) ((hp.nodup_iff.2 hnd).filter _) h.up h.nd (fun z => ?_); rw [List.mem_filter]
  constructor
  ·
   rintro ⟨_, h2⟩; obtain ⟨s, h3, h4⟩ := h.all z (by simpa using h2); exact List.mem_map.2 ⟨s, h3, h4⟩
  ·
   intro hz; obtain ⟨s, h3, rfl⟩ := List.mem_map.1 hz; obtain ⟨h4, h5⟩ := h.val s h3
   have hne : Hm.cut (cur hm s.f0).2 rg.f0 rg.f1 ≠ [] := fun e => by
    cases hs : s.f1 with
    | nil => exact h4 hs
    | cons p r =>
     have := h5.2.1 p (by rw [hs]; simp); rw [e] at this; cases this
   exact ⟨hp.mem_iff.2 (cur_mem (fun e => hne (by rw [e]; rfl))), by simpa using hne⟩
 rw [serOf_map, hF, List.map_map]; refine List.map_congr_left (fun s hs => ?_); obtain ⟨_, h5⟩ := h.val s hs; show (⟨s.f0, _⟩ : S65) = vs s; unfold vs; rw [Vw.view_eq h5, Vw.view_eq (Vw.Is.self h5.1)]
theorem same_ev (l : List Pt) (hl : l.length ≤ 1000000) : Ev (fun k => thermographlaw17_same.f k l l) true := by
 have h : ∀ (d i : Nat), l.length - i = d → i ≤ l.length → Ev (fun k => thermographlaw17_same.l0 k l l (i : Int)) true := by
  intro d
  induction d with
  | zero =>
   intro i h1 h2; refine Ev.step (f := fun _ => some true) (fun k => ?_) (Ev.now _)
   rw [thermographlaw17_same.l0, if_neg (by omega)]
  | succ d ih =>
   intro i h1 h2; have := ih (i + 1) (by omega) (by omega); refine Ev.step (fun k => ?_) this; rw [thermographlaw17_same.l0, if_pos (by omega), if_pos (by omega), if_pos (by omega), if_neg (by simp), show wrap64 ((i : Int) + 1) = ((i + 1 : Nat) : Int) from by unfold wrap64; omega]
 exact Ev.congr (fun k => by unfold thermographlaw17_same.f; rw [if_pos rfl]; rfl) (h _ 0 rfl (Nat.zero_le _))
theorem sameSeries_ev (l : List S65) (hl : l.length ≤ 1000000) (hs : ∀ s ∈ l, s.f1.length ≤ 1000000) : Ev (fun k => thermographlaw17_sameSeries.f k l l) true := by
 have h : ∀ (d i : Nat), l.length - i = d → i ≤ l.length → Ev (fun k => thermographlaw17_sameSeries.l0 k l l (i : Int)) true := by
  intro d
  induction d with
  | zero =>
   intro i h1 h2; refine Ev.step (f := fun _ => some true) (fun k => ?_) (Ev.now _)
   rw [thermographlaw17_sameSeries.l0, if_neg (by omega)]
  | succ d ih =>
   intro i h1 h2; have h3 := ih (i + 1) (by omega) (by omega); have hi : i < l.length := by omega
   have h4 : (rd_T65 l (i : Int)).f1.length ≤ 1000000 := by rw [rdS hi]; exact hs _ (List.getElem_mem hi)
   refine Ev.step (f := fun k => (thermographlaw17_same.f k (rd_T65 l (i : Int)).f1 (rd_T65 l (i : Int)).f1).bind fun t => if t = true then thermographlaw17_sameSeries.l0 k l l ((i + 1 : Nat) : Int) else some false) (fun k => ?_) (Ev.bind (f := fun k t => if t = true then thermographlaw17_sameSeries.l0 k l l ((i + 1 : Nat) : Int) else some false) (same_ev _ h4) (by simpa using h3)); rw [thermographlaw17_sameSeries.l0, if_pos (by omega), if_pos (by omega), if_pos (by omega), if_pos rfl, show wrap64 ((i : Int) + 1) = ((i + 1 : Nat) : Int) from by unfold wrap64; omega]
 exact Ev.congr (fun k => by unfold thermographlaw17_sameSeries.f; rw [if_pos rfl]; rfl) (h _ 0 rfl (Nat.zero_le _))
theorem sameSeries_calls (w : World) (A1 : Option Addr) (c1 : Nat) (A2 : Option Addr) (c2 : Nat) (l : List S65) (hl : l.length ≤ 1000000) (hs : ∀ s ∈ l, s.f1.length ≤ 1000000) (h1 : Kd.C k65 w A1 l.length l) (g1 : l.length ≤ c1) (h2 : Kd.C k65 w A2 l.length l) (g2 : l.length ≤ c2) :
  Calls Try.prog 19 #[.slice A1 l.length c1, .slice A2 l.length c2] w fun e w' => e = .returned (.bool true) ∧ Below w.heap.size w w' := by
 obtain ⟨k, hk⟩ := (sameSeries_ev l hl hs).rounds
 exact (thermographlaw17_sameSeries.calls k A1 c1 l A2 c2 l _ w h1 g1 h2 g2 hk).mono fun e w' h => ⟨h.1, h.2.below⟩
end Ps
end Go.Proofs.Ytgagcimfkmegnaa
end
