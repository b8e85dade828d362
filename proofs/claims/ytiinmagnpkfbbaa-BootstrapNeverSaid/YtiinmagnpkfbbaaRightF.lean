/- What a right shard tells. -/
import Derived.Test.YtiinmagnpkfbbaaFnd
namespace Go.Proofs.Ytiinmagnpkfbbaa
set_option linter.unusedVariables false
set_option linter.unusedSimpArgs false
open Go.RowKit Go.Proofs.YtiinmagnpkfbbaaW.PrintWords Go.Proofs.YtiinmagnpkfbbaaW.PrintLast Go.Proofs.YtiinmagnpkfbbaaW.PrintMore Go.Proofs.Ytiinmagnpkfbbaa.QT
namespace Pl
structure RF (l : List Ow) : Prop where
  up : l.Pairwise (fun a b => a.f0 < b.f0)
  nb : ∀ o ∈ l, 0 ≤ o.f0 ∧ o.f0 < 8
  src : ∀ o ∈ l, o.f1 = 1 → ∃ q ∈ l, q.f0 = o.f2 ∧ q.f1 = 3
  st : ∀ o ∈ l, o.f1 = 1 ∨ o.f1 = 2 ∨ o.f1 = 3
  three : (l.filter (fun o => o.f1 != 3)).length = 3
theorem ix_get {α : Type} {p : α → Bool} {l : List α} {d : α} (h : 0 ≤ ix p l) : ∃ q ∈ l, p q = true ∧ l.getD (ix p l).toNat d = q := by
  unfold ix at h ⊢
  rcases ix_ge p l 0 with ⟨e, _⟩ | ⟨k, e, hk, h2⟩
  · omega
  · refine ⟨_, List.getElem_mem hk, h2, ?_⟩
    rw [e, Nat.zero_add, Int.toNat_natCast, List.getD_eq_getElem?_getD, List.getElem?_eq_getElem hk]
    rfl
theorem right_facts {nodes : List Int} {l : List Ow} (h : rightP nodes l = true) : RF l := by
  unfold rightP at h
  simp only [Bool.and_eq_true, List.all_eq_true, beq_iff_eq] at h
  obtain ⟨h1, h2, h3⟩ := h
  have get4 : ∀ o ∈ l, ∃ i, i < l.length ∧ l.getD i z38 = o ∧ nodeB o.f0 = true ∧ (i = 0 ∨ (rd_T38 l ((i : Int) - 1)).f0 < o.f0) ∧ stB l o = true := by
    intro o ho
    obtain ⟨i, hi, rfl⟩ := List.mem_iff_getElem.1 ho
    have := h1 i (List.mem_range.2 hi)
    unfold okAt okO at this
    rw [getD_at hi] at this
    simp only [Bool.and_eq_true, Bool.or_eq_true, beq_iff_eq, decide_eq_true_eq] at this
    exact ⟨i, hi, getD_at hi, this.1, this.2.1, this.2.2.1⟩
  refine ⟨up_of fun i hi => ?_, fun o ho => ?_, fun o ho h => ?_, fun o ho => ?_, h3⟩
  · have := h1 i (List.mem_range.2 hi)
    unfold okAt okO at this
    simp only [Bool.and_eq_true, Bool.or_eq_true, beq_iff_eq, decide_eq_true_eq] at this
    exact this.2.1
  · obtain ⟨i, _, _, hn, _⟩ := get4 o ho
    unfold nodeB at hn
    simpa using hn
  · obtain ⟨i, _, _, _, _, hs⟩ := get4 o ho
    unfold stB at hs
    rw [if_pos h] at hs
    simp only [Bool.and_eq_true, decide_eq_true_eq, beq_iff_eq] at hs
    obtain ⟨q, hq, hp, e⟩ := ix_get (d := z38) hs.1
    refine ⟨q, hq, by unfold at_ at hp; simpa using hp, ?_⟩
    have := hs.2
    unfold rd_T38 at this
    rw [e] at this
    exact this
  · obtain ⟨i, _, _, _, _, hs⟩ := get4 o ho
    unfold stB at hs
    by_cases h : o.f1 = 1
    · exact .inl h
    · rw [if_neg h] at hs
      simp only [Bool.and_eq_true, Bool.or_eq_true, beq_iff_eq] at hs
      exact .inr hs.1
theorem up_len : ∀ (l : List Ow) (a : Int), l.Pairwise (fun a b => a.f0 < b.f0) → (∀ o ∈ l, a ≤ o.f0 ∧ o.f0 < 8) → l.length ≤ (8 - a).toNat
  | [], _, _, _ => Nat.zero_le _
  | x :: r, a, hp, h => by
    obtain ⟨h1, h2⟩ := List.pairwise_cons.1 hp
    have hx := h x List.mem_cons_self
    have ih := up_len r (a + 1) h2 (fun o ho => ⟨by have := h1 o ho; omega, (h o (List.mem_cons_of_mem _ ho)).2⟩)
    rw [List.length_cons]
    omega
theorem RF.len {l : List Ow} (h : RF l) : l.length ≤ 8 := up_len l 0 h.up h.nb
theorem check_right {V : Int} {nodes : List Int} {shards : List (List Ow)} (h : checkP V nodes shards = 0) {l : List Ow} (hl : l ∈ shards) : RF l := by
  unfold checkP at h
  by_cases hc : checkB V nodes shards = true
  · unfold checkB at hc
    simp only [Bool.and_eq_true, List.all_eq_true] at hc
    exact right_facts (hc.2.2 l hl)
  · rw [if_neg hc] at h
    cases h
/-- Who is found lies in the shard, under its number. -/
theorem find_mem {shards : List (List Ow)} {sh n : Int} (h : (findP shards sh n).2 = true) : 0 ≤ sh ∧ sh < shards.length ∧ rd_L4 shards sh ∈ shards ∧ (findP shards sh n).1 ∈ rd_L4 shards sh ∧ (findP shards sh n).1.f0 = n := by
  unfold findP at h ⊢
  by_cases hc : 0 ≤ sh ∧ sh < (shards.length : Int)
  · rw [if_pos hc] at h ⊢
    refine ⟨hc.1, hc.2, ?_, ?_⟩
    · have : sh.toNat < shards.length := by omega
      unfold rd_L4
      rw [List.getD_eq_getElem?_getD, List.getElem?_eq_getElem this]
      exact List.getElem_mem this
    · unfold findL at h ⊢
      by_cases hi : ix (at_ n) (rd_L4 shards sh) < 0
      · rw [if_pos hi] at h; cases h
      · rw [if_neg hi]
        obtain ⟨q, hq, hp, e⟩ := ix_get (p := at_ n) (l := rd_L4 shards sh) (d := z38) (by omega)
        dsimp only
        unfold rd_T38
        rw [e]
        exact ⟨hq, by unfold at_ at hp; simpa using hp⟩
  · rw [if_neg hc] at h
    cases h
end Pl
end Go.Proofs.Ytiinmagnpkfbbaa
