/- BootstrapEnough: the plain law. -/
import Derived.Test.YtiinmagnpkfbbaaBootF
namespace Go.Proofs.Ytiinmagnpkfbbaa
set_option linter.unusedVariables false
set_option linter.unusedSimpArgs false
open Go.RowKit Go.Proofs.YtiinmagnpkfbbaaW.PrintWords Go.Proofs.YtiinmagnpkfbbaaW.PrintLast Go.Proofs.YtiinmagnpkfbbaaW.PrintMore Go.Proofs.Ytiinmagnpkfbbaa.QT
namespace Bt
open Rg (normR)
/-- What the law gathers: the Available ones' numbers. -/
def availL (l : List Ow) : List Int := (l.filter (fun o => o.f1 == 2)).map (·.f0)
theorem avail_step {l : List Ow} {i : Nat} (h : i < l.length) : availL (l.take (i + 1)) = availL (l.take i) ++ (if (l[i].f1 == 2) = true then [l[i].f0] else []) := by
  unfold availL
  rw [List.take_succ_eq_append_getElem h, List.filter_append, List.map_append]
  congr 1
  rw [List.filter_cons]
  split <;> rfl
theorem avail_others {l : List Ow} (h : Pl.RF l) {o : Ow} (ho : o ∈ l) (h1 : o.f1 = 1) : othersL l o.f0 = availL l := by
  unfold othersL availL
  congr 1
  refine List.filter_congr fun x hx => ?_
  cases h2 : (x.f1 == 2) with
  | false => rfl
  | true =>
    rw [Bool.true_and, bne_iff_ne]
    intro e
    have := h.one hx ho e
    subst this
    rw [h1] at h2
    cases h2
theorem count3 (l : List Ow) (h : ∀ o ∈ l, o.f1 = 1 ∨ o.f1 = 2 ∨ o.f1 = 3) : (l.filter (fun o => o.f1 != 3)).length = (l.filter (fun o => o.f1 == 1)).length + (l.filter (fun o => o.f1 == 2)).length := by
  induction l with
  | nil => rfl
  | cons x r ih =>
    have ih := ih (fun o ho => h o (List.mem_cons_of_mem _ ho))
    rcases h x List.mem_cons_self with e | e | e
    · simp only [List.filter_cons, e]; simp; omega
    · simp only [List.filter_cons, e]; simp; omega
    · simp only [List.filter_cons, e]; simpa using ih
theorem avail_two {l : List Ow} (h : Pl.RF l) {o : Ow} (ho : o ∈ l) (h1 : o.f1 = 1) : (availL l).length ≤ 2 := by
  have h3 := h.three
  rw [count3 l h.st] at h3
  have : 0 < (l.filter (fun o => o.f1 == 1)).length := List.length_pos_of_mem (List.mem_filter.2 ⟨ho, by rw [h1]; rfl⟩)
  unfold availL
  rw [List.length_map]
  omega
theorem avail_from {l : List Ow} (h : Pl.RF l) {o : Ow} (ho : o ∈ l) (h1 : o.f1 = 1) : o.f2 ∉ availL l := by
  obtain ⟨q, hq, e, h3⟩ := h.src o ho h1
  unfold availL
  intro hm
  obtain ⟨x, hx, ex⟩ := List.mem_map.1 hm
  obtain ⟨hx1, hx2⟩ := List.mem_filter.1 hx
  have := h.one hx1 hq (ex.trans e.symm)
  subst this
  rw [h3] at hx2
  cases hx2
/-- Who has given, and how many of the others, behind the loop's first i rounds. -/
def giveS (gs : List Bool) (A : List Int) (gv0 : Im) : Nat → Im × Nat
  | 0 => (gv0, 0)
  | i + 1 => if gs.getD (i + 1) false = true then (XM.aput (giveS gs A gv0 i).1 (A.getD i 0) (), (giveS gs A gv0 i).2 + 1) else giveS gs A gv0 i
theorem gave_put (gv : Im) (p x : Int) : gave (XM.aput gv p ()) x = (decide (p = x) || gave gv x) := by
  unfold gave
  induction gv with
  | nil =>
    unfold XM.aput XM.aget
    by_cases h : p = x
    · simp [XM.aget, h]
    · simp [XM.aget, h]
  | cons y r ih =>
    unfold XM.aput
    by_cases hy : y.1 = p
    · rw [if_pos hy]
      by_cases h : p = x
      · simp [XM.aget, h]
      · simp [XM.aget, hy, h]
    · rw [if_neg hy]
      by_cases h : y.1 = x
      · simp [XM.aget, h]
      · simp only [XM.aget, if_neg h]
        exact ih
/-- What the law asks behind the gifts: From's and the first two others'. -/
theorem enough_law (o : Ow) (A : List Int) (gs : List Bool) (n0 : R) (pm : Pm) (h2 : A.length ≤ 2) (hf : o.f2 ∉ A) (hup : A.Nodup) (gv0 : Im) (hg0 : gv0 = if gs.getD 0 false = true then XM.aput [] o.f2 () else []) :
    enough ⟨o, A, (giveS gs A gv0 A.length).1, n0, [n0], pm⟩ = (gs.getD 0 false || ((giveS gs A gv0 A.length).2 == 2)) := by
  have g0 : ∀ x, gave gv0 x = (gs.getD 0 false && decide (o.f2 = x)) := by
    intro x
    rw [hg0]
    cases gs.getD 0 false with
    | true => rw [if_pos rfl, gave_put]; simp [gave, XM.aget]
    | false => rw [if_neg (by simp)]; rfl
  unfold enough
  match A, h2, hf, hup with
  | [], _, _, _ =>
    simp only [giveS, List.length_nil]
    rw [g0]
    simp
  | [a], _, hf, _ =>
    have ha : ¬ a = o.f2 := fun e => hf (by rw [e]; exact List.mem_cons_self)
    simp only [giveS, List.length_cons, List.length_nil]
    cases h1 : gs.getD 1 false with
    | true => simp [gave_put, g0, ha]
    | false => simp [g0]
  | [a, b], _, hf, hup =>
    have ha : ¬ a = o.f2 := fun e => hf (by rw [e]; exact List.mem_cons_self)
    have hb : ¬ b = o.f2 := fun e => hf (by rw [e]; exact List.mem_cons_of_mem _ List.mem_cons_self)
    have ha' : ¬ o.f2 = a := fun e => ha e.symm
    have hb' : ¬ o.f2 = b := fun e => hb e.symm
    have hab : ¬ a = b := by have := (List.pairwise_cons.1 hup).1 b List.mem_cons_self; exact this
    have hba : ¬ b = a := fun e => hab e.symm
    simp only [giveS, List.length_cons, List.length_nil]
    cases h1 : gs.getD 1 false <;> cases h3 : gs.getD 2 false <;> simp [gave_put, g0, ha, hb, ha', hb', hab, hba]
theorem avail_nodup {l : List Ow} (h : Pl.RF l) : (availL l).Nodup := by
  unfold availL
  have hp : (l.filter (fun o => o.f1 == 2)).Pairwise (fun a b => a.f0 < b.f0) := h.up.sublist List.filter_sublist
  rw [List.Nodup, List.pairwise_map]
  exact hp.imp (fun h => by omega)
/-- Whoever isn't done wants From. -/
theorem wants_pos (b : Bo) (h : leftOf b ≠ []) (h1 : b.own.f1 = 1) : 0 < (wantsOf b).length := by
  have he : gave b.gv b.own.f2 = false := by
    cases hg : gave b.gv b.own.f2 with
    | false => rfl
    | true => exact absurd (by unfold leftOf; rw [if_pos ⟨h1, by unfold enough; rw [hg]; rfl⟩]) h
  unfold wantsOf
  rw [if_neg (fun hh => hh.elim h (fun hh => hh h1))]
  exact List.length_pos_of_mem (List.mem_filter.2 ⟨List.mem_cons_self, by rw [he]; rfl⟩)
theorem left_done (b : Bo) (h1 : b.own.f1 = 1) (hl : b.left ≠ []) : decide (leftOf b = []) = enough b := by
  unfold leftOf
  cases enough b with
  | true => rw [if_pos ⟨h1, rfl⟩]; rfl
  | false => rw [if_neg (fun h => by cases h.2)]; exact decide_eq_false hl
end Bt
end Go.Proofs.Ytiinmagnpkfbbaa
