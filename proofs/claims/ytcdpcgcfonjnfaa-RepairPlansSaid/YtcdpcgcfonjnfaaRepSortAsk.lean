/- The stable sort at Asks by where they are: what the printed functions compute. -/
import Derived.Test.YtcdpcgcfonjnfaaQS0
import Derived.Test.YtcdpcgcfonjnfaaQS1
import Derived.Test.YtcdpcgcfonjnfaaQS2
import Derived.Test.YtcdpcgcfonjnfaaQS3
import Derived.Test.YtcdpcgcfonjnfaaQS4
import Derived.Test.YtcdpcgcfonjnfaaQS5
import Derived.Test.YtcdpcgcfonjnfaaInsB
import Derived.Test.YtcdpcgcfonjnfaaRepSort
import Derived.Test.YtcdpcgcfonjnfaaRepRef
namespace Go.Proofs.Ytcdpcgcfonjnfaa
open Go.RowKit Go.Proofs.YtcdpcgcfonjnfaaW.PrintWords Go.Proofs.Ytcdpcgcfonjnfaa.QT Go.Proofs.Ytcdpcgcfonjnfaa.QS Go.Proofs.Ytcdpcgcfonjnfaa.StableLaw
namespace Rp
abbrev Ak := S37
/-- Where is to be asked. -/
def plA (a : Ak) : Pc := ⟨a.f1.f0, a.f1.f1⟩
def ltA (a b : Ak) : Bool := decide (lt (plA a) (plA b))
def ordA (a b : Ak) : Int := ordP (plA a) (plA b)
theorem ltA_ord (a b : Ak) : ltA a b = decide (ordA a b < 0) := by
  have h : lt (plA a) (plA b) ↔ ordA a b < 0 := by
    unfold ordA ordP cmpInt lt
    by_cases h1 : (plA a).f1 < (plA b).f1
    · rw [if_pos h1, if_pos (by decide)]
      exact ⟨fun _ => by decide, fun _ => Or.inl h1⟩
    · by_cases h2 : (plA a).f1 > (plA b).f1
      · rw [if_neg h1, if_pos h2, if_pos (by decide)]
        refine ⟨fun h => ?_, fun h => absurd h (by decide)⟩
        rcases h with h | ⟨h, _⟩ <;> omega
      · rw [if_neg h1, if_neg h2, if_neg (by decide)]
        constructor
        · rintro (h | ⟨_, h⟩)
          · omega
          · exact cmpStr_lt.2 h
        · exact fun h => Or.inr ⟨by omega, cmpStr_lt.1 h⟩
  unfold ltA
  exact decide_eq_decide.2 h
theorem ordLtA : Ord ltA := by
  refine ⟨fun a b h => ?_, fun a b c h h' => ?_⟩
  · exact decide_eq_false (lt_asymm (of_decide_eq_true h))
  · have h1 := of_decide_eq_false h
    have h2 := of_decide_eq_false h'
    refine decide_eq_false (fun h3 => ?_)
    by_cases hab : lt (plA b) (plA a)
    · exact h2 (lt_trans hab h3)
    · rw [lt_tri _ _ h1 hab] at h3; exact h2 h3
theorem or_twoE (t u : Int) : Ev (fun k => cmp_Or_int.f k [t, u]) (if t = 0 then u else t) := by
  unfold cmp_Or_int.f
  by_cases h : t = 0
  · subst h
    refine Ev.step (f := fun k => cmp_Or_int.l0 k 0 [0, u] 2 1) (fun k => by simp [cmp_Or_int.l0, show rd [0, u] 0 = 0 from rfl, w64 (x := 1) (by omega) (by omega)]) ?_
    by_cases h : u = 0
    · subst h
      refine Ev.step (f := fun k => cmp_Or_int.l0 k 0 [0, 0] 2 2) (fun k => by simp [cmp_Or_int.l0, show rd [0, 0] 1 = 0 from rfl, w64 (x := 2) (by omega) (by omega)]) ?_
      exact Ev.step (f := fun k => some 0) (fun k => by simp [cmp_Or_int.l0]) (Ev.now _)
    · refine Ev.step (f := fun k => some u) (fun k => ?_) (Ev.now _)
      have : rd [0, u] 1 = u := rfl
      simp [cmp_Or_int.l0, this, h]
  · rw [if_neg h]
    refine Ev.step (f := fun k => some t) (fun k => ?_) (Ev.now _)
    have : rd [t, u] 0 = t := rfl
    simp [cmp_Or_int.l0, this, h]
theorem order_evA (a b : Ak) : Ev (fun k => QS.repair_Plan_1.f k a.f0 a.f1.f0 a.f1.f1 b.f0 b.f1.f0 b.f1.f1) (ordA a b) := by
  have e1 : cmp_Compare_int.f a.f1.f1 b.f1.f1 = some (cmpInt a.f1.f1 b.f1.f1) := by
    simp only [cmp_Compare_int.f, cmp_isNaN_int.f, bne_self_eq_false, Option.bind_some, Bool.false_eq_true, if_false, cmpInt]
    split
    · rfl
    · split <;> rfl
  have e2 : cmp_Compare_string.f a.f1.f0 b.f1.f0 = some (cmpStr a.f1.f0 b.f1.f0) := rfl
  have h : Ev (fun k => repair_order.f k a.f1.f0 a.f1.f1 b.f1.f0 b.f1.f1) (ordA a b) := by
    unfold repair_order.f
    refine Ev.congr (fun k => by rw [e1, Option.bind_some, e2, Option.bind_some]) ?_
    refine (or_twoE _ _).bind (f := fun _ t => some t) ?_
    have : (if cmpInt a.f1.f1 b.f1.f1 = 0 then cmpStr a.f1.f0 b.f1.f0 else cmpInt a.f1.f1 b.f1.f1) = ordA a b := by
      unfold ordA ordP plA
      by_cases h : cmpInt a.f1.f1 b.f1.f1 = 0
      · rw [if_pos h, if_neg (fun h2 => h2 h)]
      · rw [if_neg h, if_pos h]
    rw [this]
    exact Ev.now _
  unfold QS.repair_Plan_1.f
  exact h.bind (f := fun _ t => some t) (Ev.now _)
/-- The printed functions are a family of the law's. -/
def famAsk : SortFam S37 where
  z := z37
  cm := fun k a b => QS.repair_Plan_1.f k a.f0 a.f1.f0 a.f1.f1 b.f0 b.f1.f0 b.f1.f1
  sw := QS.repair_Ask_53.l0
  sw_eq := fun k x0 x1 x2 x3 x10 => rfl
  rot := QS.repair_Ask_47.l0
  rot_eq := fun k x0 x2 x10 x11 => rfl
  i0 := QS.repair_Ask_35.l0
  i1 := QS.repair_Ask_35.l1
  i0_eq := fun k x0 x1 x2 x8 => by rw [QS.repair_Ask_35.l0]
  i1_eq := fun k x0 x1 x2 x8 x9 => by rw [QS.repair_Ask_35.l1]; rfl
  m0 := QS.repair_Ask_36.l0
  m1 := QS.repair_Ask_36.l1
  m2 := QS.repair_Ask_36.l2
  m3 := QS.repair_Ask_36.l3
  j4 := QS.repair_Ask_36.j4
  l4 := QS.repair_Ask_36.l4
  j6 := QS.repair_Ask_36.j6
  j7 := QS.repair_Ask_36.j7
  j8 := QS.repair_Ask_36.j8
  mf := QS.repair_Ask_36.f
  m0_eq := fun k x0 x1 x10 x11 => by rw [QS.repair_Ask_36.l0]; rfl
  m1_eq := fun k x0 x10 x13 => by rw [QS.repair_Ask_36.l1]; rfl
  m2_eq := fun k x0 x2 x14 x15 => by rw [QS.repair_Ask_36.l2]; rfl
  m3_eq := fun k x0 x14 x17 => by rw [QS.repair_Ask_36.l3]; rfl
  j4_eq := fun k x0 x1 x2 x3 x18 x19 x20 x21 => by rw [QS.repair_Ask_36.j4]
  l4_eq := fun k x0 x1 x2 x3 x18 x19 x20 x21 x22 => by rw [QS.repair_Ask_36.l4]; rfl
  j6_eq := fun k x0 x1 x2 x3 x18 x20 x24 x185 => by rw [QS.repair_Ask_36.j6]; rfl
  j7_eq := fun k x0 x1 x3 x18 x20 x24 => by rw [QS.repair_Ask_36.j7]
  j8_eq := fun k x0 x1 x3 x18 x20 x24 x199 => by rw [QS.repair_Ask_36.j8]
  mf_eq := fun k l0 a1 a2 a3 => by rw [QS.repair_Ask_36.f]
  s0 := QS.repair_Ask_29.l0
  s1 := QS.repair_Ask_29.l1
  s2 := QS.repair_Ask_29.l2
  s0_eq := fun k x0 x1 x6 x7 x8 => by rw [QS.repair_Ask_29.l0]; rfl
  s1_eq := fun k x0 x1 x6 => by rw [QS.repair_Ask_29.l1]
  s2_eq := fun k x0 x1 x6 x7 x8 => by rw [QS.repair_Ask_29.l2]
/-- slices.SortStableFunc at Asks. -/
theorem sortAsk (l : List Ak) (hb : l.length ≤ 549755813888) : ∃ r, Srt ltA l r ∧ Ev (fun k => QS.repair_Ask_20.f k l) r := by
  obtain ⟨r, hr, hev⟩ := stable_ev famAsk ordLtA ordA ltA_ord order_evA l hb
  exact ⟨r, hr, hev.bind (f := fun _ t => some t) (Ev.now _)⟩
/-- The plan: sorted, equals in their order. -/
def srtA (l : List Ak) : List Ak := l.foldl (fun a x => insB ltA x a) []
theorem srtA_srt (l : List Ak) : Srt ltA l (srtA l) := by
  have := insB_all ordLtA l [] [] ⟨Same.refl _, List.Pairwise.nil⟩
  rwa [List.nil_append] at this
theorem sort_evA (l : List Ak) (hb : l.length ≤ 549755813888) : Ev (fun k => QS.repair_Ask_20.f k l) (srtA l) := by
  obtain ⟨r, hr, hev⟩ := sortAsk l hb
  rw [Srt.unique ordLtA (srtA l) r ((srtA_srt l).same.trans hr.same.symm) (srtA_srt l).up hr.up]
  exact hev
end Rp
end Go.Proofs.Ytcdpcgcfonjnfaa
