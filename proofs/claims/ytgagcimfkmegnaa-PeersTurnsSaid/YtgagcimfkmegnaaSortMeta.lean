/- The stable sort at Metas by peers.order: what the printed functions compute. -/
import Derived.Test.YtgagcimfkmegnaaQS
import Derived.Test.YtgagcimfkmegnaaCmp
import Derived.Test.YtgagcimfkmegnaaStable
namespace Go.Proofs.Ytgagcimfkmegnaa
open Go.RowKit Go.Proofs.YtgagcimfkmegnaaW.PrintWords Go.Proofs.Ytgagcimfkmegnaa.QT Go.Proofs.Ytgagcimfkmegnaa.StableLaw

theorem cmpStr_ge (a b : ByteArray) : cmpStr a b = -1 ∨ cmpStr a b = 0 ∨ cmpStr a b = 1 := by
  unfold cmpStr; split
  · exact .inl rfl
  · split
    · exact .inr (.inr rfl)
    · exact .inr (.inl rfl)
theorem cmpStr_lt {a b : ByteArray} : cmpStr a b < 0 ↔ a.toList < b.toList := by
  unfold cmpStr
  rw [bytesLess_eq, bytesLess_eq]
  by_cases h : a.toList < b.toList
  · simp [h]
  · rw [if_neg (by simpa using h)]
    split <;> simp [h]
theorem toList_inj {a b : ByteArray} (h : a.toList = b.toList) : a = b := by
  rw [Lib.toList_data, Lib.toList_data] at h
  cases a; cases b
  simp only [ByteArray.mk.injEq]
  exact Array.toList_inj.1 h
theorem cmpStr_gt {a b : ByteArray} : 0 < cmpStr a b ↔ b.toList < a.toList := by
  unfold cmpStr
  rw [bytesLess_eq, bytesLess_eq]
  by_cases h : a.toList < b.toList
  · have := List.lt_asymm h
    simp [h, this]
  · rw [if_neg (by simpa using h)]
    by_cases h' : b.toList < a.toList <;> simp [h']
theorem cmpStr_zero {a b : ByteArray} : cmpStr a b = 0 ↔ a = b := by
  constructor
  · intro h
    have h1 : ¬ a.toList < b.toList := fun h2 => by have := cmpStr_lt.2 h2; omega
    have h2 : ¬ b.toList < a.toList := fun h2 => by have := cmpStr_gt.2 h2; omega
    apply toList_inj
    exact List.le_antisymm (List.not_lt.mp h2) (List.not_lt.mp h1)
  · rintro rfl
    have h1 : ¬ cmpStr a a < 0 := fun h => List.lt_irrefl _ (cmpStr_lt.1 h)
    have h2 : ¬ 0 < cmpStr a a := fun h => List.lt_irrefl _ (cmpStr_gt.1 h)
    omega
/-- peers.order: by block, then by id. -/
def ordM (a b : S25) : Int := if a.f1 < b.f1 then -1 else if a.f1 > b.f1 then 1 else cmpStr a.f0 b.f0
def ltM (a b : S25) : Bool := decide (ordM a b < 0)
theorem ltM_iff (a b : S25) : ltM a b = true ↔ a.f1 < b.f1 ∨ (a.f1 = b.f1 ∧ a.f0.toList < b.f0.toList) := by
  unfold ltM ordM
  rw [decide_eq_true_iff, ← cmpStr_lt]
  split
  · constructor <;> intro <;> omega
  · split
    · constructor <;> intro <;> omega
    · constructor
      · intro h; right; exact ⟨by omega, h⟩
      · rintro (h | h)
        · omega
        · exact h.2
theorem ltM_false (a b : S25) : ltM a b = false ↔ b.f1 < a.f1 ∨ (a.f1 = b.f1 ∧ ¬ a.f0.toList < b.f0.toList) := by
  rw [← Bool.not_eq_true, ltM_iff]
  constructor
  · intro h
    by_cases h1 : b.f1 < a.f1
    · exact .inl h1
    · refine .inr ⟨?_, fun h2 => h (.inr ⟨?_, h2⟩)⟩
      · by_cases h2 : a.f1 < b.f1
        · exact absurd (.inl h2) h
        · omega
      · by_cases h2 : a.f1 < b.f1
        · exact absurd (.inl h2) h
        · omega
  · rintro (h | ⟨h1, h2⟩) (h3 | ⟨h3, h4⟩)
    · omega
    · omega
    · omega
    · exact h2 h4
theorem ordLt : Ord ltM := by
  refine ⟨fun a b h => ?_, fun a b c h h' => ?_⟩
  · rw [ltM_iff] at h
    rw [ltM_false]
    rcases h with h | ⟨h, h'⟩
    · exact .inl h
    · exact .inr ⟨h.symm, List.lt_asymm h'⟩
  · rw [ltM_false] at h h' ⊢
    rcases h with h | ⟨h1, h2⟩
    · rcases h' with h' | ⟨h3, h4⟩
      · exact .inl (by omega)
      · exact .inl (by omega)
    · rcases h' with h' | ⟨h3, h4⟩
      · exact .inl (by omega)
      · exact .inr ⟨by omega, List.not_lt.mpr (List.le_trans (List.not_lt.mp h4) (List.not_lt.mp h2))⟩
theorem or_two (t u : Int) : Ev (fun k => QS.cmp_Or_int.f k [t, u]) (if t = 0 then u else t) := by
  unfold QS.cmp_Or_int.f
  by_cases h : t = 0
  · subst h
    refine Ev.step (f := fun k => QS.cmp_Or_int.l0 k 0 [0, u] 2 1) (fun k => by simp [QS.cmp_Or_int.l0, show rd [0, u] 0 = 0 from rfl, w64 (x := 1) (by omega) (by omega)]) ?_
    by_cases h : u = 0
    · subst h
      refine Ev.step (f := fun k => QS.cmp_Or_int.l0 k 0 [0, 0] 2 2) (fun k => by simp [QS.cmp_Or_int.l0, show rd [0, 0] 1 = 0 from rfl, w64 (x := 2) (by omega) (by omega)]) ?_
      exact Ev.step (f := fun k => some 0) (fun k => by simp [QS.cmp_Or_int.l0]) (Ev.now _)
    · refine Ev.step (f := fun k => some u) (fun k => ?_) (Ev.now _)
      have : rd [0, u] 1 = u := rfl
      simp [QS.cmp_Or_int.l0, this, h]
  · rw [if_neg h]
    refine Ev.step (f := fun k => some t) (fun k => ?_) (Ev.now _)
    have : rd [t, u] 0 = t := rfl
    simp [QS.cmp_Or_int.l0, this, h]
theorem order_ev (a b : S25) : Ev (fun k => QS.peers_order.f k a.f0 a.f1 a.f2 a.f3 b.f0 b.f1 b.f2 b.f3) (ordM a b) := by
  have e1 : QS.cmp_Compare_int.f a.f1 b.f1 = some (if a.f1 < b.f1 then -1 else if a.f1 > b.f1 then 1 else 0) := by
    simp only [QS.cmp_Compare_int.f, QS.cmp_isNaN_int.f, bne_self_eq_false, Option.bind_some, Bool.false_eq_true, if_false]
    split
    · rfl
    · split <;> rfl
  have e2 : cmp_Compare_string.f a.f0 b.f0 = some (cmpStr a.f0 b.f0) := rfl
  unfold QS.peers_order.f
  refine Ev.congr (fun k => by rw [e1, Option.bind_some, e2, Option.bind_some]) ?_
  refine (or_two _ _).bind (f := fun _ t => some t) ?_
  have : (if (if a.f1 < b.f1 then (-1 : Int) else if a.f1 > b.f1 then 1 else 0) = 0 then cmpStr a.f0 b.f0 else (if a.f1 < b.f1 then -1 else if a.f1 > b.f1 then 1 else 0)) = ordM a b := by
    unfold ordM
    by_cases h1 : a.f1 < b.f1
    · simp [h1]
    · by_cases h2 : a.f1 > b.f1
      · simp [h1, h2]
      · simp [h1, h2]
  rw [this]
  exact Ev.now _

/-- The printed functions are a family of the law's. -/
def famMeta : SortFam S25 where
  z := z25
  cm := fun k a b => QS.peers_order.f k a.f0 a.f1 a.f2 a.f3 b.f0 b.f1 b.f2 b.f3
  sw := QS.api_Meta_92.l0
  sw_eq := fun k x0 x1 x2 x3 x10 => rfl
  rot := QS.api_Meta_71.l0
  rot_eq := fun k x0 x2 x10 x11 => rfl
  i0 := QS.api_Meta_59.l0
  i1 := QS.api_Meta_59.l1
  i0_eq := fun k x0 x1 x2 x8 => by rw [QS.api_Meta_59.l0]
  i1_eq := fun k x0 x1 x2 x8 x9 => by rw [QS.api_Meta_59.l1]; rfl
  m0 := QS.api_Meta_60.l0
  m1 := QS.api_Meta_60.l1
  m2 := QS.api_Meta_60.l2
  m3 := QS.api_Meta_60.l3
  j4 := QS.api_Meta_60.j4
  l4 := QS.api_Meta_60.l4
  j6 := QS.api_Meta_60.j6
  j7 := QS.api_Meta_60.j7
  j8 := QS.api_Meta_60.j8
  mf := QS.api_Meta_60.f
  m0_eq := fun k x0 x1 x10 x11 => by rw [QS.api_Meta_60.l0]; rfl
  m1_eq := fun k x0 x10 x13 => by rw [QS.api_Meta_60.l1]; rfl
  m2_eq := fun k x0 x2 x14 x15 => by rw [QS.api_Meta_60.l2]; rfl
  m3_eq := fun k x0 x14 x17 => by rw [QS.api_Meta_60.l3]; rfl
  j4_eq := fun k x0 x1 x2 x3 x18 x19 x20 x21 => by rw [QS.api_Meta_60.j4]
  l4_eq := fun k x0 x1 x2 x3 x18 x19 x20 x21 x22 => by rw [QS.api_Meta_60.l4]; rfl
  j6_eq := fun k x0 x1 x2 x3 x18 x20 x24 x185 => by rw [QS.api_Meta_60.j6]; rfl
  j7_eq := fun k x0 x1 x3 x18 x20 x24 => by rw [QS.api_Meta_60.j7]
  j8_eq := fun k x0 x1 x3 x18 x20 x24 x199 => by rw [QS.api_Meta_60.j8]
  mf_eq := fun k l0 a1 a2 a3 => by rw [QS.api_Meta_60.f]
  s0 := QS.api_Meta_43.l0
  s1 := QS.api_Meta_43.l1
  s2 := QS.api_Meta_43.l2
  s0_eq := fun k x0 x1 x6 x7 x8 => by rw [QS.api_Meta_43.l0]; rfl
  s1_eq := fun k x0 x1 x6 => by rw [QS.api_Meta_43.l1]
  s2_eq := fun k x0 x1 x6 x7 x8 => by rw [QS.api_Meta_43.l2]

/-- slices.SortStableFunc at Metas by order. -/
theorem sortMeta (l : List S25) (hb : l.length ≤ 549755813888) : ∃ r, Srt ltM l r ∧ Ev (fun k => QS.api_Meta_28.f k l) r := by
  obtain ⟨r, hr, hev⟩ := stable_ev famMeta ordLt ordM (fun _ _ => rfl) order_ev l hb
  exact ⟨r, hr, hev.bind (f := fun _ t => some t) (Ev.now _)⟩
end Go.Proofs.Ytgagcimfkmegnaa
