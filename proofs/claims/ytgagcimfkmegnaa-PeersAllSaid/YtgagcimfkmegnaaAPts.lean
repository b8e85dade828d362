/- PeersAll: points of a series' block: what the law's own function answers. -/
import Derived.Test.YtgagcimfkmegnaaStable
import Derived.Test.YtgagcimfkmegnaaPLaw
import Derived.Test.YtgagcimfkmegnaaPHear
section
namespace Go.Proofs.Ytgagcimfkmegnaa
open Go.RowKit Go.Proofs.YtgagcimfkmegnaaW.PrintWords Go.Proofs.Ytgagcimfkmegnaa.QT Go.Proofs.Ytgagcimfkmegnaa.StableLaw
theorem cmpStr_lt {a b : ByteArray} : cmpStr a b < 0 ↔ a.toList < b.toList := by
 unfold cmpStr; rw [bytesLess_eq, bytesLess_eq]
 by_cases h : a.toList < b.toList
 ·
  simp [h]
 ·
  rw [if_neg (by simpa using h)]
  split <;> simp [h]
theorem toList_inj {a b : ByteArray} (h : a.toList = b.toList) : a = b := by
 rw [Lib.toList_data, Lib.toList_data] at h; cases a; cases b; simp only [ByteArray.mk.injEq]; exact Array.toList_inj.1 h
theorem cmpStr_gt {a b : ByteArray} : 0 < cmpStr a b ↔ b.toList < a.toList := by
 unfold cmpStr; rw [bytesLess_eq, bytesLess_eq]
 by_cases h : a.toList < b.toList
 ·
  have := List.lt_asymm h; simp [h, this]
 ·
  rw [if_neg (by simpa using h)]
  by_cases h' : b.toList < a.toList <;> simp [h']
/-- peers.order: by block, then by id. -/
def ordM (a b : S25) : Int := if a.f1 < b.f1 then -1 else if a.f1 > b.f1 then 1 else cmpStr a.f0 b.f0
def ltM (a b : S25) : Bool := decide (ordM a b < 0)
theorem ltM_iff (a b : S25) : ltM a b = true ↔ a.f1 < b.f1 ∨ (a.f1 = b.f1 ∧ a.f0.toList < b.f0.toList) := by
 unfold ltM ordM; rw [decide_eq_true_iff, ← cmpStr_lt]
 split
 ·
  constructor <;> intro <;> omega
 ·
  split
  ·
   constructor <;> intro <;> omega
  ·
   constructor
   ·
    intro h; right; exact ⟨by omega, h⟩
   ·
    rintro (h | h)
    ·
     omega
    ·
     exact h.2
theorem ltM_false (a b : S25) : ltM a b = false ↔ b.f1 < a.f1 ∨ (a.f1 = b.f1 ∧ ¬ a.f0.toList < b.f0.toList) := by
 rw [← Bool.not_eq_true, ltM_iff]
 constructor
 ·
  intro h
  by_cases h1 : b.f1 < a.f1
  ·
   exact .inl h1
  ·
   refine .inr ⟨?_, fun h2 => h (.inr ⟨?_, h2⟩)⟩
   ·
    by_cases h2 : a.f1 < b.f1
    ·
     exact absurd (.inl h2) h
    ·
     omega
   ·
    by_cases h2 : a.f1 < b.f1
    ·
     exact absurd (.inl h2) h
    ·
     omega
 ·
  rintro (h | ⟨h1, h2⟩) (h3 | ⟨h3, h4⟩)
  ·
   omega
  ·
   omega
  ·
   omega
  ·
   exact h2 h4
theorem ordLt : Ord ltM := by
 refine ⟨fun a b h => ?_, fun a b c h h' => ?_⟩
 ·
  rw [ltM_iff] at h; rw [ltM_false]; rcases h with h | ⟨h, h'⟩
  ·
   exact .inl h
  ·
   exact .inr ⟨h.symm, List.lt_asymm h'⟩
 ·
  rw [ltM_false] at h h' ⊢; rcases h with h | ⟨h1, h2⟩
  ·
   rcases h' with h' | ⟨h3, h4⟩
   ·
    exact .inl (by omega)
   ·
    exact .inl (by omega)
  ·
   rcases h' with h' | ⟨h3, h4⟩
   ·
    exact .inl (by omega)
   ·
    exact .inr ⟨by omega, List.not_lt.mpr (List.le_trans (List.not_lt.mp h4) (List.not_lt.mp h2))⟩
/-- Page's predicate: what is not behind the cursor. -/
def past (cur x : S25) : Bool := decide (ordM x cur ≤ 0)
def insM (x : S25) : List S25 → List S25
 | [] => [x]
 | y :: r => if ltM y x then y :: insM x r else x :: y :: r
def srtM : List S25 → List S25
 | [] => []
 | x :: r => insM x (srtM r)
theorem insM_srt (x : S25) : ∀ r, Up ltM r → Srt ltM (x :: r) (insM x r)
 | [], _ => ⟨Same.refl _, List.pairwise_singleton _ _⟩
 | y :: r, h => by
  unfold insM
  split
  ·
   rename_i hyx
   have ih := insM_srt x r (List.pairwise_cons.1 h).2; refine ⟨?_, List.pairwise_cons.2 ⟨fun z hz => ?_, ih.up⟩⟩
   ·
    have h1 := (Same.refl (lt := ltM) [y]).app ih.same; have h2 := (ordLt.swap (A := [x]) (B := [y]) (fun u hu v hv => by rw [List.mem_singleton.1 hu, List.mem_singleton.1 hv]; exact hyx)).symm.app (Same.refl r); exact h1.trans (by simpa using h2)
   ·
    rcases List.mem_cons.1 (ih.mem hz) with rfl | hz
    ·
     exact ordLt.asymm _ _ hyx
    ·
     exact (List.pairwise_cons.1 h).1 z hz
  ·
   rename_i hyx
   rw [Bool.not_eq_true] at hyx; refine ⟨Same.refl _, List.pairwise_cons.2 ⟨fun z hz => ?_, h⟩⟩; rcases List.mem_cons.1 hz with rfl | hz
   ·
    exact hyx
   ·
    exact ordLt.neg _ _ _ ((List.pairwise_cons.1 h).1 z hz) hyx
theorem srtM_srt : ∀ l, Srt ltM l (srtM l)
 | [] => ⟨Same.refl _, List.Pairwise.nil⟩
 | x :: r => by
  have ih := srtM_srt r; have h := insM_srt x (srtM r) ih.up; exact ⟨h.same.trans ((Same.refl (lt := ltM) [x]).app ih.same), h.up⟩
/-- What comes behind the cursor, in order. -/
def behind (l : List S25) (a1 : Int) (a2 : ByteArray) : List S25 := srtM (l.filter (fun x => !past ⟨a2, a1, 0, 0⟩ x))
end Go.Proofs.Ytgagcimfkmegnaa
end
section
namespace Go.Proofs.Ytgagcimfkmegnaa
set_option linter.unusedVariables false
set_option linter.unusedSimpArgs false
open Go.RowKit Go.Proofs.YtgagcimfkmegnaaW.PrintWords Go.Proofs.YtgagcimfkmegnaaW.PrintLast Go.Proofs.YtgagcimfkmegnaaW.PrintMore Go.Proofs.Ytgagcimfkmegnaa.QT Go.Proofs.Ytgagcimfkmegnaa.StableLaw
namespace Pa
abbrev Me := S25
abbrev Pt := S42
abbrev Sr := S65
/-- A point's block, as a meta. -/
def mk (n : ByteArray) (p : Pt) : Me := ⟨n, p.f0 / 60 * 60, 0, 0⟩
instance : DecidableEq S25 := fun a b => decidable_of_iff (a.f0 = b.f0 ∧ a.f1 = b.f1 ∧ a.f2 = b.f2 ∧ a.f3 = b.f3) (by cases a; cases b; simp)
def addM (M : List Me) (m : Me) : List Me := if M.getLast? = some m then M else M ++ [m]
def ltB (a b : ByteArray) : Prop := a.data.toList < b.data.toList
def Lx (a b : Me) : Prop := ltB a.f0 b.f0 ∨ (a.f0 = b.f0 ∧ a.f1 < b.f1)
theorem ltB_irrefl (a : ByteArray) : ¬ ltB a a := List.lt_irrefl _
/-- Series in order, and their metas. -/
structure Gd (M : List Me) (D : List Sr) : Prop where
 asc : M.Pairwise Lx
 mem : ∀ m, m ∈ M ↔ ∃ s ∈ D, ∃ p ∈ s.f1, m = mk s.f0 p
 nm : D.Pairwise (fun a b => ltB a.f0 b.f0)
 up : ∀ s ∈ D, Vw.Up s.f1
 tm : ∀ s ∈ D, ∀ p ∈ s.f1, 0 ≤ p.f0 ∧ p.f0 ≤ 1099511627776
 ne : ∀ s ∈ D, s.f0.data.toList ≠ []
 sz : ∀ s ∈ D, s.f1.length ≤ 64
 cnt : M.length ≤ (D.map (fun s => s.f1.length)).sum
theorem gd_nil : Gd [] [] := ⟨List.Pairwise.nil, by simp, List.Pairwise.nil, by simp, by simp, by simp, by simp, by simp⟩
theorem gd_ser {M : List Me} {D : List Sr} (h : Gd M D) {n : ByteArray} (hn : ∀ s ∈ D, ltB s.f0 n) (h0 : n.data.toList ≠ []) : Gd M (D ++ [⟨n, []⟩]) := by
 have hm : ∀ {q : Sr → Prop}, (∀ s ∈ D, q s) → q ⟨n, []⟩ → ∀ s ∈ D ++ [⟨n, []⟩], q s := fun a b s hs => by
  rcases List.mem_append.1 hs with h1 | h1
  ·
   exact a s h1
  ·
   rw [List.mem_singleton.1 h1]; exact b
 refine ⟨h.asc, fun m => ?_, List.pairwise_append.2 ⟨h.nm, List.pairwise_singleton _ _, fun a ha b hb => by rw [List.mem_singleton.1 hb]; exact hn a ha⟩, hm h.up List.Pairwise.nil, hm h.tm (by simp), hm h.ne h0, hm h.sz (by simp), ?_⟩
 ·
  rw [h.mem]
  constructor
  ·
   rintro ⟨s, hs, p, hp, e⟩; exact ⟨s, List.mem_append_left _ hs, p, hp, e⟩
  ·
   rintro ⟨s, hs, p, hp, e⟩; rcases List.mem_append.1 hs with h1 | h1
   ·
    exact ⟨s, h1, p, hp, e⟩
   ·
    rw [List.mem_singleton.1 h1] at hp; cases hp
 ·
  rw [List.map_append, List.sum_append]; have := h.cnt; simp only [List.map_cons, List.map_nil, List.length_nil, List.sum_cons, List.sum_nil]; omega
theorem gd_pt {M : List Me} {D : List Sr} {n : ByteArray} {P : List Pt} {p : Pt} (h : Gd M (D ++ [⟨n, P⟩])) (hu : Vw.Up (P ++ [p])) (h1 : 0 ≤ p.f0) (h2 : p.f0 ≤ 1099511627776) (hl : (P ++ [p]).length ≤ 64) : Gd (addM M (mk n p)) (D ++ [⟨n, P ++ [p]⟩]) := by
 have hs0 : (⟨n, P⟩ : Sr) ∈ D ++ [⟨n, P⟩] := List.mem_append_right _ (List.mem_singleton.2 rfl); have hd : ∀ s ∈ D, s ∈ D ++ [(⟨n, P⟩ : Sr)] := fun s hs => List.mem_append_left _ hs
 have hm : ∀ {q : Sr → Prop}, (∀ s ∈ D ++ [(⟨n, P⟩ : Sr)], q s) → q ⟨n, P ++ [p]⟩ → ∀ s ∈ D ++ [(⟨n, P ++ [p]⟩ : Sr)], q s := fun a b s hs => by
  rcases List.mem_append.1 hs with h1 | h1
  ·
   exact a s (hd s h1)
  ·
   rw [List.mem_singleton.1 h1]; exact b
 have hlt : ∀ s ∈ D, ltB s.f0 n := fun s hs => (List.pairwise_append.1 h.nm).2.2 s hs _ (List.mem_singleton.2 rfl); have hup : ∀ q ∈ P, q.f0 < p.f0 := fun q hq => (List.pairwise_append.1 hu).2.2 q hq p (List.mem_singleton.2 rfl)
 -- all that is there lies ahead of the new one, or is it
 have hle : ∀ x ∈ M, Lx x (mk n p) ∨ x = mk n p := fun x hx => by
  obtain ⟨s, hs, q, hq, rfl⟩ := (h.mem x).1 hx; rcases List.mem_append.1 hs with h3 | h3
  ·
   exact .inl (.inl (hlt s h3))
  ·
   rw [List.mem_singleton.1 h3] at hq ⊢; have h4 := hup q hq
   have h5 := (h.tm _ hs0 q hq)
   by_cases e : q.f0 / 60 * 60 = p.f0 / 60 * 60
   ·
    exact .inr (by unfold mk; simp only [e])
   ·
    exact .inl (.inr ⟨rfl, by show q.f0 / 60 * 60 < p.f0 / 60 * 60; omega⟩)
 have hmem : ∀ m, (m ∈ M ∨ m = mk n p) ↔ ∃ s ∈ D ++ [(⟨n, P ++ [p]⟩ : Sr)], ∃ q ∈ s.f1, m = mk s.f0 q := fun m => by
  rw [h.mem]
  constructor
  ·
   rintro (⟨s, hs, q, hq, e⟩ | rfl)
   ·
    rcases List.mem_append.1 hs with h3 | h3
    ·
     exact ⟨s, List.mem_append_left _ h3, q, hq, e⟩
    ·
     rw [List.mem_singleton.1 h3] at hq e; exact ⟨_, List.mem_append_right _ (List.mem_singleton.2 rfl), q, List.mem_append_left _ hq, e⟩
   ·
    exact ⟨_, List.mem_append_right _ (List.mem_singleton.2 rfl), p, List.mem_append_right _ (List.mem_singleton.2 rfl), rfl⟩
  ·
   rintro ⟨s, hs, q, hq, e⟩; rcases List.mem_append.1 hs with h3 | h3
   ·
    exact .inl ⟨s, List.mem_append_left _ h3, q, hq, e⟩
   ·
    rw [List.mem_singleton.1 h3] at hq e; rcases List.mem_append.1 hq with h4 | h4
    ·
     exact .inl ⟨_, List.mem_append_right _ (List.mem_singleton.2 rfl), q, h4, e⟩
    ·
     rw [List.mem_singleton.1 h4] at e; exact .inr e
 have hcnt : (addM M (mk n p)).length ≤ M.length + 1 := by unfold addM; split <;> simp
 have hc2 : ((D ++ [(⟨n, P ++ [p]⟩ : Sr)]).map (fun s => s.f1.length)).sum = ((D ++ [(⟨n, P⟩ : Sr)]).map (fun s => s.f1.length)).sum + 1 := by
  simp only [List.map_append, List.sum_append, List.map_cons, List.map_nil, List.sum_cons, List.sum_nil, List.length_append, List.length_cons, List.length_nil]; omega
 refine ⟨?_, ?_, ?_, hm h.up hu, hm h.tm (fun q hq => ?_), hm h.ne (h.ne ⟨n, P⟩ hs0), hm h.sz hl, by have := h.cnt; omega⟩
 ·
  unfold addM
  split
  ·
   exact h.asc
  ·
   rename_i hne
   refine List.pairwise_append.2 ⟨h.asc, List.pairwise_singleton _ _, fun x hx b hb => ?_⟩; rw [List.mem_singleton.1 hb]; rcases hle x hx with h3 | h3
   ·
    exact h3
   ·
    exfalso
    subst h3
    -- the last one is not it; but nothing lies behind it
    cases hg : M.getLast? with
    | none => rw [List.getLast?_eq_none_iff.1 hg] at hx; cases hx
    | some y =>
     obtain ⟨M0, rfl⟩ : ∃ M0, M = M0 ++ [y] := by
      obtain ⟨M0, e⟩ := List.getLast?_eq_some_iff.1 hg; exact ⟨M0, e⟩
     have hyne : y ≠ mk n p := fun e => hne (by rw [hg, e]); rcases List.mem_append.1 hx with h4 | h4
     ·
      have h5 := (List.pairwise_append.1 h.asc).2.2 _ h4 y (List.mem_singleton.2 rfl); rcases hle y (List.mem_append_right _ (List.mem_singleton.2 rfl)) with h6 | h6
      ·
       rcases h5 with h5 | ⟨h5, h7⟩
       ·
        rcases h6 with h6 | ⟨h6, _⟩
        ·
         exact List.lt_irrefl _ (List.lt_trans h5 h6)
        ·
         rw [h6] at h5; exact ltB_irrefl _ h5
       ·
        rcases h6 with h6 | ⟨_, h8⟩
        ·
         rw [← h5] at h6; exact ltB_irrefl _ h6
        ·
         omega
      ·
       exact hyne h6
     ·
      exact hyne (List.mem_singleton.1 h4).symm
 ·
  intro m; rw [← hmem]; unfold addM
  split
  ·
   rename_i hg
   obtain ⟨M0, e⟩ := List.getLast?_eq_some_iff.1 hg
   constructor
   ·
    exact .inl
   ·
    rintro (h3 | rfl)
    ·
     exact h3
    ·
     rw [e]; exact List.mem_append_right _ (List.mem_singleton.2 rfl)
  ·
   rw [List.mem_append, List.mem_singleton]
 ·
  exact List.pairwise_append.2 ⟨(List.pairwise_append.1 h.nm).1, List.pairwise_singleton _ _, fun a ha b hb => by rw [List.mem_singleton.1 hb]; exact hlt a ha⟩
 ·
  rcases List.mem_append.1 hq with h3 | h3
  ·
   exact h.tm _ hs0 q h3
  ·
   rw [List.mem_singleton.1 h3]; exact ⟨h1, h2⟩
theorem gd_len {M : List Me} {D : List Sr} (h : Gd M D) (hD : D.length ≤ 40) : M.length ≤ 2560 := by
 have : ∀ D : List Sr, (∀ s ∈ D, s.f1.length ≤ 64) → (D.map (fun s => s.f1.length)).sum ≤ 64 * D.length := by
  intro D
  induction D with
  | nil => simp
  | cons s r ih =>
   intro hs; have h1 := ih (fun t ht => hs t (List.mem_cons_of_mem _ ht)); have h2 := hs s List.mem_cons_self; simp only [List.map_cons, List.sum_cons, List.length_cons]; omega
 have h1 := this D h.sz; have h2 := h.cnt; omega
abbrev Asc (l : List Me) : Prop := l.Pairwise (fun a b => ltM a b = true)
theorem toL (a : ByteArray) : a.toList = a.data.toList := Lib.toList_data a
theorem asc_srt {M : List Me} {D : List Sr} (h : Gd M D) : Asc (srtM M) := by
 have h1 : M.Pairwise (fun a b => ¬ (a.f0.toList = b.f0.toList ∧ a.f1 = b.f1)) := h.asc.imp (fun {a b} hl he => by
  rw [toL, toL] at he; rcases hl with hl | ⟨_, hl⟩
  ·
   unfold ltB at hl; rw [he.1] at hl; exact List.lt_irrefl _ hl
  ·
   omega)
 have h2 : (srtM M).Pairwise (fun a b => ¬ (a.f0.toList = b.f0.toList ∧ a.f1 = b.f1)) := ((srtM_srt M).same.perm.pairwise_iff (fun {a b} h => fun h2 => h ⟨h2.1.symm, h2.2.symm⟩)).2 h1; refine (List.Pairwise.and h2 (srtM_srt M).up).imp (fun {a b} h => ?_)
 cases hl : ltM a b with
 | true => rfl
 | false =>
  exfalso
  have e1 := (ltM_false _ _).1 hl; have e2 := (ltM_false _ _).1 h.2; apply h.1; rcases e1 with e1 | ⟨e1, e3⟩
  ·
   rcases e2 with e2 | ⟨e2, _⟩ <;> omega
  ·
   rcases e2 with e2 | ⟨e2, e4⟩
   ·
    omega
   ·
    exact ⟨List.le_antisymm (List.not_lt.mp e4) (List.not_lt.mp e3), e1⟩
theorem mem_srt {M : List Me} {m : Me} : m ∈ srtM M ↔ m ∈ M := (srtM_srt M).same.perm.mem_iff
theorem past_eq (c x : Me) : (!past ⟨c.f0, c.f1, 0, 0⟩ x) = ltM c x := by
 have h : past ⟨c.f0, c.f1, 0, 0⟩ x = true ↔ ¬ ltM c x = true := by
  unfold past; rw [decide_eq_true_iff, ltM_iff]; unfold ordM
  by_cases h1 : x.f1 < c.f1
  ·
   simp only [h1, if_true]
   constructor
   ·
    rintro _ (h | ⟨h, _⟩) <;> omega
   ·
    intro _; omega
  ·
   by_cases h2 : x.f1 > c.f1
   ·
    rw [if_neg h1, if_pos h2]
    constructor
    ·
     intro h; omega
    ·
     intro h; exact absurd (.inl h2) h
   ·
    rw [if_neg h1, if_neg h2]
    constructor
    ·
     rintro h (h3 | ⟨_, h3⟩)
     ·
      omega
     ·
      have h5 := cmpStr_gt.2 h3; have h6 : cmpStr x.f0 c.f0 ≤ 0 := h; omega
    ·
     intro h
     by_cases h3 : cmpStr x.f0 c.f0 ≤ 0
     ·
      exact h3
     ·
      exact absurd (.inr ⟨by omega, cmpStr_gt.1 (by omega)⟩) h
 cases hp : past ⟨c.f0, c.f1, 0, 0⟩ x with
 | true => rw [Bool.not_true]; exact ((Bool.not_eq_true _).mp (h.1 hp)).symm
 | false =>
  rw [Bool.not_false]
  cases hl : ltM c x with
  | true => rfl
  | false => exact absurd (h.2 (by rw [hl]; simp)) (by rw [hp]; simp)
theorem srtM_filter (p : Me → Bool) (l : List Me) : srtM (l.filter p) = (srtM l).filter p := by
 refine Srt.unique ordLt _ _ ?_ (srtM_srt _).up ((srtM_srt l).up.filter p); refine (srtM_srt _).same.trans ⟨((srtM_srt l).same.perm.filter p).symm, fun a => ?_⟩; rw [List.filter_filter, List.filter_filter]; have h := (srtM_srt l).same.cls a; have h2 := congrArg (List.filter p) h; rw [List.filter_filter, List.filter_filter] at h2; simp only [Bool.and_comm (p _)] at h2; exact h2.symm
theorem behind_eq (l : List Me) (b : Int) (i : ByteArray) : behind l b i = (srtM l).filter (ltM ⟨i, b, 0, 0⟩) := by
 unfold behind; rw [srtM_filter]; exact List.filter_congr (fun x _ => past_eq ⟨i, b, 0, 0⟩ x)
theorem beh_lt (m : Me) (b : Int) (i : ByteArray) : Ps.behP m b i = ltM ⟨i, b, 0, 0⟩ m := by
 rw [Bool.eq_iff_iff, ltM_iff]; unfold Ps.behP; rw [Bool.or_eq_true, Bool.and_eq_true, decide_eq_true_iff, beq_iff_eq, bytesLess_eq, decide_eq_true_iff]
 constructor
 ·
  rintro (h | ⟨h, h2⟩)
  ·
   exact .inl h
  ·
   exact .inr ⟨h.symm, h2⟩
 ·
  rintro (h | ⟨h, h2⟩)
  ·
   exact .inl h
  ·
   exact .inr ⟨h.symm, h2⟩
/-- The last of a list, or what was ahead of it. -/
def lst (c : Me) : List Me → Me
 | [] => c
 | x :: r => lst x r
theorem lst_top : ∀ (R : List Me) (c : Me), Asc (c :: R) → ∀ x ∈ c :: R, ltM (lst c R) x = false
 | [], c, _, x, hx => by rw [List.mem_singleton.1 hx]; exact ordLt.irrefl _
 | y :: R, c, h, x, hx => by
  obtain ⟨h1, h2⟩ := List.pairwise_cons.1 h; have ih := lst_top R y h2; rcases List.mem_cons.1 hx with rfl | hx
  ·
   exact ordLt.neg _ _ _ (ih y List.mem_cons_self) (ordLt.asymm _ _ (h1 y List.mem_cons_self))
  ·
   exact ih x hx
theorem lst_asc : ∀ (R T : List Me) (c : Me), Asc (c :: (R ++ T)) → Asc (lst c R :: T)
 | [], T, c, h => h
 | y :: R, T, c, h => lst_asc R T y (List.pairwise_cons.1 h).2
theorem pageF_all : ∀ (R : List Me) (b : Int) (i : ByteArray) (L : List Me), Asc (⟨i, b, 0, 0⟩ :: R) → (∀ x ∈ R, ltM ⟨i, b, 0, 0⟩ x = true) → Ps.pageF b i L R = (((lst ⟨i, b, 0, 0⟩ R).f1, (lst ⟨i, b, 0, 0⟩ R).f0, L ++ R), true)
 | [], b, i, L, _, _ => by simp [Ps.pageF, lst]
 | m :: R, b, i, L, h, hb => by
  have h2 := (List.pairwise_cons.1 h).2; have hlt : ∀ (c x : Me), ltM ⟨c.f0, c.f1, 0, 0⟩ x = ltM c x := fun c x => by unfold ltM ordM; rfl
  rw [Ps.pageF, if_pos (by rw [beh_lt]; exact hb m List.mem_cons_self)]; obtain ⟨h5, h6⟩ := List.pairwise_cons.1 h2; have h4 : ∀ x ∈ R, ltM ⟨m.f0, m.f1, 0, 0⟩ x = true := fun x hx => by rw [hlt m x]; exact h5 x hx
  have h3 : Asc ((⟨m.f0, m.f1, 0, 0⟩ : Me) :: R) := List.pairwise_cons.2 ⟨h4, h6⟩; rw [pageF_all R m.f1 m.f0 (L ++ [m]) h3 h4, List.append_assoc, List.singleton_append]
  cases R with
  | nil => simp only [lst]
  | cons y R => simp only [lst]
end Pa
end Go.Proofs.Ytgagcimfkmegnaa
end
section
set_option maxHeartbeats 4000000
set_option maxRecDepth 100000
namespace Go.Proofs.Ytgagcimfkmegnaa
set_option linter.unusedVariables false
set_option linter.unusedSimpArgs false
open Go.RowKit Go.Proofs.YtgagcimfkmegnaaW.PrintWords Go.Proofs.YtgagcimfkmegnaaW.PrintLast Go.Proofs.YtgagcimfkmegnaaW.PrintMore Go.Proofs.Ytgagcimfkmegnaa.QT
namespace Ps
open Hm (Hp HM HMap cur put Sh Ft)
def a0 (seq : Int) : Fa := ⟨seq, 0, ⟨#[]⟩, [], 0, false, 0⟩
theorem new_calls (w0 w : World) (hB : Below w0.heap.size w0 w) (x : Fx) (seq : Int) :
  Calls Try.prog 8 #[.int .i64 x.sp, .int .i64 x.sh, .int .i64 x.sz, .agg #[.int .i64 x.rg.f0, .int .i64 x.rg.f1], .int .i64 x.ep, .int .i64 seq] w fun e w' => ∃ g gm : Nat, e = .returned (.pointer (some ⟨g, 0, none⟩)) ∧ FIs w' w0.heap.size g gm (.slice none 0 0) x z25 (a0 seq) ∧ HM w' gm w0.heap.size 0 [] ∧ Below w.heap.size w w' ∧ w.heap.size ≤ g ∧ w.heap.size ≤ gm := by
 have HB := Lib.hid hB; clear hB; have hmm := @run_makeMap Try.prog; go_enter Try.func8, Try.ntmps8
 go_wp2_with (first
  | ((with_reducible refine gate_dst (N := 9) rfl ?_); refine box_event rfl (N := 9) rfl (cs := #[.int .i64 x.rg.f0, .int .i64 x.rg.f1]) (t := 30) ?hr ?_; (case hr => go_simp; done); intro gr hgr Y hboy hbY; have HY := Lib.hid hbY; have y0 : Y.cell? ⟨gr, 0, none⟩ = some (.int .i64 x.rg.f0) := (blk_cell hboy 0).trans rfl; have y1 : Y.cell? ⟨gr, 1, none⟩ = some (.int .i64 x.rg.f1) := (blk_cell hboy 1).trans rfl; clear hgr hboy hbY)
  | ((with_reducible refine gate_dst (N := 23) rfl ?_); refine box_event rfl (N := 23) rfl (cs := fcells x seq z25 (.slice none 0 0) 0 Y.heap.size .nilFunc 5) (t := 77) ?hr ?_; (case hr => go_simp; rfl); intro g hg X hboX hbX; have HX := Lib.hid (And.intro hg (And.intro hboX hbX)); clear hg hboX hbX)
  | (refine store_blk (t := 75) (p := .tmp 28) (v := .tmp 26) (g := g) (off := 24) (cur := fcells x seq z25 (.slice none 0 0) 0 Y.heap.size .nilFunc 5) (cur' := fcells x seq z25 (.slice none 0 0) 0 Y.heap.size (hf g 29) 5) (e := 77) (u := hf g 29) rfl rfl rfl rfl rfl HX.out.2.1 (by kernel_rfl) (Nat.le_of_ble_eq_true rfl) (by rfl) (by rfl) ?_; intro Z hz hgz hsz; have HZ := Lib.hid (And.intro hz hgz); clear hz hgz hsz))
 go_ret; have hm := XM.MapIs.made Try.prog 9 Bt.ekS Hm.evH Y; have hbm : Below w.heap.size w (Y.alloc (.map #[] 0)) := below_alloc HY.out _; have hbx : Below w.heap.size w X := below_then hbm hbm.size HX.out.2.2; have hgg : w.heap.size ≤ g := by rw [HX.out.1]; exact hbm.size
 have hM : HM X Y.heap.size w0.heap.size 0 [] := ⟨XM.MapIs.below hm HX.out.2.2, by simp, by simp, by simp, Nat.le_refl _⟩
 refine ⟨g, Y.heap.size, rfl, ⟨HZ.out.1, Kd.Q_nil _ _ _ _ _, rfl, rfl, Nat.le_trans HB.out.size hgg, Nat.zero_le _, fun _ => rfl, fun _ => Kd.R_nil _ _ _ _ _⟩, hm_set hM HX.out.2.1 (by decide) HZ.out.2, below_grow hbx HZ.out.2 hgg, hgg, HY.out.size⟩
end Ps
end Go.Proofs.Ytgagcimfkmegnaa
end
section
namespace Go.Proofs.Ytgagcimfkmegnaa
set_option linter.unusedVariables false
set_option linter.unusedSimpArgs false
open Go.RowKit Go.Proofs.YtgagcimfkmegnaaW.PrintWords Go.Proofs.YtgagcimfkmegnaaW.PrintLast Go.Proofs.YtgagcimfkmegnaaW.PrintMore Go.Proofs.Ytgagcimfkmegnaa.QT Go.Proofs.Ytgagcimfkmegnaa.StableLaw
namespace Pa
/-- The points of a meta's block. -/
def pts (l : List Sr) (n : ByteArray) (b : Int) : List Pt := match l.find? (fun s => decide (s.f0 = n)) with
 | some s => Hm.cut s.f1 b (b + 60)
 | none => []
/-- How far a fetch has come. -/
structure Iv (M : List Me) (a : Ps.Fa) : Prop where
 er : a.er = 0
 sp : ∃ Q2, srtM M = a.L ++ Q2 ∧ (∀ x ∈ a.L, ltM ⟨a.id, a.blk, 0, 0⟩ x = false) ∧ Asc (⟨a.id, a.blk, 0, 0⟩ :: Q2) ∧ (a.pg = true → Q2 = [])
 n : a.n ≤ a.L.length
 pn : a.pg = false → a.n = 0
def rem (M : List Me) (a : Ps.Fa) : Nat := if a.pg = true then (srtM M).length - a.n else ((srtM M).length - a.L.length) / 8 + 1 + (srtM M).length
theorem iv_start {M : List Me} {D : List Sr} (h : Gd M D) (s : Int) : Iv M (Ps.a0 s) := by
 refine ⟨rfl, ⟨srtM M, rfl, by simp [Ps.a0], List.pairwise_cons.2 ⟨fun x hx => ?_, asc_srt h⟩, fun e => by cases e⟩, Nat.le_refl _, fun _ => rfl⟩; obtain ⟨s, hs, p, hp, rfl⟩ := (h.mem x).1 (mem_srt.1 hx); rw [ltM_iff]; have h1 := h.tm s hs p hp
 by_cases h2 : (0 : Int) < p.f0 / 60 * 60
 ·
  exact .inl h2
 ·
  refine .inr ⟨by show (0 : Int) = p.f0 / 60 * 60; omega, ?_⟩; have e : (⟨#[]⟩ : ByteArray).toList = [] := by rw [Lib.toList_data]
  show (⟨#[]⟩ : ByteArray).toList < s.f0.toList; rw [e, toL]; have h3 := h.ne s hs
  cases hx0 : s.f0.data.toList with
  | nil => exact absurd hx0 h3
  | cons a b => exact List.nil_lt_cons a b
theorem rem_start (M : List Me) (s : Int) : rem M (Ps.a0 s) ≤ 2 * M.length + 1 := by
 have h : (srtM M).length = M.length := (srtM_srt M).same.perm.length_eq; unfold rem Ps.a0; simp only [Bool.false_eq_true, if_false, List.length_nil, h]; omega
theorem beh_Q2 {M : List Me} {a : Ps.Fa} {Q2 : List Me} (h1 : srtM M = a.L ++ Q2) (h2 : ∀ x ∈ a.L, ltM ⟨a.id, a.blk, 0, 0⟩ x = false) (h3 : Asc (⟨a.id, a.blk, 0, 0⟩ :: Q2)) : behind M a.blk a.id = Q2 := by
 rw [behind_eq, h1, List.filter_append, List.filter_eq_nil_iff.2 (fun x hx => by rw [h2 x hx]; simp), List.nil_append]; exact List.filter_eq_self.2 (fun x hx => (List.pairwise_cons.1 h3).1 x hx)
/-- The page behind a cursor. -/
def page (M : List Me) (b : Int) (i : ByteArray) : List Me × Bool := if (behind M b i).length ≤ 8 then (behind M b i, false) else ((behind M b i).take 8, true)
def pmsg (seq : Int) (p : List Me × Bool) : S46 := ⟨6, seq, 0, 0, 0, ⟨#[]⟩, 0, ⟨0, 0⟩, ⟨0, 0, 0⟩, 0, p.2, [], p.1⟩
def bmsg (seq : Int) (P : List Pt) : S46 := ⟨8, seq, 0, 0, 0, ⟨#[]⟩, 0, ⟨0, 0⟩, ⟨0, 0, 0⟩, 0, false, P, []⟩
theorem hit_pg {a : Ps.Fa} (hl : a.live = true) (hp : a.pg = false) (p : List Me × Bool) : Ps.hit a (pmsg a.seq p) = true := by
 unfold Ps.hit Ps.Fa.kd pmsg; rw [hl, hp]; rw [show wrap64 ((if false = true then (7 : Int) else 5) + 1) = 6 from by rw [if_neg (by simp)]; unfold wrap64; omega]; simp
theorem hit_bl {a : Ps.Fa} (hl : a.live = true) (hp : a.pg = true) (P : List Pt) : Ps.hit a (bmsg a.seq P) = true := by
 unfold Ps.hit Ps.Fa.kd bmsg; rw [hl, hp]; rw [show wrap64 ((if true = true then (7 : Int) else 5) + 1) = 8 from by rw [if_pos rfl]; unfold wrap64; omega]; simp
theorem page_step {M : List Me} {a : Ps.Fa} (h : Iv M a) (hl : a.live = true) (hp : a.pg = false) (hs : 0 ≤ a.seq ∧ a.seq ≤ 1000000) :
  Iv M (Ps.hearA 60 a (pmsg a.seq (page M a.blk a.id))) ∧ rem M (Ps.hearA 60 a (pmsg a.seq (page M a.blk a.id))) + 1 ≤ rem M a ∧ (Ps.hearA 60 a (pmsg a.seq (page M a.blk a.id))).seq = a.seq + 1 ∧ Ps.good 60 a (pmsg a.seq (page M a.blk a.id)) = false ∧ (Ps.hearA 60 a (pmsg a.seq (page M a.blk a.id))).n = a.n := by
 obtain ⟨Q2, h1, h2, h3, -⟩ := h.sp; have hn := h.pn hp; have hb := beh_Q2 h1 h2 h3; have hw : wrap64 (a.seq + 1) = a.seq + 1 := by unfold wrap64; omega
 have hg : Ps.good 60 a (pmsg a.seq (page M a.blk a.id)) = false := by unfold Ps.good; rw [hp]; simp
 obtain ⟨p, hpg⟩ : ∃ p, page M a.blk a.id = p := ⟨_, rfl⟩
 -- what the page is
 obtain ⟨R, T, hQ, hR, hmore, hlen⟩ : ∃ R T, Q2 = R ++ T ∧ p.1 = R ∧ (p.2 = !T.isEmpty) ∧ (T ≠ [] → R.length = 8) := by
  unfold page at hpg; rw [hb] at hpg
  by_cases hle : Q2.length ≤ 8
  ·
   rw [if_pos hle] at hpg; exact ⟨Q2, [], by simp, by rw [← hpg], by rw [← hpg]; rfl, fun e => absurd rfl e⟩
  ·
   rw [if_neg hle] at hpg; refine ⟨Q2.take 8, Q2.drop 8, (List.take_append_drop 8 Q2).symm, by rw [← hpg], ?_, fun _ => by rw [List.length_take]; omega⟩; rw [← hpg]
   cases hd : Q2.drop 8 with
   | nil => have := congrArg List.length hd; rw [List.length_drop] at this; simp at this; omega
   | cons x r => rfl
 have hpa : Ps.pageA a.blk a.id a.L p.2 p.1 = (((lst ⟨a.id, a.blk, 0, 0⟩ R).f1, (lst ⟨a.id, a.blk, 0, 0⟩ R).f0, a.L ++ R), true) := by
  unfold Ps.pageA; rw [if_neg ?_, hR]
  ·
   rw [hQ] at h3; exact pageF_all R a.blk a.id a.L (h3.sublist (by simp)) (fun x hx => (List.pairwise_cons.1 h3).1 x (List.mem_append_left _ hx))
  ·
   rw [hR, hmore]; intro e; rw [Bool.and_eq_true, beq_iff_eq] at e
   cases T with
   | nil => cases e.1
   | cons x r => have := hlen (by simp); omega
 have hE : Ps.hearA 60 a (pmsg a.seq p) = ⟨a.seq + 1, (lst ⟨a.id, a.blk, 0, 0⟩ R).f1, (lst ⟨a.id, a.blk, 0, 0⟩ R).f0, a.L ++ R, a.n, T.isEmpty, 0⟩ := by
  have hh : Ps.hit a (pmsg a.seq p) = true := hit_pg hl hp p; unfold Ps.hearA; rw [if_pos hh, if_pos (show (pmsg a.seq p).f9 = 0 from rfl), if_neg (by rw [hp]; simp), hw]; show (⟨a.seq + 1, (Ps.pageA a.blk a.id a.L p.2 p.1).1.1, (Ps.pageA a.blk a.id a.L p.2 p.1).1.2.1, (Ps.pageA a.blk a.id a.L p.2 p.1).1.2.2, a.n, (Ps.pageA a.blk a.id a.L p.2 p.1).2 && !p.2, if (Ps.pageA a.blk a.id a.L p.2 p.1).2 = true then 0 else 50⟩ : Ps.Fa) = _; rw [hpa, hmore]; simp
 rw [hpg] at hg ⊢; rw [hE]; rw [hQ] at h3; have hlst := lst_asc R T _ h3; refine ⟨⟨rfl, ⟨T, by rw [h1, hQ, List.append_assoc], fun x hx => ?_, ?_, fun e => by simpa using e⟩, by rw [hn]; exact Nat.zero_le _, fun _ => hn⟩, ?_, rfl, hg, rfl⟩
 ·
  show ltM (lst ⟨a.id, a.blk, 0, 0⟩ R) x = false; have ht := lst_top R ⟨a.id, a.blk, 0, 0⟩ (h3.sublist (by simp)); rcases List.mem_append.1 hx with hx | hx
  ·
   exact ordLt.neg _ _ _ (ht _ List.mem_cons_self) (h2 x hx)
  ·
   exact ht x (List.mem_cons_of_mem _ hx)
 ·
  exact List.pairwise_cons.2 ⟨fun x hx => (List.pairwise_cons.1 hlst).1 x hx, (List.pairwise_cons.1 hlst).2⟩
 ·
  have hln : (srtM M).length = a.L.length + R.length + T.length := by rw [h1, hQ, List.length_append, List.length_append]; omega
  unfold rem; rw [hp, hln, hn]
  cases T with
  | nil => simp only [List.isEmpty_nil, if_true, Bool.false_eq_true, if_false, List.length_nil]; omega
  | cons x r =>
   have h8 := hlen (by simp); simp only [List.isEmpty_cons, Bool.false_eq_true, if_false, List.length_append, List.length_cons]; omega
theorem rd_at {M : List Me} {a : Ps.Fa} (h : Iv M a) (hp : a.pg = true) (hn : a.n < a.L.length) : rd_T25 a.L a.n = (srtM M)[a.n]'(by
  obtain ⟨Q2, h1, -⟩ := h.sp; rw [h1, List.length_append]; omega) := by
 obtain ⟨Q2, h1, -, -, h4⟩ := h.sp; unfold rd_T25; rw [Int.toNat_natCast, List.getD_eq_getElem?_getD, List.getElem?_eq_getElem hn]; simp only [h1, h4 hp, List.append_nil, Option.getD_some]
theorem block_step {M : List Me} {a : Ps.Fa} (h : Iv M a) (hl : a.live = true) (hp : a.pg = true) (hs : 0 ≤ a.seq ∧ a.seq ≤ 1000000) (P : List Pt) (hok : Ps.okP (rd_T25 a.L a.n) 60 P = true) :
  Iv M (Ps.hearA 60 a (bmsg a.seq P)) ∧ rem M (Ps.hearA 60 a (bmsg a.seq P)) + 1 ≤ rem M a ∧ (Ps.hearA 60 a (bmsg a.seq P)).seq = a.seq + 1 ∧ Ps.good 60 a (bmsg a.seq P) = true ∧ (Ps.hearA 60 a (bmsg a.seq P)).n = a.n + 1 := by
 have hw : wrap64 (a.seq + 1) = a.seq + 1 := by unfold wrap64; omega
 have hh := hit_bl hl hp P
 have hnl : a.n < a.L.length := by
  have h1 := h.n; unfold Ps.Fa.live Ps.Fa.fin at hl; rw [hp] at hl; rcases Nat.lt_or_ge a.n a.L.length with h2 | h2
  ·
   exact h2
  ·
   rw [show a.n = a.L.length from by omega] at hl; simp at hl
 have hE : Ps.hearA 60 a (bmsg a.seq P) = ⟨a.seq + 1, a.blk, a.id, a.L, a.n + 1, true, 0⟩ := by
  unfold Ps.hearA; rw [if_pos hh, if_pos (show (bmsg a.seq P).f9 = 0 from rfl), if_pos hp, hw]; exact if_pos hok
 rw [hE]; obtain ⟨Q2, h1, h2, h3, h4⟩ := h.sp; refine ⟨⟨rfl, ⟨Q2, h1, h2, h3, fun _ => h4 hp⟩, hnl, fun e => by cases e⟩, ?_, rfl, ?_, rfl⟩
 ·
  unfold rem; rw [hp, h1, h4 hp, List.append_nil]; simp only [if_true]; omega
 ·
  unfold Ps.good; rw [hh, hp]; show (true && ((0 : Int) == 0 && (true && Ps.okP (rd_T25 a.L a.n) 60 P))) = true; rw [hok]; rfl
/-- A message that was heard is heard no more. -/
theorem hit_again {a' : Ps.Fa} {s : Int} {m : S46} (h : a'.seq = s + 1) (hm : m.f1 = s) : Ps.hit a' m = false := by
 unfold Ps.hit; have : (m.f1 == a'.seq) = false := by rw [h, hm, beq_eq_false_iff_ne]; omega
 rw [this]; simp
theorem hit_else {a : Ps.Fa} {m : S46} (h : m.f1 ≠ a.seq) : Ps.hit a m = false := by
 unfold Ps.hit; rw [beq_eq_false_iff_ne.2 h]; simp
def toldOf (l : List Sr) (M : List Me) (n : Nat) (k : ByteArray) : List Pt := ((srtM M).take n).flatMap (fun m => if k = m.f0 then pts l m.f0 m.f1 else [])
theorem told_succ {l : List Sr} {M : List Me} {n : Nat} (hn : n < (srtM M).length) : toldOf l M (n + 1) = Ps.tell (toldOf l M n) (srtM M)[n].f0 (pts l (srtM M)[n].f0 (srtM M)[n].f1) := by
 funext k
 unfold toldOf Ps.tell; rw [List.take_succ_eq_append_getElem hn, List.flatMap_append]; simp only [List.flatMap_cons, List.flatMap_nil, List.append_nil]
 by_cases hk : k = (srtM M)[n].f0
 ·
  rw [if_pos hk, if_pos hk]
 ·
  rw [if_neg hk, if_neg hk, List.append_nil]
theorem find_at : ∀ {D : List Sr}, D.Pairwise (fun a b => ltB a.f0 b.f0) → ∀ s ∈ D, D.find? (fun t => decide (t.f0 = s.f0)) = some s
 | [], _, s, hs => by cases hs
 | t :: D, h, s, hs => by
  obtain ⟨h1, h2⟩ := List.pairwise_cons.1 h; rcases List.mem_cons.1 hs with rfl | hs
  ·
   rw [List.find?_cons_of_pos (by simp)]
  ·
   rw [List.find?_cons_of_neg (by
    have h3 := h1 s hs; intro e; rw [decide_eq_true_iff] at e; rw [e] at h3
    exact ltB_irrefl _ h3)]
   exact find_at h2 s hs
theorem pts_at {M : List Me} {l : List Sr} (h : Gd M l) {s : Sr} (hs : s ∈ l) (b : Int) : pts l s.f0 b = Hm.cut s.f1 b (b + 60) := by
 unfold pts; rw [find_at h.nm s hs]
theorem chkL_ok : ∀ (P : List Pt) (t : Int), (∀ p ∈ P, t < p.f0 ∧ 0 ≤ p.f0 ∧ p.f0 ≤ 1099511627776) → Vw.Up P → Ps.chkL t P = 0
 | [], _, _, _ => rfl
 | p :: P, t, h, hu => by
  obtain ⟨h1, h2⟩ := List.pairwise_cons.1 hu; have h3 := h p List.mem_cons_self; have ih := chkL_ok P p.f0 (fun q hq => ⟨h1 q hq, (h q (List.mem_cons_of_mem _ hq)).2⟩) h2; rw [Ps.chkL, if_neg (by omega), if_neg (by omega)]; exact ih
theorem ok_block {M : List Me} {l : List Sr} (h : Gd M l) {m : Me} (hm : m ∈ srtM M) : Ps.okP m 60 (pts l m.f0 m.f1) = true := by
 obtain ⟨s, hs, p, hp, rfl⟩ := (h.mem m).1 (mem_srt.1 hm); rw [show (mk s.f0 p).f0 = s.f0 from rfl, pts_at h hs]
 obtain ⟨b, hb⟩ : ∃ b, (mk s.f0 p).f1 = b := ⟨_, rfl⟩
 unfold Ps.okP; rw [hb, Bool.and_eq_true]
 have hsub : ∀ q ∈ Hm.cut s.f1 b (b + 60), q ∈ s.f1 ∧ b ≤ q.f0 ∧ q.f0 < b + 60 := fun q hq => by
  obtain ⟨h1, h2⟩ := List.mem_filter.1 hq; rw [Bool.and_eq_true, decide_eq_true_iff, decide_eq_true_iff] at h2; exact ⟨h1, h2⟩
 constructor
 ·
  have hlen : (Hm.cut s.f1 b (b + 60)).length ≤ 64 := Nat.le_trans (List.length_filter_le _ _) (h.sz s hs); unfold Ps.chkP; have hup : Vw.Up (Hm.cut s.f1 b (b + 60)) := (h.up s hs).filter _; rw [if_neg (by omega), chkL_ok _ (-1) (fun q hq => ?_) hup]
  ·
   rfl
  ·
   have h1 := h.tm s hs q (hsub q hq).1; exact ⟨by omega, h1⟩
 ·
  rw [Bool.not_eq_true', List.any_eq_false]; intro q hq; have h1 := hsub q hq; unfold Ps.oddP; rw [Bool.or_eq_true, decide_eq_true_iff, decide_eq_true_iff]; unfold wrap64; omega
theorem told_mem {M : List Me} {l : List Sr} (h : Gd M l) {k : ByteArray} {q : Pt} : q ∈ toldOf l M (srtM M).length k ↔ ∃ s ∈ l, s.f0 = k ∧ q ∈ s.f1 := by
 unfold toldOf; rw [List.take_length, List.mem_flatMap]
 constructor
 ·
  rintro ⟨m, hm, hq⟩; obtain ⟨s, hs, p, hp, rfl⟩ := (h.mem m).1 (mem_srt.1 hm)
  split at hq
  ·
   rename_i he
   rw [show (mk s.f0 p).f0 = s.f0 from rfl, pts_at h hs] at hq; exact ⟨s, hs, he.symm, (List.mem_filter.1 hq).1⟩
  ·
   cases hq
 ·
  rintro ⟨s, hs, rfl, hq⟩; refine ⟨mk s.f0 q, mem_srt.2 ((h.mem _).2 ⟨s, hs, q, hq, rfl⟩), ?_⟩; rw [show (mk s.f0 q).f0 = s.f0 from rfl, if_pos rfl, pts_at h hs]; refine List.mem_filter.2 ⟨hq, ?_⟩; rw [Bool.and_eq_true, decide_eq_true_iff, decide_eq_true_iff]; show q.f0 / 60 * 60 ≤ q.f0 ∧ q.f0 < q.f0 / 60 * 60 + 60; omega
/-- What is wanted at the end. -/
def want (l : List Sr) : List Sr := l.filter (fun s => decide ((s.f1.length : Int) > 0))
theorem leN_of {a b : ByteArray} (h : ltB a b) : Hm.leN a b := List.le_of_lt h
theorem want_SR {M : List Me} {l : List Sr} (h : Gd M l) : Ps.SR ⟨0, 1099511627777⟩ (toldOf l M (srtM M).length) (want l) := by
 have hnm : (want l).Pairwise (fun a b => ltB a.f0 b.f0) := h.nm.filter _
 have hw : ∀ {s}, s ∈ want l → s ∈ l ∧ s.f1 ≠ [] := fun {s} hs => by
  obtain ⟨h1, h2⟩ := List.mem_filter.1 hs; refine ⟨h1, fun e => ?_⟩; rw [e] at h2; simp at h2
 refine ⟨List.pairwise_map.2 (hnm.imp leN_of), List.pairwise_map.2 (hnm.imp (fun {a b} hl e => by rw [e] at hl; exact ltB_irrefl _ hl)), fun s hs => ?_, fun n hn => ?_⟩
 ·
  obtain ⟨h1, h2⟩ := hw hs; refine ⟨h2, Vw.Is.of_dom (Vw.Dom.of_mem fun q => ?_) (Vw.Is.self (h.up s h1))⟩; unfold Hm.cut; rw [List.mem_filter, told_mem h]
  constructor
  ·
   rintro ⟨⟨t, ht, he, hq⟩, _⟩; have h3 := find_at h.nm t ht; have h4 := find_at h.nm s h1; rw [he, h4] at h3; cases h3; exact hq
  ·
   intro hq; have h3 := h.tm s h1 q hq; refine ⟨⟨s, h1, rfl, hq⟩, ?_⟩; rw [Bool.and_eq_true, decide_eq_true_iff, decide_eq_true_iff]; exact ⟨h3.1, by show q.f0 < 1099511627777; omega⟩
 ·
  cases hc : Hm.cut (toldOf l M (srtM M).length n) (0 : Int) 1099511627777 with
  | nil => exact absurd hc hn
  | cons q r =>
   have h1 : q ∈ Hm.cut (toldOf l M (srtM M).length n) (0 : Int) 1099511627777 := by rw [hc]; exact List.mem_cons_self
   obtain ⟨t, ht, he, hq⟩ := (told_mem h).1 (List.mem_filter.1 h1).1
   exact ⟨t, List.mem_filter.2 ⟨ht, by
    rw [decide_eq_true_iff]; have := List.length_pos_of_mem hq
    omega⟩, he⟩
theorem want_vs {M : List Me} {l : List Sr} (h : Gd M l) : (want l).map Ps.vs = want l := by
 have : ∀ s ∈ want l, Ps.vs s = s := fun s hs => by
  unfold Ps.vs; rw [Vw.view_eq (Vw.Is.self (h.up s (List.mem_filter.1 hs).1))]
 rw [List.map_congr_left this]; simp
end Pa
end Go.Proofs.Ytgagcimfkmegnaa
end
section
namespace Go.Proofs.Ytgagcimfkmegnaa
set_option linter.unusedVariables false
set_option linter.unusedSimpArgs false
open Go.RowKit Go.Proofs.YtgagcimfkmegnaaW.PrintWords Go.Proofs.YtgagcimfkmegnaaW.PrintLast Go.Proofs.YtgagcimfkmegnaaW.PrintMore Go.Proofs.Ytgagcimfkmegnaa.QT
namespace Pa
theorem rcut_ev0 (a b : Int) : ∀ (R P acc l : List Pt), l = P ++ R → acc.length + R.length ≤ l.length → l.length ≤ 1000000 →
  Ev (fun k => QP.thermographref06_Cut.l0 k l acc (P.length : Int) a b) (acc ++ Hm.cut R a b)
 | [], P, acc, l, hl, ha, hn => by
  have hln : l.length = P.length := by rw [hl]; simp
  refine Ev.step (f := fun _ => some acc) (fun k => ?_) (by simpa [Hm.cut] using Ev.now acc)
  rw [QP.thermographref06_Cut.l0, if_neg (by omega)]
 | x :: R, P, acc, l, hl, ha, hn => by
  have hln : l.length = P.length + (R.length + 1) := by rw [hl]; simp
  have hr : rd_T42 l (P.length : Int) = x := by rw [hl]; exact Hm.rd_mid' P R x _ rfl
  have hw : wrap64 ((P.length : Int) + 1) = ((P ++ [x]).length : Int) := by rw [List.length_append, List.length_singleton]; exact Hm.w1 _ (by omega)
  have hl2 : l = (P ++ [x]) ++ R := by rw [hl]; simp
  have he : (⟨x.f0, x.f1, x.f2⟩ : S42) = x := rfl; simp only [List.length_cons] at ha
  by_cases h1 : a ≤ x.f0
  ·
   by_cases h2 : x.f0 < b
   ·
    have ih := rcut_ev0 a b R (P ++ [x]) (acc ++ [x]) l hl2 (by rw [List.length_append, List.length_singleton]; omega) hn; have hc : Hm.cut (x :: R) a b = x :: Hm.cut R a b := by unfold Hm.cut; rw [List.filter_cons, if_pos (by simp [h1, h2])]
    rw [hc, show acc ++ x :: Hm.cut R a b = (acc ++ [x]) ++ Hm.cut R a b by simp]; refine Ev.step (fun k => ?_) ih; rw [QP.thermographref06_Cut.l0, if_pos (by omega), if_pos (by omega), hr, if_pos h1, if_pos h2, if_pos (by omega), hw, he]
   ·
    have ih := rcut_ev0 a b R (P ++ [x]) acc l hl2 (by omega) hn; have hc : Hm.cut (x :: R) a b = Hm.cut R a b := by unfold Hm.cut; rw [List.filter_cons, if_neg (by simp [h2])]
    rw [hc]; refine Ev.step (fun k => ?_) ih; rw [QP.thermographref06_Cut.l0, if_pos (by omega), if_pos (by omega), hr, if_pos h1, if_neg h2, hw]
  ·
   have ih := rcut_ev0 a b R (P ++ [x]) acc l hl2 (by omega) hn; have hc : Hm.cut (x :: R) a b = Hm.cut R a b := by unfold Hm.cut; rw [List.filter_cons, if_neg (by simp [h1])]
   rw [hc]; refine Ev.step (fun k => ?_) ih; rw [QP.thermographref06_Cut.l0, if_pos (by omega), if_pos (by omega), hr, if_neg h1, hw]
theorem pts_ev0 (n : ByteArray) (b : Int) (hb : wrap64 (b + 60) = b + 60) : ∀ (R P l : List Sr), l = P ++ R → l.length ≤ 1000000 → (∀ s ∈ l, s.f1.length ≤ 1000000) →
  Ev (fun k => QP.thermographlaw17_points.l0 k l n b (P.length : Int)) (pts R n b)
 | [], P, l, hl, hn, hs => by
  have hln : l.length = P.length := by rw [hl]; simp
  refine Ev.step (f := fun _ => some []) (fun k => ?_) (Ev.now _)
  rw [QP.thermographlaw17_points.l0, if_neg (by omega)]
 | x :: R, P, l, hl, hn, hs => by
  have hln : l.length = P.length + (R.length + 1) := by rw [hl]; simp
  have hr : rd_T65 l (P.length : Int) = x := by rw [hl]; unfold rd_T65; simp
  have hw : wrap64 ((P.length : Int) + 1) = ((P ++ [x]).length : Int) := by rw [List.length_append, List.length_singleton]; exact Hm.w1 _ (by omega)
  have hl2 : l = (P ++ [x]) ++ R := by rw [hl]; simp
  by_cases h1 : x.f0 = n
  ·
   have hp : pts (x :: R) n b = Hm.cut x.f1 b (b + 60) := by unfold pts; rw [List.find?_cons_of_pos (by simp [h1])]
   have hx := hs x (by rw [hl]; simp); have hc := rcut_ev0 b (b + 60) x.f1 [] [] x.f1 rfl (by simp) hx; rw [hp]; refine Ev.step (fun k => ?_) (hc.bind (f := fun _ t => some t) (Ev.now _)); rw [QP.thermographlaw17_points.l0, if_pos (by omega), if_pos (by omega), hr, if_pos (by rw [h1]), hb]; rfl
  ·
   have ih := pts_ev0 n b hb R (P ++ [x]) l hl2 hn hs; have hp : pts (x :: R) n b = pts R n b := by unfold pts; rw [List.find?_cons_of_neg (by simp [h1])]
   rw [hp]; refine Ev.step (fun k => ?_) ih; rw [QP.thermographlaw17_points.l0, if_pos (by omega), if_pos (by omega), hr, if_neg (fun e => h1 (toList_inj e)), hw]
theorem points_calls (w : World) (A : Option Addr) (c : Nat) (l : List Sr) (n : ByteArray) (b : Int) (hC : Kd.C k65 w A l.length l) (hc : l.length ≤ c) (hl : l.length ≤ 1000000) (hs : ∀ s ∈ l, s.f1.length ≤ 1000000) (hb : wrap64 (b + 60) = b + 60) :
  Calls Try.prog 23 #[.slice A l.length c, .string n, .int .i64 b] w fun e w' => ∃ v0_ : Value, e = .returned v0_ ∧ Kd.R k42 42 w' w.heap.size (fun _ => True) v0_ (pts l n b) ∧ Below w.heap.size w w' := by
 obtain ⟨k, hk⟩ := (pts_ev0 n b hb l [] l rfl hl hs).rounds; exact QP.thermographlaw17_points.calls k A c l n b _ w hC hc hk
end Pa
end Go.Proofs.Ytgagcimfkmegnaa
end
