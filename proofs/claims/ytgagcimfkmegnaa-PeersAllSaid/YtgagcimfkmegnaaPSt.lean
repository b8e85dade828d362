/- The fetch: its state in memory; Done, Err. -/
import Derived.Test.YtgagcimfkmegnaaQT3
import Derived.Test.YtgagcimfkmegnaaQT8
section
namespace Go.Proofs.Ytgagcimfkmegnaa
namespace XM
open Go.MapKept Go.ChangeMaps
open Go.Maps (Keyed)
section
variable {α β : Type} [DecidableEq α]
def aget : List (α × β) → α → Option β
 | [], _ => none
 | p :: r, a => if p.1 = a then some p.2 else aget r a
def aput : List (α × β) → α → β → List (α × β)
 | [], a, v => [(a, v)]
 | p :: r, a, v => if p.1 = a then (a, v) :: r else p :: aput r a v
def adel (m : List (α × β)) (a : α) : List (α × β) := m.filter (fun p => !decide (p.1 = a))
def keys (m : List (α × β)) : List α := m.map (·.1)
theorem aget_none {m : List (α × β)} {a : α} (h : ∀ p ∈ m, p.1 ≠ a) : aget m a = none := by
 induction m with
 | nil => rfl
 | cons p r ih => rw [aget, if_neg (h p (by simp))]; exact ih (fun q hq => h q (by simp [hq]))
theorem aget_mem {m : List (α × β)} (hn : (keys m).Nodup) {p : α × β} (hp : p ∈ m) : aget m p.1 = some p.2 := by
 induction m with
 | nil => simp at hp
 | cons q r ih =>
  simp only [keys, List.map_cons, List.nodup_cons] at hn; rcases List.mem_cons.1 hp with rfl | hp
  ·
   rw [aget, if_pos rfl]
  ·
   rw [aget, if_neg (fun e : q.1 = p.1 => hn.1 (by rw [e]; exact List.mem_map.2 ⟨p, hp, rfl⟩))]; exact ih hn.2 hp
theorem aget_some {m : List (α × β)} {a : α} {v : β} (h : aget m a = some v) : (a, v) ∈ m := by
 induction m with
 | nil => simp [aget] at h
 | cons q r ih =>
  rw [aget] at h
  split at h
  ·
   rename_i e
   cases h; subst e; simp
  ·
   simp [ih h]
theorem aput_new {m : List (α × β)} {a : α} (v : β) (h : ∀ p ∈ m, p.1 ≠ a) : aput m a v = m ++ [(a, v)] := by
 induction m with
 | nil => rfl
 | cons p r ih => rw [aput, if_neg (h p (by simp)), ih (fun q hq => h q (by simp [hq]))]; rfl
theorem aput_set {m : List (α × β)} {a : α} (v : β) : ∀ {j : Nat} {p : α × β}, (keys m).Nodup → m[j]? = some p → p.1 = a → aput m a v = m.set j (a, v) := by
 induction m with
 | nil => intro j p _ h _; simp at h
 | cons q r ih =>
  intro j p hn h hp; simp only [keys, List.map_cons, List.nodup_cons] at hn
  cases j with
  | zero =>
   simp at h
   subst h; rw [aput, if_pos hp]
   rfl
  | succ j =>
   have h' : r[j]? = some p := by simpa using h
   rw [aput, if_neg (fun e => hn.1 (by rw [e, ← hp]; exact List.mem_map.2 ⟨p, List.mem_of_getElem? h', rfl⟩)), ih hn.2 h' hp]; rfl
theorem mem_aput {m : List (α × β)} {a : α} {v : β} {p : α × β} (h : p ∈ aput m a v) : p ∈ m ∨ p = (a, v) := by
 induction m with
 | nil => exact Or.inr (by simpa [aput] using h)
 | cons q r ih =>
  rw [aput] at h
  split at h
  ·
   rcases List.mem_cons.1 h with h | h
   ·
    exact Or.inr h
   ·
    exact Or.inl (List.mem_cons_of_mem _ h)
  ·
   rcases List.mem_cons.1 h with rfl | h
   ·
    exact Or.inl (by simp)
   ·
    rcases ih h with h | h
    ·
     exact Or.inl (List.mem_cons_of_mem _ h)
    ·
     exact Or.inr h
theorem length_aput (m : List (α × β)) (a : α) (v : β) : (aput m a v).length ≤ m.length + 1 := by
 induction m with
 | nil => simp [aput]
 | cons q r ih =>
  rw [aput]
  split
  ·
   simp
  ·
   simp; omega
end
section
variable {α β : Type}
/-- Keys of type k, as values. -/
structure Enc (P : Program) (k : TypeId) (ek : α → Value) : Prop where
 law : Keyed P k
 inj : ∀ a a', ek a = ek a' → a = a'
/-- It may be a key. -/
def IsK (P : Program) (k : TypeId) (ek : α → Value) (a : α) : Prop := ∃ kl, keyOf P k (ek a) = some kl
def pe (ek : α → Value) (ev : β → Value) (p : α × β) : Value × Value := (ek p.1, ev p.2)
def me (e : MapEntry) : Value × Value := (e.key, e.val)
/-- BLOCK b IS THE MAP m. -/
def MapIs (P : Program) (k : TypeId) (ek : α → Value) (ev : β → Value) (w : World) (b : Nat) (m : List (α × β)) : Prop :=
 ∃ es clock, w.heap[b]? = some (.map es clock) ∧ es.size ≤ maxLen ∧ Stamped es clock ∧ es.toList.map me = m.map (pe ek ev) ∧ ∀ p ∈ m, IsK P k ek p.1
/-- 'range' OVER IT IS UNDER WAY: left is to come. -/
def RangeIs (P : Program) (k : TypeId) (ek : α → Value) (ev : β → Value) (w : World) (b r : Nat) (m left : List (α × β)) : Prop :=
 ∃ es clock since seen c0, w.heap[b]? = some (.map es clock) ∧ es.size ≤ maxLen ∧ Stamped es clock ∧ es.toList.map me = m.map (pe ek ev) ∧ (∀ p ∈ m, IsK P k ek p.1) ∧
  w.heap[r]? = some (.mapIter (some b) since seen c0) ∧ (∀ x ∈ es.toList, x.born < since) ∧ since ≤ c0 ∧ since ≤ clock ∧ (leftOf es seen).toList.map me = left.map (pe ek ev) ∧ left.Sublist m
theorem sublist_filter {γ : Type} [DecidableEq γ] {l l' : List γ} (hs : l'.Sublist l) : l.Nodup → l' = l.filter (fun x => decide (x ∈ l')) := by
 induction hs with
 | slnil => intro _; rfl
 | cons a h ih =>
  intro hn; obtain ⟨h1, h2⟩ := List.nodup_cons.1 hn; rw [List.filter_cons, if_neg (by simpa using fun hm => h1 (h.subset hm))]
  exact ih h2
 | cons_cons a h ih =>
  rename_i l' l
  intro hn; obtain ⟨h1, h2⟩ := List.nodup_cons.1 hn; rw [List.filter_cons, if_pos (by simp)]; have e := ih h2
  congr 1
  conv => lhs; rw [e]
  refine List.filter_congr (fun x hx => ?_); have : x ≠ a := fun e => h1 (e ▸ hx); simp [this]
theorem nodup_of_map {γ δ : Type} (f : γ → δ) {l : List γ} (h : (l.map f).Nodup) : l.Nodup := (List.pairwise_map.1 h).imp (fun hne e => hne (by rw [e]))
variable {P : Program} {k : TypeId} {ek : α → Value} {ev : β → Value} {w : World} {b r : Nat} {m left : List (α × β)}
theorem MapIs.lt (h : MapIs P k ek ev w b m) : b < w.heap.size := by
 obtain ⟨es, clock, hb, _⟩ := h; exact (Array.getElem?_eq_some_iff.1 hb).1
theorem MapIs.move {w' : World} (h : MapIs P k ek ev w b m) (hm : w'.heap[b]? = w.heap[b]?) : MapIs P k ek ev w' b m := by
 obtain ⟨es, clock, hb, r⟩ := h; exact ⟨es, clock, hm.trans hb, r⟩
theorem MapIs.kept {w' : World} {row : Option Nat} (h : MapIs P k ek ev w b m) (hg : w.grownBy w' row) (hne : some b ≠ row) : MapIs P k ek ev w' b m := h.move (hg.block b h.lt hne)
theorem MapIs.below {w' : World} (h : MapIs P k ek ev w b m) (hb : RowKit.Below w.heap.size w w') : MapIs P k ek ev w' b m := h.move (hb.block b h.lt)
theorem MapIs.setCell (h : MapIs P k ek ev w b m) {a : Addr} (ha : b ≠ a.block) (u : Value) : MapIs P k ek ev (w.setCell a u) b m := h.move (RowKit.Below.heap_setCell _ _ _ _ ha)
theorem MapIs.noCells (h : MapIs P k ek ev w b m) {g : Nat} {cs : Array Value} {T : TypeId} {fr : Nat × Nat} (hg : w.heap[g]? = some (.cells cs T fr)) : b ≠ g := by
 obtain ⟨es, clock, hb, _⟩ := h; intro e; subst e; rw [hb] at hg; cases hg
theorem nodup_of {es : Array MapEntry} {clock : Nat} (hs : Stamped es clock) (hm : es.toList.map me = m.map (pe ek ev)) : (keys m).Nodup := by
 have h1 := hs.2.2
 have h2 : es.toList.map (·.key) = (keys m).map ek := by
  have := congrArg (List.map Prod.fst) hm; simpa [keys, me, pe, List.map_map, Function.comp_def] using this
 rw [h2] at h1; exact nodup_of_map ek h1
theorem MapIs.nodup (h : MapIs P k ek ev w b m) : (keys m).Nodup := by
 obtain ⟨es, clock, _, _, hs, hm, _⟩ := h; exact nodup_of hs hm
theorem MapIs.isK (h : MapIs P k ek ev w b m) : ∀ p ∈ m, IsK P k ek p.1 := by
 obtain ⟨es, clock, _, _, hs, hm, hk⟩ := h; exact hk
/-- 'make(map[K]V)'. -/
theorem MapIs.made (P : Program) (k : TypeId) (ek : α → Value) (ev : β → Value) (w : World) : MapIs P k ek ev (w.alloc (.map #[] 0)) w.heap.size ([] : List (α × β)) :=
 ⟨#[], 0, (MapKept.heap_alloc w _).1, by simp, stamped_empty 0, by simp, by simp⟩
theorem keys_of {es : Array MapEntry} (hm : es.toList.map me = m.map (pe ek ev)) (hk : ∀ p ∈ m, IsK P k ek p.1) : ∀ e ∈ es.toList, ∃ l, keyOf P k e.key = some l := by
 intro e he; have : me e ∈ m.map (pe ek ev) := hm ▸ List.mem_map.2 ⟨e, he, rfl⟩; obtain ⟨p, hp, h⟩ := List.mem_map.1 this; obtain ⟨kl, hkl⟩ := hk p hp; have h1 : e.key = ek p.1 := (congrArg Prod.fst h).symm; exact ⟨kl, h1 ▸ hkl⟩
theorem entry_at {es : Array MapEntry} (hm : es.toList.map me = m.map (pe ek ev)) {j : Nat} {e : MapEntry} (h : es.toList[j]? = some e) : ∃ p, m[j]? = some p ∧ e.key = ek p.1 ∧ e.val = ev p.2 := by
 have h1 : (es.toList.map me)[j]? = some (me e) := by simp [h]
 rw [hm, List.getElem?_map, Option.map_eq_some_iff] at h1; obtain ⟨p, hp, h2⟩ := h1; exact ⟨p, hp, (congrArg Prod.fst h2).symm, (congrArg Prod.snd h2).symm⟩
theorem none_of {es : Array MapEntry} (hm : es.toList.map me = m.map (pe ek ev)) {a : α} (h : ∀ e ∈ es.toList, e.key ≠ ek a) : ∀ p ∈ m, p.1 ≠ a := by
 intro p hp e; have : pe ek ev p ∈ es.toList.map me := hm ▸ List.mem_map.2 ⟨p, hp, rfl⟩; obtain ⟨x, hx, h2⟩ := List.mem_map.1 this; exact h x hx (by rw [show x.key = ek p.1 from congrArg Prod.fst h2, e])
theorem grown_setBlock {es : Array MapEntry} {clock : Nat} (hb : w.heap[b]? = some (.map es clock)) (o : Obj) : w.grownBy (setBlock w b o) (some b) :=
 ⟨rfl, rfl, rfl, by simp [setBlock], fun i _ hi => heap_setBlock_other hb _ (fun e => hi (by rw [e]))⟩
variable {t e : TypeId} {a : α}
section
variable [DecidableEq α]
/-- 'm[k]', 'v, ok := m[k]': no entry. -/
theorem MapIs.look_none (h : MapIs P k ek ev w b m) (E : Enc P k ek) (ht : P.underlying t = some (.map k e)) {z : Value} (hz : (zeroValue e).run P w = .ok z w) (ha : IsK P k ek a) (c : Bool) (hg : aget m a = none) :
  (Instr.lookup t (.map (some b)) (ek a) c).run P w = .ok (if c then .tuple #[z, .bool false] else z) w := by
 obtain ⟨es, clock, hb, hs, hst, hm, hk⟩ := h; obtain ⟨kl, hkey⟩ := ha; rcases E.law.find w hkey es.toList (keys_of hm hk) with ⟨h1, h2⟩ | ⟨j, e0, h1, h2, h3⟩
 ·
  simp [Instr.lookup, run_underlying ht, MapKept.run_getObj_map hb, E.law.check w _ hkey, h1, hz, Result.andThen]
 ·
  exfalso
  obtain ⟨p, hp, h4, _⟩ := entry_at hm h2; obtain rfl := E.inj _ _ (h3.symm.trans h4); rw [aget_mem (nodup_of hst hm) (List.mem_of_getElem? hp)] at hg; cases hg
/-- .. there is one. -/
theorem MapIs.look_some (h : MapIs P k ek ev w b m) (E : Enc P k ek) (ht : P.underlying t = some (.map k e)) (ha : IsK P k ek a) (c : Bool) {v : β} (hg : aget m a = some v) :
  (Instr.lookup t (.map (some b)) (ek a) c).run P w = .ok (if c then .tuple #[ev v, .bool true] else ev v) w := by
 obtain ⟨es, clock, hb, hs, hst, hm, hk⟩ := h; obtain ⟨kl, hkey⟩ := ha; rcases E.law.find w hkey es.toList (keys_of hm hk) with ⟨h1, h2⟩ | ⟨j, e0, h1, h2, h3⟩
 ·
  exfalso
  rw [aget_none (none_of hm h2)] at hg; cases hg
 ·
  obtain ⟨p, hp, h4, h5⟩ := entry_at hm h2; obtain rfl := E.inj _ _ (h3.symm.trans h4); rw [aget_mem (nodup_of hst hm) (List.mem_of_getElem? hp)] at hg; cases hg; rw [← h5]; simp [Instr.lookup, run_underlying ht, MapKept.run_getObj_map hb, E.law.check w _ hkey, h1, Result.andThen]
/-- 'm[k] = v'. -/
theorem MapIs.store (h : MapIs P k ek ev w b m) (E : Enc P k ek) (ht : P.underlying t = some (.map k e)) (ha : IsK P k ek a) (hn : m.length < maxLen) (v : β) :
  ∃ w', (Instr.mapUpdate t (.map (some b)) (ek a) (ev v)).run P w = .ok () w' ∧ MapIs P k ek ev w' b (aput m a v) ∧ w.grownBy w' (some b) ∧ w'.heap.size = w.heap.size := by
 obtain ⟨es, clock, hb, hs, hst, hm, hk⟩ := h; obtain ⟨kl, hkey⟩ := ha
 have hk' : ∀ p ∈ aput m a v, IsK P k ek p.1 := by
  intro p hp; rcases mem_aput hp with hp | rfl
  ·
   exact hk p hp
  ·
   exact ⟨kl, hkey⟩
 have hl : es.size = m.length := by
  have := congrArg List.length hm; simpa using this
 rcases E.law.find w hkey es.toList (keys_of hm hk) with ⟨h1, h2⟩ | ⟨j, e0, h1, h2, h3⟩
 ·
  refine ⟨setBlock w b (.map (es.push ⟨ek a, ev v, clock⟩) (clock + 1)), ?_, ⟨_, _, heap_setBlock_same hb _, by simp; omega, stamped_push hst h2, ?_, hk'⟩, grown_setBlock hb _, by simp [setBlock]⟩
  ·
   simp [Instr.mapUpdate, run_underlying ht, MapKept.run_getObj_map hb, E.law.check w false hkey, h1, MapKept.run_setObj_map _ hb, Result.andThen, setBlock]
  ·
   rw [aput_new v (none_of hm h2), Array.toList_push, List.map_append, List.map_append, hm]; rfl
 ·
  have hj : es[j]? = some e0 := by simpa using h2
  obtain ⟨p, hp, h4, h5⟩ := entry_at hm h2; have hpa : p.1 = a := E.inj _ _ (h4.symm.trans h3); have hkeyf : ∀ e', es[j]? = some e' → ({ e' with key := ek a, val := ev v } : MapEntry).key = e'.key := fun e' he' => by rw [hj] at he'; cases he'; exact h3.symm
  have hlist : (es.modify j (fun e' => { e' with key := ek a, val := ev v })).toList = es.toList.set j { e0 with key := ek a, val := ev v } := by rw [Array.toList_modify, modify_eq_set _ _ _ _ h2]
  refine ⟨setBlock w b (.map (es.modify j (fun e' => { e' with key := ek a, val := ev v })) clock), ?_, ⟨_, _, heap_setBlock_same hb _, by simpa using hs, stamped_modify hst _ _ (fun _ _ => rfl) (fun e' _ he' => hkeyf e' he'), ?_, hk'⟩, grown_setBlock hb _, by simp [setBlock]⟩
  ·
   simp [Instr.mapUpdate, run_underlying ht, MapKept.run_getObj_map hb, E.law.check w false hkey, h1, hj, h3, E.law.stays w hkey, MapKept.run_setObj_map _ hb, Result.andThen, setBlock]
  ·
   rw [aput_set v (nodup_of hst hm) hp hpa, hlist, List.map_set, List.map_set, hm]; rfl
/-- 'delete(m, k)'. -/
theorem MapIs.drop (h : MapIs P k ek ev w b m) (E : Enc P k ek) (ht : P.underlying t = some (.map k e)) (ha : IsK P k ek a) (ty : TypeId) :
  ∃ w' es es', (Builtin.delete_ #[t, k] ty #[.map (some b), ek a]).run P w = .ok (.tuple #[]) w' ∧ (∃ c, w.heap[b]? = some (.map es c) ∧ w' = setBlock w b (.map es' c)) ∧ es'.toList.Sublist es.toList ∧ (∀ x, x ∈ es'.toList ↔ (x ∈ es.toList ∧ x.key ≠ ek a)) ∧ MapIs P k ek ev w' b (adel m a) ∧ w.grownBy w' (some b) ∧ w'.heap.size = w.heap.size := by
 obtain ⟨es, clock, hb, hs, hst, hm, hk⟩ := h; obtain ⟨kl, hkey⟩ := ha; have hk' : ∀ p ∈ adel m a, IsK P k ek p.1 := fun p hp => hk p (List.mem_filter.1 hp).1; rcases E.law.find w hkey es.toList (keys_of hm hk) with ⟨h1, h2⟩ | ⟨j, e0, h1, h2, h3⟩
 ·
  have e1 : adel m a = m := List.filter_eq_self.2 (fun p hp => by simpa using none_of hm h2 p hp); refine ⟨setBlock w b (.map es clock), es, es, ?_, ⟨clock, hb, rfl⟩, List.Sublist.refl _, fun x => ⟨fun hx => ⟨hx, h2 x hx⟩, fun hx => hx.1⟩, ⟨es, clock, heap_setBlock_same hb _, hs, hst, by rw [e1]; exact hm, hk'⟩, grown_setBlock hb _, by simp [setBlock]⟩; simp [Builtin.delete_, run_underlying ht, MapKept.run_getObj_map hb, E.law.check w _ hkey, h1, MapKept.run_setObj_map _ hb, Result.andThen, setBlock]
 ·
  have hjl : j < es.toList.length := (List.getElem?_eq_some_iff.1 h2).1; have hjs : j < es.size := by simpa using hjl
  have hsub : (es.eraseIdxIfInBounds j).toList = es.toList.eraseIdx j := by
   unfold Array.eraseIdxIfInBounds; rw [dif_pos hjs]; simp
  obtain ⟨p, hp, h4, h5⟩ := entry_at hm h2; have hpa : p.1 = a := E.inj _ _ (h4.symm.trans h3); have hnd := nodup_of hst hm
  have e1 : adel m a = m.eraseIdx j := by
   refine filter_eq_eraseIdx (fun q : α × β => decide (q.1 = a)) m j p hp (by simp [hpa]) ?_; refine (List.pairwise_map.1 hnd).imp (fun {x y} hxy hh => hxy ?_); exact (of_decide_eq_true hh.1).trans (of_decide_eq_true hh.2).symm
  refine ⟨setBlock w b (.map (es.eraseIdxIfInBounds j) clock), es, es.eraseIdxIfInBounds j, ?_, ⟨clock, hb, rfl⟩, by rw [hsub]; exact List.eraseIdx_sublist _ _, fun x => ?_, ⟨_, clock, heap_setBlock_same hb _, Nat.le_trans (MapFrom.size_erase es j) hs, stamped_erase hst j, ?_, hk'⟩, grown_setBlock hb _, by simp [setBlock]⟩
  ·
   simp [Builtin.delete_, run_underlying ht, MapKept.run_getObj_map hb, E.law.check w _ hkey, h1, MapKept.run_setObj_map _ hb, Result.andThen, setBlock]
  ·
   rw [hsub, List.mem_eraseIdx_iff_getElem?]
   constructor
   ·
    rintro ⟨i, hne, hi⟩; refine ⟨List.mem_of_getElem? hi, fun e2 => hne ?_⟩; have h6 : (es.toList.map (·.key))[i]? = some (ek a) := by rw [List.getElem?_map, hi]; simp [e2]
    have h7 : (es.toList.map (·.key))[j]? = some (ek a) := by rw [List.getElem?_map, h2]; simp [h3]
    exact (List.getElem?_inj (List.getElem?_eq_some_iff.1 h6).1 hst.2.2).1 (h6.trans h7.symm)
   ·
    rintro ⟨hx, hne⟩; obtain ⟨i, hi⟩ := List.getElem?_of_mem hx; refine ⟨i, fun e2 => hne ?_, hi⟩; rw [e2, h2] at hi; cases hi; exact h3
  ·
   rw [e1, hsub, map_eraseIdx, map_eraseIdx, hm]
end
/-- 'len(m)'. -/
theorem MapIs.len (h : MapIs P k ek ev w b m) (ht : P.underlying t = some (.map k e)) (ty : TypeId) : (Builtin.len_ #[t] ty #[.map (some b)]).run P w = .ok (.int .i64 m.length) w := by
 obtain ⟨es, clock, hb, hs, hst, hm, hk⟩ := h
 have hl : es.size = m.length := by
  have := congrArg List.length hm; simpa using this
 rw [← hl]; simp [Builtin.len_, run_underlying ht, MapKept.run_getObj_map hb, goInt, Result.andThen]
theorem RangeIs.map (h : RangeIs P k ek ev w b r m left) : MapIs P k ek ev w b m := by
 obtain ⟨es, clock, _, _, _, hb, hs, hst, hm, hk, _⟩ := h; exact ⟨es, clock, hb, hs, hst, hm, hk⟩
theorem RangeIs.ne (h : RangeIs P k ek ev w b r m left) : r ≠ b := by
 obtain ⟨es, clock, since, seen, c0, hb, _, _, _, _, hr, _⟩ := h; intro e; rw [e, hb] at hr; cases hr
theorem RangeIs.noCells (h : RangeIs P k ek ev w b r m left) {g : Nat} {cs : Array Value} {T : TypeId} {fr : Nat × Nat} (hg : w.heap[g]? = some (.cells cs T fr)) : r ≠ g := by
 obtain ⟨es, clock, since, seen, c0, hb, _, _, _, _, hr, _⟩ := h; intro e; subst e; rw [hr] at hg; cases hg
theorem RangeIs.lt (h : RangeIs P k ek ev w b r m left) : r < w.heap.size := by
 obtain ⟨es, clock, since, seen, c0, _, _, _, _, _, hr, _⟩ := h; exact (Array.getElem?_eq_some_iff.1 hr).1
theorem RangeIs.move {w' : World} (h : RangeIs P k ek ev w b r m left) (h1 : w'.heap[b]? = w.heap[b]?) (h2 : w'.heap[r]? = w.heap[r]?) : RangeIs P k ek ev w' b r m left := by
 obtain ⟨es, clock, since, seen, c0, hb, hs, hst, hm, hk, hr, rest⟩ := h; exact ⟨es, clock, since, seen, c0, h1.trans hb, hs, hst, hm, hk, h2.trans hr, rest⟩
theorem RangeIs.kept {w' : World} {row : Option Nat} (h : RangeIs P k ek ev w b r m left) (hg : w.grownBy w' row) (hb' : some b ≠ row) (hr' : some r ≠ row) : RangeIs P k ek ev w' b r m left := h.move (hg.block b h.map.lt hb') (hg.block r h.lt hr')
theorem RangeIs.below {w' : World} (h : RangeIs P k ek ev w b r m left) (hb : RowKit.Below w.heap.size w w') : RangeIs P k ek ev w' b r m left := h.move (hb.block b h.map.lt) (hb.block r h.lt)
/-- 'range m'. -/
theorem MapIs.range (h : MapIs P k ek ev w b m) (ht : P.underlying t = some (.map k e)) :
  ∃ w', (Instr.range t (.map (some b))).run P w = .ok (.pointer (some ⟨w.heap.size, 0, none⟩)) w' ∧ RangeIs P k ek ev w' b w.heap.size m m ∧ w.grownBy w' none ∧ w'.heap.size = w.heap.size + 1 := by
 have hlt := h.lt; obtain ⟨es, clock, hb, hs, hst, hm, hk⟩ := h; refine ⟨_, run_range_map w t k e b es clock ht hb, ⟨es, clock, clock, #[], clock, ((MapKept.heap_alloc w _).2 b hlt).trans hb, hs, hst, hm, hk, (MapKept.heap_alloc w _).1, hst.1, Nat.le_refl _, Nat.le_refl _, ?_, List.Sublist.refl _⟩, World.grownBy_alloc w _ none, by simp⟩; have e1 : leftOf es #[] = es := by unfold leftOf; exact Array.filter_eq_self.2 (fun _ _ => by simp)
 rw [e1]; exact hm
/-- 'delete(m, k)' in the round: of a key that has come. -/
theorem RangeIs.drop [DecidableEq α] (h : RangeIs P k ek ev w b r m left) (E : Enc P k ek) (ht : P.underlying t = some (.map k e)) (ha : IsK P k ek a) (ty : TypeId) (hno : ∀ p ∈ left, p.1 ≠ a) :
  ∃ w', (Builtin.delete_ #[t, k] ty #[.map (some b), ek a]).run P w = .ok (.tuple #[]) w' ∧ RangeIs P k ek ev w' b r (adel m a) left ∧ w.grownBy w' (some b) ∧ w'.heap.size = w.heap.size := by
 classical
 have hne := h.ne; obtain ⟨w', es0, es', hrun, ⟨c, hb0, rfl⟩, hsub', hwho, hmap, hg, hsz⟩ := h.map.drop E ht ha ty; obtain ⟨es, clock, since, seen, c0, hb, hs, hst, hm, hk, hr, hold, hsc, hsk, hl, hsub⟩ := h; obtain ⟨rfl, rfl⟩ : es = es0 ∧ clock = c := by rw [hb] at hb0; simpa using hb0
 refine ⟨_, hrun, ?_, hg, hsz⟩; obtain ⟨es1, clock1, hb1, hs1, hst1, hm1, hk1⟩ := hmap; rw [heap_setBlock_same hb] at hb1; cases hb1; refine ⟨_, _, since, seen, c0, heap_setBlock_same hb _, hs1, hst1, hm1, hk1, (heap_setBlock_other hb _ hne).trans hr, fun x hx => hold x ((hwho x).1 hx).1, hsc, hsk, ?_, ?_⟩
 ·
  rw [← hl]
  congr 1
  unfold leftOf; rw [Array.toList_filter, Array.toList_filter]
  have hn2 : es.toList.filter (fun e => !seen.contains e.born) = (es.toList.filter (fun e => !seen.contains e.born)).filter (fun x => decide (x ∈ es'.toList)) := by
   refine (List.filter_eq_self.2 (fun x hx => ?_)).symm; have hx' : x ∈ (leftOf es seen).toList := by unfold leftOf; rw [Array.toList_filter]; exact hx
   have : me x ∈ left.map (pe ek ev) := hl ▸ List.mem_map.2 ⟨x, hx', rfl⟩; obtain ⟨p, hp, hpe⟩ := List.mem_map.1 this; have h1 : x.key = ek p.1 := (congrArg Prod.fst hpe).symm; exact decide_eq_true ((hwho x).2 ⟨(List.mem_filter.1 hx).1, fun e1 => hno p hp (E.inj _ _ (h1.symm.trans e1))⟩)
  rw [hn2, List.filter_filter]
  have hes' : es'.toList = es.toList.filter (fun x => decide (x ∈ es'.toList)) := by
   have hnd : es.toList.Nodup := nodup_of_map _ hst.2.1; exact sublist_filter hsub' hnd
  conv => lhs; rw [hes']
  rw [List.filter_filter]; refine List.filter_congr (fun x _ => ?_); rw [Bool.and_comm]
 ·
  have h1 : adel left a = left := List.filter_eq_self.2 (fun p hp => by simpa using hno p hp); rw [← h1]; exact hsub.filter _
end
section
variable {α β : Type} {P : Program} {ek : α → Value} {ev : β → Value} (w : World) {ops : Array Oper} {rest : List Oper} {o : Oper} {a : Act} {Q : Exit → Act → World → Prop}
end
end XM
end Go.Proofs.Ytgagcimfkmegnaa
end
section
namespace Go.Proofs.Ytgagcimfkmegnaa
set_option linter.unusedVariables false
set_option linter.unusedSimpArgs false
open Go.RowKit Go.Proofs.YtgagcimfkmegnaaW.PrintWords Go.Proofs.YtgagcimfkmegnaaW.PrintLast Go.Proofs.YtgagcimfkmegnaaW.PrintMore Go.Proofs.Ytgagcimfkmegnaa.QT
namespace Bt
abbrev Pm := List (ByteArray × Value)
def ekS (s : ByteArray) : Value := .string s
def evV (v : Value) : Value := v
theorem encS : XM.Enc Try.prog 9 ekS := ⟨Maps.string_keyed Try.underlying9, fun a a' h => by unfold ekS at h; cases h; rfl⟩
theorem keyS (s : ByteArray) (h : s.size ≤ maxLen) : keyOf Try.prog 9 (.string s) = some (.string s.data.toList) := by
 unfold keyOf; rw [Try.underlying9]; simp [mapKey, Try.underlying9, h]
theorem isKS (s : ByteArray) (h : s.size ≤ maxLen) : XM.IsK Try.prog 9 ekS s := ⟨_, keyS s h⟩
def PM (w : World) (b : Nat) (pm : Pm) : Prop := XM.MapIs Try.prog 9 ekS evV w b pm
theorem R_cap {α : Type} {d : Kd α} {e B : Nat} {w : World} {ok : Nat → Prop} {A : Option Addr} {n c : Nat} {xs : List α} (h : d.R e w B ok (.slice A n c) xs) : n ≤ c := (Kd.R_reads' h).2.1
end Bt
namespace Hm
abbrev Pt := S42
def cut (l : List Pt) (a b : Int) : List Pt := l.filter (fun p => decide (a ≤ p.f0) && decide (p.f0 < b))
theorem rd_mid' (P S : List Pt) (x : Pt) (i : Int) (hi : i = P.length) : rd_T42 (P ++ x :: S) i = x := by subst hi; unfold rd_T42; simp
theorem w1 (n : Nat) (h : n ≤ 1099511627776) : wrap64 ((n : Int) + 1) = ((n + 1 : Nat) : Int) := by unfold wrap64; omega
theorem cut_ev0 (a b : Int) : ∀ (R P acc l : List Pt), l = P ++ R → acc.length + R.length ≤ l.length → l.length ≤ 1099511627776 →
  Ev (fun k => merge_Cut.l0 k acc l l.length (P.length : Int) a b) (acc ++ cut R a b)
 | [], P, acc, l, hl, ha, hn => by
  simp only [List.append_nil] at hl; have hln : l.length = P.length := by rw [hl]
  refine Ev.step (f := fun _ => some acc) (fun k => ?_) (by simpa [cut] using Ev.now acc)
  rw [merge_Cut.l0, if_neg (by omega)]
 | x :: R, P, acc, l, hl, ha, hn => by
  have e : rd_T42 l (P.length : Int) = x := by rw [hl]; exact rd_mid' P R x _ rfl
  have hln : l.length = P.length + R.length + 1 := by rw [hl]; simp; omega
  simp only [List.length_cons] at ha
  have step : ∀ k, merge_Cut.l0 (k + 1) acc l l.length (P.length : Int) a b = if a ≤ x.f0 then (if x.f0 < b then merge_Cut.l0 k (acc ++ [x]) l l.length ((P.length + 1 : Nat) : Int) a b else merge_Cut.l0 k acc l l.length ((P.length + 1 : Nat) : Int) a b) else merge_Cut.l0 k acc l l.length ((P.length + 1 : Nat) : Int) a b := by
   intro k; have hq : acc.length < 5864062014805 := by omega
   rw [merge_Cut.l0, if_pos (by omega), if_pos (by omega), if_pos (by omega), e, w1 _ (by omega)]; simp only [hq, if_true]
  by_cases h1 : a ≤ x.f0 ∧ x.f0 < b
  ·
   have ih := cut_ev0 a b R (P ++ [x]) (acc ++ [x]) l (by rw [hl]; simp) (by simp; omega) hn; rw [List.length_append, List.length_singleton] at ih; have ec : cut (x :: R) a b = x :: cut R a b := by unfold cut; rw [List.filter_cons, if_pos (by simp [h1])]
   rw [ec, show acc ++ x :: cut R a b = acc ++ [x] ++ cut R a b from by simp]; exact Ev.step (fun k => by rw [step k, if_pos h1.1, if_pos h1.2]) ih
  ·
   have ih := cut_ev0 a b R (P ++ [x]) acc l (by rw [hl]; simp) (by omega) hn; rw [List.length_append, List.length_singleton] at ih; have ec : cut (x :: R) a b = cut R a b := by unfold cut; rw [List.filter_cons, if_neg (by simpa using h1)]
   rw [ec]; refine Ev.step (fun k => ?_) ih; rw [step k]
   by_cases h2 : a ≤ x.f0
   ·
    rw [if_pos h2, if_neg (fun h3 => h1 ⟨h2, h3⟩)]
   ·
    rw [if_neg h2]
theorem cut_calls (w : World) (A : Option Addr) (c : Nat) (l : List Pt) (a b : Int) (hC : Kd.C k42 w A l.length l) (hc : l.length ≤ c) (hl : l.length ≤ 1000000) :
  Calls Try.prog 35 #[.slice A l.length c, .agg #[.int .i64 a, .int .i64 b]] w fun e w' => ∃ v : Value, e = .returned v ∧ Kd.R k42 42 w' w.heap.size (fun _ => True) v (cut l a b) ∧ Below w.heap.size w w' := by
 obtain ⟨k, hk⟩ := (cut_ev0 a b l [] [] l rfl (by simp) (by omega)).rounds; exact merge_Cut.calls k A c l a b _ w hC hc hk
theorem R97 {w : World} {base : Nat} {ok ok' : Nat → Prop} {v : Value} {xs : List Pt} (h : Kd.R k42 42 w base ok v xs) (h' : ∀ k, v.ownBlock = some k → ok' k) : Kd.R k42 42 w base ok' v xs :=
 ⟨h', h.2.imp_ (fun p c hp => by obtain rfl := k42_openM hp; exact k42_mkM _ _ _ p)⟩
theorem R97_cells {w : World} {base : Nat} {ok : Nat → Prop} {v : Value} {xs : List Pt} (h : Kd.R k42 42 w base ok v xs) : ∀ k, v.ownBlock = some k → ∃ cur, w.heap[k]? = some (.cells cur 42 (0, 0)) := by
 intro k hk; obtain ⟨inner, ho⟩ := Kd.R_own h
 rcases ho with ⟨_, ⟨rfl, _⟩ | ⟨gb, cap, cur, rfl, _, hh, _⟩⟩
 ·
  cases hk
 ·
  have : gb = k := by simpa [Value.ownBlock] using hk
  subst this; exact ⟨cur, hh⟩
theorem R97_grown {w w' : World} {base : Nat} {v : Value} {xs : List Pt} {row : Option Nat} (h : Kd.R k42 42 w base (fun _ => True) v xs) (hg : w.grownBy w' row) (hne : ∀ k, v.ownBlock = some k → some k ≠ row) : Kd.R k42 42 w' base (fun _ => True) v xs :=
 R97 (Kd.R_grown (R97 h (ok' := fun k => some k ≠ row) hne) hg (fun _ hk => hk)) (fun _ _ => trivial)
abbrev Hp := List (ByteArray × (Value × List Pt))
def evH (v : Value × List Pt) : Value := v.1
def pmOf (hm : Hp) : Bt.Pm := hm.map (fun e => (e.1, e.2.1))
def HMap (w : World) (b : Nat) (hm : Hp) : Prop := XM.MapIs Try.prog 9 Bt.ekS evH w b hm
theorem HMap.pm {w : World} {b : Nat} {hm : Hp} (h : HMap w b hm) : Bt.PM w b (pmOf hm) := by
 obtain ⟨es, clock, h1, h2, h3, h4, h5⟩ := h; refine ⟨es, clock, h1, h2, h3, ?_, fun p hp => ?_⟩
 ·
  rw [h4]; unfold pmOf; rw [List.map_map]; rfl
 ·
  obtain ⟨e, he, rfl⟩ := List.mem_map.1 hp; exact h5 e he
theorem HMap.of_nil {w : World} {b : Nat} (h : Bt.PM w b []) : HMap w b [] := by
 obtain ⟨es, clock, h1, h2, h3, h4, h5⟩ := h; exact ⟨es, clock, h1, h2, h3, h4, fun p hp => by cases hp⟩
structure HM (w : World) (gp base T : Nat) (hm : Hp) : Prop where
 map : HMap w gp hm
 rows : ∀ e ∈ hm, Kd.R k42 42 w base (fun _ => True) e.2.1 e.2.2
 apart : ∀ e ∈ hm, ∀ e' ∈ hm, e.1 ≠ e'.1 → ∀ k, e.2.1.ownBlock = some k → e'.2.1.ownBlock ≠ some k
 len : ∀ e ∈ hm, e.2.2.length ≤ T
 cnt : hm.length ≤ T
theorem HM.below {w w' : World} {gp base T : Nat} {hm : Hp} (h : HM w gp base T hm) (hb : Below w.heap.size w w') : HM w' gp base T hm :=
 ⟨XM.MapIs.below h.map hb, fun e he => Kd.R_below (h.rows e he) hb, h.apart, h.len, h.cnt⟩
theorem HM.nil {w : World} {gp base : Nat} (h : Bt.PM w gp []) : HM w gp base 0 [] := ⟨HMap.of_nil h, by simp, by simp, by simp, Nat.le_refl _⟩
theorem HM.more {w : World} {gp base T T' : Nat} {hm : Hp} (h : HM w gp base T hm) (hT : T ≤ T') : HM w gp base T' hm := ⟨h.map, h.rows, h.apart, fun e he => Nat.le_trans (h.len e he) hT, Nat.le_trans h.cnt hT⟩
/-- What the map has at a name: a nil slice, if nothing. -/
def cur (hm : Hp) (i : ByteArray) : Value × List Pt := (XM.aget hm i).getD (.slice none 0 0, [])
theorem HM.cur_R {w : World} {gp base T : Nat} {hm : Hp} (h : HM w gp base T hm) (i : ByteArray) : Kd.R k42 42 w base (fun _ => True) (cur hm i).1 (cur hm i).2 := by
 unfold cur
 cases hg : XM.aget hm i with
 | none => exact Kd.R_nil _ _ _ _ _
 | some v => exact h.rows _ (XM.aget_some hg)
theorem HM.cur_len {w : World} {gp base T : Nat} {hm : Hp} (h : HM w gp base T hm) (i : ByteArray) : (cur hm i).2.length ≤ T := by
 unfold cur
 cases hg : XM.aget hm i with
 | none => exact Nat.zero_le _
 | some v => exact h.len _ (XM.aget_some hg)
theorem zSl : ∀ w, (zeroValue 44).run Try.prog w = .ok (.slice none 0 0) w := fun w => by kernel_rfl
theorem HMap.look {w : World} {gp : Nat} {hm : Hp} (h : HMap w gp hm) (i : ByteArray) (hi : i.size ≤ maxLen) : (Instr.lookup 74 (.map (some gp)) (.string i) false).run Try.prog w = .ok (cur hm i).1 w := by
 unfold cur
 cases hg : XM.aget hm i with
 | none => exact XM.MapIs.look_none h Bt.encS Try.underlying74 (zSl w) (Bt.isKS i hi) false hg
 | some v => exact XM.MapIs.look_some h Bt.encS Try.underlying74 (Bt.isKS i hi) false hg
/-- What a name's points become. -/
def put (hm : Hp) (i : ByteArray) (v : Value) (ps : List Pt) : Hp := XM.aput hm i (v, (cur hm i).2 ++ ps)
theorem aput_self {β : Type} (i : ByteArray) (v : β) : ∀ m : List (ByteArray × β), (i, v) ∈ XM.aput m i v
 | [] => by simp [XM.aput]
 | y :: r => by
  by_cases h : y.1 = i
  ·
   simp [XM.aput, h]
  ·
   simp only [XM.aput, if_neg h]; exact List.mem_cons_of_mem _ (aput_self i v r)
theorem HM.step {w w1 : World} {gp base T n : Nat} {hm : Hp} (h : HM w gp base T hm) (i : ByteArray) (hk : i.size ≤ maxLen) {v1 : Value} {ps : List Pt}
  (hR : Kd.R k42 42 w1 base (fun _ => True) v1 ((cur hm i).2 ++ ps)) (hg : w.grownBy w1 (cur hm i).1.ownBlock) (hat : v1.ownBlock = (cur hm i).1.ownBlock ∨ ∃ b, v1.ownBlock = some b ∧ w.heap.size ≤ b) (hT : T ≤ 1000000) (hn : ps.length ≤ n) (hn1 : 1 ≤ n) :
  ∃ X, (Instr.mapUpdate 74 (.map (some gp)) (.string i) v1).run Try.prog w1 = .ok () X ∧ HM X gp base (T + n) (put hm i v1 ps) ∧ w1.grownBy X (some gp) ∧ X.heap.size = w1.heap.size := by
 have hcR := h.cur_R i; have hcl := h.cur_len i
 have hmb : some gp ≠ (cur hm i).1.ownBlock := by
  intro e; obtain ⟨c, hc⟩ := R97_cells hcR gp e.symm; exact XM.MapIs.noCells h.map hc rfl
 have hm1 : HMap w1 gp hm := XM.MapIs.kept h.map hg hmb; obtain ⟨X, hrun, hmap, hgX, hsz⟩ := XM.MapIs.store hm1 Bt.encS Try.underlying74 (Bt.isKS i hk) (by have := h.cnt; unfold maxLen; omega) (v1, (cur hm i).2 ++ ps); have hnd := hmap.nodup
 have key : ∀ e ∈ put hm i v1 ps, (e.1 = i ∧ e = (i, (v1, (cur hm i).2 ++ ps))) ∨ (e.1 ≠ i ∧ e ∈ hm) := by
  intro e he; unfold put at he
  by_cases hq : e.1 = i
  ·
   left
   refine ⟨hq, ?_⟩; have h1 := XM.aget_mem hnd he
   have h2 : XM.aget (XM.aput hm i (v1, (cur hm i).2 ++ ps)) i = some (v1, (cur hm i).2 ++ ps) := by
    have hself := aput_self i (v1, (cur hm i).2 ++ ps) hm; exact XM.aget_mem hnd hself
   rw [hq, h2] at h1; exact Prod.ext hq (Option.some.inj h1).symm
  ·
   right
   refine ⟨hq, ?_⟩; rcases XM.mem_aput he with h1 | h1
   ·
    exact h1
   ·
    exact absurd (by rw [h1]) hq
 have own1 : ∀ e ∈ hm, e.1 ≠ i → ∀ k, e.2.1.ownBlock = some k → some k ≠ (cur hm i).1.ownBlock ∧ v1.ownBlock ≠ some k := by
  intro e he hq k hk2
  have hne1 : some k ≠ (cur hm i).1.ownBlock := by
   unfold cur
   cases hg2 : XM.aget hm i with
   | none => intro e2; cases e2
   | some v => exact fun e2 => h.apart e he (i, v) (XM.aget_some hg2) hq k hk2 e2.symm
  refine ⟨hne1, ?_⟩; rcases hat with h1 | ⟨b, h1, h2⟩
  ·
   rw [h1]; exact fun e2 => hne1 e2.symm
  ·
   rw [h1]; intro e2; have e3 : b = k := by cases e2; rfl
   have := Kd.R_lt (h.rows e he) k hk2; omega
 have hX : ∀ {v : Value} {xs : List Pt}, Kd.R k42 42 w1 base (fun _ => True) v xs → Kd.R k42 42 X base (fun _ => True) v xs := fun hr => R97_grown hr hgX (fun k hk2 e => by
  cases e; obtain ⟨c, hc⟩ := R97_cells hr gp hk2
  exact XM.MapIs.noCells hm1 hc rfl)
 refine ⟨X, hrun, ⟨hmap, fun e he => ?_, fun e he e' he' hq k hk2 => ?_, fun e he => ?_, ?_⟩, hgX, hsz⟩
 ·
  rcases key e he with ⟨_, rfl⟩ | ⟨h1, h2⟩
  ·
   exact hX hR
  ·
   exact hX (R97_grown (h.rows e h2) hg (fun k hk2 => (own1 e h2 h1 k hk2).1))
 ·
  rcases key e he with ⟨h1, rfl⟩ | ⟨h1, h2⟩
  ·
   rcases key e' he' with ⟨h3, _⟩ | ⟨h3, h4⟩
   ·
    exact absurd h3.symm hq
   ·
    intro e2; exact (own1 e' h4 h3 k e2).2 hk2
  ·
   rcases key e' he' with ⟨_, rfl⟩ | ⟨h3, h4⟩
   ·
    exact (own1 e h2 h1 k hk2).2
   ·
    exact h.apart e h2 e' h4 hq k hk2
 ·
  rcases key e he with ⟨_, rfl⟩ | ⟨h1, h2⟩
  ·
   show ((cur hm i).2 ++ ps).length ≤ T + n; rw [List.length_append]; omega
  ·
   have := h.len e h2; omega
 ·
  have h1 := XM.length_aput hm i (v1, (cur hm i).2 ++ ps); have h2 := h.cnt; unfold put; omega
/-- What is held, told by name. -/
abbrev Cn := List (ByteArray × List Pt)
def cont (hm : Hp) : Cn := hm.map (fun e => (e.1, e.2.2))
theorem cont_aput (i : ByteArray) (x : Value × List Pt) : ∀ hm : Hp, cont (XM.aput hm i x) = XM.aput (cont hm) i x.2
 | [] => rfl
 | y :: r => by
  have ih := cont_aput i x r; unfold cont at ih ⊢; show List.map _ (XM.aput (y :: r) i x) = XM.aput ((y.1, y.2.2) :: List.map (fun e => (e.1, e.2.2)) r) i x.2; simp only [XM.aput]
  by_cases h : y.1 = i
  ·
   rw [if_pos h, if_pos h]; rfl
  ·
   rw [if_neg h, if_neg h, ← ih]; rfl
theorem cont_cur (i : ByteArray) : ∀ hm : Hp, (cur hm i).2 = (XM.aget (cont hm) i).getD []
 | [] => rfl
 | y :: r => by
  have ih := cont_cur i r; unfold cur cont at ih ⊢; rw [List.map_cons]; unfold XM.aget
  by_cases h : y.1 = i
  ·
   rw [if_pos h, if_pos h]; rfl
  ·
   rw [if_neg h, if_neg h]; exact ih
def Sh (gp : Nat) (hm : Hp) (k : Nat) : Prop := k = gp ∨ ∃ e ∈ hm, e.2.1.ownBlock = some k
structure Ft (w w' : World) (gp : Nat) (hm hm' : Hp) : Prop where
 kept : Kept w w' (Sh gp hm)
 own : ∀ k, Sh gp hm' k → Sh gp hm k ∨ w.heap.size ≤ k
theorem Ft.refl (w : World) (gp : Nat) (hm : Hp) : Ft w w gp hm hm := ⟨Kept.refl _ _, fun _ h => .inl h⟩
theorem Ft.of_below {w w' : World} (hb : Below w.heap.size w w') (gp : Nat) (hm : Hp) : Ft w w' gp hm hm := ⟨Kept.of_below hb _, fun _ h => .inl h⟩
theorem Ft.then_ {w w1 w2 : World} {gp : Nat} {hm hm1 hm2 : Hp} (h : Ft w w1 gp hm hm1) (h' : Ft w1 w2 gp hm1 hm2) : Ft w w2 gp hm hm2 :=
 ⟨h.kept.then_ h'.kept h.own, fun k hk => (h'.own k hk).elim (h.own k) (fun h2 => .inr (Nat.le_trans h.kept.1 h2))⟩
theorem Ft.put {w w2 X : World} {gp : Nat} {hm : Hp} {i : ByteArray} {v1 : Value} {ps : List Pt} (hg : w.grownBy w2 (cur hm i).1.ownBlock) (hat : v1.ownBlock = (cur hm i).1.ownBlock ∨ ∃ b, v1.ownBlock = some b ∧ w.heap.size ≤ b) (hgX : w2.grownBy X (some gp)) : Ft w X gp hm (put hm i v1 ps) := by
 have hc : ∀ k, (cur hm i).1.ownBlock = some k → Sh gp hm k := by
  intro k hk; unfold cur at hk
  cases hg2 : XM.aget hm i with
  | none => rw [hg2] at hk; cases hk
  | some v => rw [hg2] at hk; exact .inr ⟨(i, v), XM.aget_some hg2, hk⟩
 refine ⟨Kept.of_grown hgX (Kept.of_grown hg (Kept.refl _ _) (fun k hk => .inl (hc k hk))) (fun k hk => .inl (.inl (by cases hk; rfl))), fun k hk => ?_⟩; rcases hk with h1 | ⟨e, he, h1⟩
 ·
  exact .inl (.inl h1)
 ·
  rcases XM.mem_aput he with h2 | h2
  ·
   exact .inl (.inr ⟨e, h2, h1⟩)
  ·
   rw [h2] at h1; have h1 : v1.ownBlock = some k := h1; rcases hat with h3 | ⟨b, h3, h4⟩
   ·
    exact .inl (hc k (h3.symm.trans h1))
   ·
    rw [h3] at h1; cases h1; exact .inr h4
end Hm
end Go.Proofs.Ytgagcimfkmegnaa
end
section
set_option maxHeartbeats 2000000
set_option maxRecDepth 100000
namespace Go.Proofs.Ytgagcimfkmegnaa
set_option linter.unusedVariables false
set_option linter.unusedSimpArgs false
open Go.RowKit Go.Proofs.YtgagcimfkmegnaaW.PrintWords Go.Proofs.YtgagcimfkmegnaaW.PrintLast Go.Proofs.YtgagcimfkmegnaaW.PrintMore Go.Proofs.Ytgagcimfkmegnaa.QT
namespace Ps
abbrev Me := S25
abbrev Pt := S42
/-- What never changes of a fetch. -/
structure Fx where
 ep : Int
 sp : Int
 sh : Int
 rg : S30
 sz : Int
/-- What a fetch has come to: its next number, its cursor, the metas that it was told, how many of their blocks it has, whether all pages came, its error. -/
structure Fa where
 seq : Int
 blk : Int
 id : ByteArray
 L : List Me
 n : Nat
 pg : Bool
 er : Int
def Fa.fin (a : Fa) : Bool := a.pg && (a.n == a.L.length)
def Fa.live (a : Fa) : Bool := a.er == 0 && !a.fin
def Fa.kd (a : Fa) : Int := if a.pg then 7 else 5
def hf (g : Nat) (f : FuncId) : Value := .func (.func f) #[.pointer (some ⟨g, 0, none⟩)] #[]
def hv (g : Nat) (a : Fa) : Value := if a.live = true then (if a.pg = true then hf g 44 else hf g 29) else Value.nilFunc
def fcells (x : Fx) (seq : Int) (c : Me) (vM : Value) (er : Int) (gm : Nat) (h : Value) (kd : Int) : Array Value :=
 #[.int .i64 0, .int .i64 seq, .int .i64 x.ep, .int .i64 x.sp, .int .i64 x.sh, .string ⟨#[]⟩, .int .i64 0, .int .i64 x.rg.f0, .int .i64 x.rg.f1, .int .i64 0, .int .u64 0, .int .u64 0, .int .i64 0, .bool false, .slice none 0 0, .slice none 0 0, .string c.f0, .int .i64 c.f1, .int .i64 c.f2, .int .u32 c.f3, .int .i64 x.sz, vM, .int .i64 er, .map (some gm), h, .int .i64 kd]
structure FIs (w : World) (B g gm : Nat) (vM : Value) (x : Fx) (c : Me) (a : Fa) : Prop where
 blk : w.heap[g]? = some (.cells (fcells x a.seq c vM a.er gm (hv g a) a.kd) 77 (0, 0))
 met : Kd.Q k25 25 w B (fun _ => True) vM (a.L.drop a.n)
 cb : c.f1 = a.blk
 ci : c.f0 = a.id
 bg : B ≤ g
 le : a.n ≤ a.L.length
 pn : a.pg = false → a.n = 0
 mr : a.pg = false → Kd.R k25 25 w B (fun _ => True) vM a.L
theorem FIs.below {w w' : World} {B g gm : Nat} {vM : Value} {x : Fx} {c : Me} {a : Fa} (h : FIs w B g gm vM x c a) (hb : Below w.heap.size w w') : FIs w' B g gm vM x c a :=
 ⟨blk_below h.blk hb, Kd.Q_below h.met hb, h.cb, h.ci, h.bg, h.le, h.pn, fun hp => Kd.R_below (h.mr hp) hb⟩
/-- A store of a value into a block of cells, in one step. -/
theorem store_blk {P : Program} {ops : Array Oper} {rest : List Oper} {o : Oper} {a : Act} {Q : Exit → Act → World → Prop} {W : World} (hgd : o.guard = none) {t : TypeId} {p v : Operand} (ho : o.op = .store t p v) (hN : o.dst = none) {g off : Nat} {e : TypeId} {cur cur' : Array Value} {u : Value}
  (hp : a.eval p = .pointer (some ⟨g, off, none⟩)) (hv : a.eval v = u) (hh : W.heap[g]? = some (.cells cur e (0, 0))) (ht : (P.info? t).map (·.size) = some u.cells.toList.length) (hfit : off + u.cells.toList.length ≤ cur.size) (h1 : u.cells.toList.all (·.oneCell') = true) (hc : cur.toList.take off ++ u.cells.toList ++ cur.toList.drop (off + u.cells.toList.length) = cur'.toList)
  (h : ∀ w1, w1.heap[g]? = some (.cells cur' e (0, 0)) → W.grownBy w1 (some g) → w1.heap.size = W.heap.size → wpList P ops Q rest a w1) : wpList P ops Q (o :: rest) a W := by
 have hrun := run_store_run (P := P) t u u.cells.toList hh rfl ht hfit (fun q hq => List.all_eq_true.1 h1 q hq); obtain ⟨c2, h2, h3, h4⟩ := setCells_row u.cells.toList off W cur hh hfit; obtain ⟨s1, s2, s3, s4⟩ := setCells_same g u.cells.toList off W; have h5 : c2 = cur' := Array.toList_inj.1 (by rw [h4, hc]); subst h5; have hq := h _ h2 ⟨s1, s2, s3, by rw [s4]; exact Nat.le_refl _, fun k hk hne => setCells_far _ _ k (fun e => hne (by rw [e]))⟩ s4; refine wpList_plain hgd fun K hK => ?_; unfold Oper.wp
 have hx : (execOp a.eval o).run P W = .ok .skip (W.setCells g off u.cells.toList) := by
  unfold execOp; simp only [ho, hp, hv]; simp [hrun]
 rw [hx]; show K (a.put o.dst undef) _; rw [hN]; exact hK _ _ hq
theorem set2 {W : World} {g i j : Nat} {e : TypeId} {cs : Array Value} (h : W.heap[g]? = some (.cells cs e (0, 0))) (u v : Value) : ∃ X, X = ((W.setCell ⟨g, i, none⟩ u).setCell ⟨g, j, none⟩ v).drew ∧ X.heap[g]? = some (.cells ((cs.setIfInBounds i u).setIfInBounds j v) e (0, 0)) ∧ W.grownBy X (some g) ∧ X.heap.size = W.heap.size :=
 ⟨_, rfl, blk_set (blk_set h i u) j v, ⟨rfl, rfl, rfl, by simp [World.drew, World.setCell], fun k hk hne => (Below.heap_setCell _ ⟨g, j, none⟩ v k (fun e => hne (by rw [show k = g from e]))).trans (Below.heap_setCell _ ⟨g, i, none⟩ u k (fun e => hne (by rw [show k = g from e])))⟩, by simp [World.drew, World.setCell]⟩
theorem below_grow {w0 W w1 : World} {g : Nat} (h : Below w0.heap.size w0 W) (hg : W.grownBy w1 (some g)) (hb : w0.heap.size ≤ g) : Below w0.heap.size w0 w1 := h.grown hg h.size (fun k hk => by cases hk; exact hb)
theorem blk_other {W w1 : World} {k g : Nat} {o : Obj} (hb : W.heap[k]? = some o) (hg : W.grownBy w1 (some g)) (hne : k ≠ g) : w1.heap[k]? = some o := (hg.block k (blk_lt hb) (fun e => hne (by cases e; rfl))).trans hb
theorem grown_set {W : World} {g : Nat} {cs : Array Value} {t : TypeId} (h : W.heap[g]? = some (.cells cs t (0, 0))) (i : Nat) (u : Value) : W.grownBy (W.setCell ⟨g, i, none⟩ u) (some g) :=
 ⟨rfl, rfl, rfl, by simp [World.setCell], fun k _ hne => Below.heap_setCell W ⟨g, i, none⟩ u k (fun e => hne (by rw [show k = g from e]))⟩
theorem grown_drew {W w1 : World} {r : Option Nat} (h : W.grownBy w1 r) : W.grownBy w1.drew r := ⟨h.os, h.tape, h.output, h.size, h.block⟩
theorem grown_trans {A B C : World} {r : Option Nat} (h1 : A.grownBy B r) (h2 : B.grownBy C r) : A.grownBy C r :=
 ⟨h2.os.trans h1.os, h2.tape.trans h1.tape, h2.output.trans h1.output, Nat.le_trans h1.size h2.size, fun k hk hne => (h2.block k (Nat.lt_of_lt_of_le hk h1.size) hne).trans (h1.block k hk hne)⟩
theorem fn_eq (w : World) (f : Fn) (a c : Array Value) : (binOp .eql 75 (.func f a c) .nilFunc).run Try.prog w = .ok (.bool false) w := by
 kernel_rfl
theorem nil_eq (w : World) : (binOp .eql 75 .nilFunc .nilFunc).run Try.prog w = .ok (.bool true) w := by
 kernel_rfl
theorem done_calls (w : World) (B g gm : Nat) (vM : Value) (x : Fx) (c : Me) (a : Fa) (h : FIs w B g gm vM x c a) :
  Calls Try.prog 16 #[.pointer (some ⟨g, 0, none⟩)] w fun e w' => e = .returned (.bool (a.er == 0 && a.fin)) ∧ w = w' := by
 have c24 : w.cell? ⟨g, 24, none⟩ = some (hv g a) := (blk_cell h.blk 24).trans rfl; have c22 : w.cell? ⟨g, 22, none⟩ = some (.int .i64 a.er) := (blk_cell h.blk 22).trans rfl; clear h; unfold hv Fa.live at c24; cases he : (a.er == 0) <;> cases hf_ : a.fin <;> cases hp : a.pg
 all_goals
  rw [he, hf_, hp] at c24; simp only [Bool.true_and, Bool.false_and, Bool.not_true, Bool.not_false, Bool.false_eq_true, if_true, if_false, hf] at c24; have q1 := fn_eq; have q2 := nil_eq; go_enter Try.func16, Try.ntmps16
  go_wp2; go_ret; exact ⟨rfl, rfl⟩
theorem err_calls (w : World) (B g gm : Nat) (vM : Value) (x : Fx) (c : Me) (a : Fa) (h : FIs w B g gm vM x c a) :
  Calls Try.prog 18 #[.pointer (some ⟨g, 0, none⟩)] w fun e w' => e = .returned (.int .i64 a.er) ∧ w = w' := by
 have c22 : w.cell? ⟨g, 22, none⟩ = some (.int .i64 a.er) := (blk_cell h.blk 22).trans rfl; clear h; go_enter Try.func18, Try.ntmps18
 go_wp2; go_ret; exact ⟨rfl, rfl⟩
end Ps
end Go.Proofs.Ytgagcimfkmegnaa
end
