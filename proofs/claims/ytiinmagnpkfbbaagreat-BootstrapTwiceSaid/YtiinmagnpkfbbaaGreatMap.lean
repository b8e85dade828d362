/- Maps as lists of pairs: what a map's block holds, entry by entry in the order in which they were laid; look-up, store, delete, len, range, each at the operation. -/
import Derived.Test.YtiinmagnpkfbbaaGreatQT5
import Derived.Test.YtiinmagnpkfbbaaGreatQT6
import Derived.Test.YtiinmagnpkfbbaaGreatQT12
section
set_option maxHeartbeats 9223372036854775807
namespace Go.Proofs.YtiinmagnpkfbbaaGreat
set_option linter.unusedVariables false
set_option linter.unusedSimpArgs false
open Go.RowKit Go.Proofs.YtiinmagnpkfbbaaGreatW.PrintWords Go.Proofs.YtiinmagnpkfbbaaGreatW.PrintLast Go.Proofs.YtiinmagnpkfbbaaGreatW.PrintMore Go.Proofs.YtiinmagnpkfbbaaGreat.QT
namespace Pl
abbrev Ow := S57
/-- Where the first one stands of which p holds; -1: nowhere. -/
def ixFrom {α : Type} (p : α → Bool) : List α → Nat → Int
 | [], _ => -1
 | x :: r, i => if p x = true then (i : Int) else ixFrom p r (i + 1)
def ix {α : Type} (p : α → Bool) (l : List α) : Int := ixFrom p l 0
theorem ix_drop {α : Type} (p : α → Bool) {l : List α} {i : Nat} (h : i < l.length) : ixFrom p (l.drop i) i = if p l[i] = true then (i : Int) else ixFrom p (l.drop (i + 1)) (i + 1) := by
 rw [List.drop_eq_getElem_cons h]; rfl
theorem rd38 {l : List Ow} {i : Nat} (h : i < l.length) : rd_T57 l (i : Int) = l[i] := by unfold rd_T57; rw [Int.toNat_natCast, List.getD_eq_getElem?_getD, List.getElem?_eq_getElem h]; rfl
theorem rdL {l : List (List Ow)} {i : Nat} (h : i < l.length) : rd_L4 l (i : Int) = l[i] := by unfold rd_L4; rw [Int.toNat_natCast, List.getD_eq_getElem?_getD, List.getElem?_eq_getElem h]; rfl
theorem indexO_calls (w : World) (A : Option Addr) (c : Nat) (l : List Ow) (hC : Kd.C k57 w A l.length l) (hl : l.length ≤ 9223372036854775807) (g : Nat) (cb : Array Value) (eg : ∀ args w, (callFunc g args).run Tryz.prog w = .ok (.enter g args) w) (p : Ow → Bool)
  (hp : ∀ W, Below w.heap.size w W → ∀ x : Ow, Calls Tryz.prog g (#[.agg #[.int .i64 x.f0, .int .i64 x.f1, .int .i64 x.f2]] ++ cb) W fun e w' => e = .returned (.bool (p x)) ∧ Below W.heap.size W w') :
  Calls Tryz.prog 90 #[.slice A l.length c, .func (.func g) #[] cb] w fun e w' => e = .returned (.int .i64 (ix p l)) ∧ Below w.heap.size w w' := by
 have HC := Lib.hid hC; have HP := Lib.hid hp; clear hC hp; go_enter Tryz.func90, Tryz.ntmps90
 go_wp2_with fail
 go_loopg [8] l.length (fun gn v8 wr => ∃ (i : Nat), v8 = .int .i64 (i : Int) ∧ Aside0 (gn = l.length - i) ∧ Aside0 (i ≤ l.length) ∧ Aside0 (ix p l = ixFrom p (l.drop i) i) ∧ Aside0 (Below w.heap.size w wr))
 case atStart => exact ⟨0, rfl, ⟨rfl⟩, ⟨Nat.zero_le _⟩, ⟨rfl⟩, ⟨Below.refl _ _⟩⟩
 case round =>
  obtain ⟨i, rfl, HN, HI, HX, HB⟩ := hrel
  by_cases hi : i < l.length
  ·
   have hi0 : (i : Int) < (l.length : Int) := by omega
   have hwr : wrap64 ((i : Int) + 1) = (i : Int) + 1 := by unfold wrap64; omega
   obtain ⟨ad, ead, q0, q1, q2⟩ := at_T57 (Kd.C_below HC.out HB.out) (i : Int) (by omega) hi0; cases ead; have hto : ((i : Int)).toNat = i := Int.toNat_natCast i; rw [hto] at q0 q1 q2
   obtain ⟨o, ho⟩ : ∃ o, rd_T57 l (i : Int) = o := ⟨_, rfl⟩
   rw [ho] at q0 q1 q2; have hLi : l[i] = o := by rw [← ho, rd38 hi]
   have hd := ix_drop p hi; rw [hLi] at hd; have HD := Lib.hid hd; have HK := Lib.hid (HP.out wr HB.out o); clear ho hLi hd hto; go_wp2_with fail
   with_reducible refine HK.out.mono ?_
   rintro e w1 ⟨rfl, hb1⟩; have HB1 := Lib.hid (below_then HB.out HB.out.size hb1); clear hb1 HK q0 q1 q2
   cases hpo : p o with
   | true =>
    have HPO := Lib.hid hpo; clear hpo; go_wp2; go_ret; rw [HX.out, HD.out, if_pos HPO.out]
    exact ⟨rfl, HB1.out⟩
   | false =>
    have HPO := Lib.hid hpo; clear hpo; go_wp2; go_roundg (l.length - (i + 1))
    case measure => have := HN.out; omega
    case rel => exact ⟨i + 1, by (simp [hwr]; done), ⟨rfl⟩, ⟨hi⟩, ⟨by rw [HX.out, HD.out, if_neg (by rw [HPO.out]; simp)]⟩, ⟨HB1.out⟩⟩
  ·
   have hge : ¬ (i : Int) < (l.length : Int) := by omega
   have hx := HX.out; rw [List.drop_eq_nil_of_le (by omega)] at hx; have HXX := Lib.hid hx; clear hx HX; go_wp2; go_ret; rw [HXX.out]; exact ⟨rfl, HB.out⟩
theorem indexS_calls (w : World) (A : Option Addr) (c : Nat) (l : List (List Ow)) (hC : Kd.C (Kd.slice 57 k57) w A l.length l) (hl : l.length ≤ 9223372036854775807) (g : Nat) (cb : Array Value) (eg : ∀ args w, (callFunc g args).run Tryz.prog w = .ok (.enter g args) w) (p : List Ow → Bool)
  (hp : ∀ W, Below w.heap.size w W → ∀ (x : List Ow), x ∈ l → ∀ (A1 : Option Addr) (c1 : Nat), Kd.C k57 W A1 x.length x → x.length ≤ c1 → Calls Tryz.prog g (#[.slice A1 x.length c1] ++ cb) W fun e w' => e = .returned (.bool (p x)) ∧ Below W.heap.size W w') :
  Calls Tryz.prog 76 #[.slice A l.length c, .func (.func g) #[] cb] w fun e w' => e = .returned (.int .i64 (ix p l)) ∧ Below w.heap.size w w' := by
 have HC := Lib.hid hC; have HP := Lib.hid hp; clear hC hp; go_enter Tryz.func76, Tryz.ntmps76
 go_wp2_with fail
 go_loopg [8] l.length (fun gn v8 wr => ∃ (i : Nat), v8 = .int .i64 (i : Int) ∧ Aside0 (gn = l.length - i) ∧ Aside0 (i ≤ l.length) ∧ Aside0 (ix p l = ixFrom p (l.drop i) i) ∧ Aside0 (Below w.heap.size w wr))
 case atStart => exact ⟨0, rfl, ⟨rfl⟩, ⟨Nat.zero_le _⟩, ⟨rfl⟩, ⟨Below.refl _ _⟩⟩
 case round =>
  obtain ⟨i, rfl, HN, HI, HX, HB⟩ := hrel
  by_cases hi : i < l.length
  ·
   have hi0 : (i : Int) < (l.length : Int) := by omega
   have hwr : wrap64 ((i : Int) + 1) = (i : Int) + 1 := by unfold wrap64; omega
   obtain ⟨ad, A1, c1, ead, q0, hc1, hC1⟩ := at_L4 (Kd.C_below HC.out HB.out) (i : Int) (by omega) hi0; cases ead; have hto : ((i : Int)).toNat = i := Int.toNat_natCast i; rw [hto] at q0
   obtain ⟨o, ho⟩ : ∃ o, rd_L4 l (i : Int) = o := ⟨_, rfl⟩
   rw [ho] at q0 hc1 hC1; have hLi : l[i] = o := by rw [← ho, rdL hi]
   have hd := ix_drop p hi; rw [hLi] at hd; have HD := Lib.hid hd; have HK := Lib.hid (HP.out wr HB.out o (by rw [← hLi]; exact List.getElem_mem hi) A1 c1 hC1 hc1); clear ho hLi hd hto hc1 hC1; go_wp2_with fail
   with_reducible refine HK.out.mono ?_
   rintro e w1 ⟨rfl, hb1⟩; have HB1 := Lib.hid (below_then HB.out HB.out.size hb1); clear hb1 HK q0
   cases hpo : p o with
   | true =>
    have HPO := Lib.hid hpo; clear hpo; go_wp2; go_ret; rw [HX.out, HD.out, if_pos HPO.out]
    exact ⟨rfl, HB1.out⟩
   | false =>
    have HPO := Lib.hid hpo; clear hpo; go_wp2; go_roundg (l.length - (i + 1))
    case measure => have := HN.out; omega
    case rel => exact ⟨i + 1, by (simp [hwr]; done), ⟨rfl⟩, ⟨hi⟩, ⟨by rw [HX.out, HD.out, if_neg (by rw [HPO.out]; simp)]⟩, ⟨HB1.out⟩⟩
  ·
   have hge : ¬ (i : Int) < (l.length : Int) := by omega
   have hx := HX.out; rw [List.drop_eq_nil_of_le (by omega)] at hx; have HXX := Lib.hid hx; clear hx HX; go_wp2; go_ret; rw [HXX.out]; exact ⟨rfl, HB.out⟩
theorem findO_calls (w : World) (A : Option Addr) (c : Nat) (l : List Ow) (hC : Kd.C k57 w A l.length l) (hl : l.length ≤ 9223372036854775807) (g : Nat) (cb : Array Value) (eg : ∀ args w, (callFunc g args).run Tryz.prog w = .ok (.enter g args) w) (p : Ow → Bool)
  (hp : ∀ W, Below w.heap.size w W → ∀ x : Ow, Calls Tryz.prog g (#[.agg #[.int .i64 x.f0, .int .i64 x.f1, .int .i64 x.f2]] ++ cb) W fun e w' => e = .returned (.bool (p x)) ∧ Below W.heap.size W w') :
  Calls Tryz.prog 74 #[.slice A l.length c, .func (.func g) #[] cb] w fun e w' => e = .returned (.int .i64 (ix p l)) ∧ Below w.heap.size w w' := by
 have HK := Lib.hid (indexO_calls w A c l hC hl g cb eg p hp); clear hC hp; go_enter Tryz.func74, Tryz.ntmps74
 go_wp2_with fail
 with_reducible refine HK.out.mono ?_
 rintro e w1 ⟨rfl, hb1⟩; have HB1 := Lib.hid hb1; clear hb1 HK; go_wp2; go_ret; exact ⟨rfl, HB1.out⟩
theorem findS_calls (w : World) (A : Option Addr) (c : Nat) (l : List (List Ow)) (hC : Kd.C (Kd.slice 57 k57) w A l.length l) (hl : l.length ≤ 9223372036854775807) (g : Nat) (cb : Array Value) (eg : ∀ args w, (callFunc g args).run Tryz.prog w = .ok (.enter g args) w) (p : List Ow → Bool)
  (hp : ∀ W, Below w.heap.size w W → ∀ (x : List Ow), x ∈ l → ∀ (A1 : Option Addr) (c1 : Nat), Kd.C k57 W A1 x.length x → x.length ≤ c1 → Calls Tryz.prog g (#[.slice A1 x.length c1] ++ cb) W fun e w' => e = .returned (.bool (p x)) ∧ Below W.heap.size W w') :
  Calls Tryz.prog 49 #[.slice A l.length c, .func (.func g) #[] cb] w fun e w' => e = .returned (.int .i64 (ix p l)) ∧ Below w.heap.size w w' := by
 have HK := Lib.hid (indexS_calls w A c l hC hl g cb eg p hp); clear hC hp; go_enter Tryz.func49, Tryz.ntmps49
 go_wp2_with fail
 with_reducible refine HK.out.mono ?_
 rintro e w1 ⟨rfl, hb1⟩; have HB1 := Lib.hid hb1; clear hb1 HK; go_wp2; go_ret; exact ⟨rfl, HB1.out⟩
theorem owner1_calls (W : World) (x : Ow) (gb : Nat) (n : Int) (hb : W.heap[gb]? = some (.cells #[.int .i64 n] 3 (0, 0))) :
  Calls Tryz.prog 75 (#[.agg #[.int .i64 x.f0, .int .i64 x.f1, .int .i64 x.f2]] ++ #[.pointer (some ⟨gb, 0, none⟩)]) W fun e w' => e = .returned (.bool (x.f0 == n)) ∧ Below W.heap.size W w' := by
 have HL := Lib.hid (below_alloc (Below.refl W.heap.size W) (.cells #[.int .i64 x.f0, .int .i64 x.f1, .int .i64 x.f2] 57)); have c0 : (W.alloc (.cells #[.int .i64 x.f0, .int .i64 x.f1, .int .i64 x.f2] 57)).cell? ⟨gb, 0, none⟩ = some (.int .i64 n) := (blk_cell (blk_alloc hb _) 0).trans rfl; clear hb; go_enter Tryz.func75, Tryz.ntmps75
 go_wp2; go_ret; exact ⟨rfl, HL.out⟩
def at_ (n : Int) (x : Ow) : Bool := x.f0 == n
theorem enter75 : ∀ args w, (callFunc 75 args).run Tryz.prog w = .ok (.enter 75 args) w := fun args w => by kernel_rfl
theorem owner_calls (w : World) (A : Option Addr) (c : Nat) (l : List Ow) (hC : Kd.C k57 w A l.length l) (hl : l.length ≤ 9223372036854775807) (n : Int) :
  Calls Tryz.prog 47 #[.slice A l.length c, .int .i64 n] w fun e w' => e = .returned (.int .i64 (ix (at_ n) l)) ∧ Below w.heap.size w w' := by
 have hal := below_alloc (Below.refl w.heap.size w) (.cells #[.int .i64 n] 3); have hbx : (w.alloc (.cells #[.int .i64 n] 3)).heap[w.heap.size]? = some (.cells #[.int .i64 n] 3 (0, 0)) := blk_new w _; have HK := Lib.hid (findO_calls (w.alloc (.cells #[.int .i64 n] 3)) A c l (Kd.C_below hC hal) hl 75 #[.pointer (some ⟨w.heap.size, 0, none⟩)] enter75 (at_ n) (fun W hW x => owner1_calls W x _ n (blk_below hbx hW))); have HL := Lib.hid hal; clear hC hal hbx; go_enter Tryz.func47, Tryz.ntmps47
 go_wp2_with fail
 with_reducible refine HK.out.mono ?_
 rintro e w1 ⟨rfl, hb1⟩; have HB1 := Lib.hid (below_then HL.out HL.out.size hb1); clear hb1 HK; go_wp2; go_ret; exact ⟨rfl, HB1.out⟩
end Pl
end Go.Proofs.YtiinmagnpkfbbaaGreat
end
section
namespace Go.Proofs.YtiinmagnpkfbbaaGreat
namespace XM
open Go.MapKept Go.ChangeMaps
open Go.Maps (Keyed)
section
variable {α β : Type} [DecidableEq α]
def aget : List (α × β) → α → Option β
 | [], _ => none
 | p :: r, a => if p.1 = a then some p.2 else aget r a
def aput : List (α × β) → α → β → List (α × β)
 | [], a, v => [(a, v)]
 | p :: r, a, v => if p.1 = a then (a, v) :: r else p :: aput r a v
def adel (m : List (α × β)) (a : α) : List (α × β) := m.filter (fun p => !decide (p.1 = a))
def keys (m : List (α × β)) : List α := m.map (·.1)
theorem aget_none {m : List (α × β)} {a : α} (h : ∀ p ∈ m, p.1 ≠ a) : aget m a = none := by
 induction m with
 | nil => rfl
 | cons p r ih => rw [aget, if_neg (h p (by simp))]; exact ih (fun q hq => h q (by simp [hq]))
theorem aget_mem {m : List (α × β)} (hn : (keys m).Nodup) {p : α × β} (hp : p ∈ m) : aget m p.1 = some p.2 := by
 induction m with
 | nil => simp at hp
 | cons q r ih =>
  simp only [keys, List.map_cons, List.nodup_cons] at hn; rcases List.mem_cons.1 hp with rfl | hp
  ·
   rw [aget, if_pos rfl]
  ·
   rw [aget, if_neg (fun e : q.1 = p.1 => hn.1 (by rw [e]; exact List.mem_map.2 ⟨p, hp, rfl⟩))]; exact ih hn.2 hp
theorem aget_some {m : List (α × β)} {a : α} {v : β} (h : aget m a = some v) : (a, v) ∈ m := by
 induction m with
 | nil => simp [aget] at h
 | cons q r ih =>
  rw [aget] at h
  split at h
  ·
   rename_i e
   cases h; subst e; simp
  ·
   simp [ih h]
theorem aput_new {m : List (α × β)} {a : α} (v : β) (h : ∀ p ∈ m, p.1 ≠ a) : aput m a v = m ++ [(a, v)] := by
 induction m with
 | nil => rfl
 | cons p r ih => rw [aput, if_neg (h p (by simp)), ih (fun q hq => h q (by simp [hq]))]; rfl
theorem aput_set {m : List (α × β)} {a : α} (v : β) : ∀ {j : Nat} {p : α × β}, (keys m).Nodup → m[j]? = some p → p.1 = a → aput m a v = m.set j (a, v) := by
 induction m with
 | nil => intro j p _ h _; simp at h
 | cons q r ih =>
  intro j p hn h hp; simp only [keys, List.map_cons, List.nodup_cons] at hn
  cases j with
  | zero =>
   simp at h
   subst h; rw [aput, if_pos hp]
   rfl
  | succ j =>
   have h' : r[j]? = some p := by simpa using h
   rw [aput, if_neg (fun e => hn.1 (by rw [e, ← hp]; exact List.mem_map.2 ⟨p, List.mem_of_getElem? h', rfl⟩)), ih hn.2 h' hp]; rfl
theorem mem_aput {m : List (α × β)} {a : α} {v : β} {p : α × β} (h : p ∈ aput m a v) : p ∈ m ∨ p = (a, v) := by
 induction m with
 | nil => exact Or.inr (by simpa [aput] using h)
 | cons q r ih =>
  rw [aput] at h
  split at h
  ·
   rcases List.mem_cons.1 h with h | h
   ·
    exact Or.inr h
   ·
    exact Or.inl (List.mem_cons_of_mem _ h)
  ·
   rcases List.mem_cons.1 h with rfl | h
   ·
    exact Or.inl (by simp)
   ·
    rcases ih h with h | h
    ·
     exact Or.inl (List.mem_cons_of_mem _ h)
    ·
     exact Or.inr h
theorem length_aput (m : List (α × β)) (a : α) (v : β) : (aput m a v).length ≤ m.length + 1 := by
 induction m with
 | nil => simp [aput]
 | cons q r ih =>
  rw [aput]
  split
  ·
   simp
  ·
   simp; omega
end
section
variable {α β : Type}
/-- Keys of type k, as values. -/
structure Enc (P : Program) (k : TypeId) (ek : α → Value) : Prop where
 law : Keyed P k
 inj : ∀ a a', ek a = ek a' → a = a'
/-- It may be a key. -/
def IsK (P : Program) (k : TypeId) (ek : α → Value) (a : α) : Prop := ∃ kl, keyOf P k (ek a) = some kl
def pe (ek : α → Value) (ev : β → Value) (p : α × β) : Value × Value := (ek p.1, ev p.2)
def me (e : MapEntry) : Value × Value := (e.key, e.val)
/-- BLOCK b IS THE MAP m. -/
def MapIs (P : Program) (k : TypeId) (ek : α → Value) (ev : β → Value) (w : World) (b : Nat) (m : List (α × β)) : Prop :=
 ∃ es clock, w.heap[b]? = some (.map es clock) ∧ es.size ≤ maxLen ∧ Stamped es clock ∧ es.toList.map me = m.map (pe ek ev) ∧ ∀ p ∈ m, IsK P k ek p.1
/-- 'range' OVER IT IS UNDER WAY: left is to come. -/
def RangeIs (P : Program) (k : TypeId) (ek : α → Value) (ev : β → Value) (w : World) (b r : Nat) (m left : List (α × β)) : Prop :=
 ∃ es clock since seen c0, w.heap[b]? = some (.map es clock) ∧ es.size ≤ maxLen ∧ Stamped es clock ∧ es.toList.map me = m.map (pe ek ev) ∧ (∀ p ∈ m, IsK P k ek p.1) ∧
  w.heap[r]? = some (.mapIter (some b) since seen c0) ∧ (∀ x ∈ es.toList, x.born < since) ∧ since ≤ c0 ∧ since ≤ clock ∧ (leftOf es seen).toList.map me = left.map (pe ek ev) ∧ left.Sublist m
theorem sublist_filter {γ : Type} [DecidableEq γ] {l l' : List γ} (hs : l'.Sublist l) : l.Nodup → l' = l.filter (fun x => decide (x ∈ l')) := by
 induction hs with
 | slnil => intro _; rfl
 | cons a h ih =>
  intro hn; obtain ⟨h1, h2⟩ := List.nodup_cons.1 hn; rw [List.filter_cons, if_neg (by simpa using fun hm => h1 (h.subset hm))]
  exact ih h2
 | cons_cons a h ih =>
  rename_i l' l
  intro hn; obtain ⟨h1, h2⟩ := List.nodup_cons.1 hn; rw [List.filter_cons, if_pos (by simp)]; have e := ih h2
  congr 1
  conv => lhs; rw [e]
  refine List.filter_congr (fun x hx => ?_); have : x ≠ a := fun e => h1 (e ▸ hx); simp [this]
theorem nodup_of_map {γ δ : Type} (f : γ → δ) {l : List γ} (h : (l.map f).Nodup) : l.Nodup := (List.pairwise_map.1 h).imp (fun hne e => hne (by rw [e]))
variable {P : Program} {k : TypeId} {ek : α → Value} {ev : β → Value} {w : World} {b r : Nat} {m left : List (α × β)}
theorem MapIs.lt (h : MapIs P k ek ev w b m) : b < w.heap.size := by
 obtain ⟨es, clock, hb, _⟩ := h; exact (Array.getElem?_eq_some_iff.1 hb).1
theorem MapIs.move {w' : World} (h : MapIs P k ek ev w b m) (hm : w'.heap[b]? = w.heap[b]?) : MapIs P k ek ev w' b m := by
 obtain ⟨es, clock, hb, r⟩ := h; exact ⟨es, clock, hm.trans hb, r⟩
theorem MapIs.kept {w' : World} {row : Option Nat} (h : MapIs P k ek ev w b m) (hg : w.grownBy w' row) (hne : some b ≠ row) : MapIs P k ek ev w' b m := h.move (hg.block b h.lt hne)
theorem MapIs.below {w' : World} (h : MapIs P k ek ev w b m) (hb : RowKit.Below w.heap.size w w') : MapIs P k ek ev w' b m := h.move (hb.block b h.lt)
theorem MapIs.setCell (h : MapIs P k ek ev w b m) {a : Addr} (ha : b ≠ a.block) (u : Value) : MapIs P k ek ev (w.setCell a u) b m := h.move (RowKit.Below.heap_setCell _ _ _ _ ha)
theorem MapIs.noCells (h : MapIs P k ek ev w b m) {g : Nat} {cs : Array Value} {T : TypeId} {fr : Nat × Nat} (hg : w.heap[g]? = some (.cells cs T fr)) : b ≠ g := by
 obtain ⟨es, clock, hb, _⟩ := h; intro e; subst e; rw [hb] at hg; cases hg
theorem nodup_of {es : Array MapEntry} {clock : Nat} (hs : Stamped es clock) (hm : es.toList.map me = m.map (pe ek ev)) : (keys m).Nodup := by
 have h1 := hs.2.2
 have h2 : es.toList.map (·.key) = (keys m).map ek := by
  have := congrArg (List.map Prod.fst) hm; simpa [keys, me, pe, List.map_map, Function.comp_def] using this
 rw [h2] at h1; exact nodup_of_map ek h1
theorem MapIs.nodup (h : MapIs P k ek ev w b m) : (keys m).Nodup := by
 obtain ⟨es, clock, _, _, hs, hm, _⟩ := h; exact nodup_of hs hm
theorem MapIs.isK (h : MapIs P k ek ev w b m) : ∀ p ∈ m, IsK P k ek p.1 := by
 obtain ⟨es, clock, _, _, hs, hm, hk⟩ := h; exact hk
/-- 'make(map[K]V)'. -/
theorem MapIs.made (P : Program) (k : TypeId) (ek : α → Value) (ev : β → Value) (w : World) : MapIs P k ek ev (w.alloc (.map #[] 0)) w.heap.size ([] : List (α × β)) :=
 ⟨#[], 0, (MapKept.heap_alloc w _).1, by simp, stamped_empty 0, by simp, by simp⟩
theorem keys_of {es : Array MapEntry} (hm : es.toList.map me = m.map (pe ek ev)) (hk : ∀ p ∈ m, IsK P k ek p.1) : ∀ e ∈ es.toList, ∃ l, keyOf P k e.key = some l := by
 intro e he; have : me e ∈ m.map (pe ek ev) := hm ▸ List.mem_map.2 ⟨e, he, rfl⟩; obtain ⟨p, hp, h⟩ := List.mem_map.1 this; obtain ⟨kl, hkl⟩ := hk p hp; have h1 : e.key = ek p.1 := (congrArg Prod.fst h).symm; exact ⟨kl, h1 ▸ hkl⟩
theorem entry_at {es : Array MapEntry} (hm : es.toList.map me = m.map (pe ek ev)) {j : Nat} {e : MapEntry} (h : es.toList[j]? = some e) : ∃ p, m[j]? = some p ∧ e.key = ek p.1 ∧ e.val = ev p.2 := by
 have h1 : (es.toList.map me)[j]? = some (me e) := by simp [h]
 rw [hm, List.getElem?_map, Option.map_eq_some_iff] at h1; obtain ⟨p, hp, h2⟩ := h1; exact ⟨p, hp, (congrArg Prod.fst h2).symm, (congrArg Prod.snd h2).symm⟩
theorem none_of {es : Array MapEntry} (hm : es.toList.map me = m.map (pe ek ev)) {a : α} (h : ∀ e ∈ es.toList, e.key ≠ ek a) : ∀ p ∈ m, p.1 ≠ a := by
 intro p hp e; have : pe ek ev p ∈ es.toList.map me := hm ▸ List.mem_map.2 ⟨p, hp, rfl⟩; obtain ⟨x, hx, h2⟩ := List.mem_map.1 this; exact h x hx (by rw [show x.key = ek p.1 from congrArg Prod.fst h2, e])
theorem grown_setBlock {es : Array MapEntry} {clock : Nat} (hb : w.heap[b]? = some (.map es clock)) (o : Obj) : w.grownBy (setBlock w b o) (some b) :=
 ⟨rfl, rfl, rfl, by simp [setBlock], fun i _ hi => heap_setBlock_other hb _ (fun e => hi (by rw [e]))⟩
variable {t e : TypeId} {a : α}
section
variable [DecidableEq α]
/-- 'm[k]', 'v, ok := m[k]': no entry. -/
theorem MapIs.look_none (h : MapIs P k ek ev w b m) (E : Enc P k ek) (ht : P.underlying t = some (.map k e)) {z : Value} (hz : (zeroValue e).run P w = .ok z w) (ha : IsK P k ek a) (c : Bool) (hg : aget m a = none) :
  (Instr.lookup t (.map (some b)) (ek a) c).run P w = .ok (if c then .tuple #[z, .bool false] else z) w := by
 obtain ⟨es, clock, hb, hs, hst, hm, hk⟩ := h; obtain ⟨kl, hkey⟩ := ha; rcases E.law.find w hkey es.toList (keys_of hm hk) with ⟨h1, h2⟩ | ⟨j, e0, h1, h2, h3⟩
 ·
  simp [Instr.lookup, run_underlying ht, MapKept.run_getObj_map hb, E.law.check w _ hkey, h1, hz, Result.andThen]
 ·
  exfalso
  obtain ⟨p, hp, h4, _⟩ := entry_at hm h2; obtain rfl := E.inj _ _ (h3.symm.trans h4); rw [aget_mem (nodup_of hst hm) (List.mem_of_getElem? hp)] at hg; cases hg
/-- .. there is one. -/
theorem MapIs.look_some (h : MapIs P k ek ev w b m) (E : Enc P k ek) (ht : P.underlying t = some (.map k e)) (ha : IsK P k ek a) (c : Bool) {v : β} (hg : aget m a = some v) :
  (Instr.lookup t (.map (some b)) (ek a) c).run P w = .ok (if c then .tuple #[ev v, .bool true] else ev v) w := by
 obtain ⟨es, clock, hb, hs, hst, hm, hk⟩ := h; obtain ⟨kl, hkey⟩ := ha; rcases E.law.find w hkey es.toList (keys_of hm hk) with ⟨h1, h2⟩ | ⟨j, e0, h1, h2, h3⟩
 ·
  exfalso
  rw [aget_none (none_of hm h2)] at hg; cases hg
 ·
  obtain ⟨p, hp, h4, h5⟩ := entry_at hm h2; obtain rfl := E.inj _ _ (h3.symm.trans h4); rw [aget_mem (nodup_of hst hm) (List.mem_of_getElem? hp)] at hg; cases hg; rw [← h5]; simp [Instr.lookup, run_underlying ht, MapKept.run_getObj_map hb, E.law.check w _ hkey, h1, Result.andThen]
/-- 'm[k] = v'. -/
theorem MapIs.store (h : MapIs P k ek ev w b m) (E : Enc P k ek) (ht : P.underlying t = some (.map k e)) (ha : IsK P k ek a) (hn : m.length < maxLen) (v : β) :
  ∃ w', (Instr.mapUpdate t (.map (some b)) (ek a) (ev v)).run P w = .ok () w' ∧ MapIs P k ek ev w' b (aput m a v) ∧ w.grownBy w' (some b) ∧ w'.heap.size = w.heap.size := by
 obtain ⟨es, clock, hb, hs, hst, hm, hk⟩ := h; obtain ⟨kl, hkey⟩ := ha
 have hk' : ∀ p ∈ aput m a v, IsK P k ek p.1 := by
  intro p hp; rcases mem_aput hp with hp | rfl
  ·
   exact hk p hp
  ·
   exact ⟨kl, hkey⟩
 have hl : es.size = m.length := by
  have := congrArg List.length hm; simpa using this
 rcases E.law.find w hkey es.toList (keys_of hm hk) with ⟨h1, h2⟩ | ⟨j, e0, h1, h2, h3⟩
 ·
  refine ⟨setBlock w b (.map (es.push ⟨ek a, ev v, clock⟩) (clock + 1)), ?_, ⟨_, _, heap_setBlock_same hb _, by simp; omega, stamped_push hst h2, ?_, hk'⟩, grown_setBlock hb _, by simp [setBlock]⟩
  ·
   simp [Instr.mapUpdate, run_underlying ht, MapKept.run_getObj_map hb, E.law.check w false hkey, h1, MapKept.run_setObj_map _ hb, Result.andThen, setBlock]
  ·
   rw [aput_new v (none_of hm h2), Array.toList_push, List.map_append, List.map_append, hm]; rfl
 ·
  have hj : es[j]? = some e0 := by simpa using h2
  obtain ⟨p, hp, h4, h5⟩ := entry_at hm h2; have hpa : p.1 = a := E.inj _ _ (h4.symm.trans h3); have hkeyf : ∀ e', es[j]? = some e' → ({ e' with key := ek a, val := ev v } : MapEntry).key = e'.key := fun e' he' => by rw [hj] at he'; cases he'; exact h3.symm
  have hlist : (es.modify j (fun e' => { e' with key := ek a, val := ev v })).toList = es.toList.set j { e0 with key := ek a, val := ev v } := by rw [Array.toList_modify, modify_eq_set _ _ _ _ h2]
  refine ⟨setBlock w b (.map (es.modify j (fun e' => { e' with key := ek a, val := ev v })) clock), ?_, ⟨_, _, heap_setBlock_same hb _, by simpa using hs, stamped_modify hst _ _ (fun _ _ => rfl) (fun e' _ he' => hkeyf e' he'), ?_, hk'⟩, grown_setBlock hb _, by simp [setBlock]⟩
  ·
   simp [Instr.mapUpdate, run_underlying ht, MapKept.run_getObj_map hb, E.law.check w false hkey, h1, hj, h3, E.law.stays w hkey, MapKept.run_setObj_map _ hb, Result.andThen, setBlock]
  ·
   rw [aput_set v (nodup_of hst hm) hp hpa, hlist, List.map_set, List.map_set, hm]; rfl
/-- 'delete(m, k)'. -/
theorem MapIs.drop (h : MapIs P k ek ev w b m) (E : Enc P k ek) (ht : P.underlying t = some (.map k e)) (ha : IsK P k ek a) (ty : TypeId) :
  ∃ w' es es', (Builtin.delete_ #[t, k] ty #[.map (some b), ek a]).run P w = .ok (.tuple #[]) w' ∧ (∃ c, w.heap[b]? = some (.map es c) ∧ w' = setBlock w b (.map es' c)) ∧ es'.toList.Sublist es.toList ∧ (∀ x, x ∈ es'.toList ↔ (x ∈ es.toList ∧ x.key ≠ ek a)) ∧ MapIs P k ek ev w' b (adel m a) ∧ w.grownBy w' (some b) ∧ w'.heap.size = w.heap.size := by
 obtain ⟨es, clock, hb, hs, hst, hm, hk⟩ := h; obtain ⟨kl, hkey⟩ := ha; have hk' : ∀ p ∈ adel m a, IsK P k ek p.1 := fun p hp => hk p (List.mem_filter.1 hp).1; rcases E.law.find w hkey es.toList (keys_of hm hk) with ⟨h1, h2⟩ | ⟨j, e0, h1, h2, h3⟩
 ·
  have e1 : adel m a = m := List.filter_eq_self.2 (fun p hp => by simpa using none_of hm h2 p hp); refine ⟨setBlock w b (.map es clock), es, es, ?_, ⟨clock, hb, rfl⟩, List.Sublist.refl _, fun x => ⟨fun hx => ⟨hx, h2 x hx⟩, fun hx => hx.1⟩, ⟨es, clock, heap_setBlock_same hb _, hs, hst, by rw [e1]; exact hm, hk'⟩, grown_setBlock hb _, by simp [setBlock]⟩; simp [Builtin.delete_, run_underlying ht, MapKept.run_getObj_map hb, E.law.check w _ hkey, h1, MapKept.run_setObj_map _ hb, Result.andThen, setBlock]
 ·
  have hjl : j < es.toList.length := (List.getElem?_eq_some_iff.1 h2).1; have hjs : j < es.size := by simpa using hjl
  have hsub : (es.eraseIdxIfInBounds j).toList = es.toList.eraseIdx j := by
   unfold Array.eraseIdxIfInBounds; rw [dif_pos hjs]; simp
  obtain ⟨p, hp, h4, h5⟩ := entry_at hm h2; have hpa : p.1 = a := E.inj _ _ (h4.symm.trans h3); have hnd := nodup_of hst hm
  have e1 : adel m a = m.eraseIdx j := by
   refine filter_eq_eraseIdx (fun q : α × β => decide (q.1 = a)) m j p hp (by simp [hpa]) ?_; refine (List.pairwise_map.1 hnd).imp (fun {x y} hxy hh => hxy ?_); exact (of_decide_eq_true hh.1).trans (of_decide_eq_true hh.2).symm
  refine ⟨setBlock w b (.map (es.eraseIdxIfInBounds j) clock), es, es.eraseIdxIfInBounds j, ?_, ⟨clock, hb, rfl⟩, by rw [hsub]; exact List.eraseIdx_sublist _ _, fun x => ?_, ⟨_, clock, heap_setBlock_same hb _, Nat.le_trans (MapFrom.size_erase es j) hs, stamped_erase hst j, ?_, hk'⟩, grown_setBlock hb _, by simp [setBlock]⟩
  ·
   simp [Builtin.delete_, run_underlying ht, MapKept.run_getObj_map hb, E.law.check w _ hkey, h1, MapKept.run_setObj_map _ hb, Result.andThen, setBlock]
  ·
   rw [hsub, List.mem_eraseIdx_iff_getElem?]
   constructor
   ·
    rintro ⟨i, hne, hi⟩; refine ⟨List.mem_of_getElem? hi, fun e2 => hne ?_⟩; have h6 : (es.toList.map (·.key))[i]? = some (ek a) := by rw [List.getElem?_map, hi]; simp [e2]
    have h7 : (es.toList.map (·.key))[j]? = some (ek a) := by rw [List.getElem?_map, h2]; simp [h3]
    exact (List.getElem?_inj (List.getElem?_eq_some_iff.1 h6).1 hst.2.2).1 (h6.trans h7.symm)
   ·
    rintro ⟨hx, hne⟩; obtain ⟨i, hi⟩ := List.getElem?_of_mem hx; refine ⟨i, fun e2 => hne ?_, hi⟩; rw [e2, h2] at hi; cases hi; exact h3
  ·
   rw [e1, hsub, map_eraseIdx, map_eraseIdx, hm]
end
/-- 'len(m)'. -/
theorem MapIs.len (h : MapIs P k ek ev w b m) (ht : P.underlying t = some (.map k e)) (ty : TypeId) : (Builtin.len_ #[t] ty #[.map (some b)]).run P w = .ok (.int .i64 m.length) w := by
 obtain ⟨es, clock, hb, hs, hst, hm, hk⟩ := h
 have hl : es.size = m.length := by
  have := congrArg List.length hm; simpa using this
 rw [← hl]; simp [Builtin.len_, run_underlying ht, MapKept.run_getObj_map hb, goInt, Result.andThen]
theorem RangeIs.map (h : RangeIs P k ek ev w b r m left) : MapIs P k ek ev w b m := by
 obtain ⟨es, clock, _, _, _, hb, hs, hst, hm, hk, _⟩ := h; exact ⟨es, clock, hb, hs, hst, hm, hk⟩
theorem RangeIs.ne (h : RangeIs P k ek ev w b r m left) : r ≠ b := by
 obtain ⟨es, clock, since, seen, c0, hb, _, _, _, _, hr, _⟩ := h; intro e; rw [e, hb] at hr; cases hr
theorem RangeIs.noCells (h : RangeIs P k ek ev w b r m left) {g : Nat} {cs : Array Value} {T : TypeId} {fr : Nat × Nat} (hg : w.heap[g]? = some (.cells cs T fr)) : r ≠ g := by
 obtain ⟨es, clock, since, seen, c0, hb, _, _, _, _, hr, _⟩ := h; intro e; subst e; rw [hr] at hg; cases hg
theorem RangeIs.lt (h : RangeIs P k ek ev w b r m left) : r < w.heap.size := by
 obtain ⟨es, clock, since, seen, c0, _, _, _, _, _, hr, _⟩ := h; exact (Array.getElem?_eq_some_iff.1 hr).1
theorem RangeIs.move {w' : World} (h : RangeIs P k ek ev w b r m left) (h1 : w'.heap[b]? = w.heap[b]?) (h2 : w'.heap[r]? = w.heap[r]?) : RangeIs P k ek ev w' b r m left := by
 obtain ⟨es, clock, since, seen, c0, hb, hs, hst, hm, hk, hr, rest⟩ := h; exact ⟨es, clock, since, seen, c0, h1.trans hb, hs, hst, hm, hk, h2.trans hr, rest⟩
theorem RangeIs.kept {w' : World} {row : Option Nat} (h : RangeIs P k ek ev w b r m left) (hg : w.grownBy w' row) (hb' : some b ≠ row) (hr' : some r ≠ row) : RangeIs P k ek ev w' b r m left := h.move (hg.block b h.map.lt hb') (hg.block r h.lt hr')
theorem RangeIs.below {w' : World} (h : RangeIs P k ek ev w b r m left) (hb : RowKit.Below w.heap.size w w') : RangeIs P k ek ev w' b r m left := h.move (hb.block b h.map.lt) (hb.block r h.lt)
/-- 'range m'. -/
theorem MapIs.range (h : MapIs P k ek ev w b m) (ht : P.underlying t = some (.map k e)) :
  ∃ w', (Instr.range t (.map (some b))).run P w = .ok (.pointer (some ⟨w.heap.size, 0, none⟩)) w' ∧ RangeIs P k ek ev w' b w.heap.size m m ∧ w.grownBy w' none ∧ w'.heap.size = w.heap.size + 1 := by
 have hlt := h.lt; obtain ⟨es, clock, hb, hs, hst, hm, hk⟩ := h; refine ⟨_, run_range_map w t k e b es clock ht hb, ⟨es, clock, clock, #[], clock, ((MapKept.heap_alloc w _).2 b hlt).trans hb, hs, hst, hm, hk, (MapKept.heap_alloc w _).1, hst.1, Nat.le_refl _, Nat.le_refl _, ?_, List.Sublist.refl _⟩, World.grownBy_alloc w _ none, by simp⟩; have e1 : leftOf es #[] = es := by unfold leftOf; exact Array.filter_eq_self.2 (fun _ _ => by simp)
 rw [e1]; exact hm
/-- 'delete(m, k)' in the round: of a key that has come. -/
theorem RangeIs.drop [DecidableEq α] (h : RangeIs P k ek ev w b r m left) (E : Enc P k ek) (ht : P.underlying t = some (.map k e)) (ha : IsK P k ek a) (ty : TypeId) (hno : ∀ p ∈ left, p.1 ≠ a) :
  ∃ w', (Builtin.delete_ #[t, k] ty #[.map (some b), ek a]).run P w = .ok (.tuple #[]) w' ∧ RangeIs P k ek ev w' b r (adel m a) left ∧ w.grownBy w' (some b) ∧ w'.heap.size = w.heap.size := by
 classical
 have hne := h.ne; obtain ⟨w', es0, es', hrun, ⟨c, hb0, rfl⟩, hsub', hwho, hmap, hg, hsz⟩ := h.map.drop E ht ha ty; obtain ⟨es, clock, since, seen, c0, hb, hs, hst, hm, hk, hr, hold, hsc, hsk, hl, hsub⟩ := h; obtain ⟨rfl, rfl⟩ : es = es0 ∧ clock = c := by rw [hb] at hb0; simpa using hb0
 refine ⟨_, hrun, ?_, hg, hsz⟩; obtain ⟨es1, clock1, hb1, hs1, hst1, hm1, hk1⟩ := hmap; rw [heap_setBlock_same hb] at hb1; cases hb1; refine ⟨_, _, since, seen, c0, heap_setBlock_same hb _, hs1, hst1, hm1, hk1, (heap_setBlock_other hb _ hne).trans hr, fun x hx => hold x ((hwho x).1 hx).1, hsc, hsk, ?_, ?_⟩
 ·
  rw [← hl]
  congr 1
  unfold leftOf; rw [Array.toList_filter, Array.toList_filter]
  have hn2 : es.toList.filter (fun e => !seen.contains e.born) = (es.toList.filter (fun e => !seen.contains e.born)).filter (fun x => decide (x ∈ es'.toList)) := by
   refine (List.filter_eq_self.2 (fun x hx => ?_)).symm; have hx' : x ∈ (leftOf es seen).toList := by unfold leftOf; rw [Array.toList_filter]; exact hx
   have : me x ∈ left.map (pe ek ev) := hl ▸ List.mem_map.2 ⟨x, hx', rfl⟩; obtain ⟨p, hp, hpe⟩ := List.mem_map.1 this; have h1 : x.key = ek p.1 := (congrArg Prod.fst hpe).symm; exact decide_eq_true ((hwho x).2 ⟨(List.mem_filter.1 hx).1, fun e1 => hno p hp (E.inj _ _ (h1.symm.trans e1))⟩)
  rw [hn2, List.filter_filter]
  have hes' : es'.toList = es.toList.filter (fun x => decide (x ∈ es'.toList)) := by
   have hnd : es.toList.Nodup := nodup_of_map _ hst.2.1; exact sublist_filter hsub' hnd
  conv => lhs; rw [hes']
  rw [List.filter_filter]; refine List.filter_congr (fun x _ => ?_); rw [Bool.and_comm]
 ·
  have h1 : adel left a = left := List.filter_eq_self.2 (fun p hp => by simpa using hno p hp); rw [← h1]; exact hsub.filter _
end
section
variable {α β : Type} {P : Program} {ek : α → Value} {ev : β → Value} (w : World) {ops : Array Oper} {rest : List Oper} {o : Oper} {a : Act} {Q : Exit → Act → World → Prop}
theorem wp_look_none_ok [DecidableEq α] (hg : o.guard = none) (mo x : Operand) (t : TypeId) (hop : o.op = Op.lookup t mo x true) (k e : TypeId) (E : Enc P k ek) (ht : P.underlying t = some (.map k e)) (z : Value) (hz : (zeroValue e).run P w = .ok z w)
  (b : Nat) (m : List (α × β)) (hm : a.eval mo = .map (some b)) (h : MapIs P k ek ev w b m) (key : α) (hx : a.eval x = ek key) (hk : IsK P k ek key) (hget : aget m key = none) (hK : wpList P ops Q rest (a.put o.dst (.tuple #[z, .bool false])) w) : wpList P ops Q (o :: rest) a w := by
 refine wpList_plain hg fun K' hK' => ?_; have hrun := h.look_none E ht hz hk true hget; unfold Oper.wp; simp [execOp, hop, hm, hx, hrun, Result.andThen]
 exact hK' _ _ hK
theorem wp_look_some_ok [DecidableEq α] (hg : o.guard = none) (mo x : Operand) (t : TypeId) (hop : o.op = Op.lookup t mo x true) (k e : TypeId) (E : Enc P k ek) (ht : P.underlying t = some (.map k e))
  (b : Nat) (m : List (α × β)) (hm : a.eval mo = .map (some b)) (h : MapIs P k ek ev w b m) (key : α) (hx : a.eval x = ek key) (hk : IsK P k ek key) (v : β) (hget : aget m key = some v) (hK : wpList P ops Q rest (a.put o.dst (.tuple #[ev v, .bool true])) w) : wpList P ops Q (o :: rest) a w := by
 refine wpList_plain hg fun K' hK' => ?_; have hrun := h.look_some E ht hk true hget; unfold Oper.wp; simp [execOp, hop, hm, hx, hrun, Result.andThen]
 exact hK' _ _ hK
theorem wp_store [DecidableEq α] (hg : o.guard = none) (mo x v : Operand) (t : TypeId) (hop : o.op = Op.mapUpdate t mo x v) (k e : TypeId) (E : Enc P k ek) (ht : P.underlying t = some (.map k e))
  (b : Nat) (m : List (α × β)) (hm : a.eval mo = .map (some b)) (h : MapIs P k ek ev w b m) (hn : m.length < maxLen) (key : α) (hx : a.eval x = ek key) (hk : IsK P k ek key) (val : β) (hv : a.eval v = ev val)
  (hK : ∀ w', MapIs P k ek ev w' b (aput m key val) → w.grownBy w' (some b) → w'.heap.size = w.heap.size → wpList P ops Q rest (a.put o.dst undef) w') : wpList P ops Q (o :: rest) a w := by
 refine wpList_plain hg fun K' hK' => ?_; obtain ⟨w', hrun, r1, r2, r3⟩ := h.store E ht hk hn val; unfold Oper.wp; simp [execOp, hop, hm, hx, hv, hrun, Result.andThen]
 exact hK' _ _ (hK w' r1 r2 r3)
end
end XM
end Go.Proofs.YtiinmagnpkfbbaaGreat
end
