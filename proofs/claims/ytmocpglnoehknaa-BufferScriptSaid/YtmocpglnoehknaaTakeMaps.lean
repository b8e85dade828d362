/- buffer.Take: its order of points; SortFunc by it; a map with names as keys, its keys sorted. -/
import Derived.Test.YtmocpglnoehknaaBuf1
import Derived.Test.YtmocpglnoehknaaTakeNil
import Derived.WalkLawsBesides
namespace Go.Proofs.Ytmocpglnoehknaa
set_option linter.unusedVariables false
set_option linter.unusedSimpArgs false
open Go.RowKit Go.Proofs.YtmocpglnoehknaaW.PrintWords Go.Proofs.YtmocpglnoehknaaW.PrintLast Go.Proofs.YtmocpglnoehknaaW.PrintMore Go.Proofs.Ytmocpglnoehknaa.QT Go.Sort
namespace Tk
theorem nan_int (a : Int) (w : World) : Calls Try.prog 51 #[.int .i64 a] w fun e w' => e = .returned (.bool false) ∧ w = w' := by
  have h1 : (a == a) = true := by simp
  go_enter Try.func51, Try.ntmps51
  go_wp2
  go_ret
  exact ⟨rfl, rfl⟩
def cmpI (a b : Int) : Int := if a < b then -1 else if a = b then 0 else 1
set_option maxHeartbeats 1000000 in
theorem cmp_int (a b : Int) (w : World) : Calls Try.prog 34 #[.int .i64 a, .int .i64 b] w fun e w' => e = .returned (.int .i64 (cmpI a b)) ∧ w = w' := by
  by_cases h1 : a < b
  · have e : cmpI a b = -1 := by unfold cmpI; rw [if_pos h1]
    rw [e]
    have h2 : decide (a < b) = true := decide_eq_true h1
    go_enter Try.func34, Try.ntmps34
    go_wp2_with (go_at_call 51; with_reducible refine (nan_int _ _).mono ?_; rintro e w' ⟨rfl, rfl⟩)
    go_ret
    exact ⟨rfl, rfl⟩
  · have h2 : decide (a < b) = false := decide_eq_false h1
    by_cases h3 : a = b
    · have e : cmpI a b = 0 := by unfold cmpI; rw [if_neg h1, if_pos h3]
      rw [e]
      subst h3
      have h5 : (a == a) = true := by simp
      go_enter Try.func34, Try.ntmps34
      go_wp2_with (go_at_call 51; with_reducible refine (nan_int _ _).mono ?_; rintro e w' ⟨rfl, rfl⟩)
      go_ret
      exact ⟨rfl, rfl⟩
    · have e : cmpI a b = 1 := by unfold cmpI; rw [if_neg h1, if_neg h3]
      rw [e]
      have h4 : decide (b < a) = true := decide_eq_true (by omega)
      have h5 : (a == b) = false := by simpa using h3
      go_enter Try.func34, Try.ntmps34
      go_wp2_with (go_at_call 51; with_reducible refine (nan_int _ _).mono ?_; rintro e w' ⟨rfl, rfl⟩)
      go_ret
      exact ⟨rfl, rfl⟩
def cmpT (a b : S24) : Int := cmpI a.f0 b.f0
set_option maxHeartbeats 1000000 in
theorem take1_calls (a b : S24) (W : World) : Calls Try.prog 33 #[.agg #[.int .i64 a.f0, .int .u64 a.f1, .int .u64 a.f2], .agg #[.int .i64 b.f0, .int .u64 b.f1, .int .u64 b.f2]] W fun e w' => e = .returned (.int .i64 (cmpT a b)) ∧ Lays W w' := by
  have HC := Lib.hid (fun w => cmp_int a.f0 b.f0 w)
  have HL := Lib.hid (((Lays.refl W).alloc (.cells #[.int .i64 a.f0, .int .u64 a.f1, .int .u64 a.f2] 24)).alloc (.cells #[.int .i64 b.f0, .int .u64 b.f1, .int .u64 b.f2] 24))
  unfold cmpT
  go_enter Try.func33, Try.ntmps33
  go_wp2_with fail
  with_reducible refine (HC.out _).mono ?_
  rintro e w1 ⟨rfl, rfl⟩
  go_wp2
  go_ret
  exact ⟨rfl, HL.out⟩
def ltT (a b : S24) : Bool := ltOf cmpT a b
theorem ltT_iff (a b : S24) : ltT a b = true ↔ a.f0 < b.f0 := by
  unfold ltT ltOf cmpT cmpI
  rw [decide_eq_true_iff]
  split
  · constructor <;> intro <;> omega
  · split
    · constructor <;> intro <;> omega
    · constructor <;> intro <;> omega
theorem ltT_false (a b : S24) : ltT a b = false ↔ ¬ a.f0 < b.f0 := by rw [← ltT_iff, Bool.not_eq_true]
theorem swoT : SWO (ltOf cmpT) := by
  refine ⟨fun x => ?_, fun x y z h h' => ?_, fun x y z h h' => ?_⟩
  · exact (ltT_false x x).2 (by omega)
  · exact (ltT_iff x z).2 (by have h1 := (ltT_iff x y).1 h; have h2 := (ltT_iff y z).1 h'; omega)
  · exact (ltT_false x z).2 (by have h1 := (ltT_false x y).1 h; have h2 := (ltT_false y z).1 h'; omega)
theorem enter_t1 : ∀ args w, (callFunc 33 args).run Try.prog w = .ok (.enter 33 args) w := fun args w => by kernel_rfl
local instance : Inhabited S24 := ⟨z24⟩
/-- SortFunc by times at a row that is not nil: a row of the same points, by rising times. -/
theorem sortT_row (base gb n cap : Nat) (P0 : Nat → Prop) (l : List S24) (w : World) (hR : Kd.R k24 24 w base P0 (.slice (some ⟨gb, 0, none⟩) n cap) l) (hb : l.length < 4611686018427387904) :
    Calls Try.prog 32 #[.slice (some ⟨gb, 0, none⟩) n cap, .func (.func 33) #[] #[]] w fun e w' => e = .returned (.tuple #[]) ∧ ∃ l' : List S24, l'.Perm l ∧ l'.Pairwise (fun a b => ¬ b.f0 < a.f0) ∧ Kd.R k24 24 w' base P0 (.slice (some ⟨gb, 0, none⟩) n cap) l' ∧ w.grownBy w' (some gb) := by
  have hlt := Kd.R_lt hR gb rfl
  obtain ⟨hn, _, _⟩ := Kd.R_reads' hR
  have h := AnyQ.slices_SortFunc Try.sortPoint 3 aggPoint sizePoint cellsPoint (fun _ => rfl) (fun x v hv => by
    simp only [cellsPoint, List.mem_cons, List.not_mem_nil, or_false] at hv
    rcases hv with rfl | rfl | rfl <;> rfl) cmpT swoT 33 #[] gb 0 cap l.toArray w enter_t1 (fun m os dk _ x y => take1_calls x y _) (row_holds w base gb n cap P0 l hR) hlt (by simpa using hb)
  have e : l.toArray.size = n := by simp [hn]
  rw [e] at h
  refine h.mono fun e w' ⟨he, d', m, os, hperm, hsort, hw⟩ => ?_
  have hsz : d'.size = n := by have := hperm.1; simpa [hn] using this
  have hp : d'.toList.Perm l := by
    have h1 := hperm.2.2
    have e1 : d'.extract 0 n = d' := by rw [← hsz]; simp
    have e2 : l.toArray.extract 0 n = l.toArray := by rw [show n = l.toArray.size from by simp [hn]]; simp
    rw [e1, e2] at h1
    simpa using h1
  have hu : d'.toList.Pairwise (fun a b => ¬ b.f0 < a.f0) := by
    refine List.pairwise_iff_getElem.2 ?_
    intro i j hi hj hij
    have := hsort i j (Nat.zero_le _) hij (by rw [← hsz]; simpa using hj)
    rw [getElem!_pos d' j (by simpa using hj), getElem!_pos d' i (by simpa using hi)] at this
    have h2 : ltT d'.toList[j] d'.toList[i] = false := by show ltOf cmpT _ _ = false; simpa using this
    exact (ltT_false _ _).1 h2
  have hrow := row_put w base gb n cap m P0 l d'.toList os (by rw [hp.length_eq]) hR
  rw [show d'.toList.toArray = d' from by simp] at hrow
  rw [hw]
  exact ⟨he, d'.toList, hp, hu, hrow⟩
end Tk
end Go.Proofs.Ytmocpglnoehknaa

namespace Go.Proofs.Ytmocpglnoehknaa
set_option linter.unusedVariables false
set_option linter.unusedSimpArgs false
open Go.RowKit Go.Proofs.YtmocpglnoehknaaW.PrintWords Go.Proofs.YtmocpglnoehknaaW.PrintLast Go.Proofs.YtmocpglnoehknaaW.PrintMore Go.Proofs.Ytmocpglnoehknaa.QT Go.Sort
namespace Tk
abbrev Pt := S24
abbrev Gm := List (ByteArray × (Value × List Pt))
def ekS (s : ByteArray) : Value := .string s
def evG (g : Value × List Pt) : Value := g.1
theorem encS : XM.Enc Try.prog 9 ekS := ⟨Maps.string_keyed Try.underlying9, fun a a' h => by unfold ekS at h; cases h; rfl⟩
/-- Block b is the map gm, whose elements are slices. -/
def GM (w : World) (b : Nat) (gm : Gm) : Prop := XM.MapIs Try.prog 9 ekS evG w b gm
theorem keyS (s : ByteArray) (h : s.size ≤ maxLen) : keyOf Try.prog 9 (.string s) = some (.string s.data.toList) := by
  unfold keyOf
  rw [Try.underlying9]
  simp [mapKey, Try.underlying9, h]
theorem isKS (s : ByteArray) (h : s.size ≤ maxLen) : XM.IsK Try.prog 9 ekS s := ⟨_, keyS s h⟩
theorem key_of {s : ByteArray} (h : XM.IsK Try.prog 9 ekS s) : keyOf Try.prog 9 (.string s) = some (.string s.data.toList) := by
  obtain ⟨kl, hk⟩ := h
  have hk : keyOf Try.prog 9 (.string s) = some kl := hk
  obtain ⟨x, h1, h2, _⟩ := Maps.keyOf_str Try.underlying9 hk
  have e : s.data.toList = x := by
    have h3 : Value.string s = .string ⟨x.toArray⟩ := h1
    cases h3
    simp
  rw [hk, h2, e]
theorem own_of {w : World} {b : Nat} {gm : Gm} (h : GM w b gm) : ∃ D0 : DataW Unit, w.ownsMap Try.prog 9 (fun _ => some (.nil, [])) b gm.length D0 ∧ (strKeys D0).Perm (gm.map (·.1.data.toList)) ∧ Maps.size D0 = gm.length := by
  obtain ⟨es, clock, hb, hs, hst, hm, hk⟩ := h
  have hlen : es.size = gm.length := by have := congrArg List.length hm; simpa using this
  have hrg : ∀ x ∈ es.toList, ∃ s : ByteArray, x.key = .string s ∧ WideElems.rd Try.prog 9 (fun _ => some ((.nil : DataW Unit), [])) x = some (.string s.data.toList, .nil) := by
    intro x hx
    have h1 : XM.me x ∈ gm.map (XM.pe ekS evG) := by rw [← hm]; exact List.mem_map.2 ⟨x, hx, rfl⟩
    obtain ⟨p, hp, he⟩ := List.mem_map.1 h1
    have hkey : x.key = .string p.1 := (congrArg Prod.fst he).symm
    refine ⟨p.1, hkey, ?_⟩
    unfold WideElems.rd
    rw [hkey, key_of (hk p hp)]
    rfl
  refine ⟨.map ((es.toList.map (WideElems.rg Try.prog 9 (fun _ => some (.nil, [])))).foldr DataW.insert []), ⟨es, clock, hb, ⟨hs, hst, fun x hx => ?_⟩, by omega, rfl⟩, ?_, ?_⟩
  · obtain ⟨s, _, h2⟩ := hrg x hx
    exact ⟨_, h2⟩
  · have hp := WideShapes.sorted_perm (es.toList.map (WideElems.rg Try.prog 9 (fun _ => some ((.nil : DataW Unit), []))))
    refine (hp.map _).trans ?_
    rw [List.map_map]
    have e1 : es.toList.map ((fun p : Lit × DataW Unit => strOf p.1) ∘ WideElems.rg Try.prog 9 (fun _ => some (.nil, []))) = (es.toList.map XM.me).map (fun p => match p.1 with | .string s => s.data.toList | _ => []) := by
      rw [List.map_map]
      refine List.map_congr_left (fun x hx => ?_)
      obtain ⟨s, h1, h2⟩ := hrg x hx
      simp only [Function.comp, WideElems.rg, h2, XM.me, h1]
      rfl
    rw [e1, hm, List.map_map]
    exact List.Perm.of_eq (List.map_congr_left (fun p _ => rfl))
  · rw [Maps.size_eq, (WideShapes.sorted_perm _).length_eq]
    simp [hlen]
def leN (a b : ByteArray) : Prop := a.data.toList ≤ b.data.toList
/-- The sorted keys of a map with names as keys. -/
theorem keys_calls (w : World) (mb : Nat) (gm : Gm) (h : GM w mb gm) (hl : gm.length ≤ 1000000) :
    Calls Try.prog 30 #[.func (.func 48) #[] #[.pointer (some ⟨w.heap.size, 0, none⟩)]] (w.alloc (.cells #[.map (some mb)] 70)) fun e w' => ∃ (v : Value) (ns : List ByteArray), e = .returned v ∧ ns.Perm (gm.map (·.1)) ∧ ns.Pairwise leN ∧
      Kd.R Kd.string 9 w' w.heap.size (fun _ => True) v ns ∧ Below w.heap.size w w' := by
  obtain ⟨D0, h1, h2, h3⟩ := own_of h
  refine (callsIn_wide.1 (Try.slices_Sorted_keys (H := Unit) mb gm.length D0 _ w h1 (by rw [h3]; unfold maxLen; omega) (by rw [h3]; omega))).mono ?_
  rintro e w' ⟨v, ss, rfl, hs, hr, hn, hb⟩
  have hperm := List.mergeSort_perm ss (fun x y => decide (x ≤ y))
  have hpw : (ss.mergeSort (fun x y => decide (x ≤ y))).Pairwise (fun a b => a ≤ b) := by
    have := List.pairwise_mergeSort (le := fun x y : List UInt8 => decide (x ≤ y)) (fun a b c h1 h2 => by simp only [decide_eq_true_eq] at *; exact List.le_trans h1 h2) (fun a b => by simp only [Bool.or_eq_true, decide_eq_true_eq]; exact List.le_total a b) ss
    exact this.imp (fun h => of_decide_eq_true h)
  have hsz : w.heap.size ≤ (w.alloc (.cells #[.map (some mb)] 70)).heap.size := by simp
  refine ⟨v, (ss.mergeSort (fun x y => decide (x ≤ y))).map (fun l => ⟨l.toArray⟩), rfl, ?_, ?_, ?_, below_then (below_alloc (Below.refl _ _) _) hsz hb⟩
  · have hp2 := (hperm.trans (hs.trans h2)).map (fun l : List UInt8 => (⟨l.toArray⟩ : ByteArray))
    rw [List.map_map] at hp2
    refine hp2.trans (List.Perm.of_eq (List.map_congr_left (fun p _ => ?_)))
    simp
  · rw [List.pairwise_map]
    exact hpw.imp (fun h => by unfold leN; simpa using h)
  · refine Kd.R_lower (Kd.R_of_own (h1 := fun _ => rfl) ?_ (fun _ _ => trivial)) hsz
    have hln : ((ss.mergeSort (fun x y => decide (x ≤ y))).map (fun l : List UInt8 => (⟨l.toArray⟩ : ByteArray))).length = ss.length := by rw [List.length_map, hperm.length_eq]
    rw [hln]
    have e1 : encs Value.string ((ss.mergeSort (fun x y => decide (x ≤ y))).map (fun l : List UInt8 => (⟨l.toArray⟩ : ByteArray))) = (ss.mergeSort (fun x y => decide (x ≤ y))).map encStr := by
      unfold encs
      rw [List.map_map]
      exact List.map_congr_left (fun l _ => rfl)
    rw [e1]
    exact hr
end Tk
end Go.Proofs.Ytmocpglnoehknaa

/- buffer.Take: a block's points put together by names: what holds while it goes on. -/
namespace Go.Proofs.Ytmocpglnoehknaa
set_option linter.unusedVariables false
set_option linter.unusedSimpArgs false
open Go.RowKit Go.Proofs.YtmocpglnoehknaaW.PrintWords Go.Proofs.YtmocpglnoehknaaW.PrintLast Go.Proofs.YtmocpglnoehknaaW.PrintMore Go.Proofs.Ytmocpglnoehknaa.QT
theorem XM.mem_aput_self' {α β : Type} [DecidableEq α] (m : List (α × β)) (a : α) (v : β) : (a, v) ∈ XM.aput m a v := by
  induction m with
  | nil => simp [XM.aput]
  | cons q r ih =>
    rw [XM.aput]
    split
    · simp
    · exact List.mem_cons_of_mem _ ih
theorem XM.mem_aput_other' {α β : Type} [DecidableEq α] {m : List (α × β)} {a : α} {v : β} {e : α × β} (he : e ∈ m) (hn : e.1 ≠ a) : e ∈ XM.aput m a v := by
  induction m with
  | nil => cases he
  | cons q r ih =>
    rw [XM.aput]
    rcases List.mem_cons.1 he with rfl | he
    · rw [if_neg hn]; simp
    · split
      · exact List.mem_cons_of_mem _ he
      · exact List.mem_cons_of_mem _ (ih he)
namespace Tk
open Buf (Mp Held pts)
/-- A block's entries. -/
def ofB (blk : Int) (m : Mp) : Mp := m.filter (fun e => e.1.blk == blk)
theorem ofB_append (blk : Int) (m m' : Mp) : ofB blk (m ++ m') = ofB blk m ++ ofB blk m' := by unfold ofB; exact List.filter_append _ _
theorem ofB_one {blk : Int} {e : Buf.Place × Held} (h : e.1.blk = blk) : ofB blk [e] = [e] := by unfold ofB; rw [List.filter_cons, if_pos (by simpa using h)]; rfl
theorem ofB_none {blk : Int} {e : Buf.Place × Held} (h : e.1.blk ≠ blk) : ofB blk [e] = [] := by unfold ofB; rw [List.filter_cons, if_neg (by simpa using h)]; rfl
theorem pts_append (i : ByteArray) (m m' : Mp) : pts i (m ++ m') = pts i m ++ pts i m' := by unfold pts; rw [List.filter_append, List.map_append]
theorem pts_one (x : Buf.Place) (y : Held) : pts x.idn [(x, y)] = [y.p] := by unfold pts; rw [List.filter_cons, if_pos (by simp)]; rfl
theorem pts_other {i : ByteArray} {x : Buf.Place} {y : Held} (h : x.idn ≠ i) : pts i [(x, y)] = [] := by unfold pts; rw [List.filter_cons, if_neg (by simpa using h)]; rfl
theorem pts_none {i : ByteArray} {m : Mp} (h : ∀ x ∈ m, x.1.idn ≠ i) : pts i m = [] := by
  unfold pts
  rw [List.filter_eq_nil_iff.2 (fun e he => by simpa using h e he)]
  rfl
theorem R24 {w : World} {base : Nat} {ok ok' : Nat → Prop} {v : Value} {xs : List Pt} (h : Kd.R k24 24 w base ok v xs) (h' : ∀ k, v.ownBlock = some k → ok' k) : Kd.R k24 24 w base ok' v xs :=
  ⟨h', h.2.imp_ (fun p c hp => by obtain rfl := k24_openM hp; exact k24_mkM _ _ _ p)⟩
theorem R24_cells {w : World} {base : Nat} {ok : Nat → Prop} {v : Value} {xs : List Pt} (h : Kd.R k24 24 w base ok v xs) : ∀ k, v.ownBlock = some k → ∃ cur, w.heap[k]? = some (.cells cur 24 (0, 0)) := by
  intro k hk
  obtain ⟨inner, ho⟩ := Kd.R_own h
  rcases ho with ⟨_, ⟨rfl, _⟩ | ⟨gb, cap, cur, rfl, _, hh, _⟩⟩
  · cases hk
  · have : gb = k := by simpa [Value.ownBlock] using hk
    subst this
    exact ⟨cur, hh⟩
theorem R24_grown {w w' : World} {base : Nat} {v : Value} {xs : List Pt} {row : Option Nat} (h : Kd.R k24 24 w base (fun _ => True) v xs) (hg : w.grownBy w' row) (hne : ∀ k, v.ownBlock = some k → some k ≠ row) : Kd.R k24 24 w' base (fun _ => True) v xs :=
  R24 (Kd.R_grown (R24 h (ok' := fun k => some k ≠ row) hne) hg (fun _ hk => hk)) (fun _ _ => trivial)
structure GI (w : World) (mb base : Nat) (blk : Int) (done : Mp) (gm : Gm) : Prop where
  map : GM w mb gm
  rows : ∀ e ∈ gm, Kd.R k24 24 w base (fun _ => True) e.2.1 e.2.2
  apart : ∀ e ∈ gm, ∀ e' ∈ gm, e.1 ≠ e'.1 → ∀ k, e.2.1.ownBlock = some k → e'.2.1.ownBlock ≠ some k
  pts : ∀ e ∈ gm, e.2.2 = pts e.1 (ofB blk done)
  ne : ∀ e ∈ gm, e.2.2 ≠ []
  all : ∀ x ∈ ofB blk done, ∃ e ∈ gm, e.1 = x.1.idn
theorem GI.below {w w' : World} {mb base : Nat} {blk : Int} {done : Mp} {gm : Gm} (h : GI w mb base blk done gm) (hb : Below w.heap.size w w') : GI w' mb base blk done gm :=
  ⟨XM.MapIs.below h.map hb, fun e he => Kd.R_below (h.rows e he) hb, h.apart, h.pts, h.ne, h.all⟩
/-- A block has been written that is neither the map nor a row of points. -/
theorem GI.grown {w w' : World} {mb base r : Nat} {blk : Int} {done : Mp} {gm : Gm} (h : GI w mb base blk done gm) (hg : w.grownBy w' (some r)) (h1 : mb ≠ r) (h2 : ∀ cur, w.heap[r]? ≠ some (.cells cur 24 (0, 0))) : GI w' mb base blk done gm :=
  ⟨XM.MapIs.kept h.map hg (fun e => h1 (by cases e; rfl)), fun e he => R24_grown (h.rows e he) hg (fun k hk e2 => by cases e2; obtain ⟨cur, hc⟩ := R24_cells (h.rows e he) r hk; exact h2 cur hc), h.apart, h.pts, h.ne, h.all⟩
theorem GI.nil (w : World) (mb base : Nat) (blk : Int) (h : GM w mb []) : GI w mb base blk [] [] := ⟨h, by simp, by simp, by simp, by simp, by simp [ofB]⟩
theorem GI.other {w : World} {mb base : Nat} {blk : Int} {done : Mp} {gm : Gm} (h : GI w mb base blk done gm) {x : Buf.Place × Held} (hx : x.1.blk ≠ blk) : GI w mb base blk (done ++ [x]) gm := by
  have e : ofB blk (done ++ [x]) = ofB blk done := by rw [ofB_append, ofB_none hx, List.append_nil]
  exact ⟨h.map, h.rows, h.apart, by rw [e]; exact h.pts, h.ne, by rw [e]; exact h.all⟩
/-- What the map has at a name: a nil slice, if nothing. -/
def cur (gm : Gm) (i : ByteArray) : Value × List Pt := (XM.aget gm i).getD (.slice none 0 0, [])
theorem GI.cur_R {w : World} {mb base : Nat} {blk : Int} {done : Mp} {gm : Gm} (h : GI w mb base blk done gm) (i : ByteArray) : Kd.R k24 24 w base (fun _ => True) (cur gm i).1 (cur gm i).2 := by
  unfold cur
  cases hg : XM.aget gm i with
  | none => exact Kd.R_nil _ _ _ _ _
  | some v => exact h.rows _ (XM.aget_some hg)
theorem GI.cur_pts {w : World} {mb base : Nat} {blk : Int} {done : Mp} {gm : Gm} (h : GI w mb base blk done gm) (i : ByteArray) : (cur gm i).2 = Buf.pts i (ofB blk done) := by
  unfold cur
  cases hg : XM.aget gm i with
  | none =>
    refine (pts_none (fun x hx he => ?_)).symm
    obtain ⟨e, he1, he2⟩ := h.all x hx
    have := XM.aget_mem h.map.nodup he1
    rw [he2, he, hg] at this
    cases this
  | some v => exact h.pts _ (XM.aget_some hg)
theorem zSl : ∀ w, (zeroValue 29).run Try.prog w = .ok (.slice none 0 0) w := fun w => by kernel_rfl
/-- Looking a name up. -/
theorem GI.look {w : World} {mb base : Nat} {blk : Int} {done : Mp} {gm : Gm} (h : GI w mb base blk done gm) (i : ByteArray) (hi : i.size ≤ maxLen) : (Instr.lookup 70 (.map (some mb)) (.string i) false).run Try.prog w = .ok (cur gm i).1 w := by
  unfold cur
  cases hg : XM.aget gm i with
  | none => exact XM.MapIs.look_none h.map encS Try.underlying70 (zSl w) (isKS i hi) false hg
  | some v => exact XM.MapIs.look_some h.map encS Try.underlying70 (isKS i hi) false hg
theorem GI.step {w w1 : World} {mb base : Nat} {blk : Int} {done : Mp} {gm : Gm} (h : GI w mb base blk done gm) (x : Buf.Place) (y : Held) (hx : x.blk = blk) (hk : x.idn.size ≤ maxLen) {v1 : Value}
    (hR : Kd.R k24 24 w1 base (fun _ => True) v1 ((cur gm x.idn).2 ++ [y.p])) (hg : w.grownBy w1 (cur gm x.idn).1.ownBlock) (hat : v1.ownBlock = (cur gm x.idn).1.ownBlock ∨ ∃ b, v1.ownBlock = some b ∧ w.heap.size ≤ b) (hlen : gm.length < maxLen) :
    ∃ X, (Instr.mapUpdate 70 (.map (some mb)) (.string x.idn) v1).run Try.prog w1 = .ok () X ∧ GI X mb base blk (done ++ [(x, y)]) (XM.aput gm x.idn (v1, (cur gm x.idn).2 ++ [y.p])) ∧ w1.grownBy X (some mb) ∧ X.heap.size = w1.heap.size := by
  have hcR := h.cur_R x.idn
  have hmb : some mb ≠ (cur gm x.idn).1.ownBlock := by
    intro e
    obtain ⟨c, hc⟩ := R24_cells hcR mb e.symm
    exact XM.MapIs.noCells h.map hc rfl
  have hm1 : GM w1 mb gm := XM.MapIs.kept h.map hg hmb
  obtain ⟨X, hrun, hmap, hgX, hsz⟩ := XM.MapIs.store hm1 encS Try.underlying70 (isKS x.idn hk) hlen (v1, (cur gm x.idn).2 ++ [y.p])
  have hnd := hmap.nodup
  have key : ∀ e ∈ XM.aput gm x.idn (v1, (cur gm x.idn).2 ++ [y.p]), (e.1 = x.idn ∧ e = (x.idn, (v1, (cur gm x.idn).2 ++ [y.p]))) ∨ (e.1 ≠ x.idn ∧ e ∈ gm) := by
    intro e he
    by_cases hq : e.1 = x.idn
    · left
      refine ⟨hq, ?_⟩
      have h1 := XM.aget_mem hnd he
      have h2 : XM.aget (XM.aput gm x.idn (v1, (cur gm x.idn).2 ++ [y.p])) x.idn = some (v1, (cur gm x.idn).2 ++ [y.p]) := by
        have hself := XM.mem_aput_self' gm x.idn (v1, (cur gm x.idn).2 ++ [y.p])
        exact XM.aget_mem hnd hself
      rw [hq, h2] at h1
      exact Prod.ext hq (Option.some.inj h1).symm
    · right
      refine ⟨hq, ?_⟩
      rcases XM.mem_aput he with h1 | h1
      · exact h1
      · exact absurd (by rw [h1]) hq
  have own1 : ∀ e ∈ gm, e.1 ≠ x.idn → ∀ k, e.2.1.ownBlock = some k → some k ≠ (cur gm x.idn).1.ownBlock ∧ v1.ownBlock ≠ some k := by
    intro e he hq k hk2
    have hne1 : some k ≠ (cur gm x.idn).1.ownBlock := by
      unfold cur
      cases hg2 : XM.aget gm x.idn with
      | none => intro e2; cases e2
      | some v => exact fun e2 => h.apart e he (x.idn, v) (XM.aget_some hg2) hq k hk2 e2.symm
    refine ⟨hne1, ?_⟩
    rcases hat with h1 | ⟨b, h1, h2⟩
    · rw [h1]; exact fun e2 => hne1 e2.symm
    · rw [h1]
      intro e2
      have e3 : b = k := by cases e2; rfl
      have := Kd.R_lt (h.rows e he) k hk2
      omega
  have hX : ∀ {v : Value} {xs : List Pt}, Kd.R k24 24 w1 base (fun _ => True) v xs → Kd.R k24 24 X base (fun _ => True) v xs := fun hr => R24_grown hr hgX (fun k hk2 e => by
    cases e
    obtain ⟨c, hc⟩ := R24_cells hr mb hk2
    exact XM.MapIs.noCells hm1 hc rfl)
  have e1 : ofB blk (done ++ [(x, y)]) = ofB blk done ++ [(x, y)] := by rw [ofB_append, ofB_one hx]
  refine ⟨X, hrun, ⟨hmap, fun e he => ?_, fun e he e' he' hq k hk2 => ?_, fun e he => ?_, fun e he => ?_, fun z hz => ?_⟩, hgX, hsz⟩
  · rcases key e he with ⟨_, rfl⟩ | ⟨h1, h2⟩
    · exact hX hR
    · exact hX (R24_grown (h.rows e h2) hg (fun k hk2 => (own1 e h2 h1 k hk2).1))
  · rcases key e he with ⟨_, rfl⟩ | ⟨h1, h2⟩
    · rcases key e' he' with ⟨h3, rfl⟩ | ⟨h3, h4⟩
      · exact absurd rfl hq
      · exact fun e2 => (own1 e' h4 h3 k e2).2 hk2
    · rcases key e' he' with ⟨h3, rfl⟩ | ⟨h3, h4⟩
      · exact (own1 e h2 h1 k hk2).2
      · exact h.apart e h2 e' h4 hq k hk2
  · rw [e1, pts_append]
    rcases key e he with ⟨_, rfl⟩ | ⟨h1, h2⟩
    · show (cur gm x.idn).2 ++ [y.p] = _
      rw [h.cur_pts, pts_one]
    · rw [pts_other (fun e2 => h1 e2.symm), List.append_nil]
      exact h.pts e h2
  · rcases key e he with ⟨_, rfl⟩ | ⟨h1, h2⟩
    · simp
    · exact h.ne e h2
  · rw [e1] at hz
    rcases List.mem_append.1 hz with hz | hz
    · obtain ⟨e, he1, he2⟩ := h.all z hz
      by_cases hq : e.1 = x.idn
      · have hself := XM.mem_aput_self' gm x.idn (v1, (cur gm x.idn).2 ++ [y.p])
        exact ⟨_, hself, by rw [← he2, hq]⟩
      · exact ⟨e, XM.mem_aput_other' he1 hq, he2⟩
    · have := List.mem_singleton.1 hz
      subst this
      have hself := XM.mem_aput_self' gm x.idn (v1, (cur gm x.idn).2 ++ [y.p])
      exact ⟨_, hself, rfl⟩
end Tk
end Go.Proofs.Ytmocpglnoehknaa
