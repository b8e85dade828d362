/- merge.Merge: the view of all points. -/
import Derived.Test.YtmocpglnoehknaaQT0
import Derived.Test.YtmocpglnoehknaaLayE
import Derived.WalkKit
import Derived.Lib.Hide
import Derived.Outline
import Derived.Test.YtmocpglnoehknaaProg
import Derived.Below
import Derived.Deep.Draws
import Derived.Deep.AppendLies
import Derived.Maps.AppendAt
import Derived.OwnWalk
import Derived.Laws.BytesArg
import Derived.Laws.MakeOwn
import Derived.Laws.OwnMore
import Derived.Deep.OwnRows
import Derived.Tactics
import Derived.Lib.ConvBytes
import Derived.Laws.Slices
import Derived.KernelRfl
import Derived.RowKit3
import Derived.Deep.LoopGhost
import Derived.Deep.QuietTactic
import Derived.BigQuiet
import Derived.WideLaws
import Derived.Deep.DeepCutAuto
import Derived.Deep.CutBlock
import Derived.Deep.RegionHeld3
import Derived.Laws.Rows
import Derived.Lib.AppendStr
import Derived.ArgAppend
import Derived.Laws.IdiomCopy
import Derived.OrdersHeld
import Derived.Laws.BitsLemmas
import Derived.RowKit
import Derived.Maps.RangeWalk
import Derived.Test.YtmocpglnoehknaaWMore
import Derived.Test.YtmocpglnoehknaaWLast
import Derived.Test.YtmocpglnoehknaaWApart
import Derived.Lib.SliceRun
import Derived.Test.YtmocpglnoehknaaWWords
import Derived.Test.YtmocpglnoehknaaWTab
import Derived.Test.YtmocpglnoehknaaWFour
import Derived.Test.YtmocpglnoehknaaWQPut
import Derived.Test.YtmocpglnoehknaaWArr
import Derived.Test.YtmocpglnoehknaaWZeros
import Derived.Test.YtmocpglnoehknaaWFoot
import Derived.Test.YtmocpglnoehknaaWKept
import Derived.Test.YtmocpglnoehknaaWShare
import Derived.Test.YtmocpglnoehknaaWN
import Derived.Test.YtmocpglnoehknaaWFootNe
import Derived.Test.YtmocpglnoehknaaWAt
import Derived.Test.YtmocpglnoehknaaWEqStruct
import Derived.Test.YtmocpglnoehknaaWRepsOne
import Derived.Test.YtmocpglnoehknaaWInv
import Derived.Test.YtmocpglnoehknaaWInvWords
import Derived.Test.YtmocpglnoehknaaWGuard
import Derived.Test.YtmocpglnoehknaaWNEv

/- merge.Wins, merge.ahead: what they answer; they lay blocks and draw, and do nothing else. -/
namespace Go.Proofs.Ytmocpglnoehknaa
set_option linter.unusedVariables false
set_option linter.unusedSimpArgs false
open Go.RowKit Go.Proofs.YtmocpglnoehknaaW.PrintWords Go.Proofs.YtmocpglnoehknaaW.PrintLast Go.Proofs.YtmocpglnoehknaaW.PrintMore Go.Proofs.Ytmocpglnoehknaa.QT Go.Sort
instance : Inhabited S24 := ⟨z24⟩
def cellsPoint (x : S24) : List Value := [.int .i64 x.f0, .int .u64 x.f1, .int .u64 x.f2]
/-- Wins. -/
def winsP (a b : S24) : Bool := decide (a.f2 > b.f2) || (a.f2 == b.f2 && decide (a.f1 > b.f1))
/-- What lays blocks and draws alone. -/
def Lays (W w' : World) : Prop := ∃ q os, w' = grow (W.drewN q) os
set_option maxHeartbeats 2000000 in
theorem wins_calls (a b : S24) (W : World) : Calls Try.prog 26 #[.agg #[.int .i64 a.f0, .int .u64 a.f1, .int .u64 a.f2], .agg #[.int .i64 b.f0, .int .u64 b.f1, .int .u64 b.f2]] W fun e w' => e = .returned (.bool (winsP a b)) ∧ Lays W w' := by
  obtain ⟨a0, a1, a2⟩ := a
  obtain ⟨b0, b1, b2⟩ := b
  have hw : winsP ⟨a0, a1, a2⟩ ⟨b0, b1, b2⟩ = (decide (a2 > b2) || (a2 == b2 && decide (a1 > b1))) := rfl
  rw [hw]
  clear hw
  by_cases h1 : a2 > b2
  · have h1b : decide (a2 > b2) = true := decide_eq_true h1
    rw [h1b, Bool.true_or]
    clear h1
    go_enter Try.func26, Try.ntmps26
    go_wp2
    go_ret
    exact ⟨rfl, 0, _, by rw [alloc_eq_grow, alloc_eq_grow, grow_grow]; rfl⟩
  · have h1b : decide (a2 > b2) = false := decide_eq_false h1
    rw [h1b, Bool.false_or]
    by_cases h2 : a2 = b2
    · subst h2
      have h2b : (a2 == a2) = true := by simp
      rw [h2b, Bool.true_and]
      clear h1
      obtain ⟨c, hc⟩ : ∃ c, decide (a1 > b1) = c := ⟨_, rfl⟩
      rw [hc]
      go_enter Try.func26, Try.ntmps26
      go_wp2
      go_ret
      exact ⟨rfl, 0, _, by rw [alloc_eq_grow, alloc_eq_grow, grow_grow]; rfl⟩
    · have h2b : (a2 == b2) = false := by simpa using h2
      rw [h2b, Bool.false_and]
      clear h1 h2
      go_enter Try.func26, Try.ntmps26
      go_wp2
      go_ret
      exact ⟨rfl, 0, _, by rw [alloc_eq_grow, alloc_eq_grow, grow_grow]; rfl⟩
theorem Lays.refl (W : World) : Lays W W := ⟨0, #[], by rw [grow_empty]; rfl⟩
theorem Lays.trans {a b c : World} (h : Lays a b) (k : Lays b c) : Lays a c := by
  obtain ⟨q, os, rfl⟩ := h
  obtain ⟨q', os', rfl⟩ := k
  exact ⟨q + q', os ++ os', by simp [grow, World.drewN, Nat.add_assoc]⟩
theorem Lays.alloc {a b : World} (h : Lays a b) (o : Obj) : Lays a (b.alloc o) := h.trans ⟨0, #[o], by rw [alloc_eq_grow]; rfl⟩
theorem Lays.below {W w' : World} (h : Lays W w') : Below W.heap.size W w' := by
  obtain ⟨q, os, rfl⟩ := h
  refine ⟨rfl, rfl, rfl, by simp [grow, World.drewN], fun k hk => ?_⟩
  simp only [grow, World.drewN]
  rw [Array.getElem?_append_left hk]

/-- ahead: by times, of one time the one that wins. -/
def aheadP (a b : S24) : Int := if a.f0 = b.f0 then (if winsP a b = true then -1 else if winsP b a = true then 1 else 0) else if a.f0 < b.f0 then -1 else 1
end Go.Proofs.Ytmocpglnoehknaa

/- slices.SortFunc at Points by merge.ahead: the row sorted. -/
namespace Go.Proofs.Ytmocpglnoehknaa
set_option linter.unusedVariables false
set_option linter.unusedSimpArgs false
open Go.RowKit Go.Proofs.YtmocpglnoehknaaW.PrintWords Go.Proofs.YtmocpglnoehknaaW.PrintLast Go.Proofs.YtmocpglnoehknaaW.PrintMore Go.Proofs.Ytmocpglnoehknaa.QT Go.Sort
local instance : Inhabited S24 := ⟨z24⟩
theorem flat_len : ∀ l : List S24, (l.flatMap cellsPoint).length = l.length * 3
  | [] => rfl
  | y :: ys => by rw [List.flatMap_cons, List.length_append, flat_len ys]; simp [cellsPoint]; omega
theorem flat_at : ∀ (l : List S24) (j : Nat), j < l.length * 3 → (l.flatMap cellsPoint)[j]? = some ((cellsPoint l[j / 3]!)[j % 3]!)
  | [], j, h => by simp at h
  | y :: ys, j, h => by
    rw [List.flatMap_cons]
    by_cases hj : j < 3
    · rw [List.getElem?_append_left (by simpa [cellsPoint] using hj), Nat.div_eq_of_lt hj, Nat.mod_eq_of_lt hj]
      match j, hj with
      | 0, _ => rfl
      | 1, _ => rfl
      | 2, _ => rfl
    · rw [List.getElem?_append_right (by simp [cellsPoint]; omega), show j - (cellsPoint y).length = j - 3 from rfl, flat_at ys (j - 3) (by simp at h; omega)]
      rw [show j / 3 = (j - 3) / 3 + 1 from by omega, show j % 3 = (j - 3) % 3 from by omega, List.getElem!_cons_succ]
theorem flat_reps (l : List S24) (W : World) (base : Nat) (ok : Nat → Prop) : Reps (k24.M W base ok) 3 l (l.flatMap cellsPoint) := by
  refine ⟨flat_len l, fun j x hj => ?_⟩
  have hjl : j < l.length := (List.getElem?_eq_some_iff.1 hj).1
  have e4 : ((l.flatMap cellsPoint).drop (j * 3)).take 3 = cellsPoint x := by
    apply List.ext_getElem?
    intro i
    by_cases hi4 : i < 3
    · rw [List.getElem?_take_of_lt hi4, List.getElem?_drop, flat_at l _ (by omega), show (j * 3 + i) / 3 = j from by omega, show (j * 3 + i) % 3 = i from by omega, show l[j]! = x from by simp [List.getElem!_eq_getElem?_getD, hj]]
      match i, hi4 with
      | 0, _ => rfl
      | 1, _ => rfl
      | 2, _ => rfl
    · rw [List.getElem?_eq_none (by rw [List.length_take]; omega), List.getElem?_eq_none (by simp [cellsPoint]; omega)]
  rw [e4]
  exact k24_mkM _ _ _ x

/-- A row whose cells were put anew. -/
theorem row_put (w : World) (base gb n cap m : Nat) (P0 : Nat → Prop) (l l' : List S24) (os : Array Obj) (hl : l'.length = l.length) (hR : Kd.R k24 24 w base P0 (.slice (some ⟨gb, 0, none⟩) n cap) l) :
    Kd.R k24 24 (sortWorldK cellsPoint 3 w gb 0 m l'.toArray os) base P0 (.slice (some ⟨gb, 0, none⟩) n cap) l' ∧ w.grownBy (sortWorldK cellsPoint 3 w gb 0 m l'.toArray os) (some gb) := by
  obtain ⟨hok, inner, ho, hr⟩ := hR
  obtain ⟨hil, ⟨hv, _⟩ | ⟨g, cap', cur, hv, hb, hh, hn, hcm, hcs, htk⟩⟩ := ho
  · cases hv
  · cases hv
    have hlt : gb < w.heap.size := (Array.getElem?_eq_some_iff.1 hh).1
    have hget : (sortWorldK cellsPoint 3 w gb 0 m l'.toArray os).heap[gb]? = some (.cells (putCells id 0 (flatK cellsPoint 3 l'.toArray) cur) 24 (0, 0)) := by
      unfold sortWorldK putRowK putRow mapBlock grow Go.Sort.ahead
      simp only
      rw [Array.getElem?_append_left (by simpa using hlt), Array.getElem?_modify, if_pos rfl, hh]
      rfl
    refine ⟨⟨hok, l'.flatMap cellsPoint, ⟨flat_len l', .inr ⟨gb, cap, _, by rw [hl], hb, hget, by rw [hl]; exact hn, hcm, by simp [putCells, hcs], ?_⟩⟩, flat_reps _ _ _ _⟩, ⟨rfl, rfl, rfl, ?_, fun k hk hne => ?_⟩⟩
    · apply List.ext_getElem?
      intro j
      have hcz : cur.size = cap * 3 := hcs
      have hcl : (k24.sz) = 3 := rfl
      by_cases hj : j < l'.length * 3
      · rw [hcl, List.getElem?_take_of_lt hj, flat_at l' j hj, Array.getElem?_toList]
        unfold putCells
        rw [Array.getElem?_mapIdx]
        have hjc : j < cur.size := by omega
        rw [Array.getElem?_eq_getElem hjc, Option.map_some, if_pos ⟨Nat.zero_le _, by rw [size_flatK]; simp; omega⟩, Nat.sub_zero, get_flatK _ _ _ _ (by simpa using hj)]
        simp
      · rw [List.getElem?_eq_none (by rw [List.length_take, hcl]; omega), List.getElem?_eq_none (by rw [flat_len]; omega)]
    · simp [sortWorldK, putRowK, putRow, mapBlock, grow, Go.Sort.ahead]
    · have hne' : gb ≠ k := fun e => hne (by rw [e])
      unfold sortWorldK putRowK putRow mapBlock grow Go.Sort.ahead
      simp only
      rw [Array.getElem?_append_left (by simpa using hk), Array.getElem?_modify, if_neg hne']

theorem row_holds (w : World) (base gb n cap : Nat) (P0 : Nat → Prop) (l : List S24) (hR : Kd.R k24 24 w base P0 (.slice (some ⟨gb, 0, none⟩) n cap) l) : HoldsK cellsPoint 3 w gb 0 l.toArray := by
  intro j hj
  rw [size_flatK] at hj
  have hj' : j < l.length * 3 := by simpa using hj
  obtain ⟨hn, _, _⟩ := Kd.R_reads' hR
  obtain ⟨c, hcl, hM, hcc, hfr⟩ := Kd.R_elem hR z24 ((j / 3 : Nat) : Int) (by omega) (by omega)
  rw [Int.toNat_natCast] at hM hcc hfr
  obtain rfl := k24_openM hM
  have e : (flatK cellsPoint 3 l.toArray)[j]! = (cellsPoint (l.getD (j / 3) z24))[j % 3]! := by
    rw [get_flatK _ _ _ _ hj]
    congr 2
    simp [List.getD_eq_getElem?_getD, List.getElem!_eq_getElem?_getD]
    rfl
  rw [e, Nat.zero_add]
  have e3 : j / 3 * 3 + j % 3 = j := by omega
  have h3 : j % 3 < 3 := Nat.mod_lt _ (by omega)
  constructor
  · have := hcc (j % 3) _ (List.getElem?_eq_getElem (by simpa using h3))
    rw [show k24.sz = 3 from rfl, e3] at this
    rw [this]
    simp only [id, cellsPoint]
    rw [getElem!_pos _ _ (by simpa using h3)]
  · have := hfr (j % 3)
    rw [show k24.sz = 3 from rfl, e3] at this
    exact this

/-! The order. -/
def ltA (a b : S24) : Bool := ltOf aheadP a b
theorem ltA_iff (a b : S24) : ltA a b = true ↔ a.f0 < b.f0 ∨ (a.f0 = b.f0 ∧ (a.f2 > b.f2 ∨ (a.f2 = b.f2 ∧ a.f1 > b.f1))) := by
  unfold ltA ltOf aheadP winsP
  rw [decide_eq_true_iff]
  simp only [Bool.or_eq_true, Bool.and_eq_true, decide_eq_true_eq, beq_iff_eq]
  split
  · split
    · constructor <;> intro <;> omega
    · split
      · constructor
        · intro h; omega
        · intro h; omega
      · constructor
        · intro h; omega
        · intro h; omega
  · split
    · constructor <;> intro <;> omega
    · constructor <;> intro <;> omega
theorem ltA_false (a b : S24) : ltA a b = false ↔ ¬ (a.f0 < b.f0 ∨ (a.f0 = b.f0 ∧ (a.f2 > b.f2 ∨ (a.f2 = b.f2 ∧ a.f1 > b.f1)))) := by
  rw [← ltA_iff, Bool.not_eq_true]
theorem swoA : SWO (ltOf (aheadP)) := by
  refine ⟨fun x => ?_, fun x y z h h' => ?_, fun x y z h h' => ?_⟩
  · exact (ltA_false x x).2 (by omega)
  · exact (ltA_iff x z).2 (by have h1 := (ltA_iff x y).1 h; have h2 := (ltA_iff y z).1 h'; omega)
  · exact (ltA_false x z).2 (by have h1 := (ltA_false x y).1 h; have h2 := (ltA_false y z).1 h'; omega)
abbrev UpA (l : List S24) : Prop := l.Pairwise (fun a b => ltA b a = false)
def insA (x : S24) : List S24 → List S24
  | [] => [x]
  | y :: r => if ltA y x then y :: insA x r else x :: y :: r
def srtA : List S24 → List S24
  | [] => []
  | x :: r => insA x (srtA r)
theorem insA_perm (x : S24) : ∀ r, (insA x r).Perm (x :: r)
  | [] => List.Perm.refl _
  | y :: r => by
    unfold insA
    split
    · exact ((insA_perm x r).cons y).trans (List.Perm.swap _ _ _)
    · exact List.Perm.refl _
theorem insA_up (x : S24) : ∀ r, UpA r → UpA (insA x r)
  | [], _ => List.pairwise_singleton _ _
  | y :: r, h => by
    have h1 := List.pairwise_cons.1 h
    unfold insA
    split
    · rename_i hyx
      refine List.pairwise_cons.2 ⟨fun z hz => ?_, insA_up x r h1.2⟩
      rcases List.mem_cons.1 ((insA_perm x r).mem_iff.1 hz) with rfl | hz
      · rw [ltA_iff] at hyx; rw [ltA_false]; omega
      · exact h1.1 z hz
    · rename_i hyx
      rw [Bool.not_eq_true] at hyx
      refine List.pairwise_cons.2 ⟨fun z hz => ?_, h⟩
      rcases List.mem_cons.1 hz with rfl | hz
      · exact hyx
      · exact swoA.ntrans _ _ _ (h1.1 z hz) hyx
theorem srtA_perm : ∀ l, (srtA l).Perm l
  | [] => List.Perm.refl _
  | x :: r => (insA_perm x _).trans ((srtA_perm r).cons x)
theorem srtA_up : ∀ l, UpA (srtA l)
  | [] => List.Pairwise.nil
  | x :: r => insA_up x _ (srtA_up r)
theorem aggPoint : ∀ w, (isAgg 24).run Try.prog w = .ok true w := fun w => by kernel_rfl
theorem sizePoint : ∀ w, (Go.sizeOf 24).run Try.prog w = .ok 3 w := fun w => by kernel_rfl
end Go.Proofs.Ytmocpglnoehknaa

/- slices.CompactFunc at Points by times: of each run of equal times the first. Plain law. -/
namespace Go.Proofs.Ytmocpglnoehknaa
set_option linter.unusedVariables false
set_option linter.unusedSimpArgs false
open Go.RowKit Go.Proofs.YtmocpglnoehknaaW.PrintWords Go.Proofs.Ytmocpglnoehknaa.QT
def compFrom (p : S24) : List S24 → List S24
  | [] => []
  | y :: r => if y.f0 = p.f0 then compFrom y r else y :: compFrom y r
def compT : List S24 → List S24
  | [] => []
  | x :: r => x :: compFrom x r
end Go.Proofs.Ytmocpglnoehknaa

/- Views of points: strictly rising times, of each time the winner. What is a view of a list; there is just one; merge's result is one. -/
namespace Go.Proofs.Ytmocpglnoehknaa
set_option linter.unusedVariables false
set_option linter.unusedSimpArgs false
open Go.RowKit Go.Proofs.YtmocpglnoehknaaW.PrintWords Go.Proofs.Ytmocpglnoehknaa.QT Go.Sort
namespace Vw
abbrev Pt := S24
/-- p is no worse than q. -/
def Ge (p q : Pt) : Prop := p.f2 > q.f2 ∨ (p.f2 = q.f2 ∧ p.f1 ≥ q.f1)
theorem Ge.refl (p : Pt) : Ge p p := Or.inr ⟨rfl, Int.le_refl _⟩
theorem Ge.trans {p q r : Pt} (h : Ge p q) (k : Ge q r) : Ge p r := by unfold Ge at *; omega
theorem Ge.eq {p q : Pt} (h : Ge p q) (k : Ge q p) (ht : p.f0 = q.f0) : p = q := by
  obtain ⟨a, b, c⟩ := p
  obtain ⟨a', b', c'⟩ := q
  unfold Ge at *
  simp only at *
  obtain rfl : b = b' := by omega
  obtain rfl : c = c' := by omega
  subst ht
  rfl
/-- Strictly rising times. -/
abbrev Up (l : List Pt) : Prop := l.Pairwise (fun a b => a.f0 < b.f0)
/-- c stands for l: its points are l's, and each of l's is met by one of its time that is no worse. -/
def Dom (l c : List Pt) : Prop := (∀ p ∈ c, p ∈ l) ∧ ∀ q ∈ l, ∃ p ∈ c, p.f0 = q.f0 ∧ Ge p q
theorem Dom.refl (l : List Pt) : Dom l l := ⟨fun _ h => h, fun q h => ⟨q, h, rfl, Ge.refl q⟩⟩
theorem Dom.trans {l c d : List Pt} (h : Dom l c) (k : Dom c d) : Dom l d :=
  ⟨fun p hp => h.1 p (k.1 p hp), fun q hq => by
    obtain ⟨p, hp, h1, h2⟩ := h.2 q hq
    obtain ⟨r, hr, h3, h4⟩ := k.2 p hp
    exact ⟨r, hr, h3.trans h1, h4.trans h2⟩⟩
theorem Dom.of_mem {l c : List Pt} (h : ∀ p, p ∈ l ↔ p ∈ c) : Dom l c := ⟨fun p hp => (h p).2 hp, fun q hq => ⟨q, (h q).1 hq, rfl, Ge.refl q⟩⟩
theorem Dom.perm {l c : List Pt} (h : l.Perm c) : Dom l c := Dom.of_mem fun p => h.mem_iff
theorem Dom.append {l c l' c' : List Pt} (h : Dom l c) (k : Dom l' c') : Dom (l ++ l') (c ++ c') :=
  ⟨fun p hp => by
    rcases List.mem_append.1 hp with hp | hp
    · exact List.mem_append_left _ (h.1 p hp)
    · exact List.mem_append_right _ (k.1 p hp), fun q hq => by
    rcases List.mem_append.1 hq with hq | hq
    · obtain ⟨p, hp, r⟩ := h.2 q hq
      exact ⟨p, List.mem_append_left _ hp, r⟩
    · obtain ⟨p, hp, r⟩ := k.2 q hq
      exact ⟨p, List.mem_append_right _ hp, r⟩⟩
/-- v is the view of l. -/
def Is (l v : List Pt) : Prop := Up v ∧ Dom l v
theorem Is.of_dom {l c v : List Pt} (h : Dom l c) (k : Is c v) : Is l v := ⟨k.1, h.trans k.2⟩
theorem up_inj {v : List Pt} (h : Up v) {p q : Pt} (hp : p ∈ v) (hq : q ∈ v) (ht : p.f0 = q.f0) : p = q := by
  induction v with
  | nil => cases hp
  | cons a r ih =>
    obtain ⟨h1, h2⟩ := List.pairwise_cons.1 h
    rcases List.mem_cons.1 hp with ep | hp
    · rcases List.mem_cons.1 hq with eq | hq
      · rw [ep, eq]
      · have := h1 q hq
        rw [ep] at ht
        omega
    · rcases List.mem_cons.1 hq with eq | hq
      · have := h1 p hp
        rw [eq] at ht
        omega
      · exact ih h2 hp hq
theorem up_ext : ∀ {v v' : List Pt}, Up v → Up v' → (∀ p, p ∈ v ↔ p ∈ v') → v = v'
  | [], [], _, _, _ => rfl
  | [], b :: s, _, _, h => by have := (h b).2 (by simp); simp at this
  | a :: r, [], _, _, h => by have := (h a).1 (by simp); simp at this
  | a :: r, b :: s, h1, h2, h => by
    obtain ⟨a1, a2⟩ := List.pairwise_cons.1 h1
    obtain ⟨b1, b2⟩ := List.pairwise_cons.1 h2
    have hab : a = b := by
      rcases List.mem_cons.1 ((h a).1 (by simp)) with e | ha
      · exact e
      · rcases List.mem_cons.1 ((h b).2 (by simp)) with e | hb
        · exact e.symm
        · have := a1 b hb
          have := b1 a ha
          omega
    subst hab
    rw [up_ext a2 b2 (fun p => ⟨fun hp => by
      rcases List.mem_cons.1 ((h p).1 (by simp [hp])) with e | hp'
      · have := a1 p hp
        rw [e] at this
        omega
      · exact hp', fun hp => by
      rcases List.mem_cons.1 ((h p).2 (by simp [hp])) with e | hp'
      · have := b1 p hp
        rw [e] at this
        omega
      · exact hp'⟩)]
theorem Is.unique {l v v' : List Pt} (h : Is l v) (k : Is l v') : v = v' := by
  have one : ∀ {v v' : List Pt}, Is l v → Is l v' → ∀ p, p ∈ v → p ∈ v' := by
    intro v v' h k p hp
    obtain ⟨q, hq, h1, h2⟩ := k.2.2 p (h.2.1 p hp)
    obtain ⟨r, hr, h3, h4⟩ := h.2.2 q (k.2.1 q hq)
    have e : r = p := up_inj h.1 hr hp (h3.trans h1)
    subst e
    rw [h4.eq h2 h3]
    exact hq
  exact up_ext h.1 k.1 (fun p => ⟨one h k p, one k h p⟩)
theorem Is.nil : Is [] [] := ⟨List.Pairwise.nil, Dom.refl _⟩
/-- What compT leaves of a list in order. -/
theorem compFrom_mem (p : Pt) : ∀ (l : List Pt) (x : Pt), x ∈ compFrom p l → x ∈ l
  | [], x, h => by simp [compFrom] at h
  | y :: r, x, h => by
    unfold compFrom at h
    split at h
    · exact List.mem_cons_of_mem _ (compFrom_mem y r x h)
    · rcases List.mem_cons.1 h with rfl | h
      · simp
      · exact List.mem_cons_of_mem _ (compFrom_mem y r x h)
theorem up_lt {a b : Pt} (h : ltA b a = false) : a.f0 < b.f0 ∨ (a.f0 = b.f0 ∧ Ge a b) := by
  rw [ltA_false] at h
  unfold Ge
  omega
theorem compFrom_is (p : Pt) : ∀ (l : List Pt), UpA (p :: l) → Up (p :: compFrom p l) ∧ ∀ q ∈ l, ∃ x ∈ p :: compFrom p l, x.f0 = q.f0 ∧ Ge x q
  | [], _ => ⟨List.pairwise_singleton _ _, by simp⟩
  | y :: r, h => by
    obtain ⟨h1, h2⟩ := List.pairwise_cons.1 h
    obtain ⟨i1, i2⟩ := compFrom_is y r h2
    have hy := up_lt (h1 y (by simp))
    unfold compFrom
    split
    · rename_i e
      have hpy : Ge p y := by rcases hy with h | h; · omega
                              · exact h.2
      obtain ⟨j1, j2⟩ := List.pairwise_cons.1 i1
      refine ⟨List.pairwise_cons.2 ⟨fun z hz => by have := j1 z hz; omega, j2⟩, fun q hq => ?_⟩
      rcases List.mem_cons.1 hq with rfl | hq
      · exact ⟨p, by simp, e.symm, hpy⟩
      · obtain ⟨x, hx, h3, h4⟩ := i2 q hq
        rcases List.mem_cons.1 hx with rfl | hx
        · exact ⟨p, by simp, e.symm.trans h3, hpy.trans h4⟩
        · exact ⟨x, List.mem_cons_of_mem _ hx, h3, h4⟩
    · rename_i e
      have hpy : p.f0 < y.f0 := by rcases hy with h | h <;> omega
      refine ⟨List.pairwise_cons.2 ⟨fun z hz => ?_, i1⟩, fun q hq => ?_⟩
      · rcases List.mem_cons.1 hz with rfl | hz
        · exact hpy
        · have := (List.pairwise_cons.1 i1).1 z hz
          omega
      · rcases List.mem_cons.1 hq with rfl | hq
        · exact ⟨q, by simp, rfl, Ge.refl _⟩
        · obtain ⟨x, hx, h3, h4⟩ := i2 q hq
          exact ⟨x, List.mem_cons_of_mem _ hx, h3, h4⟩
theorem comp_is (l : List Pt) (h : UpA l) : Is l (compT l) := by
  match l, h with
  | [], _ => exact Is.nil
  | p :: r, h =>
    obtain ⟨h1, h2⟩ := compFrom_is p r h
    refine ⟨h1, fun x hx => ?_, fun q hq => ?_⟩
    · rcases List.mem_cons.1 hx with rfl | hx
      · simp
      · exact List.mem_cons_of_mem _ (compFrom_mem p r x hx)
    · rcases List.mem_cons.1 hq with rfl | hq
      · exact ⟨q, by simp [compT], rfl, Ge.refl _⟩
      · exact h2 q hq
/-- The view of any points. -/
def view (l : List Pt) : List Pt := compT (srtA l)
theorem view_is (l : List Pt) : Is l (view l) := Is.of_dom (Dom.perm (srtA_perm l).symm) (comp_is _ (srtA_up l))
theorem view_eq {l v : List Pt} (h : Is l v) : view l = v := (view_is l).unique h
theorem view_dom {l c : List Pt} (h : Dom l c) : view l = view c := view_eq (Is.of_dom h (view_is c))
end Vw
end Go.Proofs.Ytmocpglnoehknaa
namespace Go.Proofs.Ytmocpglnoehknaa
set_option linter.unusedVariables false
set_option linter.unusedSimpArgs false
open Go.RowKit Go.Proofs.YtmocpglnoehknaaW.PrintWords Go.Proofs.YtmocpglnoehknaaW.PrintLast Go.Proofs.YtmocpglnoehknaaW.PrintMore Go.Proofs.Ytmocpglnoehknaa.QT
namespace Mg
abbrev Pt := S24
end Mg
end Go.Proofs.Ytmocpglnoehknaa
