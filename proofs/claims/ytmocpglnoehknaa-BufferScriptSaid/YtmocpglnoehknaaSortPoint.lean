/- slices.SortFunc at Points by merge.ahead: the row sorted. -/
import Derived.Test.YtmocpglnoehknaaAhead
namespace Go.Proofs.Ytmocpglnoehknaa
set_option linter.unusedVariables false
set_option linter.unusedSimpArgs false
open Go.RowKit Go.Proofs.YtmocpglnoehknaaW.PrintWords Go.Proofs.YtmocpglnoehknaaW.PrintLast Go.Proofs.YtmocpglnoehknaaW.PrintMore Go.Proofs.Ytmocpglnoehknaa.QT Go.Sort
local instance : Inhabited S24 := ⟨z24⟩
theorem flat_len : ∀ l : List S24, (l.flatMap cellsPoint).length = l.length * 3
  | [] => rfl
  | y :: ys => by rw [List.flatMap_cons, List.length_append, flat_len ys]; simp [cellsPoint]; omega
theorem flat_at : ∀ (l : List S24) (j : Nat), j < l.length * 3 → (l.flatMap cellsPoint)[j]? = some ((cellsPoint l[j / 3]!)[j % 3]!)
  | [], j, h => by simp at h
  | y :: ys, j, h => by
    rw [List.flatMap_cons]
    by_cases hj : j < 3
    · rw [List.getElem?_append_left (by simpa [cellsPoint] using hj), Nat.div_eq_of_lt hj, Nat.mod_eq_of_lt hj]
      match j, hj with
      | 0, _ => rfl
      | 1, _ => rfl
      | 2, _ => rfl
    · rw [List.getElem?_append_right (by simp [cellsPoint]; omega), show j - (cellsPoint y).length = j - 3 from rfl, flat_at ys (j - 3) (by simp at h; omega)]
      rw [show j / 3 = (j - 3) / 3 + 1 from by omega, show j % 3 = (j - 3) % 3 from by omega, List.getElem!_cons_succ]
theorem flat_reps (l : List S24) (W : World) (base : Nat) (ok : Nat → Prop) : Reps (k24.M W base ok) 3 l (l.flatMap cellsPoint) := by
  refine ⟨flat_len l, fun j x hj => ?_⟩
  have hjl : j < l.length := (List.getElem?_eq_some_iff.1 hj).1
  have e4 : ((l.flatMap cellsPoint).drop (j * 3)).take 3 = cellsPoint x := by
    apply List.ext_getElem?
    intro i
    by_cases hi4 : i < 3
    · rw [List.getElem?_take_of_lt hi4, List.getElem?_drop, flat_at l _ (by omega), show (j * 3 + i) / 3 = j from by omega, show (j * 3 + i) % 3 = i from by omega, show l[j]! = x from by simp [List.getElem!_eq_getElem?_getD, hj]]
      match i, hi4 with
      | 0, _ => rfl
      | 1, _ => rfl
      | 2, _ => rfl
    · rw [List.getElem?_eq_none (by rw [List.length_take]; omega), List.getElem?_eq_none (by simp [cellsPoint]; omega)]
  rw [e4]
  exact k24_mkM _ _ _ x

/-- A row whose cells were put anew. -/
theorem row_put (w : World) (base gb n cap m : Nat) (P0 : Nat → Prop) (l l' : List S24) (os : Array Obj) (hl : l'.length = l.length) (hR : Kd.R k24 24 w base P0 (.slice (some ⟨gb, 0, none⟩) n cap) l) :
    Kd.R k24 24 (sortWorldK cellsPoint 3 w gb 0 m l'.toArray os) base P0 (.slice (some ⟨gb, 0, none⟩) n cap) l' ∧ w.grownBy (sortWorldK cellsPoint 3 w gb 0 m l'.toArray os) (some gb) := by
  obtain ⟨hok, inner, ho, hr⟩ := hR
  obtain ⟨hil, ⟨hv, _⟩ | ⟨g, cap', cur, hv, hb, hh, hn, hcm, hcs, htk⟩⟩ := ho
  · cases hv
  · cases hv
    have hlt : gb < w.heap.size := (Array.getElem?_eq_some_iff.1 hh).1
    have hget : (sortWorldK cellsPoint 3 w gb 0 m l'.toArray os).heap[gb]? = some (.cells (putCells id 0 (flatK cellsPoint 3 l'.toArray) cur) 24 (0, 0)) := by
      unfold sortWorldK putRowK putRow mapBlock grow Go.Sort.ahead
      simp only
      rw [Array.getElem?_append_left (by simpa using hlt), Array.getElem?_modify, if_pos rfl, hh]
      rfl
    refine ⟨⟨hok, l'.flatMap cellsPoint, ⟨flat_len l', .inr ⟨gb, cap, _, by rw [hl], hb, hget, by rw [hl]; exact hn, hcm, by simp [putCells, hcs], ?_⟩⟩, flat_reps _ _ _ _⟩, ⟨rfl, rfl, rfl, ?_, fun k hk hne => ?_⟩⟩
    · apply List.ext_getElem?
      intro j
      have hcz : cur.size = cap * 3 := hcs
      have hcl : (k24.sz) = 3 := rfl
      by_cases hj : j < l'.length * 3
      · rw [hcl, List.getElem?_take_of_lt hj, flat_at l' j hj, Array.getElem?_toList]
        unfold putCells
        rw [Array.getElem?_mapIdx]
        have hjc : j < cur.size := by omega
        rw [Array.getElem?_eq_getElem hjc, Option.map_some, if_pos ⟨Nat.zero_le _, by rw [size_flatK]; simp; omega⟩, Nat.sub_zero, get_flatK _ _ _ _ (by simpa using hj)]
        simp
      · rw [List.getElem?_eq_none (by rw [List.length_take, hcl]; omega), List.getElem?_eq_none (by rw [flat_len]; omega)]
    · simp [sortWorldK, putRowK, putRow, mapBlock, grow, Go.Sort.ahead]
    · have hne' : gb ≠ k := fun e => hne (by rw [e])
      unfold sortWorldK putRowK putRow mapBlock grow Go.Sort.ahead
      simp only
      rw [Array.getElem?_append_left (by simpa using hk), Array.getElem?_modify, if_neg hne']

theorem row_holds (w : World) (base gb n cap : Nat) (P0 : Nat → Prop) (l : List S24) (hR : Kd.R k24 24 w base P0 (.slice (some ⟨gb, 0, none⟩) n cap) l) : HoldsK cellsPoint 3 w gb 0 l.toArray := by
  intro j hj
  rw [size_flatK] at hj
  have hj' : j < l.length * 3 := by simpa using hj
  obtain ⟨hn, _, _⟩ := Kd.R_reads' hR
  obtain ⟨c, hcl, hM, hcc, hfr⟩ := Kd.R_elem hR z24 ((j / 3 : Nat) : Int) (by omega) (by omega)
  rw [Int.toNat_natCast] at hM hcc hfr
  obtain rfl := k24_openM hM
  have e : (flatK cellsPoint 3 l.toArray)[j]! = (cellsPoint (l.getD (j / 3) z24))[j % 3]! := by
    rw [get_flatK _ _ _ _ hj]
    congr 2
    simp [List.getD_eq_getElem?_getD, List.getElem!_eq_getElem?_getD]
    rfl
  rw [e, Nat.zero_add]
  have e3 : j / 3 * 3 + j % 3 = j := by omega
  have h3 : j % 3 < 3 := Nat.mod_lt _ (by omega)
  constructor
  · have := hcc (j % 3) _ (List.getElem?_eq_getElem (by simpa using h3))
    rw [show k24.sz = 3 from rfl, e3] at this
    rw [this]
    simp only [id, cellsPoint]
    rw [getElem!_pos _ _ (by simpa using h3)]
  · have := hfr (j % 3)
    rw [show k24.sz = 3 from rfl, e3] at this
    exact this

/-! The order. -/
def ltA (a b : S24) : Bool := ltOf aheadP a b
theorem ltA_iff (a b : S24) : ltA a b = true ↔ a.f0 < b.f0 ∨ (a.f0 = b.f0 ∧ (a.f2 > b.f2 ∨ (a.f2 = b.f2 ∧ a.f1 > b.f1))) := by
  unfold ltA ltOf aheadP winsP
  rw [decide_eq_true_iff]
  simp only [Bool.or_eq_true, Bool.and_eq_true, decide_eq_true_eq, beq_iff_eq]
  split
  · split
    · constructor <;> intro <;> omega
    · split
      · constructor
        · intro h; omega
        · intro h; omega
      · constructor
        · intro h; omega
        · intro h; omega
  · split
    · constructor <;> intro <;> omega
    · constructor <;> intro <;> omega
theorem ltA_false (a b : S24) : ltA a b = false ↔ ¬ (a.f0 < b.f0 ∨ (a.f0 = b.f0 ∧ (a.f2 > b.f2 ∨ (a.f2 = b.f2 ∧ a.f1 > b.f1)))) := by
  rw [← ltA_iff, Bool.not_eq_true]
theorem swoA : SWO (ltOf (aheadP)) := by
  refine ⟨fun x => ?_, fun x y z h h' => ?_, fun x y z h h' => ?_⟩
  · exact (ltA_false x x).2 (by omega)
  · exact (ltA_iff x z).2 (by have h1 := (ltA_iff x y).1 h; have h2 := (ltA_iff y z).1 h'; omega)
  · exact (ltA_false x z).2 (by have h1 := (ltA_false x y).1 h; have h2 := (ltA_false y z).1 h'; omega)
theorem ltA_eq {a b : S24} (h : ltA a b = false) (h' : ltA b a = false) : a = b := by
  have h1 := (ltA_false a b).1 h
  have h2 := (ltA_false b a).1 h'
  obtain ⟨a0, a1, a2⟩ := a
  obtain ⟨b0, b1, b2⟩ := b
  simp only at h1 h2
  obtain rfl : a0 = b0 := by omega
  obtain rfl : a2 = b2 := by omega
  obtain rfl : a1 = b1 := by omega
  rfl
abbrev UpA (l : List S24) : Prop := l.Pairwise (fun a b => ltA b a = false)
def insA (x : S24) : List S24 → List S24
  | [] => [x]
  | y :: r => if ltA y x then y :: insA x r else x :: y :: r
def srtA : List S24 → List S24
  | [] => []
  | x :: r => insA x (srtA r)
theorem insA_perm (x : S24) : ∀ r, (insA x r).Perm (x :: r)
  | [] => List.Perm.refl _
  | y :: r => by
    unfold insA
    split
    · exact ((insA_perm x r).cons y).trans (List.Perm.swap _ _ _)
    · exact List.Perm.refl _
theorem insA_up (x : S24) : ∀ r, UpA r → UpA (insA x r)
  | [], _ => List.pairwise_singleton _ _
  | y :: r, h => by
    have h1 := List.pairwise_cons.1 h
    unfold insA
    split
    · rename_i hyx
      refine List.pairwise_cons.2 ⟨fun z hz => ?_, insA_up x r h1.2⟩
      rcases List.mem_cons.1 ((insA_perm x r).mem_iff.1 hz) with rfl | hz
      · rw [ltA_iff] at hyx; rw [ltA_false]; omega
      · exact h1.1 z hz
    · rename_i hyx
      rw [Bool.not_eq_true] at hyx
      refine List.pairwise_cons.2 ⟨fun z hz => ?_, h⟩
      rcases List.mem_cons.1 hz with rfl | hz
      · exact hyx
      · exact swoA.ntrans _ _ _ (h1.1 z hz) hyx
theorem srtA_perm : ∀ l, (srtA l).Perm l
  | [] => List.Perm.refl _
  | x :: r => (insA_perm x _).trans ((srtA_perm r).cons x)
theorem srtA_up : ∀ l, UpA (srtA l)
  | [] => List.Pairwise.nil
  | x :: r => insA_up x _ (srtA_up r)
theorem upA_unique : ∀ {l r : List S24}, l.Perm r → UpA l → UpA r → l = r
  | [], r, h, _, _ => (List.eq_nil_of_length_eq_zero (by simpa using h.length_eq.symm)).symm
  | x :: l, [], h, _, _ => by have := h.length_eq; simp at this
  | x :: l, y :: r, h, hl, hr => by
    have e : x = y := by
      have h1 : ltA y x = false := by
        rcases List.mem_cons.1 (h.mem_iff.2 (List.mem_cons_self : y ∈ y :: r)) with e | hm
        · rw [e]; exact swoA.irrefl _
        · exact (List.pairwise_cons.1 hl).1 y hm
      have h2 : ltA x y = false := by
        rcases List.mem_cons.1 (h.mem_iff.1 (List.mem_cons_self : x ∈ x :: l)) with e | hm
        · rw [e]; exact swoA.irrefl _
        · exact (List.pairwise_cons.1 hr).1 x hm
      exact ltA_eq h2 h1
    subst e
    rw [upA_unique h.cons_inv (List.pairwise_cons.1 hl).2 (List.pairwise_cons.1 hr).2]

theorem enter_ahead : ∀ args w, (callFunc 43 args).run Try.prog w = .ok (.enter 43 args) w := fun args w => by kernel_rfl
theorem aggPoint : ∀ w, (isAgg 24).run Try.prog w = .ok true w := fun w => by kernel_rfl
theorem sizePoint : ∀ w, (Go.sizeOf 24).run Try.prog w = .ok 3 w := fun w => by kernel_rfl
/-- SortFunc at a row that is not nil. -/
theorem sort_row (base gb n cap : Nat) (P0 : Nat → Prop) (l : List S24) (w : World) (hR : Kd.R k24 24 w base P0 (.slice (some ⟨gb, 0, none⟩) n cap) l) (hb : l.length < 4611686018427387904) :
    Calls Try.prog 32 #[.slice (some ⟨gb, 0, none⟩) n cap, .func (.func 43) #[] #[]] w fun e w' => e = .returned (.tuple #[]) ∧ Kd.R k24 24 w' base P0 (.slice (some ⟨gb, 0, none⟩) n cap) (srtA l) ∧ w.grownBy w' (some gb) := by
  have hlt := Kd.R_lt hR gb rfl
  obtain ⟨hn, _, _⟩ := Kd.R_reads' hR
  have h := AnyQ.slices_SortFunc Try.sortPoint 3 aggPoint sizePoint cellsPoint (fun _ => rfl) (fun x v hv => by
    simp only [cellsPoint, List.mem_cons, List.not_mem_nil, or_false] at hv
    rcases hv with rfl | rfl | rfl <;> rfl) aheadP swoA 43 #[] gb 0 cap l.toArray w enter_ahead (fun m os dk _ x y => ahead_calls x y _) (row_holds w base gb n cap P0 l hR) hlt (by simpa using hb)
  have e : l.toArray.size = n := by simp [hn]
  rw [e] at h
  refine h.mono fun e w' ⟨he, d', m, os, hperm, hsort, hw⟩ => ?_
  have hsz : d'.size = n := by have := hperm.1; simpa [hn] using this
  have hp : d'.toList.Perm l := by
    have h1 := hperm.2.2
    have e1 : d'.extract 0 n = d' := by rw [← hsz]; simp
    have e2 : l.toArray.extract 0 n = l.toArray := by rw [show n = l.toArray.size from by simp [hn]]; simp
    rw [e1, e2] at h1
    simpa using h1
  have hu : UpA d'.toList := by
    refine List.pairwise_iff_getElem.2 ?_
    intro i j hi hj hij
    have := hsort i j (Nat.zero_le _) hij (by rw [← hsz]; simpa using hj)
    rw [getElem!_pos d' j (by simpa using hj), getElem!_pos d' i (by simpa using hi)] at this
    show ltOf aheadP _ _ = false
    simpa using this
  have hd : d'.toList = srtA l := upA_unique (hp.trans (srtA_perm l).symm) hu (srtA_up l)
  have hrow := row_put w base gb n cap m P0 l (srtA l) os (by rw [(srtA_perm l).length_eq]) hR
  rw [← hd] at hrow ⊢
  rw [show d'.toList.toArray = d' from by simp] at hrow
  rw [hw]
  exact ⟨he, hrow⟩
end Go.Proofs.Ytmocpglnoehknaa
