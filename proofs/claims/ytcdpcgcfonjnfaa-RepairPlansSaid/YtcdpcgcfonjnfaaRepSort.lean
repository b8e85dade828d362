/- slices.SortFunc at Places by repair.order. -/
import Derived.Test.YtcdpcgcfonjnfaaRepOrd
namespace Go.Proofs.Ytcdpcgcfonjnfaa
set_option linter.unusedVariables false
set_option linter.unusedSimpArgs false
open Go.RowKit Go.Proofs.YtcdpcgcfonjnfaaW.PrintWords Go.Proofs.YtcdpcgcfonjnfaaW.PrintLast Go.Proofs.YtcdpcgcfonjnfaaW.PrintMore Go.Proofs.Ytcdpcgcfonjnfaa.QT Go.Sort
namespace Rp
instance : Inhabited S38 := ⟨z38⟩
def cellsPl2 (x : S38) : List Value := [.string x.f0, .int .i64 x.f1]
theorem aggPl : ∀ w, (isAgg 32).run Try.prog w = .ok true w := fun w => by kernel_rfl
theorem sizePl : ∀ w, (Go.sizeOf 32).run Try.prog w = .ok 2 w := fun w => by kernel_rfl
theorem flat_len : ∀ l : List S38, (l.flatMap cellsPl2).length = l.length * 2
  | [] => rfl
  | y :: ys => by rw [List.flatMap_cons, List.length_append, flat_len ys]; simp [cellsPl2]; omega
theorem flat_at : ∀ (l : List S38) (j : Nat), j < l.length * 2 → (l.flatMap cellsPl2)[j]? = some ((cellsPl2 l[j / 2]!)[j % 2]!)
  | [], j, h => by simp at h
  | y :: ys, j, h => by
    rw [List.flatMap_cons]
    by_cases hj : j < 2
    · rw [List.getElem?_append_left (by simpa [cellsPl2] using hj), Nat.div_eq_of_lt hj, Nat.mod_eq_of_lt hj]
      match j, hj with
      | 0, _ => rfl
      | 1, _ => rfl
    · rw [List.getElem?_append_right (by simp [cellsPl2]; omega), show j - (cellsPl2 y).length = j - 2 from rfl, flat_at ys (j - 2) (by simp at h; omega)]
      rw [show j / 2 = (j - 2) / 2 + 1 from by omega, show j % 2 = (j - 2) % 2 from by omega, List.getElem!_cons_succ]
theorem flat_reps (l : List S38) (W : World) (base : Nat) (ok : Nat → Prop) : Reps (k38.M W base ok) 2 l (l.flatMap cellsPl2) := by
  refine ⟨flat_len l, fun j x hj => ?_⟩
  have hjl : j < l.length := (List.getElem?_eq_some_iff.1 hj).1
  have e4 : ((l.flatMap cellsPl2).drop (j * 2)).take 2 = cellsPl2 x := by
    apply List.ext_getElem?
    intro i
    by_cases hi4 : i < 2
    · rw [List.getElem?_take_of_lt hi4, List.getElem?_drop, flat_at l _ (by omega), show (j * 2 + i) / 2 = j from by omega, show (j * 2 + i) % 2 = i from by omega, show l[j]! = x from by simp [List.getElem!_eq_getElem?_getD, hj]]
      match i, hi4 with
      | 0, _ => rfl
      | 1, _ => rfl
    · rw [List.getElem?_eq_none (by rw [List.length_take]; omega), List.getElem?_eq_none (by simp [cellsPl2]; omega)]
  rw [e4]
  exact k38_mkM _ _ _ x

/-- A row whose cells were put anew. -/
theorem row_put (w : World) (base gb n cap m : Nat) (P0 : Nat → Prop) (l l' : List S38) (os : Array Obj) (hl : l'.length = l.length) (hR : Kd.R k38 32 w base P0 (.slice (some ⟨gb, 0, none⟩) n cap) l) :
    Kd.R k38 32 (sortWorldK cellsPl2 2 w gb 0 m l'.toArray os) base P0 (.slice (some ⟨gb, 0, none⟩) n cap) l' ∧ w.grownBy (sortWorldK cellsPl2 2 w gb 0 m l'.toArray os) (some gb) := by
  obtain ⟨hok, inner, ho, hr⟩ := hR
  obtain ⟨hil, ⟨hv, _⟩ | ⟨g, cap', cur, hv, hb, hh, hn, hcm, hcs, htk⟩⟩ := ho
  · cases hv
  · cases hv
    have hlt : gb < w.heap.size := (Array.getElem?_eq_some_iff.1 hh).1
    have hget : (sortWorldK cellsPl2 2 w gb 0 m l'.toArray os).heap[gb]? = some (.cells (putCells id 0 (flatK cellsPl2 2 l'.toArray) cur) 32 (0, 0)) := by
      unfold sortWorldK putRowK putRow mapBlock grow Go.Sort.ahead
      simp only
      rw [Array.getElem?_append_left (by simpa using hlt), Array.getElem?_modify, if_pos rfl, hh]
      rfl
    refine ⟨⟨hok, l'.flatMap cellsPl2, ⟨flat_len l', .inr ⟨gb, cap, _, by rw [hl], hb, hget, by rw [hl]; exact hn, hcm, by simp [putCells, hcs], ?_⟩⟩, flat_reps _ _ _ _⟩, ⟨rfl, rfl, rfl, ?_, fun k hk hne => ?_⟩⟩
    · apply List.ext_getElem?
      intro j
      have hcz : cur.size = cap * 2 := hcs
      have hcl : (k38.sz) = 2 := rfl
      by_cases hj : j < l'.length * 2
      · rw [hcl, List.getElem?_take_of_lt hj, flat_at l' j hj, Array.getElem?_toList]
        unfold putCells
        rw [Array.getElem?_mapIdx]
        have hjc : j < cur.size := by omega
        rw [Array.getElem?_eq_getElem hjc, Option.map_some, if_pos ⟨Nat.zero_le _, by rw [size_flatK]; simp; omega⟩, Nat.sub_zero, get_flatK _ _ _ _ (by simpa using hj)]
        simp
      · rw [List.getElem?_eq_none (by rw [List.length_take, hcl]; omega), List.getElem?_eq_none (by rw [flat_len]; omega)]
    · simp [sortWorldK, putRowK, putRow, mapBlock, grow, Go.Sort.ahead]
    · have hne' : gb ≠ k := fun e => hne (by rw [e])
      unfold sortWorldK putRowK putRow mapBlock grow Go.Sort.ahead
      simp only
      rw [Array.getElem?_append_left (by simpa using hk), Array.getElem?_modify, if_neg hne']

theorem row_holds (w : World) (base gb n cap : Nat) (P0 : Nat → Prop) (l : List S38) (hR : Kd.R k38 32 w base P0 (.slice (some ⟨gb, 0, none⟩) n cap) l) : HoldsK cellsPl2 2 w gb 0 l.toArray := by
  intro j hj
  rw [size_flatK] at hj
  have hj' : j < l.length * 2 := by simpa using hj
  obtain ⟨hn, _, _⟩ := Kd.R_reads' hR
  obtain ⟨c, hcl, hM, hcc, hfr⟩ := Kd.R_elem hR z38 ((j / 2 : Nat) : Int) (by omega) (by omega)
  rw [Int.toNat_natCast] at hM hcc hfr
  obtain rfl := k38_openM hM
  have e : (flatK cellsPl2 2 l.toArray)[j]! = (cellsPl2 (l.getD (j / 2) z38))[j % 2]! := by
    rw [get_flatK _ _ _ _ hj]
    congr 2
    simp [List.getD_eq_getElem?_getD, List.getElem!_eq_getElem?_getD]
    rfl
  rw [e, Nat.zero_add]
  have e3 : j / 2 * 2 + j % 2 = j := by omega
  have h3 : j % 2 < 2 := Nat.mod_lt _ (by omega)
  constructor
  · have := hcc (j % 2) _ (List.getElem?_eq_getElem (by simpa using h3))
    rw [show k38.sz = 2 from rfl, e3] at this
    rw [this]
    simp only [id, cellsPl2]
    rw [getElem!_pos _ _ (by simpa using h3)]
  · have := hfr (j % 2)
    rw [show k38.sz = 2 from rfl, e3] at this
    exact this

theorem cmpStr_lt {a b : ByteArray} : cmpStr a b < 0 ↔ a.toList < b.toList := by
  unfold cmpStr
  rw [bytesLess_eq, bytesLess_eq]
  by_cases h : a.toList < b.toList
  · simp [h]
  · rw [if_neg (by simpa using h)]
    split <;> simp [h]
theorem ordP_lt (a b : Pc) : ordP a b < 0 ↔ lt a b := by
  unfold ordP lt
  by_cases h1 : a.f1 < b.f1
  · have e : cmpInt a.f1 b.f1 = -1 := by unfold cmpInt; rw [if_pos h1]
    rw [e]
    simp [h1]
  · by_cases h2 : b.f1 < a.f1
    · have e : cmpInt a.f1 b.f1 = 1 := by unfold cmpInt; rw [if_neg h1, if_pos h2]
      rw [e]
      simp only [h1, false_or]
      constructor
      · intro h; simp at h
      · rintro ⟨h, _⟩; omega
    · have e : cmpInt a.f1 b.f1 = 0 := by unfold cmpInt; rw [if_neg h1, if_neg h2]
      rw [e, if_neg (by simp), cmpStr_lt]
      constructor
      · intro h; exact .inr ⟨by omega, h⟩
      · rintro (h | ⟨_, h⟩)
        · omega
        · exact h
theorem ltP_iff (a b : Pc) : ltOf ordP a b = true ↔ lt a b := by
  unfold ltOf
  rw [decide_eq_true_iff]
  exact ordP_lt a b
theorem ltP_false (a b : Pc) : ltOf ordP a b = false ↔ ¬ lt a b := by rw [← ltP_iff, Bool.not_eq_true]
theorem swoP : SWO (ltOf ordP) := by
  refine ⟨fun x => ?_, fun x y z h h' => ?_, fun x y z h h' => ?_⟩
  · exact (ltP_false x x).2 (lt_irrefl x)
  · exact (ltP_iff x z).2 (lt_trans ((ltP_iff x y).1 h) ((ltP_iff y z).1 h'))
  · refine (ltP_false x z).2 (fun hxz => ?_)
    have h1 := (ltP_false x y).1 h
    have h2 := (ltP_false y z).1 h'
    by_cases h3 : lt y x
    · exact h2 (lt_trans h3 hxz)
    · rw [lt_tri x y h1 h3] at hxz
      exact h2 hxz
theorem enter17 : ∀ args w, (callFunc 17 args).run Try.prog w = .ok (.enter 17 args) w := fun args w => by kernel_rfl
theorem sort_row (base gb n cap : Nat) (P0 : Nat → Prop) (l : List S38) (w : World) (hR : Kd.R k38 32 w base P0 (.slice (some ⟨gb, 0, none⟩) n cap) l) (hb : l.length < 4611686018427387904) :
    Calls Try.prog 24 #[.slice (some ⟨gb, 0, none⟩) n cap, .func (.func 17) #[] #[]] w fun e w' => e = .returned (.tuple #[]) ∧ ∃ l' : List S38, l'.Perm l ∧ l'.Pairwise (fun a b => ¬ lt b a) ∧ Kd.R k38 32 w' base P0 (.slice (some ⟨gb, 0, none⟩) n cap) l' ∧ w.grownBy w' (some gb) := by
  have hlt := Kd.R_lt hR gb rfl
  obtain ⟨hn, _, _⟩ := Kd.R_reads' hR
  have h := AnyQ.slices_SortFunc Try.sortPlace 2 aggPl sizePl cellsPl2 (fun _ => rfl) (fun x v hv => by
    simp only [cellsPl2, List.mem_cons, List.not_mem_nil, or_false] at hv
    rcases hv with rfl | rfl <;> rfl) ordP swoP 17 #[] gb 0 cap l.toArray w enter17 (fun m os dk _ x y => order_calls x y _) (row_holds w base gb n cap P0 l hR) hlt (by simpa using hb)
  have e : l.toArray.size = n := by simp [hn]
  rw [e] at h
  refine h.mono fun e w' ⟨he, d', m, os, hperm, hsort, hw⟩ => ?_
  have hsz : d'.size = n := by have := hperm.1; simpa [hn] using this
  have hp : d'.toList.Perm l := by
    have h1 := hperm.2.2
    have e1 : d'.extract 0 n = d' := by rw [← hsz]; simp
    have e2 : l.toArray.extract 0 n = l.toArray := by rw [show n = l.toArray.size from by simp [hn]]; simp
    rw [e1, e2] at h1
    simpa using h1
  have hu : d'.toList.Pairwise (fun a b => ¬ lt b a) := by
    refine List.pairwise_iff_getElem.2 ?_
    intro i j hi hj hij
    have := hsort i j (Nat.zero_le _) hij (by rw [← hsz]; simpa using hj)
    rw [getElem!_pos d' j (by simpa using hj), getElem!_pos d' i (by simpa using hi)] at this
    have h2 : ltOf ordP d'.toList[j] d'.toList[i] = false := by show ltOf ordP _ _ = false; simpa using this
    exact (ltP_false _ _).1 h2
  have hrow := row_put w base gb n cap m P0 l d'.toList os (by rw [hp.length_eq]) hR
  rw [show d'.toList.toArray = d' from by simp] at hrow
  rw [hw]
  exact ⟨he, d'.toList, hp, hu, hrow⟩
/-- What is sorted and each once, is strictly so. -/
theorem strict {l : List Pc} (h : l.Pairwise (fun a b => ¬ lt b a)) (hn : l.Nodup) : l.Pairwise lt := by
  refine (h.and hn).imp (fun {a b} hh => ?_)
  by_cases h1 : lt a b
  · exact h1
  · exact absurd (lt_tri a b h1 hh.1) hh.2
end Rp
end Go.Proofs.Ytcdpcgcfonjnfaa
