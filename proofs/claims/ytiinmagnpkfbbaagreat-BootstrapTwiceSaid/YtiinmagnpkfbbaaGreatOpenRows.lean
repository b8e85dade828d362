/- A slice among the arguments, opened as a row of a kind: generic over the kind; at whole numbers, bools, slices of such. -/
import Derived.Test.YtiinmagnpkfbbaaGreatQC1
import Derived.Lib.SmallJoins
section
namespace Go.Proofs.YtiinmagnpkfbbaaGreat
set_option linter.unusedVariables false
set_option linter.unusedSimpArgs false
open Go.RowKit Go.Proofs.YtiinmagnpkfbbaaGreatW.PrintWords Go.Proofs.YtiinmagnpkfbbaaGreatW.PrintLast Go.Proofs.YtiinmagnpkfbbaaGreatW.PrintMore Go.Proofs.YtiinmagnpkfbbaaGreat.QT Go.Sort
local instance : Inhabited S99 := ⟨z99⟩
theorem flat_len : ∀ l : List S99, (l.flatMap cellsPoint).length = l.length * 3
 | [] => rfl
 | y :: ys => by rw [List.flatMap_cons, List.length_append, flat_len ys]; simp [cellsPoint]; omega
theorem flat_at : ∀ (l : List S99) (j : Nat), j < l.length * 3 → (l.flatMap cellsPoint)[j]? = some ((cellsPoint l[j / 3]!)[j % 3]!)
 | [], j, h => by simp at h
 | y :: ys, j, h => by
  rw [List.flatMap_cons]
  by_cases hj : j < 3
  ·
   rw [List.getElem?_append_left (by simpa [cellsPoint] using hj), Nat.div_eq_of_lt hj, Nat.mod_eq_of_lt hj]
   match j, hj with
   | 0, _ => rfl
   | 1, _ => rfl
   | 2, _ => rfl
  ·
   rw [List.getElem?_append_right (by simp [cellsPoint]; omega), show j - (cellsPoint y).length = j - 3 from rfl, flat_at ys (j - 3) (by simp at h; omega)]; rw [show j / 3 = (j - 3) / 3 + 1 from by omega, show j % 3 = (j - 3) % 3 from by omega, List.getElem!_cons_succ]
theorem flat_reps (l : List S99) (W : World) (base : Nat) (ok : Nat → Prop) : Reps (k99.M W base ok) 3 l (l.flatMap cellsPoint) := by
 refine ⟨flat_len l, fun j x hj => ?_⟩; have hjl : j < l.length := (List.getElem?_eq_some_iff.1 hj).1
 have e4 : ((l.flatMap cellsPoint).drop (j * 3)).take 3 = cellsPoint x := by
  apply List.ext_getElem?; intro i
  by_cases hi4 : i < 3
  ·
   rw [List.getElem?_take_of_lt hi4, List.getElem?_drop, flat_at l _ (by omega), show (j * 3 + i) / 3 = j from by omega, show (j * 3 + i) % 3 = i from by omega, show l[j]! = x from by simp [List.getElem!_eq_getElem?_getD, hj]]
   match i, hi4 with
   | 0, _ => rfl
   | 1, _ => rfl
   | 2, _ => rfl
  ·
   rw [List.getElem?_eq_none (by rw [List.length_take]; omega), List.getElem?_eq_none (by simp [cellsPoint]; omega)]
 rw [e4]; exact k99_mkM _ _ _ x
/-- A row whose cells were put anew. -/
theorem row_put (w : World) (base gb n cap m : Nat) (P0 : Nat → Prop) (l l' : List S99) (os : Array Obj) (hl : l'.length = l.length) (hR : Kd.R k99 99 w base P0 (.slice (some ⟨gb, 0, none⟩) n cap) l) :
  Kd.R k99 99 (sortWorldK cellsPoint 3 w gb 0 m l'.toArray os) base P0 (.slice (some ⟨gb, 0, none⟩) n cap) l' ∧ w.grownBy (sortWorldK cellsPoint 3 w gb 0 m l'.toArray os) (some gb) := by
 obtain ⟨hok, inner, ho, hr⟩ := hR; obtain ⟨hil, ⟨hv, _⟩ | ⟨g, cap', cur, hv, hb, hh, hn, hcm, hcs, htk⟩⟩ := ho
 ·
  cases hv
 ·
  cases hv; have hlt : gb < w.heap.size := (Array.getElem?_eq_some_iff.1 hh).1
  have hget : (sortWorldK cellsPoint 3 w gb 0 m l'.toArray os).heap[gb]? = some (.cells (putCells id 0 (flatK cellsPoint 3 l'.toArray) cur) 99 (0, 0)) := by
   unfold sortWorldK putRowK putRow mapBlock grow Go.Sort.ahead; simp only; rw [Array.getElem?_append_left (by simpa using hlt), Array.getElem?_modify, if_pos rfl, hh]; rfl
  refine ⟨⟨hok, l'.flatMap cellsPoint, ⟨flat_len l', .inr ⟨gb, cap, _, by rw [hl], hb, hget, by rw [hl]; exact hn, hcm, by simp [putCells, hcs], ?_⟩⟩, flat_reps _ _ _ _⟩, ⟨rfl, rfl, rfl, ?_, fun k hk hne => ?_⟩⟩
  ·
   apply List.ext_getElem?; intro j; have hcz : cur.size = cap * 3 := hcs; have hcl : (k99.sz) = 3 := rfl
   by_cases hj : j < l'.length * 3
   ·
    rw [hcl, List.getElem?_take_of_lt hj, flat_at l' j hj, Array.getElem?_toList]; unfold putCells; rw [Array.getElem?_mapIdx]; have hjc : j < cur.size := by omega
    rw [Array.getElem?_eq_getElem hjc, Option.map_some, if_pos ⟨Nat.zero_le _, by rw [size_flatK]; simp; omega⟩, Nat.sub_zero, get_flatK _ _ _ _ (by simpa using hj)]; simp
   ·
    rw [List.getElem?_eq_none (by rw [List.length_take, hcl]; omega), List.getElem?_eq_none (by rw [flat_len]; omega)]
  ·
   simp [sortWorldK, putRowK, putRow, mapBlock, grow, Go.Sort.ahead]
  ·
   have hne' : gb ≠ k := fun e => hne (by rw [e]); unfold sortWorldK putRowK putRow mapBlock grow Go.Sort.ahead; simp only; rw [Array.getElem?_append_left (by simpa using hk), Array.getElem?_modify, if_neg hne']
theorem row_holds (w : World) (base gb n cap : Nat) (P0 : Nat → Prop) (l : List S99) (hR : Kd.R k99 99 w base P0 (.slice (some ⟨gb, 0, none⟩) n cap) l) : HoldsK cellsPoint 3 w gb 0 l.toArray := by
 intro j hj; rw [size_flatK] at hj; have hj' : j < l.length * 3 := by simpa using hj
 obtain ⟨hn, _, _⟩ := Kd.R_reads' hR; obtain ⟨c, hcl, hM, hcc, hfr⟩ := Kd.R_elem hR z99 ((j / 3 : Nat) : Int) (by omega) (by omega); rw [Int.toNat_natCast] at hM hcc hfr; obtain rfl := k99_openM hM
 have e : (flatK cellsPoint 3 l.toArray)[j]! = (cellsPoint (l.getD (j / 3) z99))[j % 3]! := by
  rw [get_flatK _ _ _ _ hj]
  congr 2
  simp [List.getD_eq_getElem?_getD, List.getElem!_eq_getElem?_getD]
  rfl
 rw [e, Nat.zero_add]; have e3 : j / 3 * 3 + j % 3 = j := by omega
 have h3 : j % 3 < 3 := Nat.mod_lt _ (by omega)
 constructor
 ·
  have := hcc (j % 3) _ (List.getElem?_eq_getElem (by simpa using h3)); rw [show k99.sz = 3 from rfl, e3] at this; rw [this]; simp only [id, cellsPoint]; rw [getElem!_pos _ _ (by simpa using h3)]
 ·
  have := hfr (j % 3); rw [show k99.sz = 3 from rfl, e3] at this; exact this
def ltA (a b : S99) : Bool := ltOf aheadP a b
theorem ltA_iff (a b : S99) : ltA a b = true ↔ a.f0 < b.f0 ∨ (a.f0 = b.f0 ∧ (a.f2 > b.f2 ∨ (a.f2 = b.f2 ∧ a.f1 > b.f1))) := by
 unfold ltA ltOf aheadP winsP; rw [decide_eq_true_iff]; simp only [Bool.or_eq_true, Bool.and_eq_true, decide_eq_true_eq, beq_iff_eq]
 split
 ·
  split
  ·
   constructor <;> intro <;> omega
  ·
   split
   ·
    constructor
    ·
     intro h; omega
    ·
     intro h; omega
   ·
    constructor
    ·
     intro h; omega
    ·
     intro h; omega
 ·
  split
  ·
   constructor <;> intro <;> omega
  ·
   constructor <;> intro <;> omega
theorem ltA_false (a b : S99) : ltA a b = false ↔ ¬ (a.f0 < b.f0 ∨ (a.f0 = b.f0 ∧ (a.f2 > b.f2 ∨ (a.f2 = b.f2 ∧ a.f1 > b.f1)))) := by
 rw [← ltA_iff, Bool.not_eq_true]
theorem swoA : SWO (ltOf (aheadP)) := by
 refine ⟨fun x => ?_, fun x y z h h' => ?_, fun x y z h h' => ?_⟩
 ·
  exact (ltA_false x x).2 (by omega)
 ·
  exact (ltA_iff x z).2 (by have h1 := (ltA_iff x y).1 h; have h2 := (ltA_iff y z).1 h'; omega)
 ·
  exact (ltA_false x z).2 (by have h1 := (ltA_false x y).1 h; have h2 := (ltA_false y z).1 h'; omega)
theorem ltA_eq {a b : S99} (h : ltA a b = false) (h' : ltA b a = false) : a = b := by
 have h1 := (ltA_false a b).1 h; have h2 := (ltA_false b a).1 h'; obtain ⟨a0, a1, a2⟩ := a; obtain ⟨b0, b1, b2⟩ := b; simp only at h1 h2; obtain rfl : a0 = b0 := by omega
 obtain rfl : a2 = b2 := by omega
 obtain rfl : a1 = b1 := by omega
 rfl
abbrev UpA (l : List S99) : Prop := l.Pairwise (fun a b => ltA b a = false)
def insA (x : S99) : List S99 → List S99
 | [] => [x]
 | y :: r => if ltA y x then y :: insA x r else x :: y :: r
def srtA : List S99 → List S99
 | [] => []
 | x :: r => insA x (srtA r)
theorem insA_perm (x : S99) : ∀ r, (insA x r).Perm (x :: r)
 | [] => List.Perm.refl _
 | y :: r => by
  unfold insA
  split
  ·
   exact ((insA_perm x r).cons y).trans (List.Perm.swap _ _ _)
  ·
   exact List.Perm.refl _
theorem insA_up (x : S99) : ∀ r, UpA r → UpA (insA x r)
 | [], _ => List.pairwise_singleton _ _
 | y :: r, h => by
  have h1 := List.pairwise_cons.1 h; unfold insA
  split
  ·
   rename_i hyx
   refine List.pairwise_cons.2 ⟨fun z hz => ?_, insA_up x r h1.2⟩; rcases List.mem_cons.1 ((insA_perm x r).mem_iff.1 hz) with rfl | hz
   ·
    rw [ltA_iff] at hyx; rw [ltA_false]; omega
   ·
    exact h1.1 z hz
  ·
   rename_i hyx
   rw [Bool.not_eq_true] at hyx; refine List.pairwise_cons.2 ⟨fun z hz => ?_, h⟩; rcases List.mem_cons.1 hz with rfl | hz
   ·
    exact hyx
   ·
    exact swoA.ntrans _ _ _ (h1.1 z hz) hyx
theorem srtA_perm : ∀ l, (srtA l).Perm l
 | [] => List.Perm.refl _
 | x :: r => (insA_perm x _).trans ((srtA_perm r).cons x)
theorem srtA_up : ∀ l, UpA (srtA l)
 | [] => List.Pairwise.nil
 | x :: r => insA_up x _ (srtA_up r)
theorem upA_unique : ∀ {l r : List S99}, l.Perm r → UpA l → UpA r → l = r
 | [], r, h, _, _ => (List.eq_nil_of_length_eq_zero (by simpa using h.length_eq.symm)).symm
 | x :: l, [], h, _, _ => by have := h.length_eq; simp at this
 | x :: l, y :: r, h, hl, hr => by
  have e : x = y := by
   have h1 : ltA y x = false := by
    rcases List.mem_cons.1 (h.mem_iff.2 (List.mem_cons_self : y ∈ y :: r)) with e | hm
    ·
     rw [e]; exact swoA.irrefl _
    ·
     exact (List.pairwise_cons.1 hl).1 y hm
   have h2 : ltA x y = false := by
    rcases List.mem_cons.1 (h.mem_iff.1 (List.mem_cons_self : x ∈ x :: l)) with e | hm
    ·
     rw [e]; exact swoA.irrefl _
    ·
     exact (List.pairwise_cons.1 hr).1 x hm
   exact ltA_eq h2 h1
  subst e; rw [upA_unique h.cons_inv (List.pairwise_cons.1 hl).2 (List.pairwise_cons.1 hr).2]
theorem enter_ahead : ∀ args w, (callFunc 68 args).run Tryz.prog w = .ok (.enter 68 args) w := fun args w => by kernel_rfl
theorem aggPoint : ∀ w, (isAgg 99).run Tryz.prog w = .ok true w := fun w => by kernel_rfl
theorem sizePoint : ∀ w, (Go.sizeOf 99).run Tryz.prog w = .ok 3 w := fun w => by kernel_rfl
/-- SortFunc at a row that is not nil. -/
theorem sort_row (base gb n cap : Nat) (P0 : Nat → Prop) (l : List S99) (w : World) (hR : Kd.R k99 99 w base P0 (.slice (some ⟨gb, 0, none⟩) n cap) l) (hb : l.length < 4611686018427387904) :
  Calls Tryz.prog 67 #[.slice (some ⟨gb, 0, none⟩) n cap, .func (.func 68) #[] #[]] w fun e w' => e = .returned (.tuple #[]) ∧ Kd.R k99 99 w' base P0 (.slice (some ⟨gb, 0, none⟩) n cap) (srtA l) ∧ w.grownBy w' (some gb) := by
 have hlt := Kd.R_lt hR gb rfl; obtain ⟨hn, _, _⟩ := Kd.R_reads' hR
 have h := AnyQ.slices_SortFunc Tryz.sortPoint 3 aggPoint sizePoint cellsPoint (fun _ => rfl) (fun x v hv => by
  simp only [cellsPoint, List.mem_cons, List.not_mem_nil, or_false] at hv
  rcases hv with rfl | rfl | rfl <;> rfl) aheadP swoA 68 #[] gb 0 cap l.toArray w enter_ahead (fun m os dk _ x y => ahead_calls x y _) (row_holds w base gb n cap P0 l hR) hlt (by simpa using hb)
 have e : l.toArray.size = n := by simp [hn]
 rw [e] at h; refine h.mono fun e w' ⟨he, d', m, os, hperm, hsort, hw⟩ => ?_; have hsz : d'.size = n := by have := hperm.1; simpa [hn] using this
 have hp : d'.toList.Perm l := by
  have h1 := hperm.2.2; have e1 : d'.extract 0 n = d' := by rw [← hsz]; simp
  have e2 : l.toArray.extract 0 n = l.toArray := by rw [show n = l.toArray.size from by simp [hn]]; simp
  rw [e1, e2] at h1; simpa using h1
 have hu : UpA d'.toList := by
  refine List.pairwise_iff_getElem.2 ?_; intro i j hi hj hij; have := hsort i j (Nat.zero_le _) hij (by rw [← hsz]; simpa using hj); rw [getElem!_pos d' j (by simpa using hj), getElem!_pos d' i (by simpa using hi)] at this; show ltOf aheadP _ _ = false; simpa using this
 have hd : d'.toList = srtA l := upA_unique (hp.trans (srtA_perm l).symm) hu (srtA_up l); have hrow := row_put w base gb n cap m P0 l (srtA l) os (by rw [(srtA_perm l).length_eq]) hR; rw [← hd] at hrow ⊢; rw [show d'.toList.toArray = d' from by simp] at hrow; rw [hw]; exact ⟨he, hrow⟩
end Go.Proofs.YtiinmagnpkfbbaaGreat
end
section
set_option maxHeartbeats 4000000
set_option maxRecDepth 100000
namespace Go.Proofs.YtiinmagnpkfbbaaGreat
open Go.RowKit Go.Proofs.YtiinmagnpkfbbaaGreatW.PrintWords
theorem insertion_nil (f : Value) (w : World) : Calls Tryz.prog 110 #[.slice none 0 0, .int .i64 0, .int .i64 0, f] w fun e w' => e = .returned (.tuple #[]) ∧ Below w.heap.size w w' := by
 have H0 := Lib.hid (Below.refl w.heap.size w); go_enter Tryz.func110, Tryz.ntmps110
 go_wp2; go_loopg [8] 1 (fun gg s8 wr => s8 = .int .i64 1 ∧ Hid (Below w.heap.size w wr))
 case atStart => exact ⟨rfl, H0⟩
 case round =>
  obtain ⟨rfl, H⟩ := hrel; go_wp2; go_end0; exact ⟨rfl, H.out⟩
theorem pdq_nil (f : Value) (lim : Int) (w : World) : Calls Tryz.prog 87 #[.slice none 0 0, .int .i64 0, .int .i64 0, .int .i64 lim, f] w fun e w' => e = .returned (.tuple #[]) ∧ Below w.heap.size w w' := by
 have H0 := Lib.hid (Below.refl w.heap.size w); have HI := Lib.hid (fun w => insertion_nil f w); go_enter Tryz.func87, Tryz.ntmps87
 go_wp2; go_loopg [1, 2] 1 (fun gg s1 s2 wr => s1 = .int .i64 0 ∧ s2 = .int .i64 0 ∧ Hid (Below w.heap.size w wr))
 case atStart => exact ⟨rfl, rfl, H0⟩
 case round =>
  obtain ⟨rfl, rfl, H⟩ := hrel; go_wp2_with fail
  with_reducible refine (HI.out _).mono ?_
  rintro e w1 ⟨rfl, hb1⟩; have HB := Lib.hid (below_then H.out H.out.size hb1); clear hb1; go_wp2; refine bodyPost_ret (results_none rfl _ _ _) rfl ?_; exact ⟨rfl, HB.out⟩
theorem sort_nil (f : Value) (w : World) : Calls Tryz.prog 67 #[.slice none 0 0, f] w fun e w' => e = .returned (.tuple #[]) ∧ Below w.heap.size w w' := by
 have hl : Calls Tryz.prog 80 #[.int .u64 0] w fun e w' => e = .returned (.int .i64 (Lib.bitLen 0 : Nat)) ∧ w' = w := by
  have h := Any.bits_Len (SlLaysF0.n15.bits (P := Tryz.prog) (ρ := Tryz.sortPoint_ren) { Tryz.sortPoint with }) (0 : Int) w (by omega) (by omega); exact h
 have HL := Lib.hid hl; have HP := Lib.hid (fun lim w => pdq_nil f lim w); clear hl; go_enter Tryz.func67, Tryz.ntmps67
 go_wp2_with fail
 with_reducible refine HL.out.mono ?_
 rintro e w1 ⟨rfl, rfl⟩; go_wp2_with fail
 with_reducible refine (HP.out _ _).mono ?_
 rintro e w2 ⟨rfl, hb⟩; have HB := Lib.hid hb; clear hb; go_wp2; go_end0; exact ⟨rfl, HB.out⟩
open Go.Proofs.YtiinmagnpkfbbaaGreatW.PrintLast Go.Proofs.YtiinmagnpkfbbaaGreatW.PrintMore Go.Proofs.YtiinmagnpkfbbaaGreat.QT in
/-- SortFunc at a row, nil or not. -/
theorem sort_any (base : Nat) (P0 : Nat → Prop) (v : Value) (l : List S99) (w : World) (hR : Kd.R k99 99 w base P0 v l) (hb : l.length < 4611686018427387904) :
  Calls Tryz.prog 67 #[v, .func (.func 68) #[] #[]] w fun e w' => e = .returned (.tuple #[]) ∧ Kd.R k99 99 w' base P0 v (srtA l) ∧ w.grownBy w' v.ownBlock := by
 obtain ⟨inner, ho⟩ := Kd.R_own hR
 rcases ho with ⟨_, ⟨rfl, h0⟩ | ⟨gb, cap, cur, rfl, _⟩⟩
 ·
  have hl := List.eq_nil_of_length_eq_zero h0; subst hl
  exact (sort_nil _ w).mono fun e w' ⟨he, hb⟩ => ⟨he, Kd.R_nil _ _ _ _ _, grown_of_below hb _⟩
 ·
  exact (sort_row base gb l.length cap P0 l w hR hb).mono fun e w' ⟨he, hR', hg⟩ => ⟨he, hR', hg⟩
end Go.Proofs.YtiinmagnpkfbbaaGreat
end
section
namespace Go.Proofs.YtiinmagnpkfbbaaGreat
set_option linter.unusedVariables false
set_option linter.unusedSimpArgs false
open Go.RowKit Go.Proofs.YtiinmagnpkfbbaaGreatW.PrintWords Go.Proofs.YtiinmagnpkfbbaaGreat.QT Go.Sort
namespace Vw
abbrev Pt := S99
/-- p is no worse than q. -/
def Ge (p q : Pt) : Prop := p.f2 > q.f2 ∨ (p.f2 = q.f2 ∧ p.f1 ≥ q.f1)
theorem Ge.refl (p : Pt) : Ge p p := Or.inr ⟨rfl, Int.le_refl _⟩
theorem Ge.trans {p q r : Pt} (h : Ge p q) (k : Ge q r) : Ge p r := by unfold Ge at *; omega
theorem Ge.eq {p q : Pt} (h : Ge p q) (k : Ge q p) (ht : p.f0 = q.f0) : p = q := by
 obtain ⟨a, b, c⟩ := p; obtain ⟨a', b', c'⟩ := q; unfold Ge at *; simp only at *; obtain rfl : b = b' := by omega
 obtain rfl : c = c' := by omega
 subst ht; rfl
/-- Strictly rising times. -/
abbrev Up (l : List Pt) : Prop := l.Pairwise (fun a b => a.f0 < b.f0)
/-- c stands for l: its points are l's, and each of l's is met by one of its time that is no worse. -/
def Dom (l c : List Pt) : Prop := (∀ p ∈ c, p ∈ l) ∧ ∀ q ∈ l, ∃ p ∈ c, p.f0 = q.f0 ∧ Ge p q
theorem Dom.refl (l : List Pt) : Dom l l := ⟨fun _ h => h, fun q h => ⟨q, h, rfl, Ge.refl q⟩⟩
theorem Dom.trans {l c d : List Pt} (h : Dom l c) (k : Dom c d) : Dom l d :=
 ⟨fun p hp => h.1 p (k.1 p hp), fun q hq => by
  obtain ⟨p, hp, h1, h2⟩ := h.2 q hq; obtain ⟨r, hr, h3, h4⟩ := k.2 p hp
  exact ⟨r, hr, h3.trans h1, h4.trans h2⟩⟩
theorem Dom.of_mem {l c : List Pt} (h : ∀ p, p ∈ l ↔ p ∈ c) : Dom l c := ⟨fun p hp => (h p).2 hp, fun q hq => ⟨q, (h q).1 hq, rfl, Ge.refl q⟩⟩
theorem Dom.perm {l c : List Pt} (h : l.Perm c) : Dom l c := Dom.of_mem fun p => h.mem_iff
theorem Dom.append {l c l' c' : List Pt} (h : Dom l c) (k : Dom l' c') : Dom (l ++ l') (c ++ c') :=
 ⟨fun p hp => by
  rcases List.mem_append.1 hp with hp | hp
  ·
   exact List.mem_append_left _ (h.1 p hp)
  ·
   exact List.mem_append_right _ (k.1 p hp), fun q hq => by
  rcases List.mem_append.1 hq with hq | hq
  ·
   obtain ⟨p, hp, r⟩ := h.2 q hq; exact ⟨p, List.mem_append_left _ hp, r⟩
  ·
   obtain ⟨p, hp, r⟩ := k.2 q hq
   exact ⟨p, List.mem_append_right _ hp, r⟩⟩
/-- v is the view of l. -/
def Is (l v : List Pt) : Prop := Up v ∧ Dom l v
theorem Is.of_dom {l c v : List Pt} (h : Dom l c) (k : Is c v) : Is l v := ⟨k.1, h.trans k.2⟩
theorem up_inj {v : List Pt} (h : Up v) {p q : Pt} (hp : p ∈ v) (hq : q ∈ v) (ht : p.f0 = q.f0) : p = q := by
 induction v with
 | nil => cases hp
 | cons a r ih =>
  obtain ⟨h1, h2⟩ := List.pairwise_cons.1 h; rcases List.mem_cons.1 hp with ep | hp
  ·
   rcases List.mem_cons.1 hq with eq | hq
   ·
    rw [ep, eq]
   ·
    have := h1 q hq; rw [ep] at ht; omega
  ·
   rcases List.mem_cons.1 hq with eq | hq
   ·
    have := h1 p hp; rw [eq] at ht; omega
   ·
    exact ih h2 hp hq
theorem up_ext : ∀ {v v' : List Pt}, Up v → Up v' → (∀ p, p ∈ v ↔ p ∈ v') → v = v'
 | [], [], _, _, _ => rfl
 | [], b :: s, _, _, h => by have := (h b).2 (by simp); simp at this
 | a :: r, [], _, _, h => by have := (h a).1 (by simp); simp at this
 | a :: r, b :: s, h1, h2, h => by
  obtain ⟨a1, a2⟩ := List.pairwise_cons.1 h1; obtain ⟨b1, b2⟩ := List.pairwise_cons.1 h2
  have hab : a = b := by
   rcases List.mem_cons.1 ((h a).1 (by simp)) with e | ha
   ·
    exact e
   ·
    rcases List.mem_cons.1 ((h b).2 (by simp)) with e | hb
    ·
     exact e.symm
    ·
     have := a1 b hb; have := b1 a ha; omega
  subst hab
  rw [up_ext a2 b2 (fun p => ⟨fun hp => by
   rcases List.mem_cons.1 ((h p).1 (by simp [hp])) with e | hp'
   ·
    have := a1 p hp; rw [e] at this; omega
   ·
    exact hp', fun hp => by
   rcases List.mem_cons.1 ((h p).2 (by simp [hp])) with e | hp'
   ·
    have := b1 p hp; rw [e] at this; omega
   ·
    exact hp'⟩)]
theorem Is.unique {l v v' : List Pt} (h : Is l v) (k : Is l v') : v = v' := by
 have one : ∀ {v v' : List Pt}, Is l v → Is l v' → ∀ p, p ∈ v → p ∈ v' := by
  intro v v' h k p hp; obtain ⟨q, hq, h1, h2⟩ := k.2.2 p (h.2.1 p hp); obtain ⟨r, hr, h3, h4⟩ := h.2.2 q (k.2.1 q hq); have e : r = p := up_inj h.1 hr hp (h3.trans h1); subst e; rw [h4.eq h2 h3]; exact hq
 exact up_ext h.1 k.1 (fun p => ⟨one h k p, one k h p⟩)
theorem Is.nil : Is [] [] := ⟨List.Pairwise.nil, Dom.refl _⟩
/-- What compT leaves of a list in order. -/
theorem compFrom_mem (p : Pt) : ∀ (l : List Pt) (x : Pt), x ∈ compFrom p l → x ∈ l
 | [], x, h => by simp [compFrom] at h
 | y :: r, x, h => by
  unfold compFrom at h
  split at h
  ·
   exact List.mem_cons_of_mem _ (compFrom_mem y r x h)
  ·
   rcases List.mem_cons.1 h with rfl | h
   ·
    simp
   ·
    exact List.mem_cons_of_mem _ (compFrom_mem y r x h)
theorem up_lt {a b : Pt} (h : ltA b a = false) : a.f0 < b.f0 ∨ (a.f0 = b.f0 ∧ Ge a b) := by
 rw [ltA_false] at h; unfold Ge; omega
theorem compFrom_is (p : Pt) : ∀ (l : List Pt), UpA (p :: l) → Up (p :: compFrom p l) ∧ ∀ q ∈ l, ∃ x ∈ p :: compFrom p l, x.f0 = q.f0 ∧ Ge x q
 | [], _ => ⟨List.pairwise_singleton _ _, by simp⟩
 | y :: r, h => by
  obtain ⟨h1, h2⟩ := List.pairwise_cons.1 h; obtain ⟨i1, i2⟩ := compFrom_is y r h2; have hy := up_lt (h1 y (by simp)); unfold compFrom
  split
  ·
   rename_i e
   have hpy : Ge p y := hy.elim (fun h => by omega) (fun h => h.2)
   obtain ⟨j1, j2⟩ := List.pairwise_cons.1 i1; refine ⟨List.pairwise_cons.2 ⟨fun z hz => by have := j1 z hz; omega, j2⟩, fun q hq => ?_⟩; rcases List.mem_cons.1 hq with rfl | hq
   ·
    exact ⟨p, by simp, e.symm, hpy⟩
   ·
    obtain ⟨x, hx, h3, h4⟩ := i2 q hq; rcases List.mem_cons.1 hx with rfl | hx
    ·
     exact ⟨p, by simp, e.symm.trans h3, hpy.trans h4⟩
    ·
     exact ⟨x, List.mem_cons_of_mem _ hx, h3, h4⟩
  ·
   rename_i e
   have hpy : p.f0 < y.f0 := by rcases hy with h | h <;> omega
   refine ⟨List.pairwise_cons.2 ⟨fun z hz => ?_, i1⟩, fun q hq => ?_⟩
   ·
    rcases List.mem_cons.1 hz with rfl | hz
    ·
     exact hpy
    ·
     have := (List.pairwise_cons.1 i1).1 z hz; omega
   ·
    rcases List.mem_cons.1 hq with rfl | hq
    ·
     exact ⟨q, by simp, rfl, Ge.refl _⟩
    ·
     obtain ⟨x, hx, h3, h4⟩ := i2 q hq; exact ⟨x, List.mem_cons_of_mem _ hx, h3, h4⟩
theorem comp_is (l : List Pt) (h : UpA l) : Is l (compT l) := by
 match l, h with
 | [], _ => exact Is.nil
 | p :: r, h =>
  obtain ⟨h1, h2⟩ := compFrom_is p r h; refine ⟨h1, fun x hx => ?_, fun q hq => ?_⟩
  ·
   rcases List.mem_cons.1 hx with rfl | hx
   ·
    simp
   ·
    exact List.mem_cons_of_mem _ (compFrom_mem p r x hx)
  ·
   rcases List.mem_cons.1 hq with rfl | hq
   ·
    exact ⟨q, by simp [compT], rfl, Ge.refl _⟩
   ·
    exact h2 q hq
/-- The view of any points. -/
def view (l : List Pt) : List Pt := compT (srtA l)
theorem view_is (l : List Pt) : Is l (view l) := Is.of_dom (Dom.perm (srtA_perm l).symm) (comp_is _ (srtA_up l))
theorem view_eq {l v : List Pt} (h : Is l v) : view l = v := (view_is l).unique h
theorem view_dom {l c : List Pt} (h : Dom l c) : view l = view c := view_eq (Is.of_dom h (view_is c))
theorem view_len (l : List Pt) : (view l).length ≤ l.length := by
 have h2 : ∀ (p : Pt) (l : List Pt), (compFrom p l).length ≤ l.length := by
  intro p l
  induction l generalizing p with
  | nil => simp [compFrom]
  | cons y r ih =>
   unfold compFrom; have := ih y
   split <;> simp <;> omega
 have h3 : ∀ l : List Pt, (compT l).length ≤ l.length := by
  intro l
  cases l with
  | nil => simp [compT]
  | cons p r => have := h2 p r; simp [compT]; omega
 have := h3 (srtA l); rw [(srtA_perm l).length_eq] at this; exact this
end Vw
end Go.Proofs.YtiinmagnpkfbbaaGreat
end
section
set_option maxHeartbeats 1000000
namespace Go.Proofs.YtiinmagnpkfbbaaGreat
set_option linter.unusedVariables false
set_option linter.unusedSimpArgs false
open Go.RowKit Go.Proofs.YtiinmagnpkfbbaaGreatW.PrintWords Go.Proofs.YtiinmagnpkfbbaaGreatW.PrintLast Go.Proofs.YtiinmagnpkfbbaaGreatW.PrintMore Go.Proofs.YtiinmagnpkfbbaaGreat.QT
namespace Mg
abbrev Pt := S99
theorem rd_at (P S : List (List Pt)) (x : List Pt) (i : Int) (hi : i = P.length) : rd_L8 (P ++ x :: S) i = x := by
 subst hi; unfold rd_L8; simp
theorem concat_l1 : ∀ (R P : List (List Pt)) (acc : List Pt) (l : List (List Pt)), l = P ++ R → acc = P.flatten → (l.map List.length).sum ≤ 1099511627776 → l.length ≤ 1099511627776 →
  Ev (fun k => QC.api_Point_66.l1 k acc l l.length (P.length : Int)) l.flatten
 | [], P, acc, l, hl, ha, hs, hn => by
  simp only [List.append_nil] at hl; subst hl; subst ha; refine Ev.step (f := fun _ => some l.flatten) (fun k => ?_) (Ev.now _)
  rw [QC.api_Point_66.l1, if_neg (by omega)]
 | x :: R, P, acc, l, hl, ha, hs, hn => by
  have e := rd_at P R x (P.length : Int) rfl; have hln : l.length = P.length + R.length + 1 := by rw [hl]; simp; omega
  have hsum : P.flatten.length + x.length ≤ (l.map List.length).sum := by
   rw [hl]; simp only [List.length_flatten, List.map_append, List.map_cons, List.sum_append, List.sum_cons]; omega
  have ih := concat_l1 R (P ++ [x]) (acc ++ x) l (by rw [hl]; simp) (by rw [ha]; simp) hs hn; rw [List.length_append, List.length_singleton] at ih; refine Ev.step (fun k => ?_) ih; rw [QC.api_Point_66.l1, if_pos (by omega), if_pos (by omega), if_pos (by omega), hl, e, if_pos (by rw [ha]; omega)]; rw [show wrap64 ((P.length : Int) + 1) = ((P.length + 1 : Nat) : Int) from by unfold wrap64; omega]
theorem concat_l0 : ∀ (R P : List (List Pt)) (l : List (List Pt)), l = P ++ R → (l.map List.length).sum ≤ 1099511627776 → l.length ≤ 1099511627776 →
  Ev (fun k => QC.api_Point_66.l0 k l (((P.map List.length).sum : Nat) : Int) l l.length (P.length : Int)) l.flatten
 | [], P, l, hl, hs, hn => by
  simp only [List.append_nil] at hl; have h1 := concat_l1 l [] [] l rfl rfl hs hn; refine Ev.step (fun k => ?_) h1; subst hl; rw [QC.api_Point_66.l0, if_neg (by omega)]
  rfl
 | x :: R, P, l, hl, hs, hn => by
  have e := rd_at P R x (P.length : Int) rfl; have hln : l.length = P.length + R.length + 1 := by rw [hl]; simp; omega
  have hsum : (P.map List.length).sum + x.length ≤ (l.map List.length).sum := by
   rw [hl]; simp only [List.map_append, List.map_cons, List.sum_append, List.sum_cons]; omega
  have ih := concat_l0 R (P ++ [x]) l (by rw [hl]; simp) hs hn; rw [List.length_append, List.length_singleton, List.map_append, List.map_singleton, List.sum_append, List.sum_singleton] at ih; refine Ev.step (fun k => ?_) ih; rw [QC.api_Point_66.l0, if_pos (by omega), if_pos (by omega), if_pos (by omega), hl, e]; rw [show wrap64 ((((P.map List.length).sum : Nat) : Int) + (x.length : Int)) = (((P.map List.length).sum + x.length : Nat) : Int) from by unfold wrap64; omega, if_neg (by omega)]; rw [show wrap64 ((P.length : Int) + 1) = ((P.length + 1 : Nat) : Int) from by unfold wrap64; omega]
theorem concat_ev (l : List (List Pt)) (hs : (l.map List.length).sum ≤ 1099511627776) (hn : l.length ≤ 1099511627776) : Ev (fun k => QC.api_Point_66.f k l) l.flatten := concat_l0 l [] l rfl hs hn
/-- Merge. -/
theorem merge_calls (w : World) (A : Option Addr) (c : Nat) (l : List (List Pt)) (hC : Kd.C (Kd.slice 99 k99) w A l.length l) (hc : l.length ≤ c) (hs : (l.map List.length).sum ≤ 1099511627776) (hn : l.length ≤ 1099511627776) :
  Calls Tryz.prog 38 #[.slice A l.length c] w fun e w' => ∃ v : Value, e = .returned v ∧ Kd.R k99 99 w' w.heap.size (fun _ => True) v (Vw.view l.flatten) ∧ Below w.heap.size w w' := by
 have hfl : l.flatten.length = (l.map List.length).sum := by rw [List.length_flatten]
 obtain ⟨k, hk⟩ := (concat_ev l hs hn).rounds; have H1 := Lib.hid (fun w hC => QC.api_Point_66.calls k A c l l.flatten w hC hc hs hk); have HC := Lib.hid hC; obtain ⟨r1, r2, hev, hr⟩ := compact_ev (srtA l.flatten) (by rw [(srtA_perm _).length_eq]; omega); obtain ⟨k2, hk2⟩ := hev.rounds; have HK2 := Lib.hid hk2; have HR := Lib.hid hr; have HL := Lib.hid (show l.flatten.length < 4611686018427387904 by omega); clear hk hk2 hev hr hs hn hc hfl hC; go_enter Tryz.func38, Tryz.ntmps38
 go_wp2_with fail
 with_reducible refine (H1.out _ HC.out).mono ?_
 rintro e w1 ⟨v1, rfl, hR1, hb1⟩; have hR1' := Lib.hid hR1; have hb1' := Lib.hid hb1; clear hR1 hb1; go_wp2_with fail
 with_reducible refine (sort_any w.heap.size (fun _ => True) v1 l.flatten _ hR1'.out HL.out).mono ?_
 rintro e w2 ⟨rfl, hR2, hg2⟩; have hR2' := Lib.hid hR2; have hb2 := Lib.hid (hb1'.out.grown hg2 hb1'.out.size (fun j hj => Kd.R_base hR1'.out j hj)); clear hR2 hg2; go_wp2_with fail
 with_reducible refine (QX.api_Point.calls k2 (fun _ => True) v1 (srtA l.flatten) r1 r2 w _ hb2.out hR2'.out HK2.out).mono ?_
 rintro e w3 ⟨v3, rfl, hR3, hb3⟩; have hR3' := Lib.hid hR3; have hb3' := Lib.hid hb3; clear hR3 hb3; go_wp2; go_ret; refine ⟨_, rfl, ?_, hb3'.out⟩; have := hR3'.out; rw [HR.out] at this; exact Kd.R_mono this (fun _ _ => trivial)
end Mg
end Go.Proofs.YtiinmagnpkfbbaaGreat
end
section
namespace Go.Proofs.YtiinmagnpkfbbaaGreat
set_option linter.unusedVariables false
set_option linter.unusedSimpArgs false
open Go.RowKit Go.Proofs.YtiinmagnpkfbbaaGreatW.PrintWords Go.Proofs.YtiinmagnpkfbbaaGreatW.PrintLast Go.Proofs.YtiinmagnpkfbbaaGreatW.PrintMore Go.Proofs.YtiinmagnpkfbbaaGreat.QT
namespace Mg
/-- A row of one row. -/
theorem one_row {X : World} {base : Nat} {ok : Nat → Prop} {v : Value} {xs : List Pt} (hR : Kd.R k99 99 X base ok v xs) {q : Nat} (hX : X.heap[q]? = some (.cells #[v] 53 (0, 0))) : Kd.C (Kd.slice 99 k99) X (some ⟨q, 0, none⟩) [xs].length [xs] := by
 obtain ⟨A, c, rfl⟩ := Kd.R_slice hR; obtain ⟨_, hc, hC⟩ := Kd.R_reads' hR; refine ⟨rfl, by simp, fun _ => ⟨_, rfl, fun j p hj => ?_⟩⟩
 match j, hj with
 | 0, hj =>
  simp at hj
  subst hj; refine ⟨_, rfl, ⟨A, c, rfl, hc, hC⟩, fun i u hu => ?_⟩
  match i, hu with
  | 0, hu =>
   simp at hu
   subst hu; exact (blk_cell hX 0).trans rfl
/-- Merge of one row. -/
theorem merge_one {X : World} {base : Nat} {ok : Nat → Prop} {v : Value} {xs : List Pt} (hR : Kd.R k99 99 X base ok v xs) {q : Nat} (hX : X.heap[q]? = some (.cells #[v] 53 (0, 0))) (hl : xs.length ≤ 1099511627776) :
  Calls Tryz.prog 38 #[.slice (some ⟨q, 0, none⟩) 1 1] X fun e w' => ∃ v' : Value, e = .returned v' ∧ Kd.R k99 99 w' X.heap.size (fun _ => True) v' (Vw.view xs) ∧ Below X.heap.size X w' := by
 have h := merge_calls X (some ⟨q, 0, none⟩) 1 [xs] (one_row hR hX) (by simp) (by simpa using hl) (by simp); simpa using h
end Mg
end Go.Proofs.YtiinmagnpkfbbaaGreat
end
section
namespace Go.Proofs.YtiinmagnpkfbbaaGreat
set_option linter.unusedVariables false
set_option linter.unusedSimpArgs false
open Go.ChangeShapes Go.WideShapes Go.ChangeAt Go.RowKit Go.Joins Go.Deep Go.Proofs.YtiinmagnpkfbbaaGreatW.PrintWords
namespace OpenRows
section
variable {H : Type} {enc : TypeId × Value → H} {P : Program} {w : World} {base : Nat} {spare : Nat → Bool} {held : Bool}
/-- What the cells of one element say. -/
def Elem {α : Type} (enc : TypeId × Value → H) (P : Program) (w : World) (base : Nat) (spare : Nat → Bool) (held : Bool) (e : TypeId) (d : Kd α) (Pr : α → Prop) : Prop :=
 ∀ n cs x, cs.length = d.sz → DataW.trod enc P w base spare held n e cs = some x → ∃ y, d.K w y cs ∧ Pr y
theorem open_rows {α : Type} [Inhabited α] {d : Kd α} {t e : TypeId} {Pr : α → Prop} (ht : P.underlying t = some (.slice e)) (hC : P.cellsOf e = d.sz) (hd : Elem enc P w base spare held e d Pr) {fuel : Nat} {cs : List Value} {x : DataW H × List MemPlace} (h : DataW.trod enc P w base spare held fuel t cs = some x) :
  ∃ (A : Option Addr) (cap : Nat) (l : List α), cs = [.slice A l.length cap] ∧ l.length ≤ cap ∧ l.length ≤ maxLen ∧ d.C w A l.length l ∧ ∀ y ∈ l, Pr y := by
 rcases open_slice ht h with ⟨h0, _⟩ | ⟨a, len, cap, m, n, D, Pl, rfl, hb, hl, hm, hmm, rfl, hx⟩
 ·
  exact ⟨none, 0, [], h0, Nat.le_refl _, by simp, Kd.C_nil _ _, by simp⟩
 have hlm : len ≤ m := by rw [hmm]; split <;> omega
 have each : ∀ i, i < len → ∃ y : α, (∃ c, c.length = d.sz ∧ d.K w y c ∧ ∀ k u, c[k]? = some u → w.cell? (a.add (i * d.sz + k)) = some u) ∧ Pr y := by
  intro i hi; obtain ⟨cs', h1, h2⟩ := hx i (by omega); rw [hC] at h1; obtain ⟨_, hlen, hcell⟩ := World.cells?_some h1; obtain ⟨y, hK, hP⟩ := hd n cs' _ hlen h2; refine ⟨y, ⟨cs', hlen, hK, fun k u hu => ?_⟩, hP⟩; obtain ⟨hk, hget⟩ := List.getElem?_eq_some_iff.1 hu; have := hcell k (by omega); rw [Addr.add_add] at this; rw [this]; simpa using hu
 obtain ⟨Y, hY⟩ := choose_lt each; refine ⟨some a, cap, (List.range len).map Y, by simp, by simpa using hl, by simp only [List.length_map, List.length_range]; exact Nat.le_trans hl hm, ⟨by simp, by simp only [List.length_map, List.length_range]; unfold maxLen at hm; omega, fun hp => ⟨a, rfl, fun j p hj => ?_⟩⟩, fun p hp => ?_⟩
 ·
  have hjl : j < len := by have := (List.getElem?_eq_some_iff.1 hj).1; simpa using this
  have hp : p = Y j := by
   rw [List.getElem?_map, List.getElem?_range hjl] at hj; exact (Option.some.inj hj).symm
  subst hp; exact (hY j hjl).1
 ·
  obtain ⟨j, hj, rfl⟩ := List.mem_map.1 hp; exact (hY j (List.mem_range.1 hj)).2
theorem elem_int {t : TypeId} {k : IntKind} (ht : P.underlying t = some (.int k)) : Elem enc P w base spare held t (Kd.int k) (fun y => (Lit.int k y).wf = true) := by
 intro n cs x _ h; obtain ⟨y, rfl, _, hw⟩ := DataW.trod_int ht h; exact ⟨y, rfl, hw⟩
theorem elem_slice {α : Type} [Inhabited α] {d : Kd α} {t e : TypeId} {Pr : α → Prop} (ht : P.underlying t = some (.slice e)) (hC : P.cellsOf e = d.sz) (hd : Elem enc P w base spare held e d Pr) : Elem enc P w base spare held t (Kd.slice e d) (fun l => l.length ≤ maxLen ∧ ∀ y ∈ l, Pr y) := by
 intro n cs x _ h; obtain ⟨A, cap, l, rfl, h1, h2, h3, h4⟩ := open_rows ht hC hd h; exact ⟨l, ⟨A, cap, rfl, h1, h3⟩, h2, h4⟩
end
end OpenRows
end Go.Proofs.YtiinmagnpkfbbaaGreat
end
