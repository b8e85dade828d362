/- What a Buffer's map says of the points that were written: their winners, time by time. -/
import Derived.Test.YtmocpglnoehknaaBufRead
namespace Go.Proofs.Ytmocpglnoehknaa
set_option linter.unusedVariables false
set_option linter.unusedSimpArgs false
open Go.RowKit Go.Proofs.YtmocpglnoehknaaW.PrintWords Go.Proofs.Ytmocpglnoehknaa.QT
namespace Buf
theorem mem_aput_self (m : Mp) (a : Place) (v : Held) : (a, v) ∈ XM.aput m a v := by
  induction m with
  | nil => simp [XM.aput]
  | cons q r ih =>
    rw [XM.aput]
    split
    · simp
    · exact List.mem_cons_of_mem _ ih
theorem mem_aput_other {m : Mp} {a : Place} {v : Held} {e : Place × Held} (he : e ∈ m) (hn : e.1 ≠ a) : e ∈ XM.aput m a v := by
  induction m with
  | nil => cases he
  | cons q r ih =>
    rw [XM.aput]
    rcases List.mem_cons.1 he with rfl | he
    · rw [if_neg hn]; simp
    · split
      · exact List.mem_cons_of_mem _ he
      · exact List.mem_cons_of_mem _ (ih he)
theorem mem_pts {idn : ByteArray} {m : Mp} {p : Pt} : p ∈ pts idn m ↔ ∃ e ∈ m, e.1.idn = idn ∧ e.2.p = p := by
  unfold pts
  rw [List.mem_map]
  constructor
  · rintro ⟨e, he, rfl⟩
    exact ⟨e, (List.mem_filter.1 he).1, of_decide_eq_true (List.mem_filter.1 he).2, rfl⟩
  · rintro ⟨e, he, h1, rfl⟩
    exact ⟨e, List.mem_filter.2 ⟨he, decide_eq_true h1⟩, rfl⟩
theorem key_inj {m : Mp} (hn : (XM.keys m).Nodup) {e e' : Place × Held} (he : e ∈ m) (he' : e' ∈ m) (h : e.1 = e'.1) : e = e' := by
  have h1 := XM.aget_mem hn he
  have h2 := XM.aget_mem hn he'
  rw [h, h2] at h1
  exact Prod.ext h (Option.some.inj h1).symm
/-- The map stands for the points l that were written at the name; the blocks are told by the times. -/
structure Inv (f : Int → Int) (xb : ByteArray) (m : Mp) (l : List Pt) : Prop where
  dom : Vw.Dom l (pts xb m)
  key : ∀ e ∈ m, e.1.tm = e.2.p.f0
  blk : ∀ e ∈ m, e.1.blk = f e.2.p.f0
theorem Inv.nil (f : Int → Int) (xb : ByteArray) : Inv f xb [] [] := ⟨⟨by simp [pts], by simp⟩, by simp, by simp⟩
theorem Inv.perm {f : Int → Int} {xb : ByteArray} {m : Mp} {l l' : List Pt} (h : Inv f xb m l) (hp : l'.Perm l) : Inv f xb m l' := ⟨(Vw.Dom.perm hp).trans h.dom, h.key, h.blk⟩
theorem wr_len (m : Mp) (b : Int) (i : ByteArray) (p : Pt) (v : Int) : (wr m b i p v).length ≤ m.length + 1 := by
  unfold wr
  split
  · exact XM.length_aput _ _ _
  · split
    · exact XM.length_aput _ _ _
    · omega
theorem wr_keys {f : Int → Int} {m : Mp} (h1 : ∀ e ∈ m, e.1.tm = e.2.p.f0) (h2 : ∀ e ∈ m, e.1.blk = f e.2.p.f0) (i : ByteArray) (p : Pt) (v : Int) : (∀ e ∈ wr m (f p.f0) i p v, e.1.tm = e.2.p.f0) ∧ ∀ e ∈ wr m (f p.f0) i p v, e.1.blk = f e.2.p.f0 := by
  have put : (∀ e ∈ XM.aput m ⟨f p.f0, i, p.f0⟩ ⟨p, v⟩, e.1.tm = e.2.p.f0) ∧ ∀ e ∈ XM.aput m ⟨f p.f0, i, p.f0⟩ ⟨p, v⟩, e.1.blk = f e.2.p.f0 := by
    refine ⟨fun e he => ?_, fun e he => ?_⟩
    · rcases XM.mem_aput he with he | rfl
      · exact h1 e he
      · rfl
    · rcases XM.mem_aput he with he | rfl
      · exact h2 e he
      · rfl
  unfold wr
  split
  · exact put
  · split
    · exact put
    · exact ⟨h1, h2⟩
theorem Inv.write {f : Int → Int} {xb : ByteArray} {m : Mp} {l : List Pt} (h : Inv f xb m l) (hn : (XM.keys m).Nodup) (p : Pt) (v : Int) : Inv f xb (wr m (f p.f0) xb p v) (p :: l) := by
  obtain ⟨k1, k2⟩ := wr_keys h.key h.blk xb p v
  refine ⟨?_, k1, k2⟩
  have put : (∀ hd, XM.aget m ⟨f p.f0, xb, p.f0⟩ = some hd → Vw.Ge p hd.p) → Vw.Dom (p :: l) (pts xb (XM.aput m ⟨f p.f0, xb, p.f0⟩ ⟨p, v⟩)) := by
    intro hw
    refine ⟨fun q hq => ?_, fun q hq => ?_⟩
    · obtain ⟨e, he, h1, rfl⟩ := mem_pts.1 hq
      rcases XM.mem_aput he with he | rfl
      · exact List.mem_cons_of_mem _ (h.dom.1 _ (mem_pts.2 ⟨e, he, h1, rfl⟩))
      · simp
    · rcases List.mem_cons.1 hq with rfl | hq
      · exact ⟨q, mem_pts.2 ⟨_, mem_aput_self _ _ _, rfl, rfl⟩, rfl, Vw.Ge.refl _⟩
      · obtain ⟨r, hr, h1, h2⟩ := h.dom.2 q hq
        obtain ⟨e, he, h3, rfl⟩ := mem_pts.1 hr
        by_cases ha : e.1 = ⟨f p.f0, xb, p.f0⟩
        · have hg := XM.aget_mem hn he
          rw [ha] at hg
          have hge := hw _ hg
          have ht : e.2.p.f0 = p.f0 := by rw [← h.key e he, ha]
          exact ⟨p, mem_pts.2 ⟨_, mem_aput_self _ _ _, rfl, rfl⟩, ht.symm.trans h1, hge.trans h2⟩
        · exact ⟨e.2.p, mem_pts.2 ⟨e, mem_aput_other he ha, h3, rfl⟩, h1, h2⟩
  unfold wr
  split
  · rename_i hg
    exact put (fun hd hh => by rw [hg] at hh; cases hh)
  · rename_i hd hg
    split
    · rename_i hw
      refine put (fun hd' hh => ?_)
      rw [hg] at hh
      cases hh
      rcases Vw.Ge.total p hd.p with h1 | h1
      · exact h1
      · exact absurd h1 ((Vw.wins_iff _ _).1 hw)
    · rename_i hw
      have hge : Vw.Ge hd.p p := (Vw.wins_false p hd.p).1 (by simpa using hw)
      have hm := XM.aget_some hg
      refine ⟨fun q hq => List.mem_cons_of_mem _ (h.dom.1 q hq), fun q hq => ?_⟩
      rcases List.mem_cons.1 hq with rfl | hq
      · exact ⟨hd.p, mem_pts.2 ⟨_, hm, rfl, rfl⟩, (h.key _ hm).symm, hge⟩
      · exact h.dom.2 q hq
theorem Inv.other {f : Int → Int} {xb yb : ByteArray} (hxy : yb ≠ xb) {m : Mp} {l : List Pt} (h : Inv f xb m l) (p : Pt) (v : Int) : Inv f xb (wr m (f p.f0) yb p v) l := by
  obtain ⟨k1, k2⟩ := wr_keys h.key h.blk yb p v
  refine ⟨?_, k1, k2⟩
  have put : Vw.Dom l (pts xb (XM.aput m ⟨f p.f0, yb, p.f0⟩ ⟨p, v⟩)) := by
    refine ⟨fun q hq => ?_, fun q hq => ?_⟩
    · obtain ⟨e, he, h1, rfl⟩ := mem_pts.1 hq
      rcases XM.mem_aput he with he | rfl
      · exact h.dom.1 _ (mem_pts.2 ⟨e, he, h1, rfl⟩)
      · exact absurd h1 hxy
    · obtain ⟨r, hr, h1, h2⟩ := h.dom.2 q hq
      obtain ⟨e, he, h3, rfl⟩ := mem_pts.1 hr
      exact ⟨e.2.p, mem_pts.2 ⟨e, mem_aput_other he (fun ha => hxy (by rw [← h3, ha])), h3, rfl⟩, h1, h2⟩
  unfold wr
  split
  · exact put
  · split
    · exact put
    · exact h.dom
theorem Inv.view {f : Int → Int} {xb : ByteArray} {m : Mp} {l : List Pt} (h : Inv f xb m l) : Vw.view (pts xb m) = Vw.view l := (Vw.view_dom h.dom).symm
/-- Points of different times: the view has just as many. -/
theorem view_len_apart {c : List Pt} (h : c.Pairwise (fun a b => a.f0 ≠ b.f0)) : (Vw.view c).length = c.length := by
  have hv := Vw.view_is c
  have inj : ∀ {p q : Pt}, p ∈ c → q ∈ c → p.f0 = q.f0 → p = q := by
    intro p q hp hq ht
    have hn : (c.map (·.f0)).Nodup := List.pairwise_map.2 h
    induction c with
    | nil => cases hp
    | cons a r ih =>
      obtain ⟨h1, h2⟩ := List.pairwise_cons.1 h
      rcases List.mem_cons.1 hp with ep | hp2
      · rcases List.mem_cons.1 hq with eq | hq2
        · rw [ep, eq]
        · exact absurd ht (by rw [ep]; exact h1 q hq2)
      · rcases List.mem_cons.1 hq with eq | hq2
        · exact absurd ht.symm (by rw [eq]; exact h1 p hp2)
        · exact ih h2 (Vw.view_is r) hp2 hq2 (List.pairwise_map.2 h2)
  have n1 : (Vw.view c).Nodup := hv.1.imp (fun hlt e => by rw [e] at hlt; omega)
  have n2 : c.Nodup := h.imp (fun hne e => hne (by rw [e]))
  refine ((List.perm_ext_iff_of_nodup n1 n2).2 (fun p => ⟨hv.2.1 p, fun hp => ?_⟩)).length_eq
  obtain ⟨q, hq, h1, h2⟩ := hv.2.2 p hp
  rw [← inj (hv.2.1 q hq) hp h1]
  exact hq
/-- Where all are of one name. -/
theorem Inv.len {f : Int → Int} {xb : ByteArray} {m : Mp} {l : List Pt} (h : Inv f xb m l) (hn : (XM.keys m).Nodup) (hx : ∀ e ∈ m, e.1.idn = xb) : (Vw.view l).length = m.length := by
  have e1 : pts xb m = m.map (·.2.p) := by
    unfold pts
    rw [List.filter_eq_self.2 (fun e he => decide_eq_true (hx e he))]
  rw [← h.view, view_len_apart, e1, List.length_map]
  rw [e1, List.pairwise_map]
  have : m.Pairwise (fun a b => a ∈ m ∧ b ∈ m ∧ a.1 ≠ b.1) := List.Pairwise.imp_of_mem (fun {a b} ha hb hh => ⟨ha, hb, hh⟩) (List.pairwise_map.1 hn)
  refine this.imp (fun {a b} ⟨ha, hb, hne⟩ ht => hne ?_)
  have h1 := h.key a ha
  have h2 := h.key b hb
  have h3 := h.blk a ha
  have h4 := h.blk b hb
  have h5 := hx a ha
  have h6 := hx b hb
  obtain ⟨⟨_, _, _⟩, _⟩ := a
  obtain ⟨⟨_, _, _⟩, _⟩ := b
  simp only at h1 h2 h3 h4 h5 h6
  rw [h1, h2, h3, h4, h5, h6, ht]
theorem wr_only {xb : ByteArray} {m : Mp} (hx : ∀ e ∈ m, e.1.idn = xb) (b : Int) (p : Pt) (v : Int) : ∀ e ∈ wr m b xb p v, e.1.idn = xb := by
  have put : ∀ e ∈ XM.aput m ⟨b, xb, p.f0⟩ ⟨p, v⟩, e.1.idn = xb := by
    intro e he
    rcases XM.mem_aput he with he | rfl
    · exact hx e he
    · rfl
  unfold wr
  split
  · exact put
  · split
    · exact put
    · exact hx
end Buf
end Go.Proofs.Ytmocpglnoehknaa
