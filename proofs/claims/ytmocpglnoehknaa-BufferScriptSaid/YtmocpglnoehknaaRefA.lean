/- The plain law of the document's Add: a point laid into points by rising times; into series by rising names. -/
import Derived.Test.YtmocpglnoehknaaTakeWalk
import Derived.Test.YtmocpglnoehknaaQS4
import Derived.Test.YtmocpglnoehknaaSeriesT
namespace Go.Proofs.Ytmocpglnoehknaa
set_option linter.unusedVariables false
set_option linter.unusedSimpArgs false
open Go.RowKit Go.Proofs.YtmocpglnoehknaaW.PrintWords Go.Proofs.YtmocpglnoehknaaW.PrintLast Go.Proofs.YtmocpglnoehknaaW.PrintMore Go.Proofs.Ytmocpglnoehknaa.QT Go.Proofs.Ytmocpglnoehknaa.QS
namespace Tk
/-- A point laid into points by rising times. -/
def ins (p : S24) : List S24 → List S24
  | [] => [p]
  | q :: r => if q.f0 < p.f0 then q :: ins p r else p :: q :: r
theorem ins_perm (p : S24) : ∀ l, (ins p l).Perm (p :: l)
  | [] => List.Perm.refl _
  | q :: r => by
    unfold ins
    split
    · exact ((ins_perm p r).cons q).trans (List.Perm.swap _ _ _)
    · exact List.Perm.refl _
theorem ins_up (p : S24) : ∀ l, UpT l → UpT (ins p l)
  | [], _ => List.pairwise_singleton _ _
  | q :: r, h => by
    have h1 := List.pairwise_cons.1 h
    unfold ins
    split
    · rename_i hq
      refine List.pairwise_cons.2 ⟨fun z hz => ?_, ins_up p r h1.2⟩
      rcases List.mem_cons.1 ((ins_perm p r).mem_iff.1 hz) with rfl | hz
      · omega
      · exact h1.1 z hz
    · rename_i hq
      refine List.pairwise_cons.2 ⟨fun z hz => ?_, h⟩
      rcases List.mem_cons.1 hz with rfl | hz
      · omega
      · have := h1.1 z hz; omega
theorem add06_j2 (P R : List S24) (p : S24) (hn : P.length + R.length ≤ 1000000) (k : Nat) :
    thermographref06_Add.j2 (k + 1) (P ++ R) (P.length : Int) P false p.f0 p.f1 p.f2 = some (P ++ p :: R) := by
  have hL : ((P ++ R).length : Int) = (P.length : Int) + (R.length : Int) := by simp
  have hd : (P ++ R).drop ((P.length : Int)).toNat = R := by simp
  rw [thermographref06_Add.j2, if_neg (by simp), if_pos (by omega), Option.bind_some, if_pos (by omega), if_pos (by omega), Option.bind_some, hd, if_pos (by rw [List.length_append, List.length_singleton]; omega)]
  simp
theorem add06_j1a (P R : List S24) (p : S24) (hn : P.length + R.length ≤ 1000000) (hR : ∀ q r, R = q :: r → p.f0 < q.f0) (k : Nat) :
    thermographref06_Add.j1 (k + 1) (P ++ R) (P.length : Int) p.f0 p.f1 p.f2 = thermographref06_Add.j2 k (P ++ R) (P.length : Int) P false p.f0 p.f1 p.f2 := by
  have hL : ((P ++ R).length : Int) = (P.length : Int) + (R.length : Int) := by simp
  have ht : (P ++ R).take ((P.length : Int)).toNat = P := by simp
  rw [thermographref06_Add.j1, Option.bind_some, if_pos (by omega), if_pos (by omega), Option.bind_some, ht, if_pos (by rw [List.length_nil]; omega), Option.bind_some, List.nil_append]
  by_cases h : (P.length : Int) < ((P ++ R).length : Int)
  · rw [if_pos h]
    cases R with
    | nil => exact absurd h (by simp)
    | cons q r =>
      have e : rd_T24 (P ++ q :: r) (P.length : Int) = q := Vw.rd_mid' P r q _ rfl
      have hq := hR q r rfl
      have h2 : (q.f0 == p.f0) = false := by rw [beq_eq_false_iff_ne]; omega
      rw [e, h2]
  · rw [if_neg h]
theorem add06_j1 (P R : List S24) (p : S24) (hn : (P ++ R).length ≤ 1000000) (hR : ∀ q r, R = q :: r → p.f0 < q.f0) :
    Ev (fun k => thermographref06_Add.j1 k (P ++ R) (P.length : Int) p.f0 p.f1 p.f2) (P ++ p :: R) := by
  have hn2 : P.length + R.length ≤ 1000000 := by rw [List.length_append] at hn; exact hn
  have hj2 : Ev (fun k => thermographref06_Add.j2 k (P ++ R) (P.length : Int) P false p.f0 p.f1 p.f2) (P ++ p :: R) :=
    Ev.step (f := fun _ => some (P ++ p :: R)) (fun k => add06_j2 P R p hn2 k) (Ev.now _)
  exact Ev.step (fun k => add06_j1a P R p hn2 hR k) hj2
theorem add06_ev0 (p : S24) : ∀ (R P l : List S24), l = P ++ R → l.length ≤ 1000000 → (∀ q ∈ R, q.f0 ≠ p.f0) → Ev (fun k => thermographref06_Add.l0 k l (P.length : Int) p.f0 p.f1 p.f2) (P ++ ins p R)
  | [], P, l, hl, hn, hd => by
    subst hl
    have := add06_j1 P [] p hn (fun q r h => by cases h)
    refine Ev.step (f := fun k => thermographref06_Add.j1 k (P ++ []) (P.length : Int) p.f0 p.f1 p.f2) (fun k => ?_) this
    rw [thermographref06_Add.l0, if_neg (by simp)]
  | q :: R, P, l, hl, hn, hd => by
    have e : rd_T24 l (P.length : Int) = q := by rw [hl]; exact Vw.rd_mid' P R q _ rfl
    have hll : l.length = P.length + R.length + 1 := by rw [hl]; simp; omega
    have hq := hd q (by simp)
    by_cases h : q.f0 < p.f0
    · have ih := add06_ev0 p R (P ++ [q]) l (by rw [hl]; simp) hn (fun z hz => hd z (by simp [hz]))
      rw [List.length_append, List.length_singleton] at ih
      rw [ins, if_pos h]
      rw [show P ++ q :: ins p R = (P ++ [q]) ++ ins p R by simp]
      refine Ev.step (fun k => ?_) ih
      rw [thermographref06_Add.l0, if_pos (by omega), if_pos (by omega), e, if_pos h, Vw.w1 _ (by omega)]
    · have hj := add06_j1 P (q :: R) p (by rw [← hl]; exact hn) (fun q' r' h' => by cases h'; omega)
      rw [ins, if_neg h]
      rw [← hl] at hj
      refine Ev.step (fun k => ?_) hj
      rw [thermographref06_Add.l0, if_pos (by omega), if_pos (by omega), e, if_neg h]
/-- The document's Add at points of other times. -/
theorem add06_ev (p : S24) (l : List S24) (hn : l.length ≤ 1000000) (hd : ∀ q ∈ l, q.f0 ≠ p.f0) : Ev (fun k => thermographref06_Add.f k l p.f0 p.f1 p.f2) (ins p l) := by
  refine Ev.congr (fun k => ?_) (add06_ev0 p l [] l rfl hn hd)
  unfold thermographref06_Add.f
  rfl
end Tk
end Go.Proofs.Ytmocpglnoehknaa

/- The document's Add over a block's points: names by rising order, points by rising times. -/
namespace Go.Proofs.Ytmocpglnoehknaa
open Go.RowKit Go.Proofs.YtmocpglnoehknaaW.PrintWords Go.Proofs.YtmocpglnoehknaaW.PrintLast Go.Proofs.YtmocpglnoehknaaW.PrintMore Go.Proofs.Ytmocpglnoehknaa.QT Go.Proofs.Ytmocpglnoehknaa.QS
namespace Tk
def ltN (a b : ByteArray) : Bool := Op.bytesLess a.toList b.toList
theorem ltN_iff {a b : ByteArray} : ltN a b = true ↔ a.data.toList < b.data.toList := by
  unfold ltN
  rw [bytesLess_eq, ByteArray.toList_eq, ByteArray.toList_eq, decide_eq_true_iff]
theorem ltN_not {a b : ByteArray} : ltN a b = false ↔ leN b a := by
  rw [← Bool.not_eq_true, ltN_iff]
  unfold leN
  exact List.not_lt
/-- A point laid into series by rising names (ins: into points by rising times). -/
def insS (ins : S24 → List S24 → List S24) (n : ByteArray) (p : S24) : List S79 → List S79
  | [] => [⟨n, [p]⟩]
  | s :: r => if ltN s.f0 n = true then s :: insS ins n p r else if s.f0 = n then ⟨n, ins p s.f1⟩ :: r else ⟨n, [p]⟩ :: s :: r
theorem insS_names (ins : S24 → List S24 → List S24) (n : ByteArray) (p : S24) : ∀ (l : List S79) (x : ByteArray), x ∈ (insS ins n p l).map (·.f0) ↔ x = n ∨ x ∈ l.map (·.f0)
  | [], x => by simp [insS]
  | s :: r, x => by
    unfold insS
    split
    · rw [List.map_cons, List.mem_cons, insS_names ins n p r x, List.map_cons, List.mem_cons]
      constructor
      · rintro (h | h | h)
        · exact .inr (.inl h)
        · exact .inl h
        · exact .inr (.inr h)
      · rintro (h | h | h)
        · exact .inr (.inl h)
        · exact .inl h
        · exact .inr (.inr h)
    · split
      · rename_i h2
        rw [List.map_cons, List.map_cons, List.mem_cons, List.mem_cons, h2]
        constructor
        · rintro (h | h)
          · exact .inl h
          · exact .inr (.inr h)
        · rintro (h | h | h)
          · exact .inl h
          · exact .inl h
          · exact .inr h
      · simp
theorem insS_up (ins : S24 → List S24 → List S24) (n : ByteArray) (p : S24) : ∀ (l : List S79), (l.map (·.f0)).Pairwise leN → (l.map (·.f0)).Nodup → ((insS ins n p l).map (·.f0)).Pairwise leN ∧ ((insS ins n p l).map (·.f0)).Nodup
  | [], _, _ => by simp [insS]
  | s :: r, h1, h2 => by
    rw [List.map_cons] at h1 h2
    obtain ⟨a1, a2⟩ := List.pairwise_cons.1 h1
    obtain ⟨b1, b2⟩ := List.nodup_cons.1 h2
    obtain ⟨c1, c2⟩ := insS_up ins n p r a2 b2
    unfold insS
    split
    · rename_i hlt
      rw [List.map_cons]
      have hle : leN s.f0 n := by unfold leN; exact List.le_of_lt (ltN_iff.1 hlt)
      have hne : s.f0 ≠ n := fun e => by rw [e] at hlt; exact absurd (ltN_iff.1 hlt) (List.lt_irrefl _)
      refine ⟨List.pairwise_cons.2 ⟨fun x hx => ?_, c1⟩, List.nodup_cons.2 ⟨fun hx => ?_, c2⟩⟩
      · rcases (insS_names ins n p r x).1 hx with rfl | hx
        · exact hle
        · exact a1 x hx
      · rcases (insS_names ins n p r _).1 hx with e | hx
        · exact hne e
        · exact b1 hx
    · rename_i hlt
      have hle : leN n s.f0 := ltN_not.1 (by simpa using hlt)
      split
      · rename_i h3
        rw [List.map_cons]
        exact ⟨by rw [← h3]; exact h1, by rw [← h3]; exact h2⟩
      · rename_i h3
        rw [List.map_cons, List.map_cons]
        have hall : ∀ x ∈ s.f0 :: r.map (·.f0), leN n x := by
          intro x hx
          rcases List.mem_cons.1 hx with rfl | hx
          · exact hle
          · exact List.le_trans hle (a1 x hx)
        refine ⟨List.pairwise_cons.2 ⟨hall, h1⟩, List.nodup_cons.2 ⟨fun hx => ?_, h2⟩⟩
        rcases List.mem_cons.1 hx with e | hx
        · exact h3 e.symm
        · have h4 := a1 n hx
          exact h3 (ByteArray.ext (Array.toList_inj.1 (List.le_antisymm h4 hle)))
theorem insS_mem (ins : S24 → List S24 → List S24) (n : ByteArray) (p : S24) : ∀ (l : List S79), (l.map (·.f0)).Pairwise leN → (l.map (·.f0)).Nodup → ∀ s ∈ insS ins n p l,
    (s ∈ l ∧ s.f0 ≠ n) ∨ (s.f0 = n ∧ ((∃ t ∈ l, t.f0 = n ∧ s.f1 = ins p t.f1) ∨ ((∀ t ∈ l, t.f0 ≠ n) ∧ s.f1 = [p])))
  | [], _, _, s, hs => by
    have := List.mem_singleton.1 hs
    subst this
    exact .inr ⟨rfl, .inr ⟨by simp, rfl⟩⟩
  | q :: r, h1, h2, s, hs => by
    rw [List.map_cons] at h1 h2
    obtain ⟨a1, a2⟩ := List.pairwise_cons.1 h1
    obtain ⟨b1, b2⟩ := List.nodup_cons.1 h2
    unfold insS at hs
    split at hs
    · rename_i hlt
      have hne : q.f0 ≠ n := fun e => by rw [e] at hlt; exact absurd (ltN_iff.1 hlt) (List.lt_irrefl _)
      rcases List.mem_cons.1 hs with rfl | hs
      · exact .inl ⟨by simp, hne⟩
      · rcases insS_mem ins n p r a2 b2 s hs with ⟨h3, h4⟩ | ⟨h3, ⟨t, h4, h5, h6⟩ | ⟨h4, h5⟩⟩
        · exact .inl ⟨List.mem_cons_of_mem _ h3, h4⟩
        · exact .inr ⟨h3, .inl ⟨t, List.mem_cons_of_mem _ h4, h5, h6⟩⟩
        · refine .inr ⟨h3, .inr ⟨fun t ht => ?_, h5⟩⟩
          rcases List.mem_cons.1 ht with rfl | ht
          · exact hne
          · exact h4 t ht
    · rename_i hlt
      have hle : leN n q.f0 := ltN_not.1 (by simpa using hlt)
      split at hs
      · rename_i h3
        rcases List.mem_cons.1 hs with rfl | hs
        · exact .inr ⟨rfl, .inl ⟨q, by simp, h3, rfl⟩⟩
        · exact .inl ⟨List.mem_cons_of_mem _ hs, fun e => b1 (by rw [h3, ← e]; exact List.mem_map.2 ⟨s, hs, rfl⟩)⟩
      · rename_i h3
        have hall : ∀ t ∈ q :: r, t.f0 ≠ n := by
          intro t ht e
          rcases List.mem_cons.1 ht with rfl | ht
          · exact h3 e
          · have h4 := a1 t.f0 (List.mem_map.2 ⟨t, ht, rfl⟩)
            rw [e] at h4
            exact h3 (ByteArray.ext (Array.toList_inj.1 (List.le_antisymm h4 hle)))
        rcases List.mem_cons.1 hs with rfl | hs
        · exact .inr ⟨rfl, .inr ⟨hall, rfl⟩⟩
        · exact .inl ⟨hs, hall s hs⟩
open Buf (Mp Held pts)
theorem takeIs_step (ins : S24 → List S24 → List S24) (hp : ∀ p l, (ins p l).Perm (p :: l)) (hu : ∀ p l, UpT l → UpT (ins p l)) {blk : Int} {m : Mp} {l : List S79} (h : TakeIs blk m l) (e : Buf.Place × Held) (hb : e.1.blk = blk) :
    TakeIs blk (m ++ [e]) (insS ins e.1.idn e.2.p l) := by
  obtain ⟨x, y⟩ := e
  have e1 : ofB blk (m ++ [(x, y)]) = ofB blk m ++ [(x, y)] := by rw [ofB_append, ofB_one hb]
  obtain ⟨u1, u2⟩ := insS_up ins x.idn y.p l h.le h.nodup
  refine ⟨u1, u2, fun s hs => ?_, fun n => ?_⟩
  · rw [e1, pts_append]
    rcases insS_mem ins x.idn y.p l h.le h.nodup s hs with ⟨h1, h2⟩ | ⟨h1, ⟨t, h2, h3, h4⟩ | ⟨h2, h3⟩⟩
    · rw [pts_other (fun e2 => h2 e2.symm), List.append_nil]
      exact h.pts s h1
    · obtain ⟨q1, q2⟩ := h.pts t h2
      rw [h1, pts_one, h4]
      rw [h3] at q1
      exact ⟨(hp _ _).trans ((q1.cons _).trans (List.perm_append_singleton _ _).symm), hu _ _ q2⟩
    · have h5 : pts x.idn (ofB blk m) = [] := pts_none (fun z hz e2 => by
        obtain ⟨t, ht1, ht2⟩ := List.mem_map.1 ((h.names x.idn).2 ⟨z, hz, e2⟩)
        exact h2 t ht1 ht2)
      rw [h1, pts_one, h5, h3]
      exact ⟨List.Perm.refl _, List.pairwise_singleton _ _⟩
  · rw [insS_names, e1, h.names]
    constructor
    · rintro (rfl | ⟨z, hz, h2⟩)
      · exact ⟨(x, y), by simp, rfl⟩
      · exact ⟨z, List.mem_append_left _ hz, h2⟩
    · rintro ⟨z, hz, h2⟩
      rcases List.mem_append.1 hz with hz | hz
      · exact .inr ⟨z, hz, h2⟩
      · have := List.mem_singleton.1 hz
        subst this
        exact .inl h2.symm
end Tk
end Go.Proofs.Ytmocpglnoehknaa

/- The plain law of the document's Add over series. -/
namespace Go.Proofs.Ytmocpglnoehknaa
open Go.RowKit Go.Proofs.YtmocpglnoehknaaW.PrintWords Go.Proofs.YtmocpglnoehknaaW.PrintLast Go.Proofs.YtmocpglnoehknaaW.PrintMore Go.Proofs.Ytmocpglnoehknaa.QT Go.Proofs.Ytmocpglnoehknaa.QS
namespace Tk
theorem rd79_mid (P S : List S79) (x : S79) (i : Int) (hi : i = P.length) : rd_T79 (P ++ x :: S) i = x := by subst hi; unfold rd_T79; simp
theorem bytes_iff {a b : ByteArray} : a.toList = b.toList ↔ a = b := by
  rw [ByteArray.toList_eq, ByteArray.toList_eq]
  exact ⟨fun h => ByteArray.ext (Array.toList_inj.mp h), fun h => by rw [h]⟩
theorem add11_end (P : List S79) (n : ByteArray) (p : S24) (hn : P.length ≤ 1000000) (k : Nat) :
    thermographref11_Add.l0 (k + 1) P n (P.length : Int) p.f0 p.f1 p.f2 = some (P ++ [⟨n, [p]⟩]) := by
  have ht : P.take ((P.length : Int)).toNat = P := by simp
  have hd : P.drop ((P.length : Int)).toNat = [] := by simp
  rw [thermographref11_Add.l0, if_neg (by omega), Option.bind_some, if_pos (by omega), if_pos (by omega), Option.bind_some, ht, if_pos (by rw [List.length_nil]; omega), Option.bind_some, List.nil_append, if_pos (by omega), Option.bind_some, hd, Option.bind_some, if_pos (by rw [List.length_append, List.length_singleton, List.length_nil]; omega), List.append_nil]
theorem add11_new (P R : List S79) (q : S79) (n : ByteArray) (p : S24) (hn : (P ++ q :: R).length ≤ 1000000) (h1 : ltN q.f0 n = false) (h2 : q.f0 ≠ n) (k : Nat) :
    thermographref11_Add.l0 (k + 1) (P ++ q :: R) n (P.length : Int) p.f0 p.f1 p.f2 = some (P ++ ⟨n, [p]⟩ :: q :: R) := by
  have hl : (P ++ q :: R).length = P.length + R.length + 1 := by simp; omega
  have hli : ((P ++ q :: R).length : Int) = (P.length : Int) + (R.length : Int) + 1 := by rw [hl]; omega
  have ht : (P ++ q :: R).take ((P.length : Int)).toNat = P := by simp
  have hd : (P ++ q :: R).drop ((P.length : Int)).toNat = q :: R := by simp
  have e : rd_T79 (P ++ q :: R) (P.length : Int) = q := rd79_mid P R q _ rfl
  have h1 : ¬ (Op.bytesLess q.f0.toList n.toList = true) := by unfold ltN at h1; rw [h1]; simp
  rw [thermographref11_Add.l0, if_pos (by omega), if_pos (by omega), e, if_neg h1, Option.bind_some, if_pos (by omega), Option.bind_some, ht, if_pos (by rw [List.length_nil]; omega), Option.bind_some, List.nil_append, if_neg (fun h => h2 (bytes_iff.1 h)), if_pos (by omega), Option.bind_some, hd, Option.bind_some, if_pos (by rw [List.length_append, List.length_singleton, List.length_cons]; omega)]
  simp
theorem add11_at (P R : List S79) (q : S79) (n : ByteArray) (p : S24) (hn : (P ++ q :: R).length ≤ 1000000) (h2 : q.f0 = n) (k : Nat) :
    thermographref11_Add.l0 (k + 1) (P ++ q :: R) n (P.length : Int) p.f0 p.f1 p.f2 = (thermographref06_Add.f k q.f1 p.f0 p.f1 p.f2).bind (fun t => some (P ++ ⟨n, t⟩ :: R)) := by
  have hl : (P ++ q :: R).length = P.length + R.length + 1 := by simp; omega
  have hli : ((P ++ q :: R).length : Int) = (P.length : Int) + (R.length : Int) + 1 := by rw [hl]; omega
  have ht : (P ++ q :: R).take ((P.length : Int)).toNat = P := by simp
  have e : rd_T79 (P ++ q :: R) (P.length : Int) = q := rd79_mid P R q _ rfl
  have h1 : ¬ (Op.bytesLess q.f0.toList n.toList = true) := by rw [h2, QT.str_irrefl]; simp
  have hw : wrap64 ((P.length : Int) + 1) = ((P.length + 1 : Nat) : Int) := Vw.w1 _ (by omega)
  have hd : (P ++ q :: R).drop (((P.length + 1 : Nat) : Int)).toNat = R := by rw [Int.toNat_natCast, List.drop_append]; simp
  rw [thermographref11_Add.l0, if_pos (by omega), if_pos (by omega), e, if_neg h1, Option.bind_some, if_pos (by omega), Option.bind_some, ht, if_pos (by rw [List.length_nil]; omega), Option.bind_some, List.nil_append, if_pos (bytes_iff.2 h2)]
  congr 1
  funext t
  rw [if_pos (by omega), Option.bind_some, hw, if_pos (by omega), if_pos (by omega), hd, Option.bind_some, if_pos (by rw [List.length_append, List.length_singleton]; omega)]
  simp
theorem add11_ev0 (n : ByteArray) (p : S24) : ∀ (R P l : List S79), l = P ++ R → l.length ≤ 1000000 → (∀ s ∈ R, s.f1.length ≤ 1000000 ∧ (s.f0 = n → ∀ q ∈ s.f1, q.f0 ≠ p.f0)) → Ev (fun k => thermographref11_Add.l0 k l n (P.length : Int) p.f0 p.f1 p.f2) (P ++ insS ins n p R)
  | [], P, l, hl, hn, hd => by
    subst hl
    rw [List.append_nil] at hn ⊢
    exact Ev.step (f := fun _ => some _) (fun k => add11_end P n p hn k) (Ev.now _)
  | s :: R, P, l, hl, hn, hd => by
    obtain ⟨d1, d2⟩ := hd s (by simp)
    have hll : l.length = P.length + R.length + 1 := by rw [hl]; simp; omega
    unfold insS
    by_cases h1 : ltN s.f0 n = true
    · rw [if_pos h1]
      have ih := add11_ev0 n p R (P ++ [s]) l (by rw [hl]; simp) hn (fun z hz => hd z (by simp [hz]))
      rw [List.length_append, List.length_singleton] at ih
      rw [show P ++ s :: insS ins n p R = (P ++ [s]) ++ insS ins n p R by simp]
      have e : rd_T79 l (P.length : Int) = s := by rw [hl]; exact rd79_mid P R s _ rfl
      have h1' : Op.bytesLess s.f0.toList n.toList = true := h1
      refine Ev.step (fun k => ?_) ih
      rw [thermographref11_Add.l0, if_pos (by omega), if_pos (by omega), e, if_pos h1', Vw.w1 _ (by omega)]
    · rw [if_neg h1]
      have h1f : ltN s.f0 n = false := by simpa using h1
      subst hl
      by_cases h2 : s.f0 = n
      · rw [if_pos h2]
        exact Ev.step (fun k => add11_at P R s n p hn h2 k) (Ev.bind (f := fun _ t => some (P ++ ⟨n, t⟩ :: R)) (add06_ev p s.f1 d1 (d2 h2)) (Ev.now _))
      · rw [if_neg h2]
        exact Ev.step (f := fun _ => some _) (fun k => add11_new P R s n p hn h1f h2 k) (Ev.now _)
end Tk
end Go.Proofs.Ytmocpglnoehknaa
