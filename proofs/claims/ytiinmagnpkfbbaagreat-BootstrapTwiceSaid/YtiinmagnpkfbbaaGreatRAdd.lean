/- The document's add. -/
import Derived.Test.YtiinmagnpkfbbaaGreatOpenRows
import Derived.Test.YtiinmagnpkfbbaaGreatRWants
section
namespace Go.Proofs.YtiinmagnpkfbbaaGreat
set_option linter.unusedVariables false
set_option linter.unusedSimpArgs false
open Go.RowKit Go.Proofs.YtiinmagnpkfbbaaGreatW.PrintWords Go.Proofs.YtiinmagnpkfbbaaGreatW.PrintLast Go.Proofs.YtiinmagnpkfbbaaGreatW.PrintMore Go.Proofs.YtiinmagnpkfbbaaGreat.QT
namespace Ra
abbrev Pt := S99
abbrev Sr := S55
def best (q p : Pt) : Pt := if winsP q p = true then q else p
def addP (p : Pt) : List Pt → List Pt
 | [] => [p]
 | q :: r => if q.f0 < p.f0 then q :: addP p r else if q.f0 = p.f0 then best q p :: r else p :: q :: r
theorem addP_len (p : Pt) : ∀ l : List Pt, (addP p l).length ≤ l.length + 1
 | [] => by simp [addP]
 | q :: r => by
  unfold addP
  split
  ·
   have := addP_len p r; simp only [List.length_cons]; omega
  ·
   split <;> simp
theorem w1 (n : Nat) (h : n ≤ 1099511627776) : wrap64 ((n : Int) + 1) = ((n + 1 : Nat) : Int) := by unfold wrap64; omega
theorem rd_mid (P S : List Pt) (x : Pt) (i : Int) (hi : i = P.length) : rd_T99 (P ++ x :: S) i = x := by subst hi; unfold rd_T99; simp
theorem rwins (a b : Pt) : thermographref06_Wins.f a.f0 a.f1 a.f2 b.f0 b.f1 b.f2 = some (winsP a b) := by
 unfold thermographref06_Wins.f winsP
 by_cases h1 : a.f2 > b.f2
 ·
  rw [if_pos h1, decide_eq_true h1]; rfl
 ·
  rw [if_neg h1, decide_eq_false h1, Bool.false_or]
  by_cases h2 : a.f2 = b.f2
  ·
   rw [if_pos h2, h2]; simp
  ·
   rw [if_neg h2, beq_eq_false_iff_ne.2 h2]; rfl
theorem add_j2f (P R : List Pt) (p : Pt) (hn : P.length + R.length ≤ 1000000) (k : Nat) :
  thermographref06_Add.j2 (k + 1) (P ++ R) (P.length : Int) P false p.f0 p.f1 p.f2 = some (P ++ p :: R) := by
 have hL : ((P ++ R).length : Int) = (P.length : Int) + (R.length : Int) := by simp
 have hd : (P ++ R).drop ((P.length : Int)).toNat = R := by simp
 rw [thermographref06_Add.j2, if_neg (by simp), if_pos (by omega), Option.bind_some, if_pos (by omega), if_pos (by omega), Option.bind_some, hd, if_pos (by rw [List.length_append, List.length_singleton]; omega)]; simp
theorem add_j2t (P R : List Pt) (q p : Pt) (hn : P.length + R.length + 1 ≤ 1000000) (k : Nat) :
  thermographref06_Add.j2 (k + 1) (P ++ q :: R) (P.length : Int) P true p.f0 p.f1 p.f2 = some (P ++ best q p :: R) := by
 have hL : ((P ++ q :: R).length : Int) = (P.length : Int) + (R.length : Int) + 1 := by simp; omega
 have e : rd_T99 (P ++ q :: R) (P.length : Int) = q := rd_mid P R q _ rfl; have hw : wrap64 ((P.length : Int) + 1) = ((P.length + 1 : Nat) : Int) := w1 _ (by omega); have hd : (P ++ q :: R).drop (((P.length + 1 : Nat) : Int)).toNat = R := by rw [Int.toNat_natCast, List.drop_append]; simp
 rw [thermographref06_Add.j2, if_pos rfl, if_pos (by omega), if_pos (by omega), e, rwins, Option.bind_some, hw]; unfold best
 by_cases hwin : winsP q p = true
 ·
  rw [if_pos hwin, if_pos hwin, if_pos (by omega), Option.bind_some, if_pos (by omega), if_pos (by omega), hd, Option.bind_some, if_pos (by rw [List.length_append, List.length_singleton]; omega)]; simp
 ·
  rw [if_neg hwin, if_neg hwin, if_pos (by omega), Option.bind_some, if_pos (by omega), if_pos (by omega), hd, Option.bind_some, if_pos (by rw [List.length_append, List.length_singleton]; omega)]; simp
theorem add_j1f (P R : List Pt) (p : Pt) (hn : P.length + R.length ≤ 1000000) (hR : ∀ q r, R = q :: r → p.f0 ≠ q.f0) (k : Nat) :
  thermographref06_Add.j1 (k + 1) (P ++ R) (P.length : Int) p.f0 p.f1 p.f2 = thermographref06_Add.j2 k (P ++ R) (P.length : Int) P false p.f0 p.f1 p.f2 := by
 have hL : ((P ++ R).length : Int) = (P.length : Int) + (R.length : Int) := by simp
 have ht : (P ++ R).take ((P.length : Int)).toNat = P := by simp
 rw [thermographref06_Add.j1, Option.bind_some, if_pos (by omega), if_pos (by omega), Option.bind_some, ht, if_pos (by rw [List.length_nil]; omega), Option.bind_some, List.nil_append]
 by_cases h : (P.length : Int) < ((P ++ R).length : Int)
 ·
  rw [if_pos h]
  cases R with
  | nil => exact absurd h (by simp)
  | cons q r =>
   have e : rd_T99 (P ++ q :: r) (P.length : Int) = q := rd_mid P r q _ rfl; have hq := hR q r rfl; have h2 : (q.f0 == p.f0) = false := by rw [beq_eq_false_iff_ne]; exact fun e => hq e.symm
   rw [e, h2]
 ·
  rw [if_neg h]
theorem add_j1t (P R : List Pt) (q p : Pt) (hn : P.length + R.length + 1 ≤ 1000000) (hq : q.f0 = p.f0) (k : Nat) :
  thermographref06_Add.j1 (k + 1) (P ++ q :: R) (P.length : Int) p.f0 p.f1 p.f2 = thermographref06_Add.j2 k (P ++ q :: R) (P.length : Int) P true p.f0 p.f1 p.f2 := by
 have hL : ((P ++ q :: R).length : Int) = (P.length : Int) + (R.length : Int) + 1 := by simp; omega
 have ht : (P ++ q :: R).take ((P.length : Int)).toNat = P := by simp
 have e : rd_T99 (P ++ q :: R) (P.length : Int) = q := rd_mid P R q _ rfl; rw [thermographref06_Add.j1, Option.bind_some, if_pos (by omega), if_pos (by omega), Option.bind_some, ht, if_pos (by rw [List.length_nil]; omega), Option.bind_some, List.nil_append, if_pos (by omega), e, beq_iff_eq.2 hq]
theorem add_j1 (p : Pt) (P R : List Pt) (hn : P.length + R.length ≤ 1000000) (hR : ∀ q r, R = q :: r → ¬ q.f0 < p.f0) : Ev (fun k => thermographref06_Add.j1 k (P ++ R) (P.length : Int) p.f0 p.f1 p.f2) (P ++ addP p R) := by
 have hf : (∀ q r, R = q :: r → p.f0 ≠ q.f0) → addP p R = p :: R → Ev (fun k => thermographref06_Add.j1 k (P ++ R) (P.length : Int) p.f0 p.f1 p.f2) (P ++ addP p R) := by
  intro h1 h2; rw [h2]; exact Ev.step (fun k => add_j1f P R p hn h1 k) (Ev.step (f := fun _ => some (P ++ p :: R)) (fun k => add_j2f P R p hn k) (Ev.now _))
 cases R with
 | nil => exact hf (fun q r h => by cases h) rfl
 | cons q r =>
  have hq := hR q r rfl; rw [List.length_cons] at hn
  by_cases h : q.f0 = p.f0
  ·
   rw [addP, if_neg hq, if_pos h]; exact Ev.step (fun k => add_j1t P r q p (by omega) h k) (Ev.step (f := fun _ => some (P ++ best q p :: r)) (fun k => add_j2t P r q p (by omega) k) (Ev.now _))
  ·
   exact hf (fun q' r' h' => by cases h'; exact fun e => h e.symm) (by rw [addP, if_neg hq, if_neg h])
theorem add_ev0 (p : Pt) : ∀ (R P l : List Pt), l = P ++ R → l.length ≤ 1000000 → Ev (fun k => thermographref06_Add.l0 k l (P.length : Int) p.f0 p.f1 p.f2) (P ++ addP p R)
 | [], P, l, hl, hn => by
  subst hl; rw [List.length_append] at hn; have := add_j1 p P [] hn (fun q r h => by cases h); refine Ev.step (f := fun k => thermographref06_Add.j1 k (P ++ []) (P.length : Int) p.f0 p.f1 p.f2) (fun k => ?_) this
  rw [thermographref06_Add.l0, if_neg (by simp)]
 | q :: R, P, l, hl, hn => by
  have e : rd_T99 l (P.length : Int) = q := by rw [hl]; exact rd_mid P R q _ rfl
  have hll : l.length = P.length + R.length + 1 := by rw [hl]; simp; omega
  by_cases h : q.f0 < p.f0
  ·
   have ih := add_ev0 p R (P ++ [q]) l (by rw [hl]; simp) hn; rw [List.length_append, List.length_singleton] at ih; rw [addP, if_pos h]; rw [show P ++ q :: addP p R = (P ++ [q]) ++ addP p R by simp]; refine Ev.step (fun k => ?_) ih; rw [thermographref06_Add.l0, if_pos (by omega), if_pos (by omega), e, if_pos h, w1 _ (by omega)]
  ·
   have hj := add_j1 p P (q :: R) (by rw [List.length_cons]; omega) (fun q' r' h' => by cases h'; exact h); rw [← hl] at hj; refine Ev.step (fun k => ?_) hj; rw [thermographref06_Add.l0, if_pos (by omega), if_pos (by omega), e, if_neg h]
theorem add_ev (p : Pt) (l : List Pt) (hn : l.length ≤ 1000000) : Ev (fun k => thermographref06_Add.f k l p.f0 p.f1 p.f2) (addP p l) := by
 refine Ev.congr (fun k => ?_) (add_ev0 p l [] l rfl hn); unfold thermographref06_Add.f; rfl
def ltN (a b : ByteArray) : Bool := Op.bytesLess a.toList b.toList
def insS (n : ByteArray) (p : Pt) : List Sr → List Sr
 | [] => [⟨n, [p]⟩]
 | s :: r => if ltN s.f0 n = true then s :: insS n p r else if s.f0 = n then ⟨n, addP p s.f1⟩ :: r else ⟨n, [p]⟩ :: s :: r
theorem insS_len (n : ByteArray) (p : Pt) : ∀ l : List Sr, (insS n p l).length ≤ l.length + 1
 | [] => by simp [insS]
 | s :: r => by
  unfold insS
  split
  ·
   have := insS_len n p r; simp only [List.length_cons]; omega
  ·
   split <;> simp
theorem insS_lens (n : ByteArray) (p : Pt) (K : Nat) : ∀ l : List Sr, (∀ s ∈ l, s.f1.length ≤ K) → ∀ s ∈ insS n p l, s.f1.length ≤ K + 1
 | [], _, s, hs => by
  rw [List.mem_singleton.1 hs]; simp
 | q :: r, h, s, hs => by
  unfold insS at hs
  split at hs
  ·
   rcases List.mem_cons.1 hs with rfl | hs
   ·
    have := h _ List.mem_cons_self; omega
   ·
    exact insS_lens n p K r (fun x hx => h x (List.mem_cons_of_mem _ hx)) s hs
  ·
   split at hs
   ·
    rcases List.mem_cons.1 hs with rfl | hs
    ·
     have h1 := h q List.mem_cons_self; have h2 := addP_len p q.f1; show (addP p q.f1).length ≤ K + 1; omega
    ·
     have := h s (List.mem_cons_of_mem _ hs); omega
   ·
    rcases List.mem_cons.1 hs with rfl | hs
    ·
     simp
    ·
     have := h s hs; omega
theorem rdS_mid (P S : List Sr) (x : Sr) (i : Int) (hi : i = P.length) : rd_T55 (P ++ x :: S) i = x := by subst hi; unfold rd_T55; simp
theorem bytes_iff {a b : ByteArray} : a.toList = b.toList ↔ a = b := by
 rw [ByteArray.toList_eq, ByteArray.toList_eq]; exact ⟨fun h => ByteArray.ext (Array.toList_inj.mp h), fun h => by rw [h]⟩
theorem add11_end (P : List Sr) (n : ByteArray) (p : Pt) (hn : P.length ≤ 1000000) (k : Nat) :
  thermographref11_Add.l0 (k + 1) P n (P.length : Int) p.f0 p.f1 p.f2 = some (P ++ [⟨n, [p]⟩]) := by
 have ht : P.take ((P.length : Int)).toNat = P := by simp
 have hd : P.drop ((P.length : Int)).toNat = [] := by simp
 rw [thermographref11_Add.l0, if_neg (by omega), Option.bind_some, if_pos (by omega), if_pos (by omega), Option.bind_some, ht, if_pos (by rw [List.length_nil]; omega), Option.bind_some, List.nil_append, if_pos (by omega), Option.bind_some, hd, Option.bind_some, if_pos (by rw [List.length_append, List.length_singleton, List.length_nil]; omega), List.append_nil]
theorem add11_new (P R : List Sr) (q : Sr) (n : ByteArray) (p : Pt) (hn : (P ++ q :: R).length ≤ 1000000) (h1 : ltN q.f0 n = false) (h2 : q.f0 ≠ n) (k : Nat) :
  thermographref11_Add.l0 (k + 1) (P ++ q :: R) n (P.length : Int) p.f0 p.f1 p.f2 = some (P ++ ⟨n, [p]⟩ :: q :: R) := by
 have hl : (P ++ q :: R).length = P.length + R.length + 1 := by simp; omega
 have ht : (P ++ q :: R).take ((P.length : Int)).toNat = P := by simp
 have hd : (P ++ q :: R).drop ((P.length : Int)).toNat = q :: R := by simp
 have e : rd_T55 (P ++ q :: R) (P.length : Int) = q := rdS_mid P R q _ rfl; have h1 : ¬ (Op.bytesLess q.f0.toList n.toList = true) := by unfold ltN at h1; rw [h1]; simp
 rw [thermographref11_Add.l0, if_pos (by omega), if_pos (by omega), e, if_neg h1, Option.bind_some, if_pos (by omega), Option.bind_some, ht, if_pos (by rw [List.length_nil]; omega), Option.bind_some, List.nil_append, if_neg (fun h => h2 (bytes_iff.1 h)), if_pos (by omega), Option.bind_some, hd, Option.bind_some, if_pos (by rw [List.length_append, List.length_singleton, List.length_cons]; omega)]; simp
theorem add11_at (P R : List Sr) (q : Sr) (n : ByteArray) (p : Pt) (hn : (P ++ q :: R).length ≤ 1000000) (h2 : q.f0 = n) (k : Nat) :
  thermographref11_Add.l0 (k + 1) (P ++ q :: R) n (P.length : Int) p.f0 p.f1 p.f2 = (thermographref06_Add.f k q.f1 p.f0 p.f1 p.f2).bind (fun t => some (P ++ ⟨n, t⟩ :: R)) := by
 have hl : (P ++ q :: R).length = P.length + R.length + 1 := by simp; omega
 have ht : (P ++ q :: R).take ((P.length : Int)).toNat = P := by simp
 have e : rd_T55 (P ++ q :: R) (P.length : Int) = q := rdS_mid P R q _ rfl; have h1 : ¬ (Op.bytesLess q.f0.toList n.toList = true) := by rw [h2, QT.str_irrefl]; simp
 have hw : wrap64 ((P.length : Int) + 1) = ((P.length + 1 : Nat) : Int) := w1 _ (by omega); have hd : (P ++ q :: R).drop (((P.length + 1 : Nat) : Int)).toNat = R := by rw [Int.toNat_natCast, List.drop_append]; simp
 rw [thermographref11_Add.l0, if_pos (by omega), if_pos (by omega), e, if_neg h1, Option.bind_some, if_pos (by omega), Option.bind_some, ht, if_pos (by rw [List.length_nil]; omega), Option.bind_some, List.nil_append, if_pos (bytes_iff.2 h2)]
 congr 1
 funext t
 rw [if_pos (by omega), Option.bind_some, hw, if_pos (by omega), if_pos (by omega), hd, Option.bind_some, if_pos (by rw [List.length_append, List.length_singleton]; omega)]; simp
theorem add11_ev0 (n : ByteArray) (p : Pt) : ∀ (R P l : List Sr), l = P ++ R → l.length ≤ 1000000 → (∀ s ∈ R, s.f1.length ≤ 1000000) → Ev (fun k => thermographref11_Add.l0 k l n (P.length : Int) p.f0 p.f1 p.f2) (P ++ insS n p R)
 | [], P, l, hl, hn, hd => by
  subst hl; rw [List.append_nil] at hn ⊢
  exact Ev.step (f := fun _ => some _) (fun k => add11_end P n p hn k) (Ev.now _)
 | s :: R, P, l, hl, hn, hd => by
  have d1 := hd s (by simp); have hll : l.length = P.length + R.length + 1 := by rw [hl]; simp; omega
  unfold insS
  by_cases h1 : ltN s.f0 n = true
  ·
   rw [if_pos h1]; have ih := add11_ev0 n p R (P ++ [s]) l (by rw [hl]; simp) hn (fun z hz => hd z (by simp [hz])); rw [List.length_append, List.length_singleton] at ih; rw [show P ++ s :: insS n p R = (P ++ [s]) ++ insS n p R by simp]; have e : rd_T55 l (P.length : Int) = s := by rw [hl]; exact rdS_mid P R s _ rfl
   have h1' : Op.bytesLess s.f0.toList n.toList = true := h1; refine Ev.step (fun k => ?_) ih; rw [thermographref11_Add.l0, if_pos (by omega), if_pos (by omega), e, if_pos h1', w1 _ (by omega)]
  ·
   rw [if_neg h1]; have h1f : ltN s.f0 n = false := by simpa using h1
   subst hl
   by_cases h2 : s.f0 = n
   ·
    rw [if_pos h2]; exact Ev.step (fun k => add11_at P R s n p hn h2 k) (Ev.bind (f := fun _ t => some (P ++ ⟨n, t⟩ :: R)) (add_ev p s.f1 d1) (Ev.now _))
   ·
    rw [if_neg h2]; exact Ev.step (f := fun _ => some _) (fun k => add11_new P R s n p hn h1f h2 k) (Ev.now _)
theorem add11_ev (n : ByteArray) (p : Pt) (l : List Sr) (hn : l.length ≤ 1000000) (hd : ∀ s ∈ l, s.f1.length ≤ 1000000) : Ev (fun k => thermographref11_Add.f k l n p.f0 p.f1 p.f2) (insS n p l) :=
 Ev.congr (fun k => by unfold thermographref11_Add.f; rfl) (add11_ev0 n p l [] l rfl hn hd)
end Ra
end Go.Proofs.YtiinmagnpkfbbaaGreat
end
section
set_option maxHeartbeats 4000000
set_option maxRecDepth 100000
namespace Go.Proofs.YtiinmagnpkfbbaaGreat
set_option linter.unusedVariables false
set_option linter.unusedSimpArgs false
open Go.RowKit Go.Proofs.YtiinmagnpkfbbaaGreatW.PrintWords Go.Proofs.YtiinmagnpkfbbaaGreatW.PrintLast Go.Proofs.YtiinmagnpkfbbaaGreatW.PrintMore Go.Proofs.YtiinmagnpkfbbaaGreat.QT
namespace Bt
def add1R (need : R) (n : ByteArray) (S : List S55) (p : S99) : List S55 := if need.f0 ≤ p.f0 ∧ p.f0 < need.f1 then Ra.insS n p S else S
def addR (need : R) (S : List S55) (s : S55) : List S55 := s.f1.foldl (add1R need s.f0) S
def Lens (S : List S55) (T : Nat) : Prop := S.length ≤ T ∧ ∀ s ∈ S, s.f1.length ≤ T
theorem Lens.more {S : List S55} {T T' : Nat} (h : Lens S T) (hT : T ≤ T') : Lens S T' := ⟨Nat.le_trans h.1 hT, fun s hs => Nat.le_trans (h.2 s hs) hT⟩
theorem Lens.ins {S : List S55} {T : Nat} (h : Lens S T) (n : ByteArray) (p : S99) : Lens (Ra.insS n p S) (T + 1) :=
 ⟨Nat.le_trans (Ra.insS_len n p S) (Nat.succ_le_succ h.1), Ra.insS_lens n p T S h.2⟩
theorem Rs.setS {w : World} {B g : Nat} {vO vG vF vS : Value} {b : Rb} (h : Rs w B g vO vG vF vS b) (v1 : Value) : Rs (w.setCell ⟨g, 8, none⟩ v1) B g vO vG vF v1 b := by
 have far : ∀ {α : Type} {d : Kd α} {e : Nat} {v : Value} {xs : List α}, d.E = [] → e ≠ 68 → d.R e w B (fun _ => True) v xs → d.R e (w.setCell ⟨g, 8, none⟩ v1) B (fun _ => True) v xs := fun hE he hR =>
  Kd.R_mono (Kd.R_far (Kd.R_tight hE hR) (fun k hk e => Kd.R_ne hR h.blk he (by rw [show g = k from e.symm]; exact hk)) v1) (fun _ _ => trivial)
 exact ⟨blk_set h.blk 8 v1, far rfl (by decide) h.oth, far rfl (by decide) h.giv, far rfl (by decide) h.fil, h.ap, h.bg⟩
/-- Where the document's boot is, on the way through add. -/
structure RA (w0 w wr : World) (g : Nat) (vO vG vF v1 : Value) (b : Rb) (S1 : List S55) (Q : Nat → Prop) (T1 : Nat) : Prop where
 is : Rs wr w0.heap.size g vO vG vF v1 b
 V : Kd.V k55 55 wr 0 (fun k => Q k ∨ w.heap.size ≤ k) v1 S1
 len : Lens S1 T1
 bel : Below w0.heap.size w0 wr
 kept : Kept w wr (fun k => k = g)
theorem RA.below {w0 w wr W : World} {g : Nat} {vO vG vF v1 : Value} {b : Rb} {S1 : List S55} {Q : Nat → Prop} {T1 : Nat} (h : RA w0 w wr g vO vG vF v1 b S1 Q T1) (hb : Below wr.heap.size wr W) : RA w0 w W g vO vG vF v1 b S1 Q T1 :=
 ⟨h.is.below hb, Kd.V_below h.V hb, h.len, below_then h.bel h.bel.size hb, h.kept.below hb⟩
theorem RA.more {w0 w wr : World} {g : Nat} {vO vG vF v1 : Value} {b : Rb} {S1 : List S55} {Q : Nat → Prop} {T1 T2 : Nat} (h : RA w0 w wr g vO vG vF v1 b S1 Q T1) (hT : T1 ≤ T2) : RA w0 w wr g vO vG vF v1 b S1 Q T2 := ⟨h.is, h.V, h.len.more hT, h.bel, h.kept⟩
/-- A point was laid into the series. -/
theorem RA.put {w0 w wr w5 : World} {g : Nat} {vO vG vF v1 v5 : Value} {b : Rb} {S1 : List S55} {Q : Nat → Prop} {T1 : Nat} (h : RA w0 w wr g vO vG vF v1 b S1 Q T1) (hg : g < w.heap.size) (hQ : ∀ k, Q k → k ≠ g) (n : ByteArray) (p : S99) (hb : Below wr.heap.size wr w5) (hN : Kd.N k55 55 w5 wr.heap.size (fun k => (Q k ∨ w.heap.size ≤ k) ∨ wr.heap.size ≤ k) v5 (Ra.insS n p S1)) :
  RA w0 w (w5.setCell ⟨g, 8, none⟩ v5) g vO vG vF v5 b (Ra.insS n p S1) Q (T1 + 1) := by
 have hsz := h.kept.1; have h5 := h.below hb; refine ⟨h5.is.setS v5, Kd.V_far (ok := fun k => Q k ∨ w.heap.size ≤ k) (Kd.V_mono (base := 0) (Kd.N_V (base' := 0) hN) ?_) ?_ v5, h.len.ins n p, h5.bel.setCell h.is.bg _, h5.kept.setCell (.inl rfl) _⟩
 ·
  rintro k (h1 | h1)
  ·
   exact h1
  ·
   exact .inr (Nat.le_trans hsz h1)
 ·
  rintro k (h1 | h1)
  ·
   exact hQ k h1
  ·
   intro e; rw [e] at h1; exact absurd hg (by show ¬ g < w.heap.size; have : w.heap.size ≤ g := h1; omega)
theorem addS_any (w : World) (Q : Nat → Prop) (A : Option Addr) (c : Nat) (l : List S55) (n : ByteArray) (p : S99) (hV : Kd.V k55 55 w 0 Q (.slice A l.length c) l) (hl : Lens l 1000000) :
  Calls Tryz.prog 62 #[.slice A l.length c, .string n, .agg #[.int .i64 p.f0, .int .u64 p.f1, .int .u64 p.f2]] w fun e w' => ∃ v' : Value, e = .returned v' ∧ Kd.N k55 55 w' w.heap.size (fun k => Q k ∨ w.heap.size ≤ k) v' (Ra.insS n p l) ∧ Below w.heap.size w w' := by
 obtain ⟨k, hk⟩ := (Ra.add11_ev n p l hl.1 hl.2).rounds; exact thermographref11_Add.calls k Q A c l n p.f0 p.f1 p.f2 _ w hV hk
theorem rdSer {l : List S55} {i : Nat} (h : i < l.length) : rd_T55 l (i : Int) = l[i] := by
 unfold rd_T55; rw [Int.toNat_natCast, List.getD_eq_getElem?_getD, List.getElem?_eq_getElem h]; rfl
theorem rdPt {l : List S99} {i : Nat} (h : i < l.length) : rd_T99 l (i : Int) = l[i] := by
 unfold rd_T99; rw [Int.toNat_natCast, List.getD_eq_getElem?_getD, List.getElem?_eq_getElem h]; rfl
theorem addR_take {need : R} {l : List S55} {i : Nat} (h : i < l.length) (S : List S55) : (l.take (i + 1)).foldl (addR need) S = addR need ((l.take i).foldl (addR need) S) l[i] := by
 rw [List.take_succ_eq_append_getElem h, List.foldl_append]; rfl
theorem add1_take {need : R} {n : ByteArray} {l : List S99} {i : Nat} (h : i < l.length) (S : List S55) : (l.take (i + 1)).foldl (add1R need n) S = add1R need n ((l.take i).foldl (add1R need n) S) l[i] := by
 rw [List.take_succ_eq_append_getElem h, List.foldl_append]; rfl
theorem serW_step {l : List S55} {i : Nat} (h : i < l.length) : Hv.serW (l.take (i + 1)) = Hv.serW (l.take i) + (l[i].f0.size + l[i].f1.length) := by
 unfold Hv.serW; rw [List.take_succ_eq_append_getElem h, List.map_append, List.sum_append]; simp
theorem serW_le (l : List S55) (i : Nat) : Hv.serW (l.take i) ≤ Hv.serW l := by
 conv => rhs; rw [← List.take_append_drop i l]
 unfold Hv.serW; rw [List.map_append, List.sum_append]; omega
theorem wrapJ (i n : Nat) (h : i < n) (hn : n ≤ 9223372036854775807) : wrap64 ((i : Int) + 1) = (i : Int) + 1 := by unfold wrap64; omega
def RAdd8.T8 : Bool × List (List Nat × List Nat) := (true, [([], []), ([], []), ([1], [1]), ([2], [2]), ([3], [3]), ([], []), ([], []), ([5, 6], [5, 6]), ([7], [7]), ([8], [8]), ([], []), ([], []), ([10, 11], [10, 11]), ([12], [12]), ([13], [13]), ([], []), ([14, 15], [14, 15]), ([16], [16]), ([4, 9, 17], [4, 9, 17]), ([0, 0, 1, 2, 3, 4, 5, 6, 7, 8, 9, 10, 11, 12, 13, 14, 15, 16, 17, 18], [0]), ([19, 0, 1, 2, 3, 4, 5, 6, 7, 8, 9, 10, 11, 12, 13, 14, 15, 16, 17, 18], [19]), ([20, 18, 18, 0, 1, 2, 3, 4, 5, 6, 7, 8, 9, 10, 11, 12, 13, 14, 15, 16, 17, 18], [18, 20])])
def RAdd8.B8 : List Nat := [0, 0, 2, 6, 14, 0, 0, 96, 224, 480, 0, 0, 3072, 7168, 15360, 0, 64512, 130048, 262142, 524287, 1048575, 2097151]
theorem RAdd8.tab8 : rtab .any (opsOf Tryz.f34 8) = RAdd8.T8 := by kernel_rfl
theorem RAdd8.bits8 : waitsOk RAdd8.T8.2 RAdd8.B8 = true := by kernel_rfl
theorem radd_calls (w0 w : World) (g : Nat) (vO vG vF vS : Value) (b : Rb) (S : List S55) (Q : Nat → Prop) (T : Nat) (hI : Rs w w0.heap.size g vO vG vF vS b) (hV : Kd.V k55 55 w 0 Q vS S) (hQ : ∀ k, Q k → k ≠ g) (hb : Below w0.heap.size w0 w)
  (A : Option Addr) (c : Nat) (l : List S55) (hl : Kd.C k55 w0 A l.length l) (hS : Lens S T) (hT : T + Hv.serW l ≤ 1000000) :
  Calls Tryz.prog 34 #[.pointer (some ⟨g, 0, none⟩), .slice A l.length c] w fun e w' => e = .returned (.tuple #[]) ∧ ∃ vS', RA w0 w w' g vO vG vF vS' b (l.foldl (addR b.need) S) Q (T + Hv.serW l) := by
 have H0 := Lib.hid (show RA w0 w w g vO vG vF vS b S Q T from ⟨hI, Kd.V_mono hV (fun k hk => .inl hk), hS, hb, Kept.refl _ _⟩); have HGL := Lib.hid (show g < w.heap.size from blk_lt hI.blk); have HQ := Lib.hid hQ; have HL := Lib.hid hl; have HLM := Lib.hid hl.2.1; have HT := Lib.hid hT; clear hI hV hQ hb hl hS hT; go_enter Tryz.func34, Tryz.ntmps34
 go_wp2_with fail
 go_loopg [4, 5, 6] l.length (fun gn v4 v5 v6 wr => ∃ (i : Nat) (v1 : Value), v4 = .int .i64 (i : Int) ∧ Aside0 (gn = l.length - i) ∧ Aside0 (i ≤ l.length) ∧ Aside0 (RA w0 w wr g vO vG vF v1 b ((l.take i).foldl (addR b.need) S) Q (T + Hv.serW (l.take i))))
 case atStart => exact ⟨0, vS, rfl, ⟨rfl⟩, ⟨Nat.zero_le _⟩, ⟨by rw [List.take_zero]; exact H0.out⟩⟩
 case round =>
  obtain ⟨i, v1, rfl, HN, HI, HR⟩ := hrel
  by_cases hi : i < l.length
  ·
   have hi0 : (i : Int) < (l.length : Int) := by omega
   have hzi : (0 : Int) ≤ (i : Int) := by omega
   have hwi := wrapJ i l.length hi HLM.out; obtain ⟨ad, A1, c1, e1, r0, r1, hle, hC1⟩ := at_T55 HL.out (i : Int) (by omega) hi0; cases e1; rw [Int.toNat_natCast] at r0 r1
   obtain ⟨x, hx⟩ : ∃ x, rd_T55 l (i : Int) = x := ⟨_, rfl⟩
   rw [hx] at r0 r1 hle hC1; have hxl : l[i] = x := by rw [← hx, rdSer hi]
   have hfo := addR_take (need := b.need) hi S; have hsw := serW_step hi; rw [hxl] at hfo hsw; have hsl := serW_le l (i + 1); have HTX := Lib.hid (show T + Hv.serW (l.take i) + x.f1.length ≤ 1000000 by have := HT.out; omega); have HTY := Lib.hid (show T + Hv.serW (l.take i) + x.f1.length ≤ T + Hv.serW (l.take (i + 1)) by omega); have HFO := Lib.hid hfo; have HCX := Lib.hid hC1; have HXM := Lib.hid hC1.2.1; have HR0 := Lib.hid r0; have HR1 := Lib.hid r1; have HIN := Lib.hid (show ∀ k, k = l.length - i → l.length - (i + 1) < k by intro k hk; omega)
   obtain ⟨Si, hSi⟩ : ∃ Si, (l.take i).foldl (addR b.need) S = Si := ⟨_, rfl⟩
   have hRR := HR.out; rw [hSi] at hRR HFO; have HRR := Lib.hid hRR
   obtain ⟨Ti, hTi⟩ : ∃ Ti, T + Hv.serW (l.take i) = Ti := ⟨_, rfl⟩
   rw [hTi] at HTX HTY HRR; clear hx hxl hfo hsw hsl r0 r1 hle hC1 hSi hRR HR hTi; go_wp2_with fail
   go_loopg [5, 6] x.f1.length (fun gn v5 v6 wq => ∃ (j : Nat) (v1 : Value), v5 = .int .i64 (j : Int) ∧ Aside0 (gn = x.f1.length - j) ∧ Aside0 (j ≤ x.f1.length) ∧ Aside0 (RA w0 w wq g vO vG vF v1 b ((x.f1.take j).foldl (add1R b.need x.f0) Si) Q (Ti + j)))
   case atStart => exact ⟨0, v1, rfl, ⟨rfl⟩, ⟨Nat.zero_le _⟩, ⟨by rw [List.take_zero]; exact HRR.out⟩⟩
   case round =>
    clear HRR; obtain ⟨j, v1, rfl, HNJ, HJ, HRJ⟩ := hrel; have q1 : wr.cell? ⟨(ad.add (i * 2)).block, (ad.add (i * 2)).off + 1, none⟩ = some (.slice A1 x.f1.length c1) := pw_cell_below HRJ.out.bel HR1.out
    by_cases hj : j < x.f1.length
    ·
     have hj0 : (j : Int) < (x.f1.length : Int) := by omega
     have hzj : (0 : Int) ≤ (j : Int) := by omega
     have hwj := wrapJ j x.f1.length hj HXM.out; obtain ⟨ad1, e2, s0, s1, s2⟩ := at_T99 HCX.out (j : Int) (by omega) hj0; cases e2; rw [Int.toNat_natCast] at s0 s1 s2
     obtain ⟨p, hp⟩ : ∃ p, rd_T99 x.f1 (j : Int) = p := ⟨_, rfl⟩
     rw [hp] at s0 s1 s2; have hst := add1_take (need := b.need) (n := x.f0) hj Si; rw [show x.f1[j] = p by rw [← hp, rdPt hj]] at hst
     obtain ⟨S1, hS1⟩ : ∃ S1, (x.f1.take j).foldl (add1R b.need x.f0) Si = S1 := ⟨_, rfl⟩
     rw [hS1] at hst; have hRJ := HRJ.out; rw [hS1] at hRJ; obtain ⟨A8, c8, rfl⟩ := Kd.V_slice hRJ.V; have HIS := Lib.hid hRJ; have HST := Lib.hid hst; have s0 : wr.cell? (ad1.add (j * 3)) = some (.int .i64 p.f0) := pw_cell_below hRJ.bel s0; have s1 : wr.cell? ⟨(ad1.add (j * 3)).block, (ad1.add (j * 3)).off + 1, none⟩ = some (.int .u64 p.f1) := pw_cell_below hRJ.bel s1; have s2 : wr.cell? ⟨(ad1.add (j * 3)).block, (ad1.add (j * 3)).off + 2, none⟩ = some (.int .u64 p.f2) := pw_cell_below hRJ.bel s2; have q0 : wr.cell? (ad.add (i * 2)) = some (.string x.f0) := pw_cell_below hRJ.bel HR0.out; have p5 : wr.cell? ⟨g, 5, none⟩ = some (.int .i64 b.need.f0) := (blk_cell hRJ.is.blk 5).trans rfl; have p6 : wr.cell? ⟨g, 6, none⟩ = some (.int .i64 b.need.f1) := (blk_cell hRJ.is.blk 6).trans rfl; have p8 : wr.cell? ⟨g, 8, none⟩ = some (.slice A8 S1.length c8) := (blk_cell hRJ.is.blk 8).trans rfl; have HJN := Lib.hid (show ∀ k, k = x.f1.length - j → x.f1.length - (j + 1) < k by intro k hk; omega); have HADD := Lib.hid (fun W (hW : Below wr.heap.size wr W) => addS_any W _ A8 c8 S1 x.f0 p (Kd.V_below hRJ.V hW) (hRJ.len.more (by have := HTX.out; omega))); clear hp hst hS1 hRJ HRJ
     by_cases h1 : b.need.f0 ≤ p.f0
     ·
      by_cases h2 : p.f0 < b.need.f1
      ·
       have d1 : decide (p.f0 ≥ b.need.f0) = true := decide_eq_true h1; have d2 : decide (p.f0 < b.need.f1) = true := decide_eq_true h2; have HST2 := Lib.hid (show (x.f1.take (j + 1)).foldl (add1R b.need x.f0) Si = Ra.insS x.f0 p S1 by rw [HST.out]; unfold add1R; rw [if_pos ⟨h1, h2⟩]); clear h1 h2; go_wp2_with fail
       refine start_ (n := 22) (S := fun w' => w'.cell? ⟨g, 8, none⟩ = some (.slice A8 S1.length c8) ∧ w'.cell? (ad.add (i * 2)) = some (.string x.f0) ∧ w'.cell? ⟨(ad.add (i * 2)).block, (ad.add (i * 2)).off + 1, none⟩ = some (.slice (some ad1) x.f1.length c1) ∧ w'.cell? (ad1.add (j * 3)) = some (.int .i64 p.f0) ∧ w'.cell? ⟨(ad1.add (j * 3)).block, (ad1.add (j * 3)).off + 1, none⟩ = some (.int .u64 p.f1) ∧ w'.cell? ⟨(ad1.add (j * 3)).block, (ad1.add (j * 3)).off + 2, none⟩ = some (.int .u64 p.f2)) (ds := [18, 21]) (bs 22 0) (by kernel_rfl) rfl rfl ⟨p8, q0, q1, s0, s1, s2⟩ (fun hHeld => ?_); refine with_tabW RAdd8.tab8 RAdd8.bits8 (fun HT_ HW_ => ?_); apply pv 0 48 (bs 22 1) HT_; rfl; rfl; kernel_rfl; exact qq; rfl; intro w'; go_simp; with_reducible rfl; simp only [zz]; rfl
       apply pv 1 49 (bs 22 3) HT_; rfl; rfl; kernel_rfl; exact qq; rfl; intro w'; go_simp; with_reducible rfl; simp only [zz]; rfl
       apply pv 2 50 (bs 22 7) HT_; rfl; rfl; kernel_rfl; exact qq; rfl; intro w'; go_simp; with_reducible rfl; simp only [zz]; rfl
       apply pv 3 51 (bs 22 15) HT_; rfl; rfl; kernel_rfl; exact qq; rfl; intro w'; go_simp; with_reducible rfl; simp only [zz]; rfl
       apply pv 5 53 (bs 22 47) HT_; rfl; rfl; kernel_rfl; exact qq; rfl; intro w'; go_simp; with_reducible rfl; simp only [zz]; rfl
       apply pv 6 54 (bs 22 111) HT_; rfl; rfl; kernel_rfl; exact qq; rfl; intro w'; go_simp; with_reducible rfl; simp only [zz]; rfl
       apply pv 7 55 (bs 22 239) HT_; rfl; rfl; kernel_rfl; exact qq; rfl; intro w'; go_simp; with_reducible rfl; simp only [zz]; rfl
       apply pv 8 56 (bs 22 495) HT_; rfl; rfl; kernel_rfl; exact qq; rfl; intro w'; go_simp; with_reducible rfl; simp only [zz]; rfl
       apply pv 10 58 (bs 22 1519) HT_; rfl; rfl; kernel_rfl; exact qq; rfl; intro w'; go_simp; with_reducible rfl; simp only [zz]; rfl
       apply pv 11 59 (bs 22 3567) HT_; rfl; rfl; kernel_rfl; exact qq; rfl; intro w'; go_simp; with_reducible rfl; simp only [zz]; rfl
       apply pv 12 60 (bs 22 7663) HT_; rfl; rfl; kernel_rfl; exact qq; rfl; intro w'; go_simp; with_reducible rfl; simp only [zz]; rfl
       apply pv 13 61 (bs 22 15855) HT_; rfl; rfl; kernel_rfl; exact qq; rfl; intro w'; go_simp; with_reducible rfl; simp only [zz]; rfl
       apply pv 15 63 (bs 22 48623) HT_; rfl; rfl; kernel_rfl; exact qq; rfl; intro w'; go_simp; with_reducible rfl; simp only [zz]; rfl
       apply tb 4 52 (bs 22 48639) HT_ HW_ hHeld; rfl; rfl; kernel_rfl; exact qq; rfl; rintro w' ⟨s0, s1, s2, s3, s4, s5⟩; go_simp; with_reducible rfl; simp only [zz]; rfl
       apply tb 9 57 (bs 22 49151) HT_ HW_ hHeld; rfl; rfl; kernel_rfl; exact qq; rfl; rintro w' ⟨s0, s1, s2, s3, s4, s5⟩; go_simp; with_reducible rfl; simp only [zz]; rfl
       apply tb 14 62 (bs 22 65535) HT_ HW_ hHeld; rfl; rfl; kernel_rfl; exact qq; rfl; rintro w' ⟨s0, s1, s2, s3, s4, s5⟩; go_simp; with_reducible rfl; simp only [zz]; rfl
       apply pv 16 64 (bs 22 131071) HT_; rfl; rfl; kernel_rfl; exact qq; rfl; intro w'; go_simp; with_reducible rfl; simp only [zz]; rfl
       apply tb 17 65 (bs 22 262143) HT_ HW_ hHeld; rfl; rfl; kernel_rfl; exact qq; rfl; rintro w' ⟨s0, s1, s2, s3, s4, s5⟩; go_simp; with_reducible rfl; simp only [zz]; rfl
       refine last_ (i := 18) (N := some 66) (bs 22 524287) rfl rfl (one_of HT_.out (by kernel_rfl)) (by decide) (fun K hK => ?_); refine goes_ Tryz.func62 (by kernel_rfl) rfl #[.slice A8 S1.length c8, .string x.f0, .agg #[.int .i64 p.f0, .int .u64 p.f1, .int .u64 p.f2]] (by rfl) rfl rfl (by simp only [List.map_toArray, List.map_cons, List.map_nil]; rfl) ?_; with_reducible refine ((HADD.out _ (below_drew (Below.refl _ _)))).mono ?_
       rintro e w5 ⟨v5, rfl, hN5, hb5⟩; refine ⟨_, rfl, ?_⟩; have HB5 := Lib.hid (show Below wr.heap.size wr w5 from below_then (below_drew (Below.refl _ _)) (Nat.le_refl _) hb5); have HN5 := Lib.hid hN5; have e3 : w5.cell? ⟨g, 8, none⟩ = some (.slice A8 S1.length c8) := (blk_cell (blk_below HIS.out.is.blk HB5.out) 8).trans rfl; have e4 : w5.frozen? ⟨g, 8, none⟩ = false := blk_frozen (blk_below HIS.out.is.blk HB5.out) 8; obtain ⟨A9, c9, rfl⟩ := Kd.V_slice (base := 0) (Kd.N_V (base' := 0) hN5); clear hN5 hb5; refine hK.out _ _ ?_; clear hK K; refine norm_ (a' := ?_) ?_ ?_; rotate_left
       ·
        show Act.put _ (some 66) _ = _; simp only [Act.put, List.setIfInBounds_toArray, List.set_cons_zero, List.set_cons_succ, i64_w, i32_w]; rfl
       apply pv 19 67 (bs 22 1048575) HT_; rfl; rfl; kernel_rfl; exact qq; rfl; intro w'; go_simp; with_reducible rfl; simp only [zz]; rfl
       apply pv 20 68 (bs 22 2097151) HT_; rfl; rfl; kernel_rfl; exact qq; rfl; intro w'; go_simp; with_reducible rfl; simp only [zz]; rfl
       refine last_ (i := 21) (N := none) (bs 22 4194303) rfl rfl (one_of HT_.out (by kernel_rfl)) (by decide) (fun K hK => ?_); refine skip_ (w1 := ?_) (by rfl) rfl ?_ ?_; rotate_left
       ·
        go_simp; rfl
       refine hK.out _ _ ?_; clear hK K; refine done_ (done_of HT_.out (by kernel_rfl)) ?_; have HP9 := Lib.hid (HIS.out.put HGL.out HQ.out x.f0 p HB5.out HN5.out); go_wp2_with fail
       go_roundg (x.f1.length - (j + 1))
       case measure => go_light; exact HJN.out _ HNJ.out
       case rel => exact ⟨j + 1, _, by (rw [hwj]; rfl), ⟨rfl⟩, ⟨hj⟩, ⟨by rw [HST2.out]; exact HP9.out⟩⟩
      ·
       have d1 : decide (p.f0 ≥ b.need.f0) = true := decide_eq_true h1; have d2 : decide (p.f0 < b.need.f1) = false := decide_eq_false h2; have HST2 := Lib.hid (show (x.f1.take (j + 1)).foldl (add1R b.need x.f0) Si = S1 by rw [HST.out]; unfold add1R; rw [if_neg (fun h => h2 h.2)]); clear h1 h2; go_wp2_with fail
       go_roundg (x.f1.length - (j + 1))
       case measure => go_light; exact HJN.out _ HNJ.out
       case rel => exact ⟨j + 1, _, by (rw [hwj]; rfl), ⟨rfl⟩, ⟨hj⟩, ⟨by rw [HST2.out]; exact HIS.out.more (Nat.le_succ _)⟩⟩
     ·
      have d1 : decide (p.f0 ≥ b.need.f0) = false := decide_eq_false h1; have HST2 := Lib.hid (show (x.f1.take (j + 1)).foldl (add1R b.need x.f0) Si = S1 by rw [HST.out]; unfold add1R; rw [if_neg (fun h => h1 h.1)]); clear h1; go_wp2_with fail
      go_roundg (x.f1.length - (j + 1))
      case measure => go_light; exact HJN.out _ HNJ.out
      case rel => exact ⟨j + 1, _, by (rw [hwj]; rfl), ⟨rfl⟩, ⟨hj⟩, ⟨by rw [HST2.out]; exact HIS.out.more (Nat.le_succ _)⟩⟩
    ·
     have hge : ¬ (j : Int) < (x.f1.length : Int) := by omega
     have hje : j = x.f1.length := by have := HJ.out; omega
     have hR9 := HRJ.out; rw [hje, List.take_length] at hR9; have HR9 := Lib.hid (show RA w0 w wr g vO vG vF v1 b ((l.take (i + 1)).foldl (addR b.need) S) Q (T + Hv.serW (l.take (i + 1))) by rw [HFO.out]; exact hR9.more HTY.out); clear hje hR9 HRJ; go_wp2_with fail
     go_roundg (l.length - (i + 1))
     case measure => go_light; exact HIN.out _ HN.out
     case rel => exact ⟨i + 1, v1, by rfl, ⟨rfl⟩, ⟨hi⟩, ⟨HR9.out⟩⟩
  ·
   have hge : ¬ (i : Int) < (l.length : Int) := by omega
   have hie : i = l.length := by have := HI.out; omega
   have hR9 := HR.out; rw [hie, List.take_length] at hR9; have HR9 := Lib.hid hR9; clear hie hR9 HR; go_wp2; go_end0; exact ⟨rfl, v1, HR9.out⟩
end Bt
end Go.Proofs.YtiinmagnpkfbbaaGreat
end
