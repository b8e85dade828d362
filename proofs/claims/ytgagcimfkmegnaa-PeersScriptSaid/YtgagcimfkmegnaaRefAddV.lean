/- The document's Add: a point laid into points by rising times, of one time the one that wins; into series by rising names. -/
import Derived.Test.YtgagcimfkmegnaaKeysH
namespace Go.Proofs.Ytgagcimfkmegnaa
set_option linter.unusedVariables false
set_option linter.unusedSimpArgs false
open Go.RowKit Go.Proofs.YtgagcimfkmegnaaW.PrintWords Go.Proofs.YtgagcimfkmegnaaW.PrintLast Go.Proofs.YtgagcimfkmegnaaW.PrintMore Go.Proofs.Ytgagcimfkmegnaa.QT
namespace Ra
abbrev Pt := S42
abbrev Sr := S65
def best (q p : Pt) : Pt := if winsP q p = true then q else p
def addP (p : Pt) : List Pt → List Pt
 | [] => [p]
 | q :: r => if q.f0 < p.f0 then q :: addP p r else if q.f0 = p.f0 then best q p :: r else p :: q :: r
theorem addP_len (p : Pt) : ∀ l : List Pt, (addP p l).length ≤ l.length + 1
 | [] => by simp [addP]
 | q :: r => by
  unfold addP
  split
  ·
   have := addP_len p r; simp only [List.length_cons]; omega
  ·
   split <;> simp
theorem w1 (n : Nat) (h : n ≤ 1099511627776) : wrap64 ((n : Int) + 1) = ((n + 1 : Nat) : Int) := by unfold wrap64; omega
theorem rd_mid (P S : List Pt) (x : Pt) (i : Int) (hi : i = P.length) : rd_T42 (P ++ x :: S) i = x := by subst hi; unfold rd_T42; simp
theorem rwins (a b : Pt) : thermographref06_Wins.f a.f0 a.f1 a.f2 b.f0 b.f1 b.f2 = some (winsP a b) := by
 unfold thermographref06_Wins.f winsP
 by_cases h1 : a.f2 > b.f2
 ·
  rw [if_pos h1, decide_eq_true h1]; rfl
 ·
  rw [if_neg h1, decide_eq_false h1, Bool.false_or]
  by_cases h2 : a.f2 = b.f2
  ·
   rw [if_pos h2, h2]; simp
  ·
   rw [if_neg h2, beq_eq_false_iff_ne.2 h2]; rfl
theorem add_j2f (P R : List Pt) (p : Pt) (hn : P.length + R.length ≤ 1000000) (k : Nat) :
  thermographref06_Add.j2 (k + 1) (P ++ R) (P.length : Int) P false p.f0 p.f1 p.f2 = some (P ++ p :: R) := by
 have hL : ((P ++ R).length : Int) = (P.length : Int) + (R.length : Int) := by simp
 have hd : (P ++ R).drop ((P.length : Int)).toNat = R := by simp
 rw [thermographref06_Add.j2, if_neg (by simp), if_pos (by omega), Option.bind_some, if_pos (by omega), if_pos (by omega), Option.bind_some, hd, if_pos (by rw [List.length_append, List.length_singleton]; omega)]; simp
theorem add_j2t (P R : List Pt) (q p : Pt) (hn : P.length + R.length + 1 ≤ 1000000) (k : Nat) :
  thermographref06_Add.j2 (k + 1) (P ++ q :: R) (P.length : Int) P true p.f0 p.f1 p.f2 = some (P ++ best q p :: R) := by
 have hL : ((P ++ q :: R).length : Int) = (P.length : Int) + (R.length : Int) + 1 := by simp; omega
 have e : rd_T42 (P ++ q :: R) (P.length : Int) = q := rd_mid P R q _ rfl; have hw : wrap64 ((P.length : Int) + 1) = ((P.length + 1 : Nat) : Int) := w1 _ (by omega); have hd : (P ++ q :: R).drop (((P.length + 1 : Nat) : Int)).toNat = R := by rw [Int.toNat_natCast, List.drop_append]; simp
 rw [thermographref06_Add.j2, if_pos rfl, if_pos (by omega), if_pos (by omega), e, rwins, Option.bind_some, hw]; unfold best
 by_cases hwin : winsP q p = true
 ·
  rw [if_pos hwin, if_pos hwin, if_pos (by omega), Option.bind_some, if_pos (by omega), if_pos (by omega), hd, Option.bind_some, if_pos (by rw [List.length_append, List.length_singleton]; omega)]; simp
 ·
  rw [if_neg hwin, if_neg hwin, if_pos (by omega), Option.bind_some, if_pos (by omega), if_pos (by omega), hd, Option.bind_some, if_pos (by rw [List.length_append, List.length_singleton]; omega)]; simp
theorem add_j1f (P R : List Pt) (p : Pt) (hn : P.length + R.length ≤ 1000000) (hR : ∀ q r, R = q :: r → p.f0 ≠ q.f0) (k : Nat) :
  thermographref06_Add.j1 (k + 1) (P ++ R) (P.length : Int) p.f0 p.f1 p.f2 = thermographref06_Add.j2 k (P ++ R) (P.length : Int) P false p.f0 p.f1 p.f2 := by
 have hL : ((P ++ R).length : Int) = (P.length : Int) + (R.length : Int) := by simp
 have ht : (P ++ R).take ((P.length : Int)).toNat = P := by simp
 rw [thermographref06_Add.j1, Option.bind_some, if_pos (by omega), if_pos (by omega), Option.bind_some, ht, if_pos (by rw [List.length_nil]; omega), Option.bind_some, List.nil_append]
 by_cases h : (P.length : Int) < ((P ++ R).length : Int)
 ·
  rw [if_pos h]
  cases R with
  | nil => exact absurd h (by simp)
  | cons q r =>
   have e : rd_T42 (P ++ q :: r) (P.length : Int) = q := rd_mid P r q _ rfl; have hq := hR q r rfl; have h2 : (q.f0 == p.f0) = false := by rw [beq_eq_false_iff_ne]; exact fun e => hq e.symm
   rw [e, h2]
 ·
  rw [if_neg h]
theorem add_j1t (P R : List Pt) (q p : Pt) (hn : P.length + R.length + 1 ≤ 1000000) (hq : q.f0 = p.f0) (k : Nat) :
  thermographref06_Add.j1 (k + 1) (P ++ q :: R) (P.length : Int) p.f0 p.f1 p.f2 = thermographref06_Add.j2 k (P ++ q :: R) (P.length : Int) P true p.f0 p.f1 p.f2 := by
 have hL : ((P ++ q :: R).length : Int) = (P.length : Int) + (R.length : Int) + 1 := by simp; omega
 have ht : (P ++ q :: R).take ((P.length : Int)).toNat = P := by simp
 have e : rd_T42 (P ++ q :: R) (P.length : Int) = q := rd_mid P R q _ rfl; rw [thermographref06_Add.j1, Option.bind_some, if_pos (by omega), if_pos (by omega), Option.bind_some, ht, if_pos (by rw [List.length_nil]; omega), Option.bind_some, List.nil_append, if_pos (by omega), e, beq_iff_eq.2 hq]
theorem add_j1 (p : Pt) (P R : List Pt) (hn : P.length + R.length ≤ 1000000) (hR : ∀ q r, R = q :: r → ¬ q.f0 < p.f0) : Ev (fun k => thermographref06_Add.j1 k (P ++ R) (P.length : Int) p.f0 p.f1 p.f2) (P ++ addP p R) := by
 have hf : (∀ q r, R = q :: r → p.f0 ≠ q.f0) → addP p R = p :: R → Ev (fun k => thermographref06_Add.j1 k (P ++ R) (P.length : Int) p.f0 p.f1 p.f2) (P ++ addP p R) := by
  intro h1 h2; rw [h2]; exact Ev.step (fun k => add_j1f P R p hn h1 k) (Ev.step (f := fun _ => some (P ++ p :: R)) (fun k => add_j2f P R p hn k) (Ev.now _))
 cases R with
 | nil => exact hf (fun q r h => by cases h) rfl
 | cons q r =>
  have hq := hR q r rfl; rw [List.length_cons] at hn
  by_cases h : q.f0 = p.f0
  ·
   rw [addP, if_neg hq, if_pos h]; exact Ev.step (fun k => add_j1t P r q p (by omega) h k) (Ev.step (f := fun _ => some (P ++ best q p :: r)) (fun k => add_j2t P r q p (by omega) k) (Ev.now _))
  ·
   exact hf (fun q' r' h' => by cases h'; exact fun e => h e.symm) (by rw [addP, if_neg hq, if_neg h])
theorem add_ev0 (p : Pt) : ∀ (R P l : List Pt), l = P ++ R → l.length ≤ 1000000 → Ev (fun k => thermographref06_Add.l0 k l (P.length : Int) p.f0 p.f1 p.f2) (P ++ addP p R)
 | [], P, l, hl, hn => by
  subst hl; rw [List.length_append] at hn; have := add_j1 p P [] hn (fun q r h => by cases h); refine Ev.step (f := fun k => thermographref06_Add.j1 k (P ++ []) (P.length : Int) p.f0 p.f1 p.f2) (fun k => ?_) this
  rw [thermographref06_Add.l0, if_neg (by simp)]
 | q :: R, P, l, hl, hn => by
  have e : rd_T42 l (P.length : Int) = q := by rw [hl]; exact rd_mid P R q _ rfl
  have hll : l.length = P.length + R.length + 1 := by rw [hl]; simp; omega
  by_cases h : q.f0 < p.f0
  ·
   have ih := add_ev0 p R (P ++ [q]) l (by rw [hl]; simp) hn; rw [List.length_append, List.length_singleton] at ih; rw [addP, if_pos h]; rw [show P ++ q :: addP p R = (P ++ [q]) ++ addP p R by simp]; refine Ev.step (fun k => ?_) ih; rw [thermographref06_Add.l0, if_pos (by omega), if_pos (by omega), e, if_pos h, w1 _ (by omega)]
  ·
   have hj := add_j1 p P (q :: R) (by rw [List.length_cons]; omega) (fun q' r' h' => by cases h'; exact h); rw [← hl] at hj; refine Ev.step (fun k => ?_) hj; rw [thermographref06_Add.l0, if_pos (by omega), if_pos (by omega), e, if_neg h]
theorem add_ev (p : Pt) (l : List Pt) (hn : l.length ≤ 1000000) : Ev (fun k => thermographref06_Add.f k l p.f0 p.f1 p.f2) (addP p l) := by
 refine Ev.congr (fun k => ?_) (add_ev0 p l [] l rfl hn); unfold thermographref06_Add.f; rfl
def ltN (a b : ByteArray) : Bool := Op.bytesLess a.toList b.toList
def insS (n : ByteArray) (p : Pt) : List Sr → List Sr
 | [] => [⟨n, [p]⟩]
 | s :: r => if ltN s.f0 n = true then s :: insS n p r else if s.f0 = n then ⟨n, addP p s.f1⟩ :: r else ⟨n, [p]⟩ :: s :: r
theorem insS_len (n : ByteArray) (p : Pt) : ∀ l : List Sr, (insS n p l).length ≤ l.length + 1
 | [] => by simp [insS]
 | s :: r => by
  unfold insS
  split
  ·
   have := insS_len n p r; simp only [List.length_cons]; omega
  ·
   split <;> simp
theorem insS_lens (n : ByteArray) (p : Pt) (K : Nat) : ∀ l : List Sr, (∀ s ∈ l, s.f1.length ≤ K) → ∀ s ∈ insS n p l, s.f1.length ≤ K + 1
 | [], _, s, hs => by
  rw [List.mem_singleton.1 hs]; simp
 | q :: r, h, s, hs => by
  unfold insS at hs
  split at hs
  ·
   rcases List.mem_cons.1 hs with rfl | hs
   ·
    have := h _ List.mem_cons_self; omega
   ·
    exact insS_lens n p K r (fun x hx => h x (List.mem_cons_of_mem _ hx)) s hs
  ·
   split at hs
   ·
    rcases List.mem_cons.1 hs with rfl | hs
    ·
     have h1 := h q List.mem_cons_self; have h2 := addP_len p q.f1; show (addP p q.f1).length ≤ K + 1; omega
    ·
     have := h s (List.mem_cons_of_mem _ hs); omega
   ·
    rcases List.mem_cons.1 hs with rfl | hs
    ·
     simp
    ·
     have := h s hs; omega
theorem rdS_mid (P S : List Sr) (x : Sr) (i : Int) (hi : i = P.length) : rd_T65 (P ++ x :: S) i = x := by subst hi; unfold rd_T65; simp
theorem bytes_iff {a b : ByteArray} : a.toList = b.toList ↔ a = b := by
 rw [ByteArray.toList_eq, ByteArray.toList_eq]; exact ⟨fun h => ByteArray.ext (Array.toList_inj.mp h), fun h => by rw [h]⟩
theorem add11_end (P : List Sr) (n : ByteArray) (p : Pt) (hn : P.length ≤ 1000000) (k : Nat) :
  thermographref11_Add.l0 (k + 1) P n (P.length : Int) p.f0 p.f1 p.f2 = some (P ++ [⟨n, [p]⟩]) := by
 have ht : P.take ((P.length : Int)).toNat = P := by simp
 have hd : P.drop ((P.length : Int)).toNat = [] := by simp
 rw [thermographref11_Add.l0, if_neg (by omega), Option.bind_some, if_pos (by omega), if_pos (by omega), Option.bind_some, ht, if_pos (by rw [List.length_nil]; omega), Option.bind_some, List.nil_append, if_pos (by omega), Option.bind_some, hd, Option.bind_some, if_pos (by rw [List.length_append, List.length_singleton, List.length_nil]; omega), List.append_nil]
theorem add11_new (P R : List Sr) (q : Sr) (n : ByteArray) (p : Pt) (hn : (P ++ q :: R).length ≤ 1000000) (h1 : ltN q.f0 n = false) (h2 : q.f0 ≠ n) (k : Nat) :
  thermographref11_Add.l0 (k + 1) (P ++ q :: R) n (P.length : Int) p.f0 p.f1 p.f2 = some (P ++ ⟨n, [p]⟩ :: q :: R) := by
 have hl : (P ++ q :: R).length = P.length + R.length + 1 := by simp; omega
 have ht : (P ++ q :: R).take ((P.length : Int)).toNat = P := by simp
 have hd : (P ++ q :: R).drop ((P.length : Int)).toNat = q :: R := by simp
 have e : rd_T65 (P ++ q :: R) (P.length : Int) = q := rdS_mid P R q _ rfl; have h1 : ¬ (Op.bytesLess q.f0.toList n.toList = true) := by unfold ltN at h1; rw [h1]; simp
 rw [thermographref11_Add.l0, if_pos (by omega), if_pos (by omega), e, if_neg h1, Option.bind_some, if_pos (by omega), Option.bind_some, ht, if_pos (by rw [List.length_nil]; omega), Option.bind_some, List.nil_append, if_neg (fun h => h2 (bytes_iff.1 h)), if_pos (by omega), Option.bind_some, hd, Option.bind_some, if_pos (by rw [List.length_append, List.length_singleton, List.length_cons]; omega)]; simp
theorem add11_at (P R : List Sr) (q : Sr) (n : ByteArray) (p : Pt) (hn : (P ++ q :: R).length ≤ 1000000) (h2 : q.f0 = n) (k : Nat) :
  thermographref11_Add.l0 (k + 1) (P ++ q :: R) n (P.length : Int) p.f0 p.f1 p.f2 = (thermographref06_Add.f k q.f1 p.f0 p.f1 p.f2).bind (fun t => some (P ++ ⟨n, t⟩ :: R)) := by
 have hl : (P ++ q :: R).length = P.length + R.length + 1 := by simp; omega
 have ht : (P ++ q :: R).take ((P.length : Int)).toNat = P := by simp
 have e : rd_T65 (P ++ q :: R) (P.length : Int) = q := rdS_mid P R q _ rfl; have h1 : ¬ (Op.bytesLess q.f0.toList n.toList = true) := by rw [h2, QT.str_irrefl]; simp
 have hw : wrap64 ((P.length : Int) + 1) = ((P.length + 1 : Nat) : Int) := w1 _ (by omega); have hd : (P ++ q :: R).drop (((P.length + 1 : Nat) : Int)).toNat = R := by rw [Int.toNat_natCast, List.drop_append]; simp
 rw [thermographref11_Add.l0, if_pos (by omega), if_pos (by omega), e, if_neg h1, Option.bind_some, if_pos (by omega), Option.bind_some, ht, if_pos (by rw [List.length_nil]; omega), Option.bind_some, List.nil_append, if_pos (bytes_iff.2 h2)]
 congr 1
 funext t
 rw [if_pos (by omega), Option.bind_some, hw, if_pos (by omega), if_pos (by omega), hd, Option.bind_some, if_pos (by rw [List.length_append, List.length_singleton]; omega)]; simp
theorem add11_ev0 (n : ByteArray) (p : Pt) : ∀ (R P l : List Sr), l = P ++ R → l.length ≤ 1000000 → (∀ s ∈ R, s.f1.length ≤ 1000000) → Ev (fun k => thermographref11_Add.l0 k l n (P.length : Int) p.f0 p.f1 p.f2) (P ++ insS n p R)
 | [], P, l, hl, hn, hd => by
  subst hl; rw [List.append_nil] at hn ⊢
  exact Ev.step (f := fun _ => some _) (fun k => add11_end P n p hn k) (Ev.now _)
 | s :: R, P, l, hl, hn, hd => by
  have d1 := hd s (by simp); have hll : l.length = P.length + R.length + 1 := by rw [hl]; simp; omega
  unfold insS
  by_cases h1 : ltN s.f0 n = true
  ·
   rw [if_pos h1]; have ih := add11_ev0 n p R (P ++ [s]) l (by rw [hl]; simp) hn (fun z hz => hd z (by simp [hz])); rw [List.length_append, List.length_singleton] at ih; rw [show P ++ s :: insS n p R = (P ++ [s]) ++ insS n p R by simp]; have e : rd_T65 l (P.length : Int) = s := by rw [hl]; exact rdS_mid P R s _ rfl
   have h1' : Op.bytesLess s.f0.toList n.toList = true := h1; refine Ev.step (fun k => ?_) ih; rw [thermographref11_Add.l0, if_pos (by omega), if_pos (by omega), e, if_pos h1', w1 _ (by omega)]
  ·
   rw [if_neg h1]; have h1f : ltN s.f0 n = false := by simpa using h1
   subst hl
   by_cases h2 : s.f0 = n
   ·
    rw [if_pos h2]; exact Ev.step (fun k => add11_at P R s n p hn h2 k) (Ev.bind (f := fun _ t => some (P ++ ⟨n, t⟩ :: R)) (add_ev p s.f1 d1) (Ev.now _))
   ·
    rw [if_neg h2]; exact Ev.step (f := fun _ => some _) (fun k => add11_new P R s n p hn h1f h2 k) (Ev.now _)
theorem add11_ev (n : ByteArray) (p : Pt) (l : List Sr) (hn : l.length ≤ 1000000) (hd : ∀ s ∈ l, s.f1.length ≤ 1000000) : Ev (fun k => thermographref11_Add.f k l n p.f0 p.f1 p.f2) (insS n p l) :=
 Ev.congr (fun k => by unfold thermographref11_Add.f; rfl) (add11_ev0 n p l [] l rfl hn hd)
end Ra
end Go.Proofs.Ytgagcimfkmegnaa
