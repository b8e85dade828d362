/- Repair's maps of places: keys and elements as values; what may be a key. -/
import Derived.Test.YtcdpcgcfonjnfaaMap
import Derived.Test.YtcdpcgcfonjnfaaQT0
import Derived.KernelRfl
import Derived.ProofKit
import Derived.DeepKeys5
namespace Go.Proofs.Ytcdpcgcfonjnfaa
open Go.RowKit Go.Proofs.YtcdpcgcfonjnfaaW.PrintWords Go.Proofs.Ytcdpcgcfonjnfaa.QT
namespace Rp
abbrev Pc := S38
abbrev Mt := S56
instance : DecidableEq Pc := fun a b => if h : a.f0 = b.f0 ∧ a.f1 = b.f1 then isTrue (by cases a; cases b; simp only at h; rw [h.1, h.2]) else isFalse (fun e => h (by rw [e]; exact ⟨rfl, rfl⟩))
/-- What a meta says of its place. -/
structure Kt where
  count : Int
  sum : Int
deriving DecidableEq
def ekP (a : Pc) : Value := .agg #[.string a.f0, .int .i64 a.f1]
def evK (h : Kt) : Value := .agg #[.int .i64 h.count, .int .u32 h.sum]
theorem laidOut : laidOutB Try.prog = true := by kernel_rfl
theorem sizeP : decide (3 ≤ Try.prog.types.size ∧ Try.prog.types.size + 2 ≤ 10000) = true := by kernel_rfl
theorem rowP : decide (32 < Try.prog.types.size) = true := by kernel_rfl
theorem cellsI : Try.prog.cellsOf 3 = 1 := by kernel_rfl
theorem cellsS : Try.prog.cellsOf 9 = 1 := by kernel_rfl
theorem cellsPl : Try.prog.cellsOf 32 = 2 := by kernel_rfl
theorem keyTypeP : Try.prog.keyType 32 = true := by kernel_rfl
theorem ekP_inj (a a' : Pc) (h : ekP a = ekP a') : a = a' := by
  obtain ⟨x, y⟩ := a
  obtain ⟨x', y'⟩ := a'
  simpa [ekP] using h
theorem encP : XM.Enc Try.prog 32 ekP :=
  ⟨Maps.Keyed.of_law (deep_law_gate laidOut (of_decide_eq_true sizeP).2 (of_decide_eq_true rowP) keyTypeP (by rw [Try.underlying32])), ekP_inj⟩
/-- What may be a place. -/
def OkP (a : Pc) : Prop := a.f0.size ≤ maxLen ∧ (Lit.int .i64 a.f1).wf = true
theorem isK (a : Pc) (h : OkP a) : XM.IsK Try.prog 32 ekP a := by
  obtain ⟨h1, h2⟩ := h
  refine ⟨.string (keyBytes [.string a.f0.data.toList, .int .i64 a.f1]), ?_⟩
  have e : Try.prog.keyLits (Try.prog.types.size + 1) 32 [.string a.f0, .int .i64 a.f1] = some [.string a.f0.data.toList, .int .i64 a.f1] := by
    obtain ⟨m, hm⟩ : ∃ m, Try.prog.types.size = m + 3 := ⟨Try.prog.types.size - 3, by have := (of_decide_eq_true sizeP).1; omega⟩
    rw [hm]
    simp [Program.keyLits, Try.underlying32, Try.underlying3, Try.underlying9, cellsPl, cellsI, cellsS, h1, h2]
  unfold keyOf
  rw [Try.underlying32]
  have hf : (Try.prog.keyType 32 && (ekP a).formed Try.prog 32) = true := by
    rw [keyTypeP]
    simp [Value.formed, ekP, Try.underlying32, cellsPl]
  have hc : (ekP a).cells.toList = [.string a.f0, .int .i64 a.f1] := rfl
  dsimp only
  rw [if_pos hf, hc, e]
  rfl
/-! #### what placed gives -/
def plc (x : Mt) : Pc := ⟨x.f0, x.f1⟩
def kpt (x : Mt) : Kt := ⟨x.f2, x.f3⟩
abbrev Pm := List (Pc × Kt)
def place1 (m : Pm) (x : Mt) : Pm := if (XM.aget m (plc x)).isSome = true then m else XM.aput m (plc x) (kpt x)
def placeM (l : List Mt) : Pm := l.foldl place1 []
theorem placeM_take {l : List Mt} {i : Nat} (h : i < l.length) : placeM (l.take (i + 1)) = place1 (placeM (l.take i)) l[i] := by
  unfold placeM
  rw [List.take_succ_eq_append_getElem h, List.foldl_append]
  rfl
theorem place1_len (m : Pm) (x : Mt) : (place1 m x).length ≤ m.length + 1 := by
  unfold place1
  split
  · omega
  · exact XM.length_aput m (plc x) (kpt x)
theorem placeM_len : ∀ l : List Mt, (placeM l).length ≤ l.length := by
  have h : ∀ (l : List Mt) (m : Pm), (l.foldl place1 m).length ≤ m.length + l.length := by
    intro l
    induction l with
    | nil => intro m; simp
    | cons x l ih => intro m; rw [List.foldl_cons]; have h1 := ih (place1 m x); have h2 := place1_len m x; simp only [List.length_cons]; omega
  intro l
  have := h l []
  unfold placeM
  simpa using this
end Rp
end Go.Proofs.Ytcdpcgcfonjnfaa
