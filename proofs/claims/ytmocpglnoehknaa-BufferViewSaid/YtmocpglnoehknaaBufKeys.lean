/- A Buffer's map: its keys and elements as values; what may be a key. -/
import Derived.Test.YtmocpglnoehknaaMap
import Derived.Test.YtmocpglnoehknaaQT0
import Derived.KernelRfl
import Derived.ProofKit
import Derived.DeepKeys5
namespace Go.Proofs.Ytmocpglnoehknaa
set_option linter.unusedVariables false
set_option linter.unusedSimpArgs false
open Go.RowKit Go.Proofs.YtmocpglnoehknaaW.PrintWords Go.Proofs.Ytmocpglnoehknaa.QT
namespace Buf
abbrev Pt := S24
structure Place where
  blk : Int
  idn : ByteArray
  tm : Int
deriving DecidableEq
structure Held where
  p : Pt
  ver : Int
def ekP (a : Place) : Value := .agg #[.int .i64 a.blk, .string a.idn, .int .i64 a.tm]
def evH (h : Held) : Value := .agg #[.int .i64 h.p.f0, .int .u64 h.p.f1, .int .u64 h.p.f2, .int .i64 h.ver]
theorem laidOut : laidOutB Try.prog = true := by kernel_rfl
theorem sizeP : decide (3 ≤ Try.prog.types.size ∧ Try.prog.types.size + 2 ≤ 10000) = true := by kernel_rfl
theorem rowP : decide (63 < Try.prog.types.size) = true := by kernel_rfl
theorem cells3 : Try.prog.cellsOf 3 = 1 := by kernel_rfl
theorem cells9 : Try.prog.cellsOf 9 = 1 := by kernel_rfl
theorem cellsPl : Try.prog.cellsOf 63 = 3 := by kernel_rfl
theorem keyTypeP : Try.prog.keyType 63 = true := by kernel_rfl
theorem ekP_inj (a a' : Place) (h : ekP a = ekP a') : a = a' := by
  obtain ⟨x, y, z⟩ := a
  obtain ⟨x', y', z'⟩ := a'
  simpa [ekP] using h
theorem encP : XM.Enc Try.prog 63 ekP :=
  ⟨Maps.Keyed.of_law (deep_law_gate laidOut (of_decide_eq_true sizeP).2 (of_decide_eq_true rowP) keyTypeP (by rw [Try.underlying63])), ekP_inj⟩
/-- What may be a place. -/
def OkP (a : Place) : Prop := (Lit.int .i64 a.blk).wf = true ∧ a.idn.size ≤ maxLen ∧ (Lit.int .i64 a.tm).wf = true
theorem isK (a : Place) (h : OkP a) : XM.IsK Try.prog 63 ekP a := by
  obtain ⟨h1, h2, h3⟩ := h
  refine ⟨.string (keyBytes [.int .i64 a.blk, .string a.idn.data.toList, .int .i64 a.tm]), ?_⟩
  have e : Try.prog.keyLits (Try.prog.types.size + 1) 63 [.int .i64 a.blk, .string a.idn, .int .i64 a.tm] = some [.int .i64 a.blk, .string a.idn.data.toList, .int .i64 a.tm] := by
    obtain ⟨m, hm⟩ : ∃ m, Try.prog.types.size = m + 3 := ⟨Try.prog.types.size - 3, by have := (of_decide_eq_true sizeP).1; omega⟩
    rw [hm]
    simp [Program.keyLits, Try.underlying63, Try.underlying3, Try.underlying9, cellsPl, cells3, cells9, h1, h2, h3]
  unfold keyOf
  rw [Try.underlying63]
  have hf : (Try.prog.keyType 63 && (ekP a).formed Try.prog 63) = true := by
    rw [keyTypeP]
    simp [Value.formed, ekP, Try.underlying63, cellsPl]
  have hc : (ekP a).cells.toList = [.int .i64 a.blk, .string a.idn, .int .i64 a.tm] := rfl
  dsimp only
  rw [if_pos hf, hc, e]
  rfl
end Buf
end Go.Proofs.Ytmocpglnoehknaa
