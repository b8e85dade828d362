/- BufferTwice: the walk. -/
import Derived.Test.YtmocpglnoehknaaBuf1
import Derived.Deep.Cut
namespace Go.Proofs.Ytmocpglnoehknaa
set_option linter.unusedVariables false
set_option linter.unusedSimpArgs false
open Go.RowKit Go.Proofs.YtmocpglnoehknaaW.PrintWords Go.Proofs.YtmocpglnoehknaaW.PrintLast Go.Proofs.YtmocpglnoehknaaW.PrintMore Go.Proofs.Ytmocpglnoehknaa.QT
namespace Buf
theorem Fr.blk {g b : Nat} {w w' : World} (h : Fr g b w w') {i : Nat} {o : Obj} (hb : w.heap[i]? = some o) (h1 : i ≠ g) (h2 : i ≠ b) : w'.heap[i]? = some o := (h.block i (blk_lt hb) h1 h2).trans hb
theorem new_any (w : World) : Calls Try.prog 8 #[] w fun e w' => ∃ g b, e = .returned (.pointer (some ⟨g, 0, none⟩)) ∧ w.heap.size ≤ g ∧ w.heap.size ≤ b ∧ Is w' g b [] 0 ∧ Below w.heap.size w w' :=
  (new_calls w).mono fun e w' ⟨he, h1, h2⟩ => ⟨_, _, he, by omega, Nat.le_refl _, h1, h2⟩
/-- A block of a point's cells, read. -/
structure PtAt (w : World) (g : Nat) (p : Pt) : Prop where
  blk : w.heap[g]? = some (.cells #[.int .i64 p.f0, .int .u64 p.f1, .int .u64 p.f2] 24 (0, 0))
theorem PtAt.c0 {w : World} {g : Nat} {p : Pt} (h : PtAt w g p) : w.cell? ⟨g, 0, none⟩ = some (.int .i64 p.f0) := (blk_cell h.blk 0).trans rfl
theorem PtAt.c1 {w : World} {g : Nat} {p : Pt} (h : PtAt w g p) : w.cell? ⟨g, 1, none⟩ = some (.int .u64 p.f1) := (blk_cell h.blk 1).trans rfl
theorem PtAt.c2 {w : World} {g : Nat} {p : Pt} (h : PtAt w g p) : w.cell? ⟨g, 2, none⟩ = some (.int .u64 p.f2) := (blk_cell h.blk 2).trans rfl
theorem PtAt.below {w w' : World} {g : Nat} {p : Pt} (h : PtAt w g p) (hb : Below w.heap.size w w') : PtAt w' g p := ⟨blk_below h.blk hb⟩
theorem PtAt.fr {w w' : World} {g g' b' : Nat} {p : Pt} (h : PtAt w g p) (k : Fr g' b' w w') (h1 : g ≠ g') (h2 : g ≠ b') : PtAt w' g p := ⟨k.blk h.blk h1 h2⟩
theorem PtAt.lt {w : World} {g : Nat} {p : Pt} (h : PtAt w g p) : g < w.heap.size := blk_lt h.blk
end Buf
end Go.Proofs.Ytmocpglnoehknaa
