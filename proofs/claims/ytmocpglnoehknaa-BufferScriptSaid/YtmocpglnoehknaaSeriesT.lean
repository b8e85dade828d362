/- The order of texts: what it says of the other way round (for print's walks over '<=' and '>' of strings). -/
import Derived.Test.YtmocpglnoehknaaProg
import Derived.WalkKit
import Derived.Sort.Walk0
import Derived.Below
import Derived.Deep.Draws
import Derived.Deep.AppendLies
import Derived.Maps.AppendAt
import Derived.OwnWalk
import Derived.Laws.BytesArg
import Derived.Laws.MakeOwn
import Derived.Laws.OwnMore
import Derived.Deep.OwnRows
import Derived.Tactics
import Derived.Lib.ConvBytes
import Derived.Laws.Slices
import Derived.KernelRfl
import Derived.RowKit3
import Derived.Deep.LoopGhost
import Derived.Deep.QuietTactic
import Derived.BigQuiet
import Derived.WideLaws
import Derived.Deep.DeepCutAuto
import Derived.Deep.CutBlock
import Derived.Deep.RegionHeld3
import Derived.Laws.Rows
import Derived.Lib.AppendStr
import Derived.ArgAppend
import Derived.Laws.IdiomCopy
import Derived.OrdersHeld
import Derived.Laws.BitsLemmas
import Derived.RowKit
import Derived.Maps.RangeWalk
import Derived.Test.YtmocpglnoehknaaWordsA
import Derived.Test.YtmocpglnoehknaaWordsB
import Derived.Test.YtmocpglnoehknaaQT0
namespace Go.Proofs.Ytmocpglnoehknaa.QT
open Go.RowKit
theorem str_tri (a b : List UInt8) (h : Op.bytesLess a b = false) (h2 : a ≠ b) : Op.bytesLess b a = true := by
  rw [bytesLess_eq] at h ⊢
  simp only [decide_eq_false_iff_not, decide_eq_true_eq] at h ⊢
  rcases List.le_iff_lt_or_eq.mp (List.not_lt.mp h) with h3 | h3
  · exact h3
  · exact absurd h3.symm h2
theorem str_asymm {a b : List UInt8} (h : Op.bytesLess a b = true) : Op.bytesLess b a = false := by
  rw [bytesLess_eq] at h ⊢
  simp only [decide_eq_false_iff_not, decide_eq_true_eq] at h ⊢
  exact List.lt_asymm h
theorem str_irrefl (a : List UInt8) : Op.bytesLess a a = false := by
  rw [bytesLess_eq]; simp only [decide_eq_false_iff_not]; exact List.lt_irrefl a
theorem str_ne {a b : List UInt8} (h : Op.bytesLess a b = true) : (b == a) = false := by
  rw [beq_eq_false_iff_ne]; rintro rfl; rw [str_irrefl] at h; cases h
theorem str_ge {a b : List UInt8} (h : Op.bytesLess a b = false) : (Op.bytesLess b a || b == a) = true := by
  by_cases e : b = a
  · subst e; simp
  · rw [str_tri _ _ h (fun h => e h.symm)]; rfl
end Go.Proofs.Ytmocpglnoehknaa.QT

-- Laid by wip/tools/myprint.py of this repo. Not trusted: Lean checks it.
namespace Go.Proofs.Ytmocpglnoehknaa.QS
open Go.Proofs.Ytmocpglnoehknaa.QT
open Go.RowKit Go.Proofs.YtmocpglnoehknaaW.PrintWords Go.Proofs.YtmocpglnoehknaaW.PrintLast Go.Proofs.YtmocpglnoehknaaW.PrintMore
attribute [local go_sem] max2_int min2_int max_two min_two max_three min_three max_four min_four   -- for this text's walks alone
set_option linter.unusedVariables false
set_option linter.unusedSimpArgs false



theorem info79 : (Try.prog.info? 79).map (fun i => (i.zero, i.size, i.bytes)) = some (some (.agg #[(.string ⟨#[]⟩), (.slice none 0 0)]), 2, 40) := by kernel_rfl
-- the values' own types
/-! #### struct type 24 -/
/-! #### struct type 79 -/
structure S79 where
  f0 : ByteArray
  f1 : (List S24)
def z79 : S79 := ⟨(⟨#[]⟩ : ByteArray), ([] : List S24)⟩
def k79 : Kd S79 := Kd.iso (Kd.pair Kd.string (Kd.slice 24 k24)) (fun x : S79 => (x.f0, x.f1))
theorem k79_open {w : World} {x : S79} {cs : List Value} (h : k79.K w x cs) : ∃ A1 c1, cs = [.string x.f0, .slice A1 x.f1.length c1] ∧ x.f1.length ≤ c1 ∧ k24.C w A1 x.f1.length x.f1 := by
  obtain ⟨_, _, rfl, rfl, ⟨A1, c1, rfl, l1, g1⟩⟩ := h
  exact ⟨A1, c1, rfl, l1, g1⟩
theorem k79_mk (w : World) (x : S79) {A1 : Option Addr} {c1 : Nat} (l1 : x.f1.length ≤ c1) (g1 : k24.C w A1 x.f1.length x.f1) : k79.K w x [.string x.f0, .slice A1 x.f1.length c1] := ⟨[.string x.f0], [.slice A1 x.f1.length c1], rfl, rfl, ⟨A1, c1, rfl, l1, g1⟩⟩
theorem k79_mkM (w : World) (base : Nat) (ok : Nat → Prop) (x : S79) {v1 : Value} (g1 : k24.R 24 w base ok v1 x.f1) : k79.M w base ok x [.string x.f0, v1] := ⟨[.string x.f0], [v1], rfl, rfl, ⟨v1, rfl, g1⟩⟩
theorem k79_openF {W : World} {ok : Nat → Prop} {x : S79} {cs : List Value} (h : Kd.FK k79 W ok x cs) : ∃ A1 c1, cs = [.string x.f0, .slice A1 x.f1.length c1] ∧ x.f1.length ≤ c1 ∧ Kd.F k24 W ok A1 x.f1.length x.f1 := by
  obtain ⟨A1, c1, rfl, l1, _⟩ := k79_open (Kd.FK_now h)
  exact ⟨A1, c1, rfl, l1, (fun W' hW => by obtain ⟨A1_, c1_, he, l1_, g1_⟩ := k79_open (h W' hW); injection (Option.some.inj (show some (Value.slice A1 x.f1.length c1) = some (Value.slice A1_ x.f1.length c1_) from congrArg (fun l => l[1]?) he)) with ha_ _ _; rw [ha_]; exact g1_)⟩
theorem k79_mkF (W : World) (ok : Nat → Prop) (x : S79) {A1 : Option Addr} {c1 : Nat} (l1 : x.f1.length ≤ c1) (g1 : Kd.F k24 W ok A1 x.f1.length x.f1) : Kd.FK k79 W ok x [.string x.f0, .slice A1 x.f1.length c1] := fun W2 hW => k79_mk W2 x l1 (g1 W2 hW)
def rd_T79 (xs : List S79) (i : Int) : S79 := xs.getD i.toNat z79
theorem at_T79 {w : World} {A : Option Addr} {n : Nat} {xs : List S79} (h : Kd.C k79 w A n xs) (i : Int) (h0 : 0 ≤ i) (h1 : i < n) : ∃ ad A1 c1, A = some ad ∧ w.cell? (ad.add (i.toNat * 2)) = some (.string (rd_T79 xs i).f0) ∧ w.cell? ⟨(ad.add (i.toNat * 2)).block, (ad.add (i.toNat * 2)).off + 1, none⟩ = some (.slice A1 (rd_T79 xs i).f1.length c1) ∧ (rd_T79 xs i).f1.length ≤ c1 ∧ k24.C w A1 (rd_T79 xs i).f1.length (rd_T79 xs i).f1 := by
  obtain ⟨ad, c, e, _, hK, hc0⟩ := Kd.C_get h z79 i h0 h1
  have hc : ∀ j u, c[j]? = some u → w.cell? (ad.add (i.toNat * 2 + j)) = some u := hc0
  obtain ⟨A1, c1, rfl, l1, g1⟩ := k79_open hK
  exact ⟨ad, A1, c1, e, hc 0 _ rfl, by rw [← add_field _ _ 1 (by omega)]; exact hc 1 _ rfl, l1, g1⟩

end Go.Proofs.Ytmocpglnoehknaa.QS
