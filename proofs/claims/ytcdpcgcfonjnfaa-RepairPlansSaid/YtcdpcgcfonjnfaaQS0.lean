-- Laid by wip/tools/myprint.py of this repo. Not trusted: Lean checks it.
import Derived.Test.YtcdpcgcfonjnfaaProg
import Derived.Below
import Derived.Deep.Draws
import Derived.Deep.AppendLies
import Derived.Maps.AppendAt
import Derived.OwnWalk
import Derived.Laws.BytesArg
import Derived.Laws.MakeOwn
import Derived.Laws.OwnMore
import Derived.Deep.OwnRows
import Derived.Tactics
import Derived.Lib.ConvBytes
import Derived.Laws.Slices
import Derived.WalkKit
import Derived.KernelRfl
import Derived.RowKit3
import Derived.Deep.LoopGhost
import Derived.Deep.QuietTactic
import Derived.BigQuiet
import Derived.WideLaws
import Derived.Deep.DeepCutAuto
import Derived.Deep.CutBlock
import Derived.Deep.RegionHeld3
import Derived.Laws.Rows
import Derived.Lib.AppendStr
import Derived.ArgAppend
import Derived.Laws.IdiomCopy
import Derived.OrdersHeld
import Derived.Laws.BitsLemmas
import Derived.RowKit
import Derived.Maps.RangeWalk
import Derived.Test.YtcdpcgcfonjnfaaFnV
import Derived.Test.YtcdpcgcfonjnfaaQT4
import Derived.Test.YtcdpcgcfonjnfaaWWords
import Derived.Test.YtcdpcgcfonjnfaaWLast
import Derived.Test.YtcdpcgcfonjnfaaWTab
import Derived.Test.YtcdpcgcfonjnfaaWApart
import Derived.Test.YtcdpcgcfonjnfaaWFoot
import Derived.Test.YtcdpcgcfonjnfaaWKept
import Derived.Test.YtcdpcgcfonjnfaaWShare
import Derived.Test.YtcdpcgcfonjnfaaWN
import Derived.Test.YtcdpcgcfonjnfaaWEqStruct
import Derived.Test.YtcdpcgcfonjnfaaWRepsOne
import Derived.Test.YtcdpcgcfonjnfaaWInv
import Derived.Test.YtcdpcgcfonjnfaaWMore
import Derived.Test.YtcdpcgcfonjnfaaQT0
namespace Go.Proofs.Ytcdpcgcfonjnfaa.QS
open Go.Proofs.Ytcdpcgcfonjnfaa.QT
open Go.RowKit Go.Proofs.YtcdpcgcfonjnfaaW.PrintWords Go.Proofs.YtcdpcgcfonjnfaaW.PrintLast Go.Proofs.YtcdpcgcfonjnfaaW.PrintMore
attribute [local go_sem] max2_int min2_int max_two min_two max_three min_three max_four min_four   -- for this text's walks alone
set_option linter.unusedVariables false
set_option linter.unusedSimpArgs false



-- the values' own types
/-! #### struct type 56 -/
/-! #### struct type 38 -/
/-! #### struct type 40 -/
/-! #### struct type 32 -/
structure S32 where
  f0 : ByteArray
  f1 : Int
def z32 : S32 := ⟨(⟨#[]⟩ : ByteArray), (0 : Int)⟩
def k32 : Kd S32 := Kd.iso (Kd.pair Kd.string (Kd.int .i64)) (fun x : S32 => (x.f0, x.f1))
theorem k32_open {w : World} {x : S32} {cs : List Value} (h : k32.K w x cs) : cs = [.string x.f0, .int .i64 x.f1] := by
  obtain ⟨_, _, rfl, rfl, rfl⟩ := h
  exact rfl
theorem k32_openM {w : World} {base : Nat} {ok : Nat → Prop} {x : S32} {cs : List Value} (h : k32.M w base ok x cs) : cs = [.string x.f0, .int .i64 x.f1] := by
  obtain ⟨_, _, rfl, rfl, rfl⟩ := h
  exact rfl
theorem k32_mkM (w : World) (base : Nat) (ok : Nat → Prop) (x : S32)  : k32.M w base ok x [.string x.f0, .int .i64 x.f1] := ⟨[.string x.f0], [.int .i64 x.f1], rfl, rfl, rfl⟩
/-! #### struct type 37 -/
structure S37 where
  f0 : Int
  f1 : S32
def z37 : S37 := ⟨(0 : Int), z32⟩
def k37 : Kd S37 := Kd.iso (Kd.pair (Kd.int .i64) k32) (fun x : S37 => (x.f0, x.f1))
theorem k37_open {w : World} {x : S37} {cs : List Value} (h : k37.K w x cs) : cs = [.int .i64 x.f0, .string x.f1.f0, .int .i64 x.f1.f1] := by
  obtain ⟨_, _, rfl, rfl, s1⟩ := h
  obtain rfl := k32_open s1
  exact rfl
theorem k37_openM {w : World} {base : Nat} {ok : Nat → Prop} {x : S37} {cs : List Value} (h : k37.M w base ok x cs) : cs = [.int .i64 x.f0, .string x.f1.f0, .int .i64 x.f1.f1] := by
  obtain ⟨_, _, rfl, rfl, s1⟩ := h
  obtain rfl := k32_openM s1
  exact rfl
theorem k37_mkM (w : World) (base : Nat) (ok : Nat → Prop) (x : S37)  : k37.M w base ok x [.int .i64 x.f0, .string x.f1.f0, .int .i64 x.f1.f1] := ⟨[.int .i64 x.f0], [.string x.f1.f0, .int .i64 x.f1.f1], rfl, rfl, (k32_mkM w base ok x.f1 )⟩
def rd_T37 (xs : List S37) (i : Int) : S37 := xs.getD i.toNat z37
theorem at_T37 {w : World} {A : Option Addr} {n : Nat} {xs : List S37} (h : Kd.C k37 w A n xs) (i : Int) (h0 : 0 ≤ i) (h1 : i < n) : ∃ ad , A = some ad ∧ w.cell? (ad.add (i.toNat * 3)) = some (.int .i64 (rd_T37 xs i).f0) ∧ w.cell? ⟨(ad.add (i.toNat * 3)).block, (ad.add (i.toNat * 3)).off + 1, none⟩ = some (.string (rd_T37 xs i).f1.f0) ∧ w.cell? ⟨(ad.add (i.toNat * 3)).block, (ad.add (i.toNat * 3)).off + 2, none⟩ = some (.int .i64 (rd_T37 xs i).f1.f1) := by
  obtain ⟨ad, c, e, _, hK, hc0⟩ := Kd.C_get h z37 i h0 h1
  have hc : ∀ j u, c[j]? = some u → w.cell? (ad.add (i.toNat * 3 + j)) = some u := hc0
  obtain rfl := k37_open hK
  exact ⟨ad, e, hc 0 _ rfl, by rw [← add_field _ _ 1 (by omega)]; exact hc 1 _ rfl, by rw [← add_field _ _ 2 (by omega)]; exact hc 2 _ rfl⟩

end Go.Proofs.Ytcdpcgcfonjnfaa.QS
