/- strconv.Itoa by the shelf's contract, and what is known of the package-level variables, as facts that last. -/
import Derived.Test.YtgfaocfdknckpaaDoorShelf
import Derived.Lib.AppendIntMem
import Derived.Lib.ItoaLen
import Derived.WalkSmall
import Derived.Below
namespace Go.Proofs.YtgfaocfdknckpaaDoor
open Go.RowKit

/-- The names of a volume's parts. -/
def partNames : List ByteArray := [⟨#[105, 110, 102, 111]⟩, ⟨#[105, 110, 100, 101, 120]⟩, ⟨#[115, 117, 109, 109, 97, 114, 121]⟩, ⟨#[98, 108, 111, 111, 109]⟩, ⟨#[100, 97, 116, 97]⟩, ⟨#[100, 105, 103, 101, 115, 116]⟩, ⟨#[99, 104, 101, 99, 107]⟩]
def partsCells : Array Value := #[.string ⟨#[105, 110, 102, 111]⟩, .string ⟨#[105, 110, 100, 101, 120]⟩, .string ⟨#[115, 117, 109, 109, 97, 114, 121]⟩, .string ⟨#[98, 108, 111, 111, 109]⟩, .string ⟨#[100, 97, 116, 97]⟩, .string ⟨#[100, 105, 103, 101, 115, 116]⟩, .string ⟨#[99, 104, 101, 99, 107]⟩]
/-- What the package-level variables hold in a world. -/
structure GlobAt (W : World) : Prop where
  pow : Lib.TabIs Tryd.prog W "internal/strconv.uint64pow10" .u64 Lib.pow10Tab
  parts : ∃ t fr, W.heap[0]? = some (.cells partsCells t fr)
/-- It holds here, and in whatever world memory grows to. -/
def Glob (w : World) : Prop := ∀ W, Below w.heap.size w W → GlobAt W
theorem Glob.here {w : World} (h : Glob w) : GlobAt w := h w (Below.refl _ _)
theorem Glob.mono {w W : World} (h : Glob w) (hb : Below w.heap.size w W) : Glob W := fun W2 h2 =>
  h W2 (hb.trans ⟨h2.os, h2.tape, h2.output, h2.size, fun i hi => h2.block i (Nat.lt_of_lt_of_le hi hb.size)⟩)

def strconv_Itoa.f (a0 : Int) : Option ByteArray := if -9223372036854775808 ≤ a0 ∧ a0 ≤ 9223372036854775807 then some ⟨(Lib.itoa a0).toArray⟩ else none
theorem strconv_Itoa.calls (a0 : Int) (r : ByteArray) (w : World) (hG : Glob w) (h : strconv_Itoa.f a0 = some r) :
    Calls Tryd.prog 12 #[.int .i64 a0] w fun e w' => e = .returned (.string r) ∧ Below w.heap.size w w' := by
  unfold strconv_Itoa.f at h
  split at h
  · rename_i hb
    cases h
    exact (Tryd.strconv_Itoa a0 hb.1 hb.2 w hG.here.pow).mono fun e w' ⟨he, k, os, hw⟩ => ⟨he, hw ▸ Lib.below_grow _ w (Nat.le_refl _) k os⟩
  · cases h
end Go.Proofs.YtgfaocfdknckpaaDoor
