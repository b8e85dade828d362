/-
  No cell of these rows narrows 'for every input' (looked for: loops, veiled, ifaces, maps, wideKeys, modest, calm, conditions, laid).
  DERIVED. THE GIVEN ROWS OF THIS SEAT. 5 by the template 'for every input the law returns true; each argument reads behind the call as it read before'; 0 by the template 'total and deterministic' (their statements: YtmocpglnoehknaaTotals.lean).
  GIVEN WITH THE SEED: the statements are not yours to turn. If you find one false, say at which input.
  Laid BY PROGRAM, IN A SANDBOX (cutbox-rows.mjs): the forced cells as the released guide's own fill.sh prints them over the translation 3b126c908cb8ef2c… (all of the seat's roots in one cut). By AI agents, Wed Nov 11 2026. No macro, syntax, notation, axiom, sorry.
-/
import Derived.Test.YtmocpglnoehknaaChecked
import GoSem.Claim
import GoSem.ClaimJoined
import GoSem.ClaimMapViews
import Derived.JoinedTies
import Derived.KernelRfl
namespace Go.Proofs.Ytmocpglnoehknaa
/- THE CELL 'sum', in the pinned program and in every row, IS THE sha256 OF THE DUMP (.gsa) THAT YtmocpglnoehknaaProg.lean LOADS. Nothing in Lean hashes anything: it is a label: what it is worth is what the hold of that sum in a sandbox is worth. -/
noncomputable def Try.pinned : Pinned := { name := "ytmocpglnoehknaa", sum := "3b126c908cb8ef2c6debc9a3cb07f5ba54b598e67ba1062ba04f4081337b0c53", checked := Try.checked }
namespace Rows
def none {H : Type} : Left H := { results := [], args := [] }

/-- 'thermographlaw11.BufferTwice': WHATEVER THE INPUT: true; the input reads as it did. -/
def bufferTwiceSpec : ChangeSpec := { name := "bufferTwice", fn := fun _ => fun
  | [d1, d2, d3, d4] => { results := [.lit (.bool true)], args := [d1, d2, d3, d4] }
  | _ => none }
def bufferTwiceRow : OpenClaim := { program := "ytmocpglnoehknaa", sum := "3b126c908cb8ef2c6debc9a3cb07f5ba54b598e67ba1062ba04f4081337b0c53", func := "thermograph/thermographlaw11.BufferTwice", spec := "bufferTwice", unfollowed := true, recurses := true, plainKeys := false, apart := false }
def BufferTwiceSaid : Prop := bufferTwiceRow.holds Try.pinned (OpenSpec.ofChange bufferTwiceSpec)

/-- ITS FALSE NEIGHBOUR: 'it returns false'. Refute it at one input. -/
def bufferTwiceWrong : ChangeSpec := { name := "bufferTwice", fn := fun _ => fun
  | [d1, d2, d3, d4] => { results := [.lit (.bool false)], args := [d1, d2, d3, d4] }
  | _ => none }
def BufferTwiceWrongFalsely : Prop := bufferTwiceRow.holds Try.pinned (OpenSpec.ofChange bufferTwiceWrong)

/-- 'thermographlaw11.BufferView': WHATEVER THE INPUT: true; the input reads as it did. -/
def bufferViewSpec : ChangeSpec := { name := "bufferView", fn := fun _ => fun
  | [d1, d2, d3] => { results := [.lit (.bool true)], args := [d1, d2, d3] }
  | _ => none }
def bufferViewRow : OpenClaim := { program := "ytmocpglnoehknaa", sum := "3b126c908cb8ef2c6debc9a3cb07f5ba54b598e67ba1062ba04f4081337b0c53", func := "thermograph/thermographlaw11.BufferView", spec := "bufferView", unfollowed := true, recurses := true, plainKeys := false, apart := false }
def BufferViewSaid : Prop := bufferViewRow.holds Try.pinned (OpenSpec.ofChange bufferViewSpec)

/-- ITS FALSE NEIGHBOUR: 'it returns false'. Refute it at one input. -/
def bufferViewWrong : ChangeSpec := { name := "bufferView", fn := fun _ => fun
  | [d1, d2, d3] => { results := [.lit (.bool false)], args := [d1, d2, d3] }
  | _ => none }
def BufferViewWrongFalsely : Prop := bufferViewRow.holds Try.pinned (OpenSpec.ofChange bufferViewWrong)

/-- 'thermographlaw11.BufferStays': WHATEVER THE INPUT: true; the input reads as it did. -/
def bufferStaysSpec : ChangeSpec := { name := "bufferStays", fn := fun _ => fun
  | [d1, d2, d3] => { results := [.lit (.bool true)], args := [d1, d2, d3] }
  | _ => none }
def bufferStaysRow : OpenClaim := { program := "ytmocpglnoehknaa", sum := "3b126c908cb8ef2c6debc9a3cb07f5ba54b598e67ba1062ba04f4081337b0c53", func := "thermograph/thermographlaw11.BufferStays", spec := "bufferStays", unfollowed := true, recurses := true, plainKeys := false, apart := false }
def BufferStaysSaid : Prop := bufferStaysRow.holds Try.pinned (OpenSpec.ofChange bufferStaysSpec)

/-- ITS FALSE NEIGHBOUR: 'it returns false'. Refute it at one input. -/
def bufferStaysWrong : ChangeSpec := { name := "bufferStays", fn := fun _ => fun
  | [d1, d2, d3] => { results := [.lit (.bool false)], args := [d1, d2, d3] }
  | _ => none }
def BufferStaysWrongFalsely : Prop := bufferStaysRow.holds Try.pinned (OpenSpec.ofChange bufferStaysWrong)

/-- 'thermographlaw11.BufferApart': WHATEVER THE INPUT: true; the input reads as it did. -/
def bufferApartSpec : ChangeSpec := { name := "bufferApart", fn := fun _ => fun
  | [d1, d2, d3] => { results := [.lit (.bool true)], args := [d1, d2, d3] }
  | _ => none }
def bufferApartRow : OpenClaim := { program := "ytmocpglnoehknaa", sum := "3b126c908cb8ef2c6debc9a3cb07f5ba54b598e67ba1062ba04f4081337b0c53", func := "thermograph/thermographlaw11.BufferApart", spec := "bufferApart", unfollowed := true, recurses := true, plainKeys := false, apart := false }
def BufferApartSaid : Prop := bufferApartRow.holds Try.pinned (OpenSpec.ofChange bufferApartSpec)

/-- ITS FALSE NEIGHBOUR: 'it returns false'. Refute it at one input. -/
def bufferApartWrong : ChangeSpec := { name := "bufferApart", fn := fun _ => fun
  | [d1, d2, d3] => { results := [.lit (.bool false)], args := [d1, d2, d3] }
  | _ => none }
def BufferApartWrongFalsely : Prop := bufferApartRow.holds Try.pinned (OpenSpec.ofChange bufferApartWrong)

/-- 'thermographlaw11.BufferScript': WHATEVER THE INPUT: true; the input reads as it did. -/
def bufferScriptSpec : ChangeSpec := { name := "bufferScript", fn := fun _ => fun
  | [d] => { results := [.lit (.bool true)], args := [d] }
  | _ => none }
def bufferScriptRow : OpenClaim := { program := "ytmocpglnoehknaa", sum := "3b126c908cb8ef2c6debc9a3cb07f5ba54b598e67ba1062ba04f4081337b0c53", func := "thermograph/thermographlaw11.BufferScript", spec := "bufferScript", unfollowed := true, recurses := true, plainKeys := false, apart := false }
def BufferScriptSaid : Prop := bufferScriptRow.holds Try.pinned (OpenSpec.ofChange bufferScriptSpec)

/-- ITS FALSE NEIGHBOUR: 'it returns false'. Refute it at one input. -/
def bufferScriptWrong : ChangeSpec := { name := "bufferScript", fn := fun _ => fun
  | [d] => { results := [.lit (.bool false)], args := [d] }
  | _ => none }
def BufferScriptWrongFalsely : Prop := bufferScriptRow.holds Try.pinned (OpenSpec.ofChange bufferScriptWrong)

/- THE SECOND FORM. 'bulk': how many values and letters a reading holds, each counted each time it is reached (what is shared counts as often as it is met; a slice's spare places count too). A statement '..UptoSaid' is the law's where the arguments, and the package variables that the reading takes, are together of bulk at most 1048576: NARROWER than '..Said'. Prove '..Said' where nothing that the law and all that it calls make is longer than what came in: it says more and counts as full. Else prove '..UptoSaid'. A law counts once. -/
mutual
def uptoBulk {H : Type} : DataW H → Nat
  | .lit (.string bytes) => bytes.length + 1
  | .lit _ => 1
  | .nil => 1
  | .ptr d => uptoBulk d + 1
  | .slice elems spare => uptoBulkAll elems + uptoBulkAll spare + 1
  | .agg parts => uptoBulkAll parts + 1
  | .iface _ d => uptoBulk d + 1
  | .map entries => uptoBulkEntries entries + 1
  | .held _ => 1
def uptoBulkAll {H : Type} : List (DataW H) → Nat
  | [] => 0
  | d :: r => uptoBulk d + uptoBulkAll r
def uptoBulkEntries {H : Type} : List (Lit × DataW H) → Nat
  | [] => 0
  | x :: r => uptoBulkEntry x + uptoBulkEntries r
def uptoBulkEntry {H : Type} : Lit × DataW H → Nat
  | (.string bytes, d) => bytes.length + uptoBulk d + 1
  | (_, d) => uptoBulk d + 1
 end
def uptoSmall : (H : Type) → List (DataW H) → Bool := fun _ ds => decide (uptoBulkAll ds ≤ 1048576)
def OpenSpec.upto (s : _root_.Go.ChangeSpec) : _root_.Go.OpenSpec := { _root_.Go.OpenSpec.ofChange s with cond := some uptoSmall }

/-- 'thermographlaw11.BufferTwice', WHERE WHAT IT READS IS OF BULK AT MOST 1048576: true; the input reads as it did. -/
def bufferTwiceUptoRow : OpenClaim := { program := "ytmocpglnoehknaa", sum := "3b126c908cb8ef2c6debc9a3cb07f5ba54b598e67ba1062ba04f4081337b0c53", func := "thermograph/thermographlaw11.BufferTwice", spec := "bufferTwice", unfollowed := true, recurses := true, plainKeys := false, apart := false, narrowed := true }
def BufferTwiceUptoSaid : Prop := bufferTwiceUptoRow.holds Try.pinned (OpenSpec.upto bufferTwiceSpec)

/-- 'thermographlaw11.BufferView', WHERE WHAT IT READS IS OF BULK AT MOST 1048576: true; the input reads as it did. -/
def bufferViewUptoRow : OpenClaim := { program := "ytmocpglnoehknaa", sum := "3b126c908cb8ef2c6debc9a3cb07f5ba54b598e67ba1062ba04f4081337b0c53", func := "thermograph/thermographlaw11.BufferView", spec := "bufferView", unfollowed := true, recurses := true, plainKeys := false, apart := false, narrowed := true }
def BufferViewUptoSaid : Prop := bufferViewUptoRow.holds Try.pinned (OpenSpec.upto bufferViewSpec)

/-- 'thermographlaw11.BufferStays', WHERE WHAT IT READS IS OF BULK AT MOST 1048576: true; the input reads as it did. -/
def bufferStaysUptoRow : OpenClaim := { program := "ytmocpglnoehknaa", sum := "3b126c908cb8ef2c6debc9a3cb07f5ba54b598e67ba1062ba04f4081337b0c53", func := "thermograph/thermographlaw11.BufferStays", spec := "bufferStays", unfollowed := true, recurses := true, plainKeys := false, apart := false, narrowed := true }
def BufferStaysUptoSaid : Prop := bufferStaysUptoRow.holds Try.pinned (OpenSpec.upto bufferStaysSpec)

/-- 'thermographlaw11.BufferApart', WHERE WHAT IT READS IS OF BULK AT MOST 1048576: true; the input reads as it did. -/
def bufferApartUptoRow : OpenClaim := { program := "ytmocpglnoehknaa", sum := "3b126c908cb8ef2c6debc9a3cb07f5ba54b598e67ba1062ba04f4081337b0c53", func := "thermograph/thermographlaw11.BufferApart", spec := "bufferApart", unfollowed := true, recurses := true, plainKeys := false, apart := false, narrowed := true }
def BufferApartUptoSaid : Prop := bufferApartUptoRow.holds Try.pinned (OpenSpec.upto bufferApartSpec)

/-- 'thermographlaw11.BufferScript', WHERE WHAT IT READS IS OF BULK AT MOST 1048576: true; the input reads as it did. -/
def bufferScriptUptoRow : OpenClaim := { program := "ytmocpglnoehknaa", sum := "3b126c908cb8ef2c6debc9a3cb07f5ba54b598e67ba1062ba04f4081337b0c53", func := "thermograph/thermographlaw11.BufferScript", spec := "bufferScript", unfollowed := true, recurses := true, plainKeys := false, apart := false, narrowed := true }
def BufferScriptUptoSaid : Prop := bufferScriptUptoRow.holds Try.pinned (OpenSpec.upto bufferScriptSpec)

end Rows
end Go.Proofs.Ytmocpglnoehknaa
