/-
  No cell of these rows narrows 'for every input' (looked for: loops, veiled, ifaces, maps, wideKeys, modest, calm, conditions, laid).
  DERIVED. THE GIVEN ROWS OF THIS SEAT. 3 by the template 'for every input the law returns true; each argument reads behind the call as it read before'; 0 by the template 'total and deterministic' (their statements: YtgagcimfkmegnaaTotals.lean).
  GIVEN WITH THE SEED: the statements are not yours to turn. If you find one false, say at which input.
  Laid BY PROGRAM, IN A SANDBOX (cutbox-rows.mjs): the forced cells as the released guide's own fill.sh prints them over the translation 5603d309686ba533… (all of the seat's roots in one cut). By AI agents, Wed Nov 11 2026. No macro, syntax, notation, axiom, sorry.
-/
import Derived.Test.YtgagcimfkmegnaaChecked
import GoSem.Claim
import GoSem.ClaimJoined
import GoSem.ClaimMapViews
import Derived.JoinedTies
import Derived.KernelRfl
namespace Go.Proofs.Ytgagcimfkmegnaa
/- THE CELL 'sum', in the pinned program and in every row, IS THE sha256 OF THE DUMP (.gsa) THAT YtgagcimfkmegnaaProg.lean LOADS. Nothing in Lean hashes anything: it is a label: what it is worth is what the hold of that sum in a sandbox is worth. -/
noncomputable def Try.pinned : Pinned := { name := "ytgagcimfkmegnaa", sum := "5603d309686ba5337928b7aa5a59f5418bec212920813f711c9b54f980d0a730", checked := Try.checked }
namespace Rows
def none {H : Type} : Left H := { results := [], args := [] }

/-- 'thermographlaw17.PeersTurns': WHATEVER THE INPUT: true; the input reads as it did. -/
def peersTurnsSpec : ChangeSpec := { name := "peersTurns", fn := fun _ => fun
  | [d] => { results := [.lit (.bool true)], args := [d] }
  | _ => none }
def peersTurnsRow : OpenClaim := { program := "ytgagcimfkmegnaa", sum := "5603d309686ba5337928b7aa5a59f5418bec212920813f711c9b54f980d0a730", func := "thermograph/thermographlaw17.PeersTurns", spec := "peersTurns", unfollowed := true, recurses := true, apart := false }
def PeersTurnsSaid : Prop := peersTurnsRow.holds Try.pinned (OpenSpec.ofChange peersTurnsSpec)

/-- ITS FALSE NEIGHBOUR: 'it returns false'. Refute it at one input. -/
def peersTurnsWrong : ChangeSpec := { name := "peersTurns", fn := fun _ => fun
  | [d] => { results := [.lit (.bool false)], args := [d] }
  | _ => none }
def PeersTurnsWrongFalsely : Prop := peersTurnsRow.holds Try.pinned (OpenSpec.ofChange peersTurnsWrong)

/-- 'thermographlaw17.PeersScript': WHATEVER THE INPUT: true; the input reads as it did. -/
def peersScriptSpec : ChangeSpec := { name := "peersScript", fn := fun _ => fun
  | [d1, d2, d3] => { results := [.lit (.bool true)], args := [d1, d2, d3] }
  | _ => none }
def peersScriptRow : OpenClaim := { program := "ytgagcimfkmegnaa", sum := "5603d309686ba5337928b7aa5a59f5418bec212920813f711c9b54f980d0a730", func := "thermograph/thermographlaw17.PeersScript", spec := "peersScript", unfollowed := true, recurses := true, apart := false }
def PeersScriptSaid : Prop := peersScriptRow.holds Try.pinned (OpenSpec.ofChange peersScriptSpec)

/-- ITS FALSE NEIGHBOUR: 'it returns false'. Refute it at one input. -/
def peersScriptWrong : ChangeSpec := { name := "peersScript", fn := fun _ => fun
  | [d1, d2, d3] => { results := [.lit (.bool false)], args := [d1, d2, d3] }
  | _ => none }
def PeersScriptWrongFalsely : Prop := peersScriptRow.holds Try.pinned (OpenSpec.ofChange peersScriptWrong)

/-- 'thermographlaw17.PeersAll': WHATEVER THE INPUT: true; the input reads as it did. -/
def peersAllSpec : ChangeSpec := { name := "peersAll", fn := fun _ => fun
  | [d1, d2] => { results := [.lit (.bool true)], args := [d1, d2] }
  | _ => none }
def peersAllRow : OpenClaim := { program := "ytgagcimfkmegnaa", sum := "5603d309686ba5337928b7aa5a59f5418bec212920813f711c9b54f980d0a730", func := "thermograph/thermographlaw17.PeersAll", spec := "peersAll", unfollowed := true, recurses := true, apart := false }
def PeersAllSaid : Prop := peersAllRow.holds Try.pinned (OpenSpec.ofChange peersAllSpec)

/-- ITS FALSE NEIGHBOUR: 'it returns false'. Refute it at one input. -/
def peersAllWrong : ChangeSpec := { name := "peersAll", fn := fun _ => fun
  | [d1, d2] => { results := [.lit (.bool false)], args := [d1, d2] }
  | _ => none }
def PeersAllWrongFalsely : Prop := peersAllRow.holds Try.pinned (OpenSpec.ofChange peersAllWrong)

/- THE SECOND FORM. 'bulk': how many values and letters a reading holds, each counted each time it is reached (what is shared counts as often as it is met; a slice's spare places count too). A statement '..UptoSaid' is the law's where the arguments, and the package variables that the reading takes, are together of bulk at most 1048576: NARROWER than '..Said'. Prove '..Said' where nothing that the law and all that it calls make is longer than what came in: it says more and counts as full. Else prove '..UptoSaid'. A law counts once. -/
mutual
def uptoBulk {H : Type} : DataW H → Nat
  | .lit (.string bytes) => bytes.length + 1
  | .lit _ => 1
  | .nil => 1
  | .ptr d => uptoBulk d + 1
  | .slice elems spare => uptoBulkAll elems + uptoBulkAll spare + 1
  | .agg parts => uptoBulkAll parts + 1
  | .iface _ d => uptoBulk d + 1
  | .map entries => uptoBulkEntries entries + 1
  | .held _ => 1
def uptoBulkAll {H : Type} : List (DataW H) → Nat
  | [] => 0
  | d :: r => uptoBulk d + uptoBulkAll r
def uptoBulkEntries {H : Type} : List (Lit × DataW H) → Nat
  | [] => 0
  | x :: r => uptoBulkEntry x + uptoBulkEntries r
def uptoBulkEntry {H : Type} : Lit × DataW H → Nat
  | (.string bytes, d) => bytes.length + uptoBulk d + 1
  | (_, d) => uptoBulk d + 1
 end
def uptoSmall : (H : Type) → List (DataW H) → Bool := fun _ ds => decide (uptoBulkAll ds ≤ 1048576)
def OpenSpec.upto (s : _root_.Go.ChangeSpec) : _root_.Go.OpenSpec := { _root_.Go.OpenSpec.ofChange s with cond := some uptoSmall }

/-- 'thermographlaw17.PeersTurns', WHERE WHAT IT READS IS OF BULK AT MOST 1048576: true; the input reads as it did. -/
def peersTurnsUptoRow : OpenClaim := { program := "ytgagcimfkmegnaa", sum := "5603d309686ba5337928b7aa5a59f5418bec212920813f711c9b54f980d0a730", func := "thermograph/thermographlaw17.PeersTurns", spec := "peersTurns", unfollowed := true, recurses := true, apart := false, narrowed := true }
def PeersTurnsUptoSaid : Prop := peersTurnsUptoRow.holds Try.pinned (OpenSpec.upto peersTurnsSpec)

/-- 'thermographlaw17.PeersScript', WHERE WHAT IT READS IS OF BULK AT MOST 1048576: true; the input reads as it did. -/
def peersScriptUptoRow : OpenClaim := { program := "ytgagcimfkmegnaa", sum := "5603d309686ba5337928b7aa5a59f5418bec212920813f711c9b54f980d0a730", func := "thermograph/thermographlaw17.PeersScript", spec := "peersScript", unfollowed := true, recurses := true, apart := false, narrowed := true }
def PeersScriptUptoSaid : Prop := peersScriptUptoRow.holds Try.pinned (OpenSpec.upto peersScriptSpec)

/-- 'thermographlaw17.PeersAll', WHERE WHAT IT READS IS OF BULK AT MOST 1048576: true; the input reads as it did. -/
def peersAllUptoRow : OpenClaim := { program := "ytgagcimfkmegnaa", sum := "5603d309686ba5337928b7aa5a59f5418bec212920813f711c9b54f980d0a730", func := "thermograph/thermographlaw17.PeersAll", spec := "peersAll", unfollowed := true, recurses := true, apart := false, narrowed := true }
def PeersAllUptoSaid : Prop := peersAllUptoRow.holds Try.pinned (OpenSpec.upto peersAllSpec)

end Rows
end Go.Proofs.Ytgagcimfkmegnaa
