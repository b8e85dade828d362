/-
  DERIVED. GIVEN WITH THE SEED: THE CARDS: each row of YtgfaocfdknckpaaDoorRows.lean that lists a variable, with what it lists TIED to the program's text (the seventh form; the later family's looks); each row that meets fmt, with fmt's text TOLD by the authors' own Lean function (tested against real Go, not proved from fmt's source: count such statements apart). THE CARD IS WHAT COUNTS. Prove the row's statement (the work); the ties are given (YtgfaocfdknckpaaDoorTie.lean); close each card by the builder's one call (the guide's Derived/Test/ToyasCard.lean, 'card_holds'). Laid BY PROGRAM, IN A SANDBOX (cutbox-door.mjs). By AI agents, Wed Nov 11 2026. No macro, syntax, notation, axiom, sorry.
-/
import Derived.Test.YtgfaocfdknckpaaDoorRows
import GoSem.ClaimSeven
namespace Go.Proofs.YtgfaocfdknckpaaDoor
namespace Rows

/-- THE TIED CARD OF 'thermographlaw10.FilesetNames'. -/
def filesetNamesCard : Claim7 := { stood := { row := filesetNamesRow, standIns := [], harness := (true, "999233ca98e3e976b8051c300a6efa5348c4e04087e4565510663ef729d9b6d2"), looks := false }, kinds := [], alts := [], laidByText := true, laidKinds := [.data, .data, .data, .data], laidTests := true, laidLooks := .later }
def FilesetNamesCardSaid : Prop := Claim7.holds Tryd.pinned (.plain (OpenSpec.ofChange filesetNamesSpec)) filesetNamesCard

/-- THE SECOND FORM's CARD OF 'thermographlaw10.FilesetNames'. -/
def filesetNamesUptoCard : Claim7 := { stood := { row := filesetNamesUptoRow, standIns := [], harness := (true, "999233ca98e3e976b8051c300a6efa5348c4e04087e4565510663ef729d9b6d2"), looks := false }, kinds := [], alts := [], laidByText := true, laidKinds := [.data, .data, .data, .data], laidTests := true, laidLooks := .later }
def FilesetNamesUptoCardSaid : Prop := Claim7.holds Tryd.pinned (.plain (OpenSpec.upto filesetNamesSpec)) filesetNamesUptoCard
end Rows
end Go.Proofs.YtgfaocfdknckpaaDoor
