/-
  DERIVED. GIVEN WITH THE SEED: THE CARDS: each row of YtcbfbefpbjmglaaGreatDoorRows.lean that lists a variable, with what it lists TIED to the program's text (the seventh form; the later family's looks); each row that meets fmt, with fmt's text TOLD by the authors' own Lean function (tested against real Go, not proved from fmt's source: count such statements apart). THE CARD IS WHAT COUNTS. Prove the row's statement (the work); the ties are given (YtcbfbefpbjmglaaGreatDoorTie.lean); close each card by the builder's one call (the guide's Derived/Test/ToyasCard.lean, 'card_holds'). Laid BY PROGRAM, IN A SANDBOX (cutbox-door.mjs). By AI agents, Wed Nov 11 2026. No macro, syntax, notation, axiom, sorry.
-/
import Derived.Test.YtcbfbefpbjmglaaGreatDoorRows
import GoSem.ClaimSeven
namespace Go.Proofs.YtcbfbefpbjmglaaGreatDoor
namespace Rows

/-- THE TIED CARD OF 'burinlaw03.MacroTable'. -/
def macroTableCard : Claim7 := { stood := { row := macroTableRow, standIns := [], harness := (true, "0c99cd26724e701987bd44f05fb58ab69eeaf89288b37d490b972a129a462892"), looks := false }, kinds := [], alts := [], laidByText := true, laidKinds := [.data], laidTests := true, laidLooks := .later }
def MacroTableCardSaid : Prop := Claim7.holds Tryz.pinned (.plain (OpenSpec.ofChange macroTableSpec)) macroTableCard

/-- THE SECOND FORM's CARD OF 'burinlaw03.MacroTable'. -/
def macroTableUptoCard : Claim7 := { stood := { row := macroTableUptoRow, standIns := [], harness := (true, "0c99cd26724e701987bd44f05fb58ab69eeaf89288b37d490b972a129a462892"), looks := false }, kinds := [], alts := [], laidByText := true, laidKinds := [.data], laidTests := true, laidLooks := .later }
def MacroTableUptoCardSaid : Prop := Claim7.holds Tryz.pinned (.plain (OpenSpec.upto macroTableSpec)) macroTableUptoCard
end Rows
end Go.Proofs.YtcbfbefpbjmglaaGreatDoor
