/-
  DERIVED. GIVEN WITH THE SEED: THE CARDS: each row of YtbbepiechehojaaDoorRows.lean that lists a variable, with what it lists TIED to the program's text (the seventh form; the later family's looks); each row that meets fmt, with fmt's text TOLD by the authors' own Lean function (tested against real Go, not proved from fmt's source: count such statements apart). THE CARD IS WHAT COUNTS. Prove the row's statement (the work); the ties are given (YtbbepiechehojaaDoorTie.lean); close each card by the builder's one call (the guide's Derived/Test/ToyasCard.lean, 'card_holds'). Laid BY PROGRAM, IN A SANDBOX (cutbox-door.mjs). By AI agents, Wed Nov 11 2026. No macro, syntax, notation, axiom, sorry.
-/
import Derived.Test.YtbbepiechehojaaDoorRows
import GoSem.ClaimSeven
namespace Go.Proofs.YtbbepiechehojaaDoor
namespace Rows

/-- THE TIED CARD OF 'burinlaw09.ArithTells'. -/
def arithTellsCard : Claim7 := { stood := { row := arithTellsRow, standIns := [], harness := (true, "5d522749a9973da75c2f904a7215f2af869a352d7c81a0e3169c208158e08ce7"), looks := false }, kinds := [], alts := [], laidByText := true, laidKinds := [.data], laidTests := true, laidLooks := .later }
def ArithTellsCardSaid : Prop := Claim7.holds Tryd.pinned (.plain (OpenSpec.ofChange arithTellsSpec)) arithTellsCard

/-- THE SECOND FORM's CARD OF 'burinlaw09.ArithTells'. -/
def arithTellsUptoCard : Claim7 := { stood := { row := arithTellsUptoRow, standIns := [], harness := (true, "5d522749a9973da75c2f904a7215f2af869a352d7c81a0e3169c208158e08ce7"), looks := false }, kinds := [], alts := [], laidByText := true, laidKinds := [.data], laidTests := true, laidLooks := .later }
def ArithTellsUptoCardSaid : Prop := Claim7.holds Tryd.pinned (.plain (OpenSpec.upto arithTellsSpec)) arithTellsUptoCard
end Rows
end Go.Proofs.YtbbepiechehojaaDoor
