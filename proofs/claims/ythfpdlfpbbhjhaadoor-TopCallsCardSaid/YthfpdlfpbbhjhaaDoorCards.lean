/-
  DERIVED. GIVEN WITH THE SEED: THE CARDS: each row of YthfpdlfpbbhjhaaDoorRows.lean that lists a variable, with what it lists TIED to the program's text (the seventh form; the later family's looks); each row that meets fmt, with fmt's text TOLD by the authors' own Lean function (tested against real Go, not proved from fmt's source: count such statements apart). THE CARD IS WHAT COUNTS. Prove the row's statement (the work); the ties are given (YthfpdlfpbbhjhaaDoorTie.lean); close each card by the builder's one call (the guide's Derived/Test/ToyasCard.lean, 'card_holds'). Laid BY PROGRAM, IN A SANDBOX (cutbox-door.mjs). By AI agents, Wed Nov 11 2026. No macro, syntax, notation, axiom, sorry.
-/
import Derived.Test.YthfpdlfpbbhjhaaDoorRows
import GoSem.ClaimSeven
namespace Go.Proofs.YthfpdlfpbbhjhaaDoor
namespace Rows

/-- THE TIED CARD OF 'burintop.TopCalls'. -/
def topCallsCard : Claim7 := { stood := { row := topCallsRow, standIns := [], harness := (true, "e9ef9f8783f40bcbe92347f4939ddca5039e31f24f12efa34ea4efd0d332c207"), looks := false }, kinds := [], alts := [], laidByText := true, laidKinds := [.data, .data, .data, .data], laidTests := true, laidLooks := .later }
def TopCallsCardSaid : Prop := Claim7.holds Tryd.pinned (.plain (OpenSpec.ofChange topCallsSpec)) topCallsCard

/-- THE SECOND FORM's CARD OF 'burintop.TopCalls'. -/
def topCallsUptoCard : Claim7 := { stood := { row := topCallsUptoRow, standIns := [], harness := (true, "e9ef9f8783f40bcbe92347f4939ddca5039e31f24f12efa34ea4efd0d332c207"), looks := false }, kinds := [], alts := [], laidByText := true, laidKinds := [.data, .data, .data, .data], laidTests := true, laidLooks := .later }
def TopCallsUptoCardSaid : Prop := Claim7.holds Tryd.pinned (.plain (OpenSpec.upto topCallsSpec)) topCallsUptoCard
end Rows
end Go.Proofs.YthfpdlfpbbhjhaaDoor
