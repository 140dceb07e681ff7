/-
  DERIVED. GIVEN WITH THE SEED: THE CARDS: each row of YtgdkkcdmflopjaaDoorRows.lean that lists a variable, with what it lists TIED to the program's text (the seventh form; the later family's looks); each row that meets fmt, with fmt's text TOLD by the authors' own Lean function (tested against real Go, not proved from fmt's source: count such statements apart). THE CARD IS WHAT COUNTS. Prove the row's statement (the work); the ties are given (YtgdkkcdmflopjaaDoorTie.lean); close each card by the builder's one call (the guide's Derived/Test/ToyasCard.lean, 'card_holds'). Laid BY PROGRAM, IN A SANDBOX (cutbox-door.mjs). By AI agents, Wed Nov 11 2026. No macro, syntax, notation, axiom, sorry.
-/
import Derived.Test.YtgdkkcdmflopjaaDoorRows
import GoSem.ClaimSeven
namespace Go.Proofs.YtgdkkcdmflopjaaDoor
namespace Rows

/-- THE TIED CARD OF 'burinlaw19.MachMore'. -/
def machMoreCard : Claim7 := { stood := { row := machMoreRow, standIns := [], harness := (true, "cf4f28896674e6eefadc59b5775eea43fde0d2b6f4b69678a9d1d6e1e645c422"), looks := false }, kinds := [], alts := [], laidByText := true, laidKinds := [.data, .data, .data, .data], laidTests := true, laidLooks := .later }
def MachMoreCardSaid : Prop := Claim7.holds Tryd.pinned (.plain (OpenSpec.ofChange machMoreSpec)) machMoreCard

/-- THE TIED CARD OF 'burinlaw19.MachPushes'. -/
def machPushesCard : Claim7 := { stood := { row := machPushesRow, standIns := [], harness := (true, "cf4f28896674e6eefadc59b5775eea43fde0d2b6f4b69678a9d1d6e1e645c422"), looks := false }, kinds := [], alts := [], laidByText := true, laidKinds := [.data, .data, .data, .data], laidTests := true, laidLooks := .later }
def MachPushesCardSaid : Prop := Claim7.holds Tryd.pinned (.plain (OpenSpec.ofChange machPushesSpec)) machPushesCard

/-- THE TIED CARD OF 'burinlaw19.MachStores'. -/
def machStoresCard : Claim7 := { stood := { row := machStoresRow, standIns := [], harness := (true, "cf4f28896674e6eefadc59b5775eea43fde0d2b6f4b69678a9d1d6e1e645c422"), looks := false }, kinds := [], alts := [], laidByText := true, laidKinds := [.data, .data, .data, .data], laidTests := true, laidLooks := .later }
def MachStoresCardSaid : Prop := Claim7.holds Tryd.pinned (.plain (OpenSpec.ofChange machStoresSpec)) machStoresCard

/-- THE TIED CARD OF 'burinlaw19.MachReckons'. -/
def machReckonsCard : Claim7 := { stood := { row := machReckonsRow, standIns := [], harness := (true, "cf4f28896674e6eefadc59b5775eea43fde0d2b6f4b69678a9d1d6e1e645c422"), looks := false }, kinds := [], alts := [], laidByText := true, laidKinds := [.data, .data, .data, .data], laidTests := true, laidLooks := .later }
def MachReckonsCardSaid : Prop := Claim7.holds Tryd.pinned (.plain (OpenSpec.ofChange machReckonsSpec)) machReckonsCard

/-- THE TIED CARD OF 'burinlaw19.MachHolds'. -/
def machHoldsCard : Claim7 := { stood := { row := machHoldsRow, standIns := [], harness := (true, "cf4f28896674e6eefadc59b5775eea43fde0d2b6f4b69678a9d1d6e1e645c422"), looks := false }, kinds := [], alts := [], laidByText := true, laidKinds := [.data, .data, .data, .data], laidTests := true, laidLooks := .later }
def MachHoldsCardSaid : Prop := Claim7.holds Tryd.pinned (.plain (OpenSpec.ofChange machHoldsSpec)) machHoldsCard

/-- THE SECOND FORM's CARD OF 'burinlaw19.MachMore'. -/
def machMoreUptoCard : Claim7 := { stood := { row := machMoreUptoRow, standIns := [], harness := (true, "cf4f28896674e6eefadc59b5775eea43fde0d2b6f4b69678a9d1d6e1e645c422"), looks := false }, kinds := [], alts := [], laidByText := true, laidKinds := [.data, .data, .data, .data], laidTests := true, laidLooks := .later }
def MachMoreUptoCardSaid : Prop := Claim7.holds Tryd.pinned (.plain (OpenSpec.upto machMoreSpec)) machMoreUptoCard

/-- THE SECOND FORM's CARD OF 'burinlaw19.MachPushes'. -/
def machPushesUptoCard : Claim7 := { stood := { row := machPushesUptoRow, standIns := [], harness := (true, "cf4f28896674e6eefadc59b5775eea43fde0d2b6f4b69678a9d1d6e1e645c422"), looks := false }, kinds := [], alts := [], laidByText := true, laidKinds := [.data, .data, .data, .data], laidTests := true, laidLooks := .later }
def MachPushesUptoCardSaid : Prop := Claim7.holds Tryd.pinned (.plain (OpenSpec.upto machPushesSpec)) machPushesUptoCard

/-- THE SECOND FORM's CARD OF 'burinlaw19.MachStores'. -/
def machStoresUptoCard : Claim7 := { stood := { row := machStoresUptoRow, standIns := [], harness := (true, "cf4f28896674e6eefadc59b5775eea43fde0d2b6f4b69678a9d1d6e1e645c422"), looks := false }, kinds := [], alts := [], laidByText := true, laidKinds := [.data, .data, .data, .data], laidTests := true, laidLooks := .later }
def MachStoresUptoCardSaid : Prop := Claim7.holds Tryd.pinned (.plain (OpenSpec.upto machStoresSpec)) machStoresUptoCard

/-- THE SECOND FORM's CARD OF 'burinlaw19.MachReckons'. -/
def machReckonsUptoCard : Claim7 := { stood := { row := machReckonsUptoRow, standIns := [], harness := (true, "cf4f28896674e6eefadc59b5775eea43fde0d2b6f4b69678a9d1d6e1e645c422"), looks := false }, kinds := [], alts := [], laidByText := true, laidKinds := [.data, .data, .data, .data], laidTests := true, laidLooks := .later }
def MachReckonsUptoCardSaid : Prop := Claim7.holds Tryd.pinned (.plain (OpenSpec.upto machReckonsSpec)) machReckonsUptoCard

/-- THE SECOND FORM's CARD OF 'burinlaw19.MachHolds'. -/
def machHoldsUptoCard : Claim7 := { stood := { row := machHoldsUptoRow, standIns := [], harness := (true, "cf4f28896674e6eefadc59b5775eea43fde0d2b6f4b69678a9d1d6e1e645c422"), looks := false }, kinds := [], alts := [], laidByText := true, laidKinds := [.data, .data, .data, .data], laidTests := true, laidLooks := .later }
def MachHoldsUptoCardSaid : Prop := Claim7.holds Tryd.pinned (.plain (OpenSpec.upto machHoldsSpec)) machHoldsUptoCard
end Rows
end Go.Proofs.YtgdkkcdmflopjaaDoor
