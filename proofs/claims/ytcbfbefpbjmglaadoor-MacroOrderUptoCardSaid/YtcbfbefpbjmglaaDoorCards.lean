/-
  DERIVED. GIVEN WITH THE SEED: THE CARDS: each row of YtcbfbefpbjmglaaDoorRows.lean that lists a variable, with what it lists TIED to the program's text (the seventh form; the later family's looks); each row that meets fmt, with fmt's text TOLD by the authors' own Lean function (tested against real Go, not proved from fmt's source: count such statements apart). THE CARD IS WHAT COUNTS. Prove the row's statement (the work); the ties are given (YtcbfbefpbjmglaaDoorTie.lean); close each card by the builder's one call (the guide's Derived/Test/ToyasCard.lean, 'card_holds'). Laid BY PROGRAM, IN A SANDBOX (cutbox-door.mjs). By AI agents, Wed Nov 11 2026. No macro, syntax, notation, axiom, sorry.
-/
import Derived.Test.YtcbfbefpbjmglaaDoorRows
import GoSem.ClaimSeven
namespace Go.Proofs.YtcbfbefpbjmglaaDoor
namespace Rows

/-- THE TIED CARD OF 'burinlaw03.MacroReads'. -/
def macroReadsCard : Claim7 := { stood := { row := macroReadsRow, standIns := [], harness := (true, "98ab3ea996c7dadec8d26fbb9245afe7b3c1330ca2299da933cd4abd5e4a5a01"), looks := false }, kinds := [], alts := [], laidByText := true, laidKinds := [.data], laidTests := true, laidLooks := .later }
def MacroReadsCardSaid : Prop := Claim7.holds Tryd.pinned (.plain (OpenSpec.ofChange macroReadsSpec)) macroReadsCard

/-- THE TIED CARD OF 'burinlaw03.MacroWords'. -/
def macroWordsCard : Claim7 := { stood := { row := macroWordsRow, standIns := [], harness := (true, "98ab3ea996c7dadec8d26fbb9245afe7b3c1330ca2299da933cd4abd5e4a5a01"), looks := false }, kinds := [], alts := [], laidByText := true, laidKinds := [.data], laidTests := true, laidLooks := .later }
def MacroWordsCardSaid : Prop := Claim7.holds Tryd.pinned (.plain (OpenSpec.ofChange macroWordsSpec)) macroWordsCard

/-- THE TIED CARD OF 'burinlaw03.MacroBack'. -/
def macroBackCard : Claim7 := { stood := { row := macroBackRow, standIns := [], harness := (true, "98ab3ea996c7dadec8d26fbb9245afe7b3c1330ca2299da933cd4abd5e4a5a01"), looks := false }, kinds := [], alts := [], laidByText := true, laidKinds := [.data], laidTests := true, laidLooks := .later }
def MacroBackCardSaid : Prop := Claim7.holds Tryd.pinned (.plain (OpenSpec.ofChange macroBackSpec)) macroBackCard

/-- THE TIED CARD OF 'burinlaw03.MacroKeeps'. -/
def macroKeepsCard : Claim7 := { stood := { row := macroKeepsRow, standIns := [], harness := (true, "98ab3ea996c7dadec8d26fbb9245afe7b3c1330ca2299da933cd4abd5e4a5a01"), looks := false }, kinds := [], alts := [], laidByText := true, laidKinds := [.data], laidTests := true, laidLooks := .later }
def MacroKeepsCardSaid : Prop := Claim7.holds Tryd.pinned (.plain (OpenSpec.ofChange macroKeepsSpec)) macroKeepsCard

/-- THE TIED CARD OF 'burinlaw03.MacroOrder'. -/
def macroOrderCard : Claim7 := { stood := { row := macroOrderRow, standIns := [], harness := (true, "98ab3ea996c7dadec8d26fbb9245afe7b3c1330ca2299da933cd4abd5e4a5a01"), looks := false }, kinds := [], alts := [], laidByText := true, laidKinds := [.data], laidTests := true, laidLooks := .later }
def MacroOrderCardSaid : Prop := Claim7.holds Tryd.pinned (.plain (OpenSpec.ofChange macroOrderSpec)) macroOrderCard

/-- THE TIED CARD OF 'burinlaw03.MacroNone'. -/
def macroNoneCard : Claim7 := { stood := { row := macroNoneRow, standIns := [], harness := (true, "98ab3ea996c7dadec8d26fbb9245afe7b3c1330ca2299da933cd4abd5e4a5a01"), looks := false }, kinds := [], alts := [], laidByText := true, laidKinds := [.data], laidTests := true, laidLooks := .later }
def MacroNoneCardSaid : Prop := Claim7.holds Tryd.pinned (.plain (OpenSpec.ofChange macroNoneSpec)) macroNoneCard

/-- THE SECOND FORM's CARD OF 'burinlaw03.MacroReads'. -/
def macroReadsUptoCard : Claim7 := { stood := { row := macroReadsUptoRow, standIns := [], harness := (true, "98ab3ea996c7dadec8d26fbb9245afe7b3c1330ca2299da933cd4abd5e4a5a01"), looks := false }, kinds := [], alts := [], laidByText := true, laidKinds := [.data], laidTests := true, laidLooks := .later }
def MacroReadsUptoCardSaid : Prop := Claim7.holds Tryd.pinned (.plain (OpenSpec.upto macroReadsSpec)) macroReadsUptoCard

/-- THE SECOND FORM's CARD OF 'burinlaw03.MacroWords'. -/
def macroWordsUptoCard : Claim7 := { stood := { row := macroWordsUptoRow, standIns := [], harness := (true, "98ab3ea996c7dadec8d26fbb9245afe7b3c1330ca2299da933cd4abd5e4a5a01"), looks := false }, kinds := [], alts := [], laidByText := true, laidKinds := [.data], laidTests := true, laidLooks := .later }
def MacroWordsUptoCardSaid : Prop := Claim7.holds Tryd.pinned (.plain (OpenSpec.upto macroWordsSpec)) macroWordsUptoCard

/-- THE SECOND FORM's CARD OF 'burinlaw03.MacroBack'. -/
def macroBackUptoCard : Claim7 := { stood := { row := macroBackUptoRow, standIns := [], harness := (true, "98ab3ea996c7dadec8d26fbb9245afe7b3c1330ca2299da933cd4abd5e4a5a01"), looks := false }, kinds := [], alts := [], laidByText := true, laidKinds := [.data], laidTests := true, laidLooks := .later }
def MacroBackUptoCardSaid : Prop := Claim7.holds Tryd.pinned (.plain (OpenSpec.upto macroBackSpec)) macroBackUptoCard

/-- THE SECOND FORM's CARD OF 'burinlaw03.MacroKeeps'. -/
def macroKeepsUptoCard : Claim7 := { stood := { row := macroKeepsUptoRow, standIns := [], harness := (true, "98ab3ea996c7dadec8d26fbb9245afe7b3c1330ca2299da933cd4abd5e4a5a01"), looks := false }, kinds := [], alts := [], laidByText := true, laidKinds := [.data], laidTests := true, laidLooks := .later }
def MacroKeepsUptoCardSaid : Prop := Claim7.holds Tryd.pinned (.plain (OpenSpec.upto macroKeepsSpec)) macroKeepsUptoCard

/-- THE SECOND FORM's CARD OF 'burinlaw03.MacroOrder'. -/
def macroOrderUptoCard : Claim7 := { stood := { row := macroOrderUptoRow, standIns := [], harness := (true, "98ab3ea996c7dadec8d26fbb9245afe7b3c1330ca2299da933cd4abd5e4a5a01"), looks := false }, kinds := [], alts := [], laidByText := true, laidKinds := [.data], laidTests := true, laidLooks := .later }
def MacroOrderUptoCardSaid : Prop := Claim7.holds Tryd.pinned (.plain (OpenSpec.upto macroOrderSpec)) macroOrderUptoCard

/-- THE SECOND FORM's CARD OF 'burinlaw03.MacroNone'. -/
def macroNoneUptoCard : Claim7 := { stood := { row := macroNoneUptoRow, standIns := [], harness := (true, "98ab3ea996c7dadec8d26fbb9245afe7b3c1330ca2299da933cd4abd5e4a5a01"), looks := false }, kinds := [], alts := [], laidByText := true, laidKinds := [.data], laidTests := true, laidLooks := .later }
def MacroNoneUptoCardSaid : Prop := Claim7.holds Tryd.pinned (.plain (OpenSpec.upto macroNoneSpec)) macroNoneUptoCard
end Rows
end Go.Proofs.YtcbfbefpbjmglaaDoor
