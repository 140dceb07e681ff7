/-
  DERIVED. GIVEN WITH THE SEED: THE CARDS: each row of YtinfkbdhnbefmaaDoorRows.lean that lists a variable, with what it lists TIED to the program's text (the seventh form; the later family's looks); each row that meets fmt, with fmt's text TOLD by the authors' own Lean function (tested against real Go, not proved from fmt's source: count such statements apart). THE CARD IS WHAT COUNTS. Prove the row's statement (the work); the ties are given (YtinfkbdhnbefmaaDoorTie.lean); close each card by the builder's one call (the guide's Derived/Test/ToyasCard.lean, 'card_holds'). Laid BY PROGRAM, IN A SANDBOX (cutbox-door.mjs). By AI agents, Wed Nov 11 2026. No macro, syntax, notation, axiom, sorry.
-/
import Derived.Test.YtinfkbdhnbefmaaDoorRows
import GoSem.ClaimSeven
namespace Go.Proofs.YtinfkbdhnbefmaaDoor
namespace Rows

/-- THE TIED CARD OF 'burinlaw02.TokenLexes'. -/
def tokenLexesCard : Claim7 := { stood := { row := tokenLexesRow, standIns := [], harness := (true, "7793f4c38a7bdb22cf9065723f717207098ad0d9f40a9ca1b052c5cf7c990019"), looks := false }, kinds := [], alts := [], laidByText := true, laidKinds := [.data], laidTests := true, laidLooks := .later }
def TokenLexesCardSaid : Prop := Claim7.holds Tryd.pinned (.plain (OpenSpec.ofChange tokenLexesSpec)) tokenLexesCard

/-- THE TIED CARD OF 'burinlaw02.TokenBlanks'. -/
def tokenBlanksCard : Claim7 := { stood := { row := tokenBlanksRow, standIns := [], harness := (true, "7793f4c38a7bdb22cf9065723f717207098ad0d9f40a9ca1b052c5cf7c990019"), looks := false }, kinds := [], alts := [], laidByText := true, laidKinds := [.data], laidTests := true, laidLooks := .later }
def TokenBlanksCardSaid : Prop := Claim7.holds Tryd.pinned (.plain (OpenSpec.ofChange tokenBlanksSpec)) tokenBlanksCard

/-- THE TIED CARD OF 'burinlaw02.TokenParts'. -/
def tokenPartsCard : Claim7 := { stood := { row := tokenPartsRow, standIns := [], harness := (true, "7793f4c38a7bdb22cf9065723f717207098ad0d9f40a9ca1b052c5cf7c990019"), looks := false }, kinds := [], alts := [], laidByText := true, laidKinds := [.data], laidTests := true, laidLooks := .later }
def TokenPartsCardSaid : Prop := Claim7.holds Tryd.pinned (.plain (OpenSpec.ofChange tokenPartsSpec)) tokenPartsCard

/-- THE TIED CARD OF 'burinlaw02.TokenAlone'. -/
def tokenAloneCard : Claim7 := { stood := { row := tokenAloneRow, standIns := [], harness := (true, "7793f4c38a7bdb22cf9065723f717207098ad0d9f40a9ca1b052c5cf7c990019"), looks := false }, kinds := [], alts := [], laidByText := true, laidKinds := [.data], laidTests := true, laidLooks := .later }
def TokenAloneCardSaid : Prop := Claim7.holds Tryd.pinned (.plain (OpenSpec.ofChange tokenAloneSpec)) tokenAloneCard

/-- THE TIED CARD OF 'burinlaw02.TokenSpells'. -/
def tokenSpellsCard : Claim7 := { stood := { row := tokenSpellsRow, standIns := [], harness := (true, "7793f4c38a7bdb22cf9065723f717207098ad0d9f40a9ca1b052c5cf7c990019"), looks := false }, kinds := [], alts := [], laidByText := true, laidKinds := [.data], laidTests := true, laidLooks := .later }
def TokenSpellsCardSaid : Prop := Claim7.holds Tryd.pinned (.plain (OpenSpec.ofChange tokenSpellsSpec)) tokenSpellsCard

/-- THE TIED CARD OF 'burinlaw02.TokenFiles'. -/
def tokenFilesCard : Claim7 := { stood := { row := tokenFilesRow, standIns := [], harness := (true, "7793f4c38a7bdb22cf9065723f717207098ad0d9f40a9ca1b052c5cf7c990019"), looks := false }, kinds := [], alts := [], laidByText := true, laidKinds := [.data], laidTests := true, laidLooks := .later }
def TokenFilesCardSaid : Prop := Claim7.holds Tryd.pinned (.plain (OpenSpec.ofChange tokenFilesSpec)) tokenFilesCard

/-- THE TIED CARD OF 'burinlaw02.TokenBack'. -/
def tokenBackCard : Claim7 := { stood := { row := tokenBackRow, standIns := [], harness := (true, "7793f4c38a7bdb22cf9065723f717207098ad0d9f40a9ca1b052c5cf7c990019"), looks := false }, kinds := [], alts := [], laidByText := true, laidKinds := [.data], laidTests := true, laidLooks := .later }
def TokenBackCardSaid : Prop := Claim7.holds Tryd.pinned (.plain (OpenSpec.ofChange tokenBackSpec)) tokenBackCard

/-- THE SECOND FORM's CARD OF 'burinlaw02.TokenLexes'. -/
def tokenLexesUptoCard : Claim7 := { stood := { row := tokenLexesUptoRow, standIns := [], harness := (true, "7793f4c38a7bdb22cf9065723f717207098ad0d9f40a9ca1b052c5cf7c990019"), looks := false }, kinds := [], alts := [], laidByText := true, laidKinds := [.data], laidTests := true, laidLooks := .later }
def TokenLexesUptoCardSaid : Prop := Claim7.holds Tryd.pinned (.plain (OpenSpec.upto tokenLexesSpec)) tokenLexesUptoCard

/-- THE SECOND FORM's CARD OF 'burinlaw02.TokenBlanks'. -/
def tokenBlanksUptoCard : Claim7 := { stood := { row := tokenBlanksUptoRow, standIns := [], harness := (true, "7793f4c38a7bdb22cf9065723f717207098ad0d9f40a9ca1b052c5cf7c990019"), looks := false }, kinds := [], alts := [], laidByText := true, laidKinds := [.data], laidTests := true, laidLooks := .later }
def TokenBlanksUptoCardSaid : Prop := Claim7.holds Tryd.pinned (.plain (OpenSpec.upto tokenBlanksSpec)) tokenBlanksUptoCard

/-- THE SECOND FORM's CARD OF 'burinlaw02.TokenParts'. -/
def tokenPartsUptoCard : Claim7 := { stood := { row := tokenPartsUptoRow, standIns := [], harness := (true, "7793f4c38a7bdb22cf9065723f717207098ad0d9f40a9ca1b052c5cf7c990019"), looks := false }, kinds := [], alts := [], laidByText := true, laidKinds := [.data], laidTests := true, laidLooks := .later }
def TokenPartsUptoCardSaid : Prop := Claim7.holds Tryd.pinned (.plain (OpenSpec.upto tokenPartsSpec)) tokenPartsUptoCard

/-- THE SECOND FORM's CARD OF 'burinlaw02.TokenAlone'. -/
def tokenAloneUptoCard : Claim7 := { stood := { row := tokenAloneUptoRow, standIns := [], harness := (true, "7793f4c38a7bdb22cf9065723f717207098ad0d9f40a9ca1b052c5cf7c990019"), looks := false }, kinds := [], alts := [], laidByText := true, laidKinds := [.data], laidTests := true, laidLooks := .later }
def TokenAloneUptoCardSaid : Prop := Claim7.holds Tryd.pinned (.plain (OpenSpec.upto tokenAloneSpec)) tokenAloneUptoCard

/-- THE SECOND FORM's CARD OF 'burinlaw02.TokenSpells'. -/
def tokenSpellsUptoCard : Claim7 := { stood := { row := tokenSpellsUptoRow, standIns := [], harness := (true, "7793f4c38a7bdb22cf9065723f717207098ad0d9f40a9ca1b052c5cf7c990019"), looks := false }, kinds := [], alts := [], laidByText := true, laidKinds := [.data], laidTests := true, laidLooks := .later }
def TokenSpellsUptoCardSaid : Prop := Claim7.holds Tryd.pinned (.plain (OpenSpec.upto tokenSpellsSpec)) tokenSpellsUptoCard

/-- THE SECOND FORM's CARD OF 'burinlaw02.TokenFiles'. -/
def tokenFilesUptoCard : Claim7 := { stood := { row := tokenFilesUptoRow, standIns := [], harness := (true, "7793f4c38a7bdb22cf9065723f717207098ad0d9f40a9ca1b052c5cf7c990019"), looks := false }, kinds := [], alts := [], laidByText := true, laidKinds := [.data], laidTests := true, laidLooks := .later }
def TokenFilesUptoCardSaid : Prop := Claim7.holds Tryd.pinned (.plain (OpenSpec.upto tokenFilesSpec)) tokenFilesUptoCard

/-- THE SECOND FORM's CARD OF 'burinlaw02.TokenBack'. -/
def tokenBackUptoCard : Claim7 := { stood := { row := tokenBackUptoRow, standIns := [], harness := (true, "7793f4c38a7bdb22cf9065723f717207098ad0d9f40a9ca1b052c5cf7c990019"), looks := false }, kinds := [], alts := [], laidByText := true, laidKinds := [.data], laidTests := true, laidLooks := .later }
def TokenBackUptoCardSaid : Prop := Claim7.holds Tryd.pinned (.plain (OpenSpec.upto tokenBackSpec)) tokenBackUptoCard
end Rows
end Go.Proofs.YtinfkbdhnbefmaaDoor
