/-
  NARROWER THAN 'FOR EVERY INPUT', by the rows' own cells (each row's printed sentence says how): TokenLexes: laid · TokenBlanks: laid · TokenParts: laid · TokenAlone: laid · TokenSpells: laid · TokenFiles: laid · TokenBack: laid.
  DERIVED. THE GIVEN ROWS OF THIS SEAT. 7 by the template 'for every input the law returns true; each argument reads behind the call as it read before'; 0 by the template 'total and deterministic' (their statements: YtinfkbdhnbefmaaDoorTotals.lean).
  GIVEN WITH THE SEED: the statements are not yours to turn. If you find one false, say at which input.
  Laid BY PROGRAM, IN A SANDBOX (cutbox-rows.mjs): the forced cells as the released guide's own fill.sh prints them over the translation c3f10bce00b224b3… (all of the seat's roots in one cut). By AI agents, Wed Nov 11 2026. No macro, syntax, notation, axiom, sorry.
-/
import Derived.Test.YtinfkbdhnbefmaaDoorChecked
import GoSem.Claim
import GoSem.ClaimJoined
import GoSem.ClaimMapViews
import Derived.JoinedTies
import Derived.KernelRfl
namespace Go.Proofs.YtinfkbdhnbefmaaDoor
/- THE CELL 'sum', in the pinned program and in every row, IS THE sha256 OF THE DUMP (.gsa) THAT YtinfkbdhnbefmaaDoorProg.lean LOADS. Nothing in Lean hashes anything: it is a label: what it is worth is what the hold of that sum in a sandbox is worth. -/
noncomputable def Tryd.pinned : Pinned := { name := "ytinfkbdhnbefmaadoor", sum := "c3f10bce00b224b3dddad185a85fd5d681eae66786c5e833c7b41688d3a1fca7", checked := Tryd.checked }
namespace Rows
def none {H : Type} : Left H := { results := [], args := [] }

/- WHAT THE LISTED PACKAGE-LEVEL VARIABLES READ AS WHEN THE CALL BEGINS. Each datum BY PROGRAM (the guide's laid-datum.mjs) off the statement by which the dump's own 'gosem.cut.vars' lays the variable. In a bare row this is a premise. The card (YtinfkbdhnbefmaaDoorCards.lean) ties it to the program's text. -/
def laid_burin_token_signs {H : Type} : DataW H := .agg [.lit (.string [46, 46, 46]), .lit (.string [60, 60, 61]), .lit (.string [62, 62, 61]), .lit (.string [45, 62]), .lit (.string [43, 43]), .lit (.string [45, 45]), .lit (.string [60, 60]), .lit (.string [62, 62]), .lit (.string [60, 61]), .lit (.string [62, 61]), .lit (.string [61, 61]), .lit (.string [33, 61]), .lit (.string [38, 38]), .lit (.string [124, 124]), .lit (.string [42, 61]), .lit (.string [47, 61]), .lit (.string [37, 61]), .lit (.string [43, 61]), .lit (.string [45, 61]), .lit (.string [38, 61]), .lit (.string [94, 61]), .lit (.string [124, 61]), .lit (.string [35, 35]), .lit (.string [91]), .lit (.string [93]), .lit (.string [40]), .lit (.string [41]), .lit (.string [123]), .lit (.string [125]), .lit (.string [46]), .lit (.string [38]), .lit (.string [42]), .lit (.string [43]), .lit (.string [45]), .lit (.string [126]), .lit (.string [33]), .lit (.string [47]), .lit (.string [37]), .lit (.string [60]), .lit (.string [62]), .lit (.string [94]), .lit (.string [124]), .lit (.string [63]), .lit (.string [58]), .lit (.string [59]), .lit (.string [61]), .lit (.string [44]), .lit (.string [35])]

/-- 'burinlaw02.TokenLexes': WHATEVER THE INPUT: true; the input reads as it did. -/
def tokenLexesSpec : ChangeSpec := { name := "tokenLexes", fn := fun _ => fun
  | [d] => { results := [.lit (.bool true)], args := [d] }
  | _ => none }
def tokenLexesRow : OpenClaim := { program := "ytinfkbdhnbefmaadoor", sum := "c3f10bce00b224b3dddad185a85fd5d681eae66786c5e833c7b41688d3a1fca7", func := "burin/burinlaw02.TokenLexes", spec := "tokenLexes", inPlace := ["internal/bytealg.IndexByteString", "internal/bytealg.IndexString"], unfollowed := true, recurses := true, named := ["internal/bytealg.MaxLen", "burin/token.signs"], apart := false, laid := [("burin/token.signs", laid_burin_token_signs)] }
def TokenLexesSaid : Prop := tokenLexesRow.holds Tryd.pinned (OpenSpec.ofChange tokenLexesSpec)

/-- ITS FALSE NEIGHBOUR: 'it returns false'. Refute it at one input. -/
def tokenLexesWrong : ChangeSpec := { name := "tokenLexes", fn := fun _ => fun
  | [d] => { results := [.lit (.bool false)], args := [d] }
  | _ => none }
def TokenLexesWrongFalsely : Prop := tokenLexesRow.holds Tryd.pinned (OpenSpec.ofChange tokenLexesWrong)

/-- 'burinlaw02.TokenBlanks': WHATEVER THE INPUT: true; the input reads as it did. -/
def tokenBlanksSpec : ChangeSpec := { name := "tokenBlanks", fn := fun _ => fun
  | [d1, d2] => { results := [.lit (.bool true)], args := [d1, d2] }
  | _ => none }
def tokenBlanksRow : OpenClaim := { program := "ytinfkbdhnbefmaadoor", sum := "c3f10bce00b224b3dddad185a85fd5d681eae66786c5e833c7b41688d3a1fca7", func := "burin/burinlaw02.TokenBlanks", spec := "tokenBlanks", inPlace := ["internal/bytealg.IndexByteString", "internal/bytealg.IndexString"], unfollowed := true, recurses := true, named := ["internal/bytealg.MaxLen", "burin/token.signs"], apart := false, laid := [("burin/token.signs", laid_burin_token_signs)] }
def TokenBlanksSaid : Prop := tokenBlanksRow.holds Tryd.pinned (OpenSpec.ofChange tokenBlanksSpec)

/-- ITS FALSE NEIGHBOUR: 'it returns false'. Refute it at one input. -/
def tokenBlanksWrong : ChangeSpec := { name := "tokenBlanks", fn := fun _ => fun
  | [d1, d2] => { results := [.lit (.bool false)], args := [d1, d2] }
  | _ => none }
def TokenBlanksWrongFalsely : Prop := tokenBlanksRow.holds Tryd.pinned (OpenSpec.ofChange tokenBlanksWrong)

/-- 'burinlaw02.TokenParts': WHATEVER THE INPUT: true; the input reads as it did. -/
def tokenPartsSpec : ChangeSpec := { name := "tokenParts", fn := fun _ => fun
  | [d1, d2] => { results := [.lit (.bool true)], args := [d1, d2] }
  | _ => none }
def tokenPartsRow : OpenClaim := { program := "ytinfkbdhnbefmaadoor", sum := "c3f10bce00b224b3dddad185a85fd5d681eae66786c5e833c7b41688d3a1fca7", func := "burin/burinlaw02.TokenParts", spec := "tokenParts", inPlace := ["internal/bytealg.IndexByteString", "internal/bytealg.IndexString"], unfollowed := true, recurses := true, named := ["internal/bytealg.MaxLen", "burin/token.signs"], apart := false, laid := [("burin/token.signs", laid_burin_token_signs)] }
def TokenPartsSaid : Prop := tokenPartsRow.holds Tryd.pinned (OpenSpec.ofChange tokenPartsSpec)

/-- ITS FALSE NEIGHBOUR: 'it returns false'. Refute it at one input. -/
def tokenPartsWrong : ChangeSpec := { name := "tokenParts", fn := fun _ => fun
  | [d1, d2] => { results := [.lit (.bool false)], args := [d1, d2] }
  | _ => none }
def TokenPartsWrongFalsely : Prop := tokenPartsRow.holds Tryd.pinned (OpenSpec.ofChange tokenPartsWrong)

/-- 'burinlaw02.TokenAlone': WHATEVER THE INPUT: true; the input reads as it did. -/
def tokenAloneSpec : ChangeSpec := { name := "tokenAlone", fn := fun _ => fun
  | [d] => { results := [.lit (.bool true)], args := [d] }
  | _ => none }
def tokenAloneRow : OpenClaim := { program := "ytinfkbdhnbefmaadoor", sum := "c3f10bce00b224b3dddad185a85fd5d681eae66786c5e833c7b41688d3a1fca7", func := "burin/burinlaw02.TokenAlone", spec := "tokenAlone", inPlace := ["internal/bytealg.IndexByteString", "internal/bytealg.IndexString"], unfollowed := true, recurses := true, named := ["internal/bytealg.MaxLen", "burin/token.signs"], apart := false, laid := [("burin/token.signs", laid_burin_token_signs)] }
def TokenAloneSaid : Prop := tokenAloneRow.holds Tryd.pinned (OpenSpec.ofChange tokenAloneSpec)

/-- ITS FALSE NEIGHBOUR: 'it returns false'. Refute it at one input. -/
def tokenAloneWrong : ChangeSpec := { name := "tokenAlone", fn := fun _ => fun
  | [d] => { results := [.lit (.bool false)], args := [d] }
  | _ => none }
def TokenAloneWrongFalsely : Prop := tokenAloneRow.holds Tryd.pinned (OpenSpec.ofChange tokenAloneWrong)

/-- 'burinlaw02.TokenSpells': WHATEVER THE INPUT: true; the input reads as it did. -/
def tokenSpellsSpec : ChangeSpec := { name := "tokenSpells", fn := fun _ => fun
  | [d] => { results := [.lit (.bool true)], args := [d] }
  | _ => none }
def tokenSpellsRow : OpenClaim := { program := "ytinfkbdhnbefmaadoor", sum := "c3f10bce00b224b3dddad185a85fd5d681eae66786c5e833c7b41688d3a1fca7", func := "burin/burinlaw02.TokenSpells", spec := "tokenSpells", inPlace := ["internal/bytealg.IndexByteString", "internal/bytealg.IndexString", "internal/abi.NoEscape"], unfollowed := true, recurses := true, named := ["internal/bytealg.MaxLen", "burin/token.signs"], apart := false, laid := [("burin/token.signs", laid_burin_token_signs)] }
def TokenSpellsSaid : Prop := tokenSpellsRow.holds Tryd.pinned (OpenSpec.ofChange tokenSpellsSpec)

/-- ITS FALSE NEIGHBOUR: 'it returns false'. Refute it at one input. -/
def tokenSpellsWrong : ChangeSpec := { name := "tokenSpells", fn := fun _ => fun
  | [d] => { results := [.lit (.bool false)], args := [d] }
  | _ => none }
def TokenSpellsWrongFalsely : Prop := tokenSpellsRow.holds Tryd.pinned (OpenSpec.ofChange tokenSpellsWrong)

/-- 'burinlaw02.TokenFiles': WHATEVER THE INPUT: true; the input reads as it did. -/
def tokenFilesSpec : ChangeSpec := { name := "tokenFiles", fn := fun _ => fun
  | [d] => { results := [.lit (.bool true)], args := [d] }
  | _ => none }
def tokenFilesRow : OpenClaim := { program := "ytinfkbdhnbefmaadoor", sum := "c3f10bce00b224b3dddad185a85fd5d681eae66786c5e833c7b41688d3a1fca7", func := "burin/burinlaw02.TokenFiles", spec := "tokenFiles", inPlace := ["internal/bytealg.IndexByteString", "internal/bytealg.IndexString"], unfollowed := true, recurses := true, named := ["internal/bytealg.MaxLen", "burin/token.signs"], apart := false, laid := [("burin/token.signs", laid_burin_token_signs)] }
def TokenFilesSaid : Prop := tokenFilesRow.holds Tryd.pinned (OpenSpec.ofChange tokenFilesSpec)

/-- ITS FALSE NEIGHBOUR: 'it returns false'. Refute it at one input. -/
def tokenFilesWrong : ChangeSpec := { name := "tokenFiles", fn := fun _ => fun
  | [d] => { results := [.lit (.bool false)], args := [d] }
  | _ => none }
def TokenFilesWrongFalsely : Prop := tokenFilesRow.holds Tryd.pinned (OpenSpec.ofChange tokenFilesWrong)

/-- 'burinlaw02.TokenBack': WHATEVER THE INPUT: true; the input reads as it did. -/
def tokenBackSpec : ChangeSpec := { name := "tokenBack", fn := fun _ => fun
  | [d] => { results := [.lit (.bool true)], args := [d] }
  | _ => none }
def tokenBackRow : OpenClaim := { program := "ytinfkbdhnbefmaadoor", sum := "c3f10bce00b224b3dddad185a85fd5d681eae66786c5e833c7b41688d3a1fca7", func := "burin/burinlaw02.TokenBack", spec := "tokenBack", inPlace := ["internal/bytealg.IndexByteString", "internal/bytealg.IndexString", "internal/abi.NoEscape"], unfollowed := true, recurses := true, named := ["internal/bytealg.MaxLen", "burin/token.signs"], apart := false, laid := [("burin/token.signs", laid_burin_token_signs)] }
def TokenBackSaid : Prop := tokenBackRow.holds Tryd.pinned (OpenSpec.ofChange tokenBackSpec)

/-- ITS FALSE NEIGHBOUR: 'it returns false'. Refute it at one input. -/
def tokenBackWrong : ChangeSpec := { name := "tokenBack", fn := fun _ => fun
  | [d] => { results := [.lit (.bool false)], args := [d] }
  | _ => none }
def TokenBackWrongFalsely : Prop := tokenBackRow.holds Tryd.pinned (OpenSpec.ofChange tokenBackWrong)

/- THE SECOND FORM. 'bulk': how many values and letters a reading holds, each counted each time it is reached (what is shared counts as often as it is met; a slice's spare places count too). A statement '..UptoSaid' is the law's where the arguments, and the package variables that the reading takes, are together of bulk at most 1048576: NARROWER than '..Said'. Prove '..Said' where nothing that the law and all that it calls make is longer than what came in: it says more and counts as full. Else prove '..UptoSaid'. A law counts once. -/
mutual
def uptoBulk {H : Type} : DataW H → Nat
  | .lit (.string bytes) => bytes.length + 1
  | .lit _ => 1
  | .nil => 1
  | .ptr d => uptoBulk d + 1
  | .slice elems spare => uptoBulkAll elems + uptoBulkAll spare + 1
  | .agg parts => uptoBulkAll parts + 1
  | .iface _ d => uptoBulk d + 1
  | .map entries => uptoBulkEntries entries + 1
  | .held _ => 1
def uptoBulkAll {H : Type} : List (DataW H) → Nat
  | [] => 0
  | d :: r => uptoBulk d + uptoBulkAll r
def uptoBulkEntries {H : Type} : List (Lit × DataW H) → Nat
  | [] => 0
  | x :: r => uptoBulkEntry x + uptoBulkEntries r
def uptoBulkEntry {H : Type} : Lit × DataW H → Nat
  | (.string bytes, d) => bytes.length + uptoBulk d + 1
  | (_, d) => uptoBulk d + 1
 end
def uptoSmall : (H : Type) → List (DataW H) → Bool := fun _ ds => decide (uptoBulkAll ds ≤ 1048576)
def OpenSpec.upto (s : _root_.Go.ChangeSpec) : _root_.Go.OpenSpec := { _root_.Go.OpenSpec.ofChange s with cond := some uptoSmall }

/-- 'burinlaw02.TokenLexes', WHERE WHAT IT READS IS OF BULK AT MOST 1048576: true; the input reads as it did. -/
def tokenLexesUptoRow : OpenClaim := { program := "ytinfkbdhnbefmaadoor", sum := "c3f10bce00b224b3dddad185a85fd5d681eae66786c5e833c7b41688d3a1fca7", func := "burin/burinlaw02.TokenLexes", spec := "tokenLexes", inPlace := ["internal/bytealg.IndexByteString", "internal/bytealg.IndexString"], unfollowed := true, recurses := true, named := ["internal/bytealg.MaxLen", "burin/token.signs"], apart := false, laid := [("burin/token.signs", laid_burin_token_signs)], narrowed := true }
def TokenLexesUptoSaid : Prop := tokenLexesUptoRow.holds Tryd.pinned (OpenSpec.upto tokenLexesSpec)

/-- 'burinlaw02.TokenBlanks', WHERE WHAT IT READS IS OF BULK AT MOST 1048576: true; the input reads as it did. -/
def tokenBlanksUptoRow : OpenClaim := { program := "ytinfkbdhnbefmaadoor", sum := "c3f10bce00b224b3dddad185a85fd5d681eae66786c5e833c7b41688d3a1fca7", func := "burin/burinlaw02.TokenBlanks", spec := "tokenBlanks", inPlace := ["internal/bytealg.IndexByteString", "internal/bytealg.IndexString"], unfollowed := true, recurses := true, named := ["internal/bytealg.MaxLen", "burin/token.signs"], apart := false, laid := [("burin/token.signs", laid_burin_token_signs)], narrowed := true }
def TokenBlanksUptoSaid : Prop := tokenBlanksUptoRow.holds Tryd.pinned (OpenSpec.upto tokenBlanksSpec)

/-- 'burinlaw02.TokenParts', WHERE WHAT IT READS IS OF BULK AT MOST 1048576: true; the input reads as it did. -/
def tokenPartsUptoRow : OpenClaim := { program := "ytinfkbdhnbefmaadoor", sum := "c3f10bce00b224b3dddad185a85fd5d681eae66786c5e833c7b41688d3a1fca7", func := "burin/burinlaw02.TokenParts", spec := "tokenParts", inPlace := ["internal/bytealg.IndexByteString", "internal/bytealg.IndexString"], unfollowed := true, recurses := true, named := ["internal/bytealg.MaxLen", "burin/token.signs"], apart := false, laid := [("burin/token.signs", laid_burin_token_signs)], narrowed := true }
def TokenPartsUptoSaid : Prop := tokenPartsUptoRow.holds Tryd.pinned (OpenSpec.upto tokenPartsSpec)

/-- 'burinlaw02.TokenAlone', WHERE WHAT IT READS IS OF BULK AT MOST 1048576: true; the input reads as it did. -/
def tokenAloneUptoRow : OpenClaim := { program := "ytinfkbdhnbefmaadoor", sum := "c3f10bce00b224b3dddad185a85fd5d681eae66786c5e833c7b41688d3a1fca7", func := "burin/burinlaw02.TokenAlone", spec := "tokenAlone", inPlace := ["internal/bytealg.IndexByteString", "internal/bytealg.IndexString"], unfollowed := true, recurses := true, named := ["internal/bytealg.MaxLen", "burin/token.signs"], apart := false, laid := [("burin/token.signs", laid_burin_token_signs)], narrowed := true }
def TokenAloneUptoSaid : Prop := tokenAloneUptoRow.holds Tryd.pinned (OpenSpec.upto tokenAloneSpec)

/-- 'burinlaw02.TokenSpells', WHERE WHAT IT READS IS OF BULK AT MOST 1048576: true; the input reads as it did. -/
def tokenSpellsUptoRow : OpenClaim := { program := "ytinfkbdhnbefmaadoor", sum := "c3f10bce00b224b3dddad185a85fd5d681eae66786c5e833c7b41688d3a1fca7", func := "burin/burinlaw02.TokenSpells", spec := "tokenSpells", inPlace := ["internal/bytealg.IndexByteString", "internal/bytealg.IndexString", "internal/abi.NoEscape"], unfollowed := true, recurses := true, named := ["internal/bytealg.MaxLen", "burin/token.signs"], apart := false, laid := [("burin/token.signs", laid_burin_token_signs)], narrowed := true }
def TokenSpellsUptoSaid : Prop := tokenSpellsUptoRow.holds Tryd.pinned (OpenSpec.upto tokenSpellsSpec)

/-- 'burinlaw02.TokenFiles', WHERE WHAT IT READS IS OF BULK AT MOST 1048576: true; the input reads as it did. -/
def tokenFilesUptoRow : OpenClaim := { program := "ytinfkbdhnbefmaadoor", sum := "c3f10bce00b224b3dddad185a85fd5d681eae66786c5e833c7b41688d3a1fca7", func := "burin/burinlaw02.TokenFiles", spec := "tokenFiles", inPlace := ["internal/bytealg.IndexByteString", "internal/bytealg.IndexString"], unfollowed := true, recurses := true, named := ["internal/bytealg.MaxLen", "burin/token.signs"], apart := false, laid := [("burin/token.signs", laid_burin_token_signs)], narrowed := true }
def TokenFilesUptoSaid : Prop := tokenFilesUptoRow.holds Tryd.pinned (OpenSpec.upto tokenFilesSpec)

/-- 'burinlaw02.TokenBack', WHERE WHAT IT READS IS OF BULK AT MOST 1048576: true; the input reads as it did. -/
def tokenBackUptoRow : OpenClaim := { program := "ytinfkbdhnbefmaadoor", sum := "c3f10bce00b224b3dddad185a85fd5d681eae66786c5e833c7b41688d3a1fca7", func := "burin/burinlaw02.TokenBack", spec := "tokenBack", inPlace := ["internal/bytealg.IndexByteString", "internal/bytealg.IndexString", "internal/abi.NoEscape"], unfollowed := true, recurses := true, named := ["internal/bytealg.MaxLen", "burin/token.signs"], apart := false, laid := [("burin/token.signs", laid_burin_token_signs)], narrowed := true }
def TokenBackUptoSaid : Prop := tokenBackUptoRow.holds Tryd.pinned (OpenSpec.upto tokenBackSpec)

end Rows
end Go.Proofs.YtinfkbdhnbefmaaDoor
