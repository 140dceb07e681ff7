/-
  NARROWER THAN 'FOR EVERY INPUT', by the rows' own cells (each row's printed sentence says how): MacroReads: laid · MacroWords: laid · MacroBack: laid · MacroKeeps: laid · MacroOrder: laid · MacroNone: laid.
  DERIVED. THE GIVEN ROWS OF THIS SEAT. 6 by the template 'for every input the law returns true; each argument reads behind the call as it read before'; 0 by the template 'total and deterministic' (their statements: YtcbfbefpbjmglaaDoorTotals.lean).
  GIVEN WITH THE SEED: the statements are not yours to turn. If you find one false, say at which input.
  Laid BY PROGRAM, IN A SANDBOX (cutbox-rows.mjs): the forced cells as the released guide's own fill.sh prints them over the translation d83e4b08ba6fcc3a… (all of the seat's roots in one cut). By AI agents, Wed Nov 11 2026. No macro, syntax, notation, axiom, sorry.
-/
import Derived.Test.YtcbfbefpbjmglaaDoorChecked
import GoSem.Claim
import GoSem.ClaimJoined
import GoSem.ClaimMapViews
import Derived.JoinedTies
import Derived.KernelRfl
namespace Go.Proofs.YtcbfbefpbjmglaaDoor
/- THE CELL 'sum', in the pinned program and in every row, IS THE sha256 OF THE DUMP (.gsa) THAT YtcbfbefpbjmglaaDoorProg.lean LOADS. Nothing in Lean hashes anything: it is a label: what it is worth is what the hold of that sum in a sandbox is worth. -/
noncomputable def Tryd.pinned : Pinned := { name := "ytcbfbefpbjmglaadoor", sum := "d83e4b08ba6fcc3a507e4a0b445c5d5c2478cfa0aead7345dacffd8bf6914224", checked := Tryd.checked }
namespace Rows
def none {H : Type} : Left H := { results := [], args := [] }

/- WHAT THE LISTED PACKAGE-LEVEL VARIABLES READ AS WHEN THE CALL BEGINS. Each datum BY PROGRAM (the guide's laid-datum.mjs) off the statement by which the dump's own 'gosem.cut.vars' lays the variable. In a bare row this is a premise. The card (YtcbfbefpbjmglaaDoorCards.lean) ties it to the program's text. -/
def laid_burin_token_signs {H : Type} : DataW H := .agg [.lit (.string [46, 46, 46]), .lit (.string [60, 60, 61]), .lit (.string [62, 62, 61]), .lit (.string [45, 62]), .lit (.string [43, 43]), .lit (.string [45, 45]), .lit (.string [60, 60]), .lit (.string [62, 62]), .lit (.string [60, 61]), .lit (.string [62, 61]), .lit (.string [61, 61]), .lit (.string [33, 61]), .lit (.string [38, 38]), .lit (.string [124, 124]), .lit (.string [42, 61]), .lit (.string [47, 61]), .lit (.string [37, 61]), .lit (.string [43, 61]), .lit (.string [45, 61]), .lit (.string [38, 61]), .lit (.string [94, 61]), .lit (.string [124, 61]), .lit (.string [35, 35]), .lit (.string [91]), .lit (.string [93]), .lit (.string [40]), .lit (.string [41]), .lit (.string [123]), .lit (.string [125]), .lit (.string [46]), .lit (.string [38]), .lit (.string [42]), .lit (.string [43]), .lit (.string [45]), .lit (.string [126]), .lit (.string [33]), .lit (.string [47]), .lit (.string [37]), .lit (.string [60]), .lit (.string [62]), .lit (.string [94]), .lit (.string [124]), .lit (.string [63]), .lit (.string [58]), .lit (.string [59]), .lit (.string [61]), .lit (.string [44]), .lit (.string [35])]

/-- 'burinlaw03.MacroReads': WHATEVER THE INPUT: true; the input reads as it did. -/
def macroReadsSpec : ChangeSpec := { name := "macroReads", fn := fun _ => fun
  | [d] => { results := [.lit (.bool true)], args := [d] }
  | _ => none }
def macroReadsRow : OpenClaim := { program := "ytcbfbefpbjmglaadoor", sum := "d83e4b08ba6fcc3a507e4a0b445c5d5c2478cfa0aead7345dacffd8bf6914224", func := "burin/burinlaw03.MacroReads", spec := "macroReads", inPlace := ["internal/bytealg.IndexByteString", "internal/bytealg.IndexString", "internal/abi.NoEscape", "internal/bytealg.MakeNoZero"], unfollowed := true, recurses := true, named := ["internal/bytealg.MaxLen", "burin/token.signs"], apart := false, laid := [("burin/token.signs", laid_burin_token_signs)] }
def MacroReadsSaid : Prop := macroReadsRow.holds Tryd.pinned (OpenSpec.ofChange macroReadsSpec)

/-- ITS FALSE NEIGHBOUR: 'it returns false'. Refute it at one input. -/
def macroReadsWrong : ChangeSpec := { name := "macroReads", fn := fun _ => fun
  | [d] => { results := [.lit (.bool false)], args := [d] }
  | _ => none }
def MacroReadsWrongFalsely : Prop := macroReadsRow.holds Tryd.pinned (OpenSpec.ofChange macroReadsWrong)

/-- 'burinlaw03.MacroWords': WHATEVER THE INPUT: true; the input reads as it did. -/
def macroWordsSpec : ChangeSpec := { name := "macroWords", fn := fun _ => fun
  | [d1, d2] => { results := [.lit (.bool true)], args := [d1, d2] }
  | _ => none }
def macroWordsRow : OpenClaim := { program := "ytcbfbefpbjmglaadoor", sum := "d83e4b08ba6fcc3a507e4a0b445c5d5c2478cfa0aead7345dacffd8bf6914224", func := "burin/burinlaw03.MacroWords", spec := "macroWords", inPlace := ["internal/bytealg.IndexByteString", "internal/bytealg.IndexString", "internal/abi.NoEscape", "internal/bytealg.MakeNoZero"], unfollowed := true, recurses := true, named := ["internal/bytealg.MaxLen", "burin/token.signs"], apart := false, laid := [("burin/token.signs", laid_burin_token_signs)] }
def MacroWordsSaid : Prop := macroWordsRow.holds Tryd.pinned (OpenSpec.ofChange macroWordsSpec)

/-- ITS FALSE NEIGHBOUR: 'it returns false'. Refute it at one input. -/
def macroWordsWrong : ChangeSpec := { name := "macroWords", fn := fun _ => fun
  | [d1, d2] => { results := [.lit (.bool false)], args := [d1, d2] }
  | _ => none }
def MacroWordsWrongFalsely : Prop := macroWordsRow.holds Tryd.pinned (OpenSpec.ofChange macroWordsWrong)

/-- 'burinlaw03.MacroBack': WHATEVER THE INPUT: true; the input reads as it did. -/
def macroBackSpec : ChangeSpec := { name := "macroBack", fn := fun _ => fun
  | [d] => { results := [.lit (.bool true)], args := [d] }
  | _ => none }
def macroBackRow : OpenClaim := { program := "ytcbfbefpbjmglaadoor", sum := "d83e4b08ba6fcc3a507e4a0b445c5d5c2478cfa0aead7345dacffd8bf6914224", func := "burin/burinlaw03.MacroBack", spec := "macroBack", inPlace := ["internal/bytealg.IndexByteString", "internal/bytealg.IndexString", "internal/abi.NoEscape", "internal/bytealg.MakeNoZero"], unfollowed := true, recurses := true, named := ["internal/bytealg.MaxLen", "burin/token.signs"], apart := false, laid := [("burin/token.signs", laid_burin_token_signs)] }
def MacroBackSaid : Prop := macroBackRow.holds Tryd.pinned (OpenSpec.ofChange macroBackSpec)

/-- ITS FALSE NEIGHBOUR: 'it returns false'. Refute it at one input. -/
def macroBackWrong : ChangeSpec := { name := "macroBack", fn := fun _ => fun
  | [d] => { results := [.lit (.bool false)], args := [d] }
  | _ => none }
def MacroBackWrongFalsely : Prop := macroBackRow.holds Tryd.pinned (OpenSpec.ofChange macroBackWrong)

/-- 'burinlaw03.MacroKeeps': WHATEVER THE INPUT: true; the input reads as it did. -/
def macroKeepsSpec : ChangeSpec := { name := "macroKeeps", fn := fun _ => fun
  | [d1, d2] => { results := [.lit (.bool true)], args := [d1, d2] }
  | _ => none }
def macroKeepsRow : OpenClaim := { program := "ytcbfbefpbjmglaadoor", sum := "d83e4b08ba6fcc3a507e4a0b445c5d5c2478cfa0aead7345dacffd8bf6914224", func := "burin/burinlaw03.MacroKeeps", spec := "macroKeeps", inPlace := ["internal/bytealg.IndexByteString", "internal/bytealg.IndexString", "internal/abi.NoEscape", "internal/bytealg.MakeNoZero"], unfollowed := true, recurses := true, named := ["internal/bytealg.MaxLen", "burin/token.signs"], apart := false, laid := [("burin/token.signs", laid_burin_token_signs)] }
def MacroKeepsSaid : Prop := macroKeepsRow.holds Tryd.pinned (OpenSpec.ofChange macroKeepsSpec)

/-- ITS FALSE NEIGHBOUR: 'it returns false'. Refute it at one input. -/
def macroKeepsWrong : ChangeSpec := { name := "macroKeeps", fn := fun _ => fun
  | [d1, d2] => { results := [.lit (.bool false)], args := [d1, d2] }
  | _ => none }
def MacroKeepsWrongFalsely : Prop := macroKeepsRow.holds Tryd.pinned (OpenSpec.ofChange macroKeepsWrong)

/-- 'burinlaw03.MacroOrder': WHATEVER THE INPUT: true; the input reads as it did. -/
def macroOrderSpec : ChangeSpec := { name := "macroOrder", fn := fun _ => fun
  | [d] => { results := [.lit (.bool true)], args := [d] }
  | _ => none }
def macroOrderRow : OpenClaim := { program := "ytcbfbefpbjmglaadoor", sum := "d83e4b08ba6fcc3a507e4a0b445c5d5c2478cfa0aead7345dacffd8bf6914224", func := "burin/burinlaw03.MacroOrder", spec := "macroOrder", inPlace := ["internal/bytealg.IndexByteString", "internal/bytealg.IndexString", "internal/abi.NoEscape", "internal/bytealg.MakeNoZero"], unfollowed := true, recurses := true, named := ["internal/bytealg.MaxLen", "burin/token.signs"], apart := false, laid := [("burin/token.signs", laid_burin_token_signs)] }
def MacroOrderSaid : Prop := macroOrderRow.holds Tryd.pinned (OpenSpec.ofChange macroOrderSpec)

/-- ITS FALSE NEIGHBOUR: 'it returns false'. Refute it at one input. -/
def macroOrderWrong : ChangeSpec := { name := "macroOrder", fn := fun _ => fun
  | [d] => { results := [.lit (.bool false)], args := [d] }
  | _ => none }
def MacroOrderWrongFalsely : Prop := macroOrderRow.holds Tryd.pinned (OpenSpec.ofChange macroOrderWrong)

/-- 'burinlaw03.MacroNone': WHATEVER THE INPUT: true; the input reads as it did. -/
def macroNoneSpec : ChangeSpec := { name := "macroNone", fn := fun _ => fun
  | [d] => { results := [.lit (.bool true)], args := [d] }
  | _ => none }
def macroNoneRow : OpenClaim := { program := "ytcbfbefpbjmglaadoor", sum := "d83e4b08ba6fcc3a507e4a0b445c5d5c2478cfa0aead7345dacffd8bf6914224", func := "burin/burinlaw03.MacroNone", spec := "macroNone", inPlace := ["internal/bytealg.IndexByteString", "internal/bytealg.IndexString", "internal/abi.NoEscape", "internal/bytealg.MakeNoZero"], unfollowed := true, recurses := true, named := ["internal/bytealg.MaxLen", "burin/token.signs"], apart := false, laid := [("burin/token.signs", laid_burin_token_signs)] }
def MacroNoneSaid : Prop := macroNoneRow.holds Tryd.pinned (OpenSpec.ofChange macroNoneSpec)

/-- ITS FALSE NEIGHBOUR: 'it returns false'. Refute it at one input. -/
def macroNoneWrong : ChangeSpec := { name := "macroNone", fn := fun _ => fun
  | [d] => { results := [.lit (.bool false)], args := [d] }
  | _ => none }
def MacroNoneWrongFalsely : Prop := macroNoneRow.holds Tryd.pinned (OpenSpec.ofChange macroNoneWrong)

/- THE SECOND FORM. 'bulk': how many values and letters a reading holds, each counted each time it is reached (what is shared counts as often as it is met; a slice's spare places count too). A statement '..UptoSaid' is the law's where the arguments, and the package variables that the reading takes, are together of bulk at most 1048576: NARROWER than '..Said'. Prove '..Said' where nothing that the law and all that it calls make is longer than what came in: it says more and counts as full. Else prove '..UptoSaid'. A law counts once. -/
mutual
def uptoBulk {H : Type} : DataW H → Nat
  | .lit (.string bytes) => bytes.length + 1
  | .lit _ => 1
  | .nil => 1
  | .ptr d => uptoBulk d + 1
  | .slice elems spare => uptoBulkAll elems + uptoBulkAll spare + 1
  | .agg parts => uptoBulkAll parts + 1
  | .iface _ d => uptoBulk d + 1
  | .map entries => uptoBulkEntries entries + 1
  | .held _ => 1
def uptoBulkAll {H : Type} : List (DataW H) → Nat
  | [] => 0
  | d :: r => uptoBulk d + uptoBulkAll r
def uptoBulkEntries {H : Type} : List (Lit × DataW H) → Nat
  | [] => 0
  | x :: r => uptoBulkEntry x + uptoBulkEntries r
def uptoBulkEntry {H : Type} : Lit × DataW H → Nat
  | (.string bytes, d) => bytes.length + uptoBulk d + 1
  | (_, d) => uptoBulk d + 1
 end
def uptoSmall : (H : Type) → List (DataW H) → Bool := fun _ ds => decide (uptoBulkAll ds ≤ 1048576)
def OpenSpec.upto (s : _root_.Go.ChangeSpec) : _root_.Go.OpenSpec := { _root_.Go.OpenSpec.ofChange s with cond := some uptoSmall }

/-- 'burinlaw03.MacroReads', WHERE WHAT IT READS IS OF BULK AT MOST 1048576: true; the input reads as it did. -/
def macroReadsUptoRow : OpenClaim := { program := "ytcbfbefpbjmglaadoor", sum := "d83e4b08ba6fcc3a507e4a0b445c5d5c2478cfa0aead7345dacffd8bf6914224", func := "burin/burinlaw03.MacroReads", spec := "macroReads", inPlace := ["internal/bytealg.IndexByteString", "internal/bytealg.IndexString", "internal/abi.NoEscape", "internal/bytealg.MakeNoZero"], unfollowed := true, recurses := true, named := ["internal/bytealg.MaxLen", "burin/token.signs"], apart := false, laid := [("burin/token.signs", laid_burin_token_signs)], narrowed := true }
def MacroReadsUptoSaid : Prop := macroReadsUptoRow.holds Tryd.pinned (OpenSpec.upto macroReadsSpec)

/-- 'burinlaw03.MacroWords', WHERE WHAT IT READS IS OF BULK AT MOST 1048576: true; the input reads as it did. -/
def macroWordsUptoRow : OpenClaim := { program := "ytcbfbefpbjmglaadoor", sum := "d83e4b08ba6fcc3a507e4a0b445c5d5c2478cfa0aead7345dacffd8bf6914224", func := "burin/burinlaw03.MacroWords", spec := "macroWords", inPlace := ["internal/bytealg.IndexByteString", "internal/bytealg.IndexString", "internal/abi.NoEscape", "internal/bytealg.MakeNoZero"], unfollowed := true, recurses := true, named := ["internal/bytealg.MaxLen", "burin/token.signs"], apart := false, laid := [("burin/token.signs", laid_burin_token_signs)], narrowed := true }
def MacroWordsUptoSaid : Prop := macroWordsUptoRow.holds Tryd.pinned (OpenSpec.upto macroWordsSpec)

/-- 'burinlaw03.MacroBack', WHERE WHAT IT READS IS OF BULK AT MOST 1048576: true; the input reads as it did. -/
def macroBackUptoRow : OpenClaim := { program := "ytcbfbefpbjmglaadoor", sum := "d83e4b08ba6fcc3a507e4a0b445c5d5c2478cfa0aead7345dacffd8bf6914224", func := "burin/burinlaw03.MacroBack", spec := "macroBack", inPlace := ["internal/bytealg.IndexByteString", "internal/bytealg.IndexString", "internal/abi.NoEscape", "internal/bytealg.MakeNoZero"], unfollowed := true, recurses := true, named := ["internal/bytealg.MaxLen", "burin/token.signs"], apart := false, laid := [("burin/token.signs", laid_burin_token_signs)], narrowed := true }
def MacroBackUptoSaid : Prop := macroBackUptoRow.holds Tryd.pinned (OpenSpec.upto macroBackSpec)

/-- 'burinlaw03.MacroKeeps', WHERE WHAT IT READS IS OF BULK AT MOST 1048576: true; the input reads as it did. -/
def macroKeepsUptoRow : OpenClaim := { program := "ytcbfbefpbjmglaadoor", sum := "d83e4b08ba6fcc3a507e4a0b445c5d5c2478cfa0aead7345dacffd8bf6914224", func := "burin/burinlaw03.MacroKeeps", spec := "macroKeeps", inPlace := ["internal/bytealg.IndexByteString", "internal/bytealg.IndexString", "internal/abi.NoEscape", "internal/bytealg.MakeNoZero"], unfollowed := true, recurses := true, named := ["internal/bytealg.MaxLen", "burin/token.signs"], apart := false, laid := [("burin/token.signs", laid_burin_token_signs)], narrowed := true }
def MacroKeepsUptoSaid : Prop := macroKeepsUptoRow.holds Tryd.pinned (OpenSpec.upto macroKeepsSpec)

/-- 'burinlaw03.MacroOrder', WHERE WHAT IT READS IS OF BULK AT MOST 1048576: true; the input reads as it did. -/
def macroOrderUptoRow : OpenClaim := { program := "ytcbfbefpbjmglaadoor", sum := "d83e4b08ba6fcc3a507e4a0b445c5d5c2478cfa0aead7345dacffd8bf6914224", func := "burin/burinlaw03.MacroOrder", spec := "macroOrder", inPlace := ["internal/bytealg.IndexByteString", "internal/bytealg.IndexString", "internal/abi.NoEscape", "internal/bytealg.MakeNoZero"], unfollowed := true, recurses := true, named := ["internal/bytealg.MaxLen", "burin/token.signs"], apart := false, laid := [("burin/token.signs", laid_burin_token_signs)], narrowed := true }
def MacroOrderUptoSaid : Prop := macroOrderUptoRow.holds Tryd.pinned (OpenSpec.upto macroOrderSpec)

/-- 'burinlaw03.MacroNone', WHERE WHAT IT READS IS OF BULK AT MOST 1048576: true; the input reads as it did. -/
def macroNoneUptoRow : OpenClaim := { program := "ytcbfbefpbjmglaadoor", sum := "d83e4b08ba6fcc3a507e4a0b445c5d5c2478cfa0aead7345dacffd8bf6914224", func := "burin/burinlaw03.MacroNone", spec := "macroNone", inPlace := ["internal/bytealg.IndexByteString", "internal/bytealg.IndexString", "internal/abi.NoEscape", "internal/bytealg.MakeNoZero"], unfollowed := true, recurses := true, named := ["internal/bytealg.MaxLen", "burin/token.signs"], apart := false, laid := [("burin/token.signs", laid_burin_token_signs)], narrowed := true }
def MacroNoneUptoSaid : Prop := macroNoneUptoRow.holds Tryd.pinned (OpenSpec.upto macroNoneSpec)

end Rows
end Go.Proofs.YtcbfbefpbjmglaaDoor
