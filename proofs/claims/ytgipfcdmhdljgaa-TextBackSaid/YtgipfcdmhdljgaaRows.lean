/-
  No cell of these rows narrows 'for every input' (looked for: loops, veiled, ifaces, maps, wideKeys, modest, calm, conditions, laid).
  DERIVED. THE GIVEN ROWS OF THIS SEAT. 6 by the template 'for every input the law returns true; each argument reads behind the call as it read before'; 0 by the template 'total and deterministic' (their statements: YtgipfcdmhdljgaaTotals.lean).
  GIVEN WITH THE SEED: the statements are not yours to turn. If you find one false, say at which input.
  Laid BY PROGRAM, IN A SANDBOX (cutbox-rows.mjs): the forced cells as the released guide's own fill.sh prints them over the translation f9ba8c6176c9fa42… (all of the seat's roots in one cut). By AI agents, Wed Nov 11 2026. No macro, syntax, notation, axiom, sorry.
-/
import Derived.Test.YtgipfcdmhdljgaaChecked
import GoSem.Claim
import GoSem.ClaimJoined
import GoSem.ClaimMapViews
import Derived.JoinedTies
import Derived.KernelRfl
namespace Go.Proofs.Ytgipfcdmhdljgaa
/- THE CELL 'sum', in the pinned program and in every row, IS THE sha256 OF THE DUMP (.gsa) THAT YtgipfcdmhdljgaaProg.lean LOADS. Nothing in Lean hashes anything: it is a label: what it is worth is what the hold of that sum in a sandbox is worth. -/
noncomputable def Try.pinned : Pinned := { name := "ytgipfcdmhdljgaa", sum := "f9ba8c6176c9fa42ae62cdda329d79bdfa94fe20bae6bc2e79701ef8a303965e", checked := Try.checked }
namespace Rows
def none {H : Type} : Left H := { results := [], args := [] }

/-- 'burinlaw01.TextLines': WHATEVER THE INPUT: true; the input reads as it did. -/
def textLinesSpec : ChangeSpec := { name := "textLines", fn := fun _ => fun
  | [d] => { results := [.lit (.bool true)], args := [d] }
  | _ => none }
def textLinesRow : OpenClaim := { program := "ytgipfcdmhdljgaa", sum := "f9ba8c6176c9fa42ae62cdda329d79bdfa94fe20bae6bc2e79701ef8a303965e", func := "burin/burinlaw01.TextLines", spec := "textLines", inPlace := ["internal/bytealg.IndexByteString", "internal/bytealg.IndexString"], unfollowed := true, recurses := true, named := ["internal/bytealg.MaxLen"], apart := false }
def TextLinesSaid : Prop := textLinesRow.holds Try.pinned (OpenSpec.ofChange textLinesSpec)

/-- ITS FALSE NEIGHBOUR: 'it returns false'. Refute it at one input. -/
def textLinesWrong : ChangeSpec := { name := "textLines", fn := fun _ => fun
  | [d] => { results := [.lit (.bool false)], args := [d] }
  | _ => none }
def TextLinesWrongFalsely : Prop := textLinesRow.holds Try.pinned (OpenSpec.ofChange textLinesWrong)

/-- 'burinlaw01.TextPhysical': WHATEVER THE INPUT: true; the input reads as it did. -/
def textPhysicalSpec : ChangeSpec := { name := "textPhysical", fn := fun _ => fun
  | [d] => { results := [.lit (.bool true)], args := [d] }
  | _ => none }
def textPhysicalRow : OpenClaim := { program := "ytgipfcdmhdljgaa", sum := "f9ba8c6176c9fa42ae62cdda329d79bdfa94fe20bae6bc2e79701ef8a303965e", func := "burin/burinlaw01.TextPhysical", spec := "textPhysical", inPlace := ["internal/bytealg.IndexByteString", "internal/bytealg.IndexString"], unfollowed := true, recurses := true, named := ["internal/bytealg.MaxLen"], apart := false }
def TextPhysicalSaid : Prop := textPhysicalRow.holds Try.pinned (OpenSpec.ofChange textPhysicalSpec)

/-- ITS FALSE NEIGHBOUR: 'it returns false'. Refute it at one input. -/
def textPhysicalWrong : ChangeSpec := { name := "textPhysical", fn := fun _ => fun
  | [d] => { results := [.lit (.bool false)], args := [d] }
  | _ => none }
def TextPhysicalWrongFalsely : Prop := textPhysicalRow.holds Try.pinned (OpenSpec.ofChange textPhysicalWrong)

/-- 'burinlaw01.TextEnds': WHATEVER THE INPUT: true; the input reads as it did. -/
def textEndsSpec : ChangeSpec := { name := "textEnds", fn := fun _ => fun
  | [d] => { results := [.lit (.bool true)], args := [d] }
  | _ => none }
def textEndsRow : OpenClaim := { program := "ytgipfcdmhdljgaa", sum := "f9ba8c6176c9fa42ae62cdda329d79bdfa94fe20bae6bc2e79701ef8a303965e", func := "burin/burinlaw01.TextEnds", spec := "textEnds", inPlace := ["internal/bytealg.IndexByteString", "internal/bytealg.IndexString"], unfollowed := true, recurses := true, named := ["internal/bytealg.MaxLen"], apart := false }
def TextEndsSaid : Prop := textEndsRow.holds Try.pinned (OpenSpec.ofChange textEndsSpec)

/-- ITS FALSE NEIGHBOUR: 'it returns false'. Refute it at one input. -/
def textEndsWrong : ChangeSpec := { name := "textEnds", fn := fun _ => fun
  | [d] => { results := [.lit (.bool false)], args := [d] }
  | _ => none }
def TextEndsWrongFalsely : Prop := textEndsRow.holds Try.pinned (OpenSpec.ofChange textEndsWrong)

/-- 'burinlaw01.TextSplices': WHATEVER THE INPUT: true; the input reads as it did. -/
def textSplicesSpec : ChangeSpec := { name := "textSplices", fn := fun _ => fun
  | [d1, d2] => { results := [.lit (.bool true)], args := [d1, d2] }
  | _ => none }
def textSplicesRow : OpenClaim := { program := "ytgipfcdmhdljgaa", sum := "f9ba8c6176c9fa42ae62cdda329d79bdfa94fe20bae6bc2e79701ef8a303965e", func := "burin/burinlaw01.TextSplices", spec := "textSplices", inPlace := ["internal/bytealg.IndexByteString", "internal/bytealg.IndexString"], unfollowed := true, recurses := true, named := ["internal/bytealg.MaxLen"], apart := false }
def TextSplicesSaid : Prop := textSplicesRow.holds Try.pinned (OpenSpec.ofChange textSplicesSpec)

/-- ITS FALSE NEIGHBOUR: 'it returns false'. Refute it at one input. -/
def textSplicesWrong : ChangeSpec := { name := "textSplices", fn := fun _ => fun
  | [d1, d2] => { results := [.lit (.bool false)], args := [d1, d2] }
  | _ => none }
def TextSplicesWrongFalsely : Prop := textSplicesRow.holds Try.pinned (OpenSpec.ofChange textSplicesWrong)

/-- 'burinlaw01.TextParts': WHATEVER THE INPUT: true; the input reads as it did. -/
def textPartsSpec : ChangeSpec := { name := "textParts", fn := fun _ => fun
  | [d1, d2] => { results := [.lit (.bool true)], args := [d1, d2] }
  | _ => none }
def textPartsRow : OpenClaim := { program := "ytgipfcdmhdljgaa", sum := "f9ba8c6176c9fa42ae62cdda329d79bdfa94fe20bae6bc2e79701ef8a303965e", func := "burin/burinlaw01.TextParts", spec := "textParts", inPlace := ["internal/bytealg.IndexByteString", "internal/bytealg.IndexString"], unfollowed := true, recurses := true, named := ["internal/bytealg.MaxLen"], apart := false }
def TextPartsSaid : Prop := textPartsRow.holds Try.pinned (OpenSpec.ofChange textPartsSpec)

/-- ITS FALSE NEIGHBOUR: 'it returns false'. Refute it at one input. -/
def textPartsWrong : ChangeSpec := { name := "textParts", fn := fun _ => fun
  | [d1, d2] => { results := [.lit (.bool false)], args := [d1, d2] }
  | _ => none }
def TextPartsWrongFalsely : Prop := textPartsRow.holds Try.pinned (OpenSpec.ofChange textPartsWrong)

/-- 'burinlaw01.TextBack': WHATEVER THE INPUT: true; the input reads as it did. -/
def textBackSpec : ChangeSpec := { name := "textBack", fn := fun _ => fun
  | [d] => { results := [.lit (.bool true)], args := [d] }
  | _ => none }
def textBackRow : OpenClaim := { program := "ytgipfcdmhdljgaa", sum := "f9ba8c6176c9fa42ae62cdda329d79bdfa94fe20bae6bc2e79701ef8a303965e", func := "burin/burinlaw01.TextBack", spec := "textBack", inPlace := ["internal/bytealg.IndexByteString", "internal/bytealg.IndexString", "internal/abi.NoEscape"], unfollowed := true, recurses := true, named := ["internal/bytealg.MaxLen"], apart := false }
def TextBackSaid : Prop := textBackRow.holds Try.pinned (OpenSpec.ofChange textBackSpec)

/-- ITS FALSE NEIGHBOUR: 'it returns false'. Refute it at one input. -/
def textBackWrong : ChangeSpec := { name := "textBack", fn := fun _ => fun
  | [d] => { results := [.lit (.bool false)], args := [d] }
  | _ => none }
def TextBackWrongFalsely : Prop := textBackRow.holds Try.pinned (OpenSpec.ofChange textBackWrong)

/- THE SECOND FORM. 'bulk': how many values and letters a reading holds, each counted each time it is reached (what is shared counts as often as it is met; a slice's spare places count too). A statement '..UptoSaid' is the law's where the arguments, and the package variables that the reading takes, are together of bulk at most 1048576: NARROWER than '..Said'. Prove '..Said' where nothing that the law and all that it calls make is longer than what came in: it says more and counts as full. Else prove '..UptoSaid'. A law counts once. -/
mutual
def uptoBulk {H : Type} : DataW H → Nat
  | .lit (.string bytes) => bytes.length + 1
  | .lit _ => 1
  | .nil => 1
  | .ptr d => uptoBulk d + 1
  | .slice elems spare => uptoBulkAll elems + uptoBulkAll spare + 1
  | .agg parts => uptoBulkAll parts + 1
  | .iface _ d => uptoBulk d + 1
  | .map entries => uptoBulkEntries entries + 1
  | .held _ => 1
def uptoBulkAll {H : Type} : List (DataW H) → Nat
  | [] => 0
  | d :: r => uptoBulk d + uptoBulkAll r
def uptoBulkEntries {H : Type} : List (Lit × DataW H) → Nat
  | [] => 0
  | x :: r => uptoBulkEntry x + uptoBulkEntries r
def uptoBulkEntry {H : Type} : Lit × DataW H → Nat
  | (.string bytes, d) => bytes.length + uptoBulk d + 1
  | (_, d) => uptoBulk d + 1
 end
def uptoSmall : (H : Type) → List (DataW H) → Bool := fun _ ds => decide (uptoBulkAll ds ≤ 1048576)
def OpenSpec.upto (s : _root_.Go.ChangeSpec) : _root_.Go.OpenSpec := { _root_.Go.OpenSpec.ofChange s with cond := some uptoSmall }

/-- 'burinlaw01.TextLines', WHERE WHAT IT READS IS OF BULK AT MOST 1048576: true; the input reads as it did. -/
def textLinesUptoRow : OpenClaim := { program := "ytgipfcdmhdljgaa", sum := "f9ba8c6176c9fa42ae62cdda329d79bdfa94fe20bae6bc2e79701ef8a303965e", func := "burin/burinlaw01.TextLines", spec := "textLines", inPlace := ["internal/bytealg.IndexByteString", "internal/bytealg.IndexString"], unfollowed := true, recurses := true, named := ["internal/bytealg.MaxLen"], apart := false, narrowed := true }
def TextLinesUptoSaid : Prop := textLinesUptoRow.holds Try.pinned (OpenSpec.upto textLinesSpec)

/-- 'burinlaw01.TextPhysical', WHERE WHAT IT READS IS OF BULK AT MOST 1048576: true; the input reads as it did. -/
def textPhysicalUptoRow : OpenClaim := { program := "ytgipfcdmhdljgaa", sum := "f9ba8c6176c9fa42ae62cdda329d79bdfa94fe20bae6bc2e79701ef8a303965e", func := "burin/burinlaw01.TextPhysical", spec := "textPhysical", inPlace := ["internal/bytealg.IndexByteString", "internal/bytealg.IndexString"], unfollowed := true, recurses := true, named := ["internal/bytealg.MaxLen"], apart := false, narrowed := true }
def TextPhysicalUptoSaid : Prop := textPhysicalUptoRow.holds Try.pinned (OpenSpec.upto textPhysicalSpec)

/-- 'burinlaw01.TextEnds', WHERE WHAT IT READS IS OF BULK AT MOST 1048576: true; the input reads as it did. -/
def textEndsUptoRow : OpenClaim := { program := "ytgipfcdmhdljgaa", sum := "f9ba8c6176c9fa42ae62cdda329d79bdfa94fe20bae6bc2e79701ef8a303965e", func := "burin/burinlaw01.TextEnds", spec := "textEnds", inPlace := ["internal/bytealg.IndexByteString", "internal/bytealg.IndexString"], unfollowed := true, recurses := true, named := ["internal/bytealg.MaxLen"], apart := false, narrowed := true }
def TextEndsUptoSaid : Prop := textEndsUptoRow.holds Try.pinned (OpenSpec.upto textEndsSpec)

/-- 'burinlaw01.TextSplices', WHERE WHAT IT READS IS OF BULK AT MOST 1048576: true; the input reads as it did. -/
def textSplicesUptoRow : OpenClaim := { program := "ytgipfcdmhdljgaa", sum := "f9ba8c6176c9fa42ae62cdda329d79bdfa94fe20bae6bc2e79701ef8a303965e", func := "burin/burinlaw01.TextSplices", spec := "textSplices", inPlace := ["internal/bytealg.IndexByteString", "internal/bytealg.IndexString"], unfollowed := true, recurses := true, named := ["internal/bytealg.MaxLen"], apart := false, narrowed := true }
def TextSplicesUptoSaid : Prop := textSplicesUptoRow.holds Try.pinned (OpenSpec.upto textSplicesSpec)

/-- 'burinlaw01.TextParts', WHERE WHAT IT READS IS OF BULK AT MOST 1048576: true; the input reads as it did. -/
def textPartsUptoRow : OpenClaim := { program := "ytgipfcdmhdljgaa", sum := "f9ba8c6176c9fa42ae62cdda329d79bdfa94fe20bae6bc2e79701ef8a303965e", func := "burin/burinlaw01.TextParts", spec := "textParts", inPlace := ["internal/bytealg.IndexByteString", "internal/bytealg.IndexString"], unfollowed := true, recurses := true, named := ["internal/bytealg.MaxLen"], apart := false, narrowed := true }
def TextPartsUptoSaid : Prop := textPartsUptoRow.holds Try.pinned (OpenSpec.upto textPartsSpec)

/-- 'burinlaw01.TextBack', WHERE WHAT IT READS IS OF BULK AT MOST 1048576: true; the input reads as it did. -/
def textBackUptoRow : OpenClaim := { program := "ytgipfcdmhdljgaa", sum := "f9ba8c6176c9fa42ae62cdda329d79bdfa94fe20bae6bc2e79701ef8a303965e", func := "burin/burinlaw01.TextBack", spec := "textBack", inPlace := ["internal/bytealg.IndexByteString", "internal/bytealg.IndexString", "internal/abi.NoEscape"], unfollowed := true, recurses := true, named := ["internal/bytealg.MaxLen"], apart := false, narrowed := true }
def TextBackUptoSaid : Prop := textBackUptoRow.holds Try.pinned (OpenSpec.upto textBackSpec)

end Rows
end Go.Proofs.Ytgipfcdmhdljgaa
