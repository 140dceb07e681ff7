/-
  No cell of these rows narrows 'for every input' (looked for: loops, veiled, ifaces, maps, wideKeys, modest, calm, conditions, laid).
  DERIVED. THE GIVEN ROWS OF THIS SEAT. 6 by the template 'for every input the law returns true; each argument reads behind the call as it read before'; 0 by the template 'total and deterministic' (their statements: YtbbepiechehojaaTotals.lean).
  GIVEN WITH THE SEED: the statements are not yours to turn. If you find one false, say at which input.
  Laid BY PROGRAM, IN A SANDBOX (cutbox-rows.mjs): the forced cells as the released guide's own fill.sh prints them over the translation a09cbb994de515e9… (all of the seat's roots in one cut). By AI agents, Wed Nov 11 2026. No macro, syntax, notation, axiom, sorry.
-/
import Derived.Test.YtbbepiechehojaaChecked
import GoSem.Claim
import GoSem.ClaimJoined
import GoSem.ClaimMapViews
import Derived.JoinedTies
import Derived.KernelRfl
namespace Go.Proofs.Ytbbepiechehojaa
/- THE CELL 'sum', in the pinned program and in every row, IS THE sha256 OF THE DUMP (.gsa) THAT YtbbepiechehojaaProg.lean LOADS. Nothing in Lean hashes anything: it is a label: what it is worth is what the hold of that sum in a sandbox is worth. -/
noncomputable def Try.pinned : Pinned := { name := "ytbbepiechehojaa", sum := "a09cbb994de515e9b36a4e3e911985fd42cd8e9766d3aecf69b339a568a55690", checked := Try.checked }
namespace Rows
def none {H : Type} : Left H := { results := [], args := [] }

/-- 'burinlaw09.ArithTwo': WHATEVER THE INPUT: true; the input reads as it did. -/
def arithTwoSpec : ChangeSpec := { name := "arithTwo", fn := fun _ => fun
  | [d1, d2, d3, d4, d5] => { results := [.lit (.bool true)], args := [d1, d2, d3, d4, d5] }
  | _ => none }
def arithTwoRow : OpenClaim := { program := "ytbbepiechehojaa", sum := "a09cbb994de515e9b36a4e3e911985fd42cd8e9766d3aecf69b339a568a55690", func := "burin/burinlaw09.ArithTwo", spec := "arithTwo", inPlace := ["math/bits.Add64"], apart := false }
def ArithTwoSaid : Prop := arithTwoRow.holds Try.pinned (OpenSpec.ofChange arithTwoSpec)

/-- ITS FALSE NEIGHBOUR: 'it returns false'. Refute it at one input. -/
def arithTwoWrong : ChangeSpec := { name := "arithTwo", fn := fun _ => fun
  | [d1, d2, d3, d4, d5] => { results := [.lit (.bool false)], args := [d1, d2, d3, d4, d5] }
  | _ => none }
def ArithTwoWrongFalsely : Prop := arithTwoRow.holds Try.pinned (OpenSpec.ofChange arithTwoWrong)

/-- 'burinlaw09.ArithSwaps': WHATEVER THE INPUT: true; the input reads as it did. -/
def arithSwapsSpec : ChangeSpec := { name := "arithSwaps", fn := fun _ => fun
  | [d1, d2, d3, d4, d5] => { results := [.lit (.bool true)], args := [d1, d2, d3, d4, d5] }
  | _ => none }
def arithSwapsRow : OpenClaim := { program := "ytbbepiechehojaa", sum := "a09cbb994de515e9b36a4e3e911985fd42cd8e9766d3aecf69b339a568a55690", func := "burin/burinlaw09.ArithSwaps", spec := "arithSwaps", inPlace := ["math/bits.Add64"], apart := false }
def ArithSwapsSaid : Prop := arithSwapsRow.holds Try.pinned (OpenSpec.ofChange arithSwapsSpec)

/-- ITS FALSE NEIGHBOUR: 'it returns false'. Refute it at one input. -/
def arithSwapsWrong : ChangeSpec := { name := "arithSwaps", fn := fun _ => fun
  | [d1, d2, d3, d4, d5] => { results := [.lit (.bool false)], args := [d1, d2, d3, d4, d5] }
  | _ => none }
def ArithSwapsWrongFalsely : Prop := arithSwapsRow.holds Try.pinned (OpenSpec.ofChange arithSwapsWrong)

/-- 'burinlaw09.ArithDivides': WHATEVER THE INPUT: true; the input reads as it did. -/
def arithDividesSpec : ChangeSpec := { name := "arithDivides", fn := fun _ => fun
  | [d1, d2, d3, d4] => { results := [.lit (.bool true)], args := [d1, d2, d3, d4] }
  | _ => none }
def arithDividesRow : OpenClaim := { program := "ytbbepiechehojaa", sum := "a09cbb994de515e9b36a4e3e911985fd42cd8e9766d3aecf69b339a568a55690", func := "burin/burinlaw09.ArithDivides", spec := "arithDivides", inPlace := ["math/bits.Add64"], apart := false }
def ArithDividesSaid : Prop := arithDividesRow.holds Try.pinned (OpenSpec.ofChange arithDividesSpec)

/-- ITS FALSE NEIGHBOUR: 'it returns false'. Refute it at one input. -/
def arithDividesWrong : ChangeSpec := { name := "arithDivides", fn := fun _ => fun
  | [d1, d2, d3, d4] => { results := [.lit (.bool false)], args := [d1, d2, d3, d4] }
  | _ => none }
def ArithDividesWrongFalsely : Prop := arithDividesRow.holds Try.pinned (OpenSpec.ofChange arithDividesWrong)

/-- 'burinlaw09.ArithOne': WHATEVER THE INPUT: true; the input reads as it did. -/
def arithOneSpec : ChangeSpec := { name := "arithOne", fn := fun _ => fun
  | [d1, d2, d3] => { results := [.lit (.bool true)], args := [d1, d2, d3] }
  | _ => none }
def arithOneRow : OpenClaim := { program := "ytbbepiechehojaa", sum := "a09cbb994de515e9b36a4e3e911985fd42cd8e9766d3aecf69b339a568a55690", func := "burin/burinlaw09.ArithOne", spec := "arithOne", inPlace := ["math/bits.Add64"], apart := false }
def ArithOneSaid : Prop := arithOneRow.holds Try.pinned (OpenSpec.ofChange arithOneSpec)

/-- ITS FALSE NEIGHBOUR: 'it returns false'. Refute it at one input. -/
def arithOneWrong : ChangeSpec := { name := "arithOne", fn := fun _ => fun
  | [d1, d2, d3] => { results := [.lit (.bool false)], args := [d1, d2, d3] }
  | _ => none }
def ArithOneWrongFalsely : Prop := arithOneRow.holds Try.pinned (OpenSpec.ofChange arithOneWrong)

/-- 'burinlaw09.ArithWraps': WHATEVER THE INPUT: true; the input reads as it did. -/
def arithWrapsSpec : ChangeSpec := { name := "arithWraps", fn := fun _ => fun
  | [d1, d2, d3, d4] => { results := [.lit (.bool true)], args := [d1, d2, d3, d4] }
  | _ => none }
def arithWrapsRow : OpenClaim := { program := "ytbbepiechehojaa", sum := "a09cbb994de515e9b36a4e3e911985fd42cd8e9766d3aecf69b339a568a55690", func := "burin/burinlaw09.ArithWraps", spec := "arithWraps", inPlace := ["math/bits.Add64"], apart := false }
def ArithWrapsSaid : Prop := arithWrapsRow.holds Try.pinned (OpenSpec.ofChange arithWrapsSpec)

/-- ITS FALSE NEIGHBOUR: 'it returns false'. Refute it at one input. -/
def arithWrapsWrong : ChangeSpec := { name := "arithWraps", fn := fun _ => fun
  | [d1, d2, d3, d4] => { results := [.lit (.bool false)], args := [d1, d2, d3, d4] }
  | _ => none }
def ArithWrapsWrongFalsely : Prop := arithWrapsRow.holds Try.pinned (OpenSpec.ofChange arithWrapsWrong)

/-- 'burinlaw09.ArithSame': WHATEVER THE INPUT: true; the input reads as it did. -/
def arithSameSpec : ChangeSpec := { name := "arithSame", fn := fun _ => fun
  | [d1, d2, d3, d4, d5] => { results := [.lit (.bool true)], args := [d1, d2, d3, d4, d5] }
  | _ => none }
def arithSameRow : OpenClaim := { program := "ytbbepiechehojaa", sum := "a09cbb994de515e9b36a4e3e911985fd42cd8e9766d3aecf69b339a568a55690", func := "burin/burinlaw09.ArithSame", spec := "arithSame", inPlace := ["math/bits.Add64"], apart := false }
def ArithSameSaid : Prop := arithSameRow.holds Try.pinned (OpenSpec.ofChange arithSameSpec)

/-- ITS FALSE NEIGHBOUR: 'it returns false'. Refute it at one input. -/
def arithSameWrong : ChangeSpec := { name := "arithSame", fn := fun _ => fun
  | [d1, d2, d3, d4, d5] => { results := [.lit (.bool false)], args := [d1, d2, d3, d4, d5] }
  | _ => none }
def ArithSameWrongFalsely : Prop := arithSameRow.holds Try.pinned (OpenSpec.ofChange arithSameWrong)

/- THE SECOND FORM. 'bulk': how many values and letters a reading holds, each counted each time it is reached (what is shared counts as often as it is met; a slice's spare places count too). A statement '..UptoSaid' is the law's where the arguments, and the package variables that the reading takes, are together of bulk at most 1048576: NARROWER than '..Said'. Prove '..Said' where nothing that the law and all that it calls make is longer than what came in: it says more and counts as full. Else prove '..UptoSaid'. A law counts once. -/
mutual
def uptoBulk {H : Type} : DataW H → Nat
  | .lit (.string bytes) => bytes.length + 1
  | .lit _ => 1
  | .nil => 1
  | .ptr d => uptoBulk d + 1
  | .slice elems spare => uptoBulkAll elems + uptoBulkAll spare + 1
  | .agg parts => uptoBulkAll parts + 1
  | .iface _ d => uptoBulk d + 1
  | .map entries => uptoBulkEntries entries + 1
  | .held _ => 1
def uptoBulkAll {H : Type} : List (DataW H) → Nat
  | [] => 0
  | d :: r => uptoBulk d + uptoBulkAll r
def uptoBulkEntries {H : Type} : List (Lit × DataW H) → Nat
  | [] => 0
  | x :: r => uptoBulkEntry x + uptoBulkEntries r
def uptoBulkEntry {H : Type} : Lit × DataW H → Nat
  | (.string bytes, d) => bytes.length + uptoBulk d + 1
  | (_, d) => uptoBulk d + 1
 end
def uptoSmall : (H : Type) → List (DataW H) → Bool := fun _ ds => decide (uptoBulkAll ds ≤ 1048576)
def OpenSpec.upto (s : _root_.Go.ChangeSpec) : _root_.Go.OpenSpec := { _root_.Go.OpenSpec.ofChange s with cond := some uptoSmall }

/-- 'burinlaw09.ArithTwo', WHERE WHAT IT READS IS OF BULK AT MOST 1048576: true; the input reads as it did. -/
def arithTwoUptoRow : OpenClaim := { program := "ytbbepiechehojaa", sum := "a09cbb994de515e9b36a4e3e911985fd42cd8e9766d3aecf69b339a568a55690", func := "burin/burinlaw09.ArithTwo", spec := "arithTwo", inPlace := ["math/bits.Add64"], apart := false, narrowed := true }
def ArithTwoUptoSaid : Prop := arithTwoUptoRow.holds Try.pinned (OpenSpec.upto arithTwoSpec)

/-- 'burinlaw09.ArithSwaps', WHERE WHAT IT READS IS OF BULK AT MOST 1048576: true; the input reads as it did. -/
def arithSwapsUptoRow : OpenClaim := { program := "ytbbepiechehojaa", sum := "a09cbb994de515e9b36a4e3e911985fd42cd8e9766d3aecf69b339a568a55690", func := "burin/burinlaw09.ArithSwaps", spec := "arithSwaps", inPlace := ["math/bits.Add64"], apart := false, narrowed := true }
def ArithSwapsUptoSaid : Prop := arithSwapsUptoRow.holds Try.pinned (OpenSpec.upto arithSwapsSpec)

/-- 'burinlaw09.ArithDivides', WHERE WHAT IT READS IS OF BULK AT MOST 1048576: true; the input reads as it did. -/
def arithDividesUptoRow : OpenClaim := { program := "ytbbepiechehojaa", sum := "a09cbb994de515e9b36a4e3e911985fd42cd8e9766d3aecf69b339a568a55690", func := "burin/burinlaw09.ArithDivides", spec := "arithDivides", inPlace := ["math/bits.Add64"], apart := false, narrowed := true }
def ArithDividesUptoSaid : Prop := arithDividesUptoRow.holds Try.pinned (OpenSpec.upto arithDividesSpec)

/-- 'burinlaw09.ArithOne', WHERE WHAT IT READS IS OF BULK AT MOST 1048576: true; the input reads as it did. -/
def arithOneUptoRow : OpenClaim := { program := "ytbbepiechehojaa", sum := "a09cbb994de515e9b36a4e3e911985fd42cd8e9766d3aecf69b339a568a55690", func := "burin/burinlaw09.ArithOne", spec := "arithOne", inPlace := ["math/bits.Add64"], apart := false, narrowed := true }
def ArithOneUptoSaid : Prop := arithOneUptoRow.holds Try.pinned (OpenSpec.upto arithOneSpec)

/-- 'burinlaw09.ArithWraps', WHERE WHAT IT READS IS OF BULK AT MOST 1048576: true; the input reads as it did. -/
def arithWrapsUptoRow : OpenClaim := { program := "ytbbepiechehojaa", sum := "a09cbb994de515e9b36a4e3e911985fd42cd8e9766d3aecf69b339a568a55690", func := "burin/burinlaw09.ArithWraps", spec := "arithWraps", inPlace := ["math/bits.Add64"], apart := false, narrowed := true }
def ArithWrapsUptoSaid : Prop := arithWrapsUptoRow.holds Try.pinned (OpenSpec.upto arithWrapsSpec)

/-- 'burinlaw09.ArithSame', WHERE WHAT IT READS IS OF BULK AT MOST 1048576: true; the input reads as it did. -/
def arithSameUptoRow : OpenClaim := { program := "ytbbepiechehojaa", sum := "a09cbb994de515e9b36a4e3e911985fd42cd8e9766d3aecf69b339a568a55690", func := "burin/burinlaw09.ArithSame", spec := "arithSame", inPlace := ["math/bits.Add64"], apart := false, narrowed := true }
def ArithSameUptoSaid : Prop := arithSameUptoRow.holds Try.pinned (OpenSpec.upto arithSameSpec)

end Rows
end Go.Proofs.Ytbbepiechehojaa
