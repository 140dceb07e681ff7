/-
  NARROWER THAN 'FOR EVERY INPUT', by the rows' own cells (each row's printed sentence says how): TopCalls: laid.
  DERIVED. THE GIVEN ROWS OF THIS SEAT. 1 by the template 'for every input the law returns true; each argument reads behind the call as it read before'; 0 by the template 'total and deterministic' (their statements: YthfpdlfpbbhjhaaDoorTotals.lean).
  GIVEN WITH THE SEED: the statements are not yours to turn. If you find one false, say at which input.
  Laid BY PROGRAM, IN A SANDBOX (cutbox-rows.mjs): the forced cells as the released guide's own fill.sh prints them over the translation c3408704ba815010… (all of the seat's roots in one cut). By AI agents, Wed Nov 11 2026. No macro, syntax, notation, axiom, sorry.
-/
import Derived.Test.YthfpdlfpbbhjhaaDoorChecked
import GoSem.Claim
import GoSem.ClaimJoined
import GoSem.ClaimMapViews
import Derived.JoinedTies
import Derived.KernelRfl
namespace Go.Proofs.YthfpdlfpbbhjhaaDoor
/- THE CELL 'sum', in the pinned program and in every row, IS THE sha256 OF THE DUMP (.gsa) THAT YthfpdlfpbbhjhaaDoorProg.lean LOADS. Nothing in Lean hashes anything: it is a label: what it is worth is what the hold of that sum in a sandbox is worth. -/
noncomputable def Tryd.pinned : Pinned := { name := "ythfpdlfpbbhjhaadoor", sum := "c3408704ba8150103b3f66f42586784e5ce9fa24233f8c397dc4902e52019d28", checked := Tryd.checked }
namespace Rows
def none {H : Type} : Left H := { results := [], args := [] }

/- WHAT THE LISTED PACKAGE-LEVEL VARIABLES READ AS WHEN THE CALL BEGINS. Each datum BY PROGRAM (the guide's laid-datum.mjs) off the statement by which the dump's own 'gosem.cut.vars' lays the variable. In a bare row this is a premise. The card (YthfpdlfpbbhjhaaDoorCards.lean) ties it to the program's text. -/
def laid_burin_kind_names {H : Type} : DataW H := .agg [.lit (.string [118, 111, 105, 100]), .lit (.string [99, 104, 97, 114]), .lit (.string [117, 110, 115, 105, 103, 110, 101, 100, 32, 99, 104, 97, 114]), .lit (.string [115, 104, 111, 114, 116]), .lit (.string [117, 110, 115, 105, 103, 110, 101, 100, 32, 115, 104, 111, 114, 116]), .lit (.string [105, 110, 116]), .lit (.string [117, 110, 115, 105, 103, 110, 101, 100, 32, 105, 110, 116]), .lit (.string [108, 111, 110, 103]), .lit (.string [117, 110, 115, 105, 103, 110, 101, 100, 32, 108, 111, 110, 103])]
def laid_burin_mach_given {H : Type} : DataW H := .agg [.lit (.int .i64 7), .lit (.int .i64 6), .lit (.int .i64 2), .lit (.int .i64 1), .lit (.int .i64 8), .lit (.int .i64 9)]
def laid_burin_mach_kept {H : Type} : DataW H := .agg [.lit (.int .i64 3), .lit (.int .i64 5), .lit (.int .i64 12), .lit (.int .i64 13), .lit (.int .i64 14), .lit (.int .i64 15)]
def laid_burin_mach_lost {H : Type} : DataW H := .agg [.lit (.int .i64 1), .lit (.int .i64 2), .lit (.int .i64 6), .lit (.int .i64 7), .lit (.int .i64 8), .lit (.int .i64 9), .lit (.int .i64 10), .lit (.int .i64 11)]

/-- 'burintop.TopCalls': WHATEVER THE INPUT: true; the input reads as it did. -/
def topCallsSpec : ChangeSpec := { name := "topCalls", fn := fun _ => fun
  | [d1, d2] => { results := [.lit (.bool true)], args := [d1, d2] }
  | _ => none }
def topCallsRow : OpenClaim := { program := "ythfpdlfpbbhjhaadoor", sum := "c3408704ba8150103b3f66f42586784e5ce9fa24233f8c397dc4902e52019d28", func := "burin/burintop.TopCalls", spec := "topCalls", inPlace := ["math/bits.Add64"], unfollowed := true, recurses := true, named := ["burin/kind.names", "burin/mach.kept", "burin/mach.given", "burin/mach.lost"], apart := false, laid := [("burin/kind.names", laid_burin_kind_names), ("burin/mach.given", laid_burin_mach_given), ("burin/mach.kept", laid_burin_mach_kept), ("burin/mach.lost", laid_burin_mach_lost)] }
def TopCallsSaid : Prop := topCallsRow.holds Tryd.pinned (OpenSpec.ofChange topCallsSpec)

/-- ITS FALSE NEIGHBOUR: 'it returns false'. Refute it at one input. -/
def topCallsWrong : ChangeSpec := { name := "topCalls", fn := fun _ => fun
  | [d1, d2] => { results := [.lit (.bool false)], args := [d1, d2] }
  | _ => none }
def TopCallsWrongFalsely : Prop := topCallsRow.holds Tryd.pinned (OpenSpec.ofChange topCallsWrong)

/- THE SECOND FORM. 'bulk': how many values and letters a reading holds, each counted each time it is reached (what is shared counts as often as it is met; a slice's spare places count too). A statement '..UptoSaid' is the law's where the arguments, and the package variables that the reading takes, are together of bulk at most 1048576: NARROWER than '..Said'. Prove '..Said' where nothing that the law and all that it calls make is longer than what came in: it says more and counts as full. Else prove '..UptoSaid'. A law counts once. -/
mutual
def uptoBulk {H : Type} : DataW H → Nat
  | .lit (.string bytes) => bytes.length + 1
  | .lit _ => 1
  | .nil => 1
  | .ptr d => uptoBulk d + 1
  | .slice elems spare => uptoBulkAll elems + uptoBulkAll spare + 1
  | .agg parts => uptoBulkAll parts + 1
  | .iface _ d => uptoBulk d + 1
  | .map entries => uptoBulkEntries entries + 1
  | .held _ => 1
def uptoBulkAll {H : Type} : List (DataW H) → Nat
  | [] => 0
  | d :: r => uptoBulk d + uptoBulkAll r
def uptoBulkEntries {H : Type} : List (Lit × DataW H) → Nat
  | [] => 0
  | x :: r => uptoBulkEntry x + uptoBulkEntries r
def uptoBulkEntry {H : Type} : Lit × DataW H → Nat
  | (.string bytes, d) => bytes.length + uptoBulk d + 1
  | (_, d) => uptoBulk d + 1
 end
def uptoSmall : (H : Type) → List (DataW H) → Bool := fun _ ds => decide (uptoBulkAll ds ≤ 1048576)
def OpenSpec.upto (s : _root_.Go.ChangeSpec) : _root_.Go.OpenSpec := { _root_.Go.OpenSpec.ofChange s with cond := some uptoSmall }

/-- 'burintop.TopCalls', WHERE WHAT IT READS IS OF BULK AT MOST 1048576: true; the input reads as it did. -/
def topCallsUptoRow : OpenClaim := { program := "ythfpdlfpbbhjhaadoor", sum := "c3408704ba8150103b3f66f42586784e5ce9fa24233f8c397dc4902e52019d28", func := "burin/burintop.TopCalls", spec := "topCalls", inPlace := ["math/bits.Add64"], unfollowed := true, recurses := true, named := ["burin/kind.names", "burin/mach.kept", "burin/mach.given", "burin/mach.lost"], apart := false, laid := [("burin/kind.names", laid_burin_kind_names), ("burin/mach.given", laid_burin_mach_given), ("burin/mach.kept", laid_burin_mach_kept), ("burin/mach.lost", laid_burin_mach_lost)], narrowed := true }
def TopCallsUptoSaid : Prop := topCallsUptoRow.holds Tryd.pinned (OpenSpec.upto topCallsSpec)

end Rows
end Go.Proofs.YthfpdlfpbbhjhaaDoor
