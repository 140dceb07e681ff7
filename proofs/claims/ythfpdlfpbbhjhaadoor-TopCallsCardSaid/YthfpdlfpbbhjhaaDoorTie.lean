/-
  DERIVED. GIVEN WITH THE SEED: THE PROGRAM's TIES (one call each: nine closed facts by the kernel) AND EACH ROW's TIE, after the 31st guide's Derived/Test/Toyas{Tie, Card}.lean. No idea stands in it: it is a product of the set-up. Laid BY PROGRAM, IN A SANDBOX (cutbox-door.mjs). By AI agents, Wed Nov 11 2026. No macro, syntax, notation, axiom, sorry.
-/
import Derived.Test.YthfpdlfpbbhjhaaDoorRows
import Derived.LaidByTextLater
import Derived.SevenTiedAt
import Derived.LaidSub
import Derived.LaidOnce
namespace Go.Proofs.YthfpdlfpbbhjhaaDoor
open Go
set_option maxRecDepth 100000
theorem seatTie1 : Tryd.prog.laidByTextLater [("burin/kind.names", Rows.laid_burin_kind_names), ("burin/mach.given", Rows.laid_burin_mach_given), ("burin/mach.kept", Rows.laid_burin_mach_kept), ("burin/mach.lost", Rows.laid_burin_mach_lost)] [.data, .data, .data, .data] true :=
  Program.laidByTextLater_by_one 29 8 10 (by kernel_rfl) (by kernel_rfl) (by kernel_rfl) (by kernel_rfl) (by kernel_rfl) (by kernel_rfl) (fun _ _ => by kernel_rfl)
theorem noOwnUnsafe : Tryd.pinned.checked.prog.headLifts.contains "ownunsafe" = false := by kernel_rfl
theorem tie : Tryd.prog.laidByTextLater [("burin/kind.names", Rows.laid_burin_kind_names), ("burin/mach.given", Rows.laid_burin_mach_given), ("burin/mach.kept", Rows.laid_burin_mach_kept), ("burin/mach.lost", Rows.laid_burin_mach_lost)] [.data, .data, .data, .data] true :=
  Program.laidByTextLater.sub seatTie1 ["burin/kind.names", "burin/mach.given", "burin/mach.kept", "burin/mach.lost"] (by kernel_rfl) (by kernel_rfl)
theorem topCalls_row_tie : Rows.topCallsRow.laidByTextAt .later Tryd.pinned [.data, .data, .data, .data] true :=
  OpenClaim.laidByTextAt_later rfl rfl tie noOwnUnsafe
theorem topCallsUpto_row_tie : Rows.topCallsUptoRow.laidByTextAt .later Tryd.pinned [.data, .data, .data, .data] true :=
  OpenClaim.laidByTextAt_later rfl rfl tie noOwnUnsafe
end Go.Proofs.YthfpdlfpbbhjhaaDoor
