import Derived.Test.YthfpdlfpbbhjhaaDoorProg
import Derived.Laws.Externs
import Derived.WalkKit
import Derived.KernelRfl
namespace Go.Proofs.YthfpdlfpbbhjhaaDoorX
open Go.RowKit
def addLo (x y : Int) : Int := (((x.toNat + y.toNat) % 18446744073709551616 : Nat) : Int)
def addHi (x y : Int) : Int := (((x.toNat + y.toNat) / 18446744073709551616 : Nat) : Int)
theorem entry_run (x y : Int) (w : World) :
  (add64Entry #[.int .u64 x, .int .u64 y, .int .u64 0]).run Tryd.prog w = .ok (.tuple #[.int .u64 (addLo x y), .int .u64 (addHi x y)]) w := by
 have h : (add64Entry #[.int .u64 x, .int .u64 y, .int .u64 0]).run Tryd.prog w = .ok (Extern.MathBitsCarry.pair ((x.toNat + y.toNat + 0) % Extern.MathBitsCarry.m64) ((x.toNat + y.toNat + 0) / Extern.MathBitsCarry.m64)) w := rfl
 rw [h]
 simp only [Extern.MathBitsCarry.pair, Extern.MathBitsCarry.m64, Nat.add_zero, addLo, addHi]
 rfl
@[go_sem] theorem run_add64_0 (x y : Int) (w : World) :
  (callFunc 89 #[.int .u64 x, .int .u64 y, .int .u64 0]).run Tryd.prog w = .ok (.value (.tuple #[.int .u64 (addLo x y), .int .u64 (addHi x y)])) w := by
 rw [run_callFunc_extern (fn := Tryd.f89) (e := add64Entry) Tryd.func89 (by kernel_rfl) (by kernel_rfl) (by kernel_rfl) (by kernel_rfl), entry_run]
 rfl
@[go_sem] theorem run_field71_0 (x y : Int) (w : World) : (Instr.field 143 (.agg #[.int .i64 x, .int .u64 y]) 0).run Tryd.prog w = .ok (.int .i64 x) w := by kernel_rfl
@[go_sem] theorem run_field71_1 (x y : Int) (w : World) : (Instr.field 143 (.agg #[.int .i64 x, .int .u64 y]) 1).run Tryd.prog w = .ok (.int .u64 y) w := by kernel_rfl
end Go.Proofs.YthfpdlfpbbhjhaaDoorX
