/- What a call of math/bits.Add64 with carry 0 comes to (the model stands in for it), and small laws that the printed walks use. -/
import Derived.Test.YtbbepiechehojaaDoorProg
import Derived.Laws.Externs
import Derived.WalkKit
import Derived.KernelRfl
namespace Go.Proofs.YtbbepiechehojaaDoorX
open Go.RowKit

/-- The low word of a sum of two words. -/
def addLo (x y : Int) : Int := (((x.toNat + y.toNat) % 18446744073709551616 : Nat) : Int)
/-- Its carry. -/
def addHi (x y : Int) : Int := (((x.toNat + y.toNat) / 18446744073709551616 : Nat) : Int)

theorem entry_run (x y : Int) (w : World) :
    (add64Entry #[.int .u64 x, .int .u64 y, .int .u64 0]).run Tryd.prog w = .ok (.tuple #[.int .u64 (addLo x y), .int .u64 (addHi x y)]) w := by
  have h : (add64Entry #[.int .u64 x, .int .u64 y, .int .u64 0]).run Tryd.prog w = .ok (Extern.MathBitsCarry.pair ((x.toNat + y.toNat + 0) % Extern.MathBitsCarry.m64) ((x.toNat + y.toNat + 0) / Extern.MathBitsCarry.m64)) w := rfl
  rw [h]
  simp only [Extern.MathBitsCarry.pair, Extern.MathBitsCarry.m64, Nat.add_zero, addLo, addHi]
  rfl
@[go_sem] theorem run_add64_0 (x y : Int) (w : World) :
    (callFunc 42 #[.int .u64 x, .int .u64 y, .int .u64 0]).run Tryd.prog w = .ok (.value (.tuple #[.int .u64 (addLo x y), .int .u64 (addHi x y)])) w := by
  rw [run_callFunc_extern (fn := Tryd.f42) (e := add64Entry) Tryd.func42 (by kernel_rfl) (by kernel_rfl) (by kernel_rfl) (by kernel_rfl), entry_run]
  rfl
/-- A field of a pair of words, taken by value. -/
@[go_sem] theorem run_field37_0 (x y : Int) (w : World) : (Instr.field 37 (.agg #[.int .i64 x, .int .u64 y]) 0).run Tryd.prog w = .ok (.int .i64 x) w := by kernel_rfl
@[go_sem] theorem run_field37_1 (x y : Int) (w : World) : (Instr.field 37 (.agg #[.int .i64 x, .int .u64 y]) 1).run Tryd.prog w = .ok (.int .u64 y) w := by kernel_rfl
end Go.Proofs.YtbbepiechehojaaDoorX
