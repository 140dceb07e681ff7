import Derived.Test.YthfpdlfpbbhjhaaDoorA0
namespace Go.Proofs.YthfpdlfpbbhjhaaDoor.PA
open Go.RowKit Go.Proofs.YthfpdlfpbbhjhaaDoorX Go.Proofs.YthfpdlfpbbhjhaaDoorW.PrintWords Go.Proofs.YthfpdlfpbbhjhaaDoorW.PrintLast Go.Proofs.YthfpdlfpbbhjhaaDoorW.PrintMore
attribute [local go_sem] max2_int min2_int max_two min_two max_three min_three max_four min_four   -- for this text's walks alone
set_option linter.unusedVariables false
set_option linter.unusedSimpArgs false
def arith_isShift.f (a0 : Int) : Option (Bool) := if a0 = 6 then (some true) else (some (a0 == 7))
set_option maxHeartbeats 8000000 in
set_option maxRecDepth 100000 in
theorem arith_isShift.calls (a0 : Int) (r : Bool) (w : World) (h : arith_isShift.f a0 = some r) :
  Calls Tryd.prog 78 #[.int .i64 a0] w fun e w' => e = .returned (.bool r) ∧ Drawn0 w w' := by
 have H : (if a0 = 6 then (some true) else (some (a0 == 7))) = some r := h
 clear h
 by_cases c2 : a0 = 6
 ·rw [if_pos c2] at H
  have c2b0 : (a0 == 6) = true := beq_iff_eq.mpr c2
  have c2b1 : (a0 != 6) = false := bne_eq_false_iff_eq.mpr c2
  clear c2
  obtain rfl := Option.some.inj H
  go_enter Tryd.func78, Tryd.ntmps78
  go_wp2
  go_ret
  exact ⟨by first | rfl | (simp; done) | (simp [*]; done), by repeat (first | exact Drawn0.refl _ | apply Drawn0.step)⟩
 ·rw [if_neg c2] at H
  have c2b0 : (a0 == 6) = false := beq_eq_false_iff_ne.mpr c2
  have c2b1 : (a0 != 6) = true := bne_iff_ne.mpr c2
  obtain rfl := Option.some.inj H
  go_enter Tryd.func78, Tryd.ntmps78
  go_wp2
  go_ret
  exact ⟨by first | rfl | (simp; done) | (simp [*]; done), by repeat (first | exact Drawn0.refl _ | apply Drawn0.step)⟩
end Go.Proofs.YthfpdlfpbbhjhaaDoor.PA
