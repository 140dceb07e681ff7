/- Small laws of what an operator is. -/
import Derived.Test.YtbbepiechehojaaZa
import Derived.Test.YtbbepiechehojaaPAx19
namespace Go.Proofs.Ytbbepiechehojaa.Pure
open Go.RowKit Go.Proofs.YtbbepiechehojaaX Go.Proofs.Ytbbepiechehojaa.PA Go.Proofs.YtbbepiechehojaaW.PrintWords Go.Proofs.YtbbepiechehojaaW.PrintLast Go.Proofs.YtbbepiechehojaaW.PrintMore
set_option linter.unusedVariables false
set_option linter.unusedSimpArgs false


/-! ### One number -/
theorem isOp_eq (op : Int) : arith_isOp.f op = some (decide (1 ≤ op ∧ op ≤ 17)) := by
  unfold arith_isOp.f
  by_cases h : op ≥ 1
  · rw [if_pos h]; congr 1; rw [Bool.eq_iff_iff]; simp; intro; omega
  · rw [if_neg h]; congr 1; symm; exact decide_eq_false (by omega)
theorem binary_eq (op : Int) : arith_Binary.f op = some (decide (1 ≤ op ∧ op ≤ 14)) := by
  unfold arith_Binary.f
  by_cases h : op ≥ 1
  · rw [if_pos h]; congr 1; rw [Bool.eq_iff_iff]; simp; intro; omega
  · rw [if_neg h]; congr 1; symm; exact decide_eq_false (by omega)
theorem rbinary_eq (op : Int) : burinref09_Binary.f op = some (decide (1 ≤ op ∧ op ≤ 14)) := binary_eq op
theorem risOne_eq (op : Int) : burinref09_isOne.f op = some (decide (15 ≤ op ∧ op ≤ 17)) := by
  unfold burinref09_isOne.f
  by_cases h1 : op = 15
  · subst h1; rfl
  by_cases h2 : op = 16
  · subst h2; rfl
  rw [if_neg h1, if_neg h2]; congr 1
  rw [Bool.eq_iff_iff, beq_iff_eq, decide_eq_true_eq]; omega

end Go.Proofs.Ytbbepiechehojaa.Pure
