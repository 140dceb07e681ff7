/- What is defined is what going round makes: small laws. -/
import Derived.Test.YtbbepiechehojaaZg
import Derived.Test.YtbbepiechehojaaPAx24
namespace Go.Proofs.Ytbbepiechehojaa.Pure
open Go.RowKit Go.Proofs.YtbbepiechehojaaX Go.Proofs.Ytbbepiechehojaa.PA Go.Proofs.YtbbepiechehojaaW.PrintWords Go.Proofs.YtbbepiechehojaaW.PrintLast Go.Proofs.YtbbepiechehojaaW.PrintMore
set_option linter.unusedVariables false
set_option linter.unusedSimpArgs false


/-! ### What is defined is what going round makes -/
theorem fin_cases (k r : Int) : fin k r = (conv k r, k, 0) ∨ fin k r = (0, 0, 90) := by unfold fin; split <;> simp
theorem two_cases (op a ak b bk : Int) : (two op a ak b bk).2.2 = 0 ∨ ((two op a ak b bk).1 = 0 ∧ (two op a ak b bk).2.1 = 0) := by
  have hf : ∀ k r, (fin k r).2.2 = 0 ∨ ((fin k r).1 = 0 ∧ (fin k r).2.1 = 0) := fun k r => by
    rcases fin_cases k r with h | h <;> rw [h] <;> simp
  unfold two twoS two2
  repeat' split
  all_goals first | exact hf _ _ | simp
theorem result_eq {op a b : Int} (ho : 1 ≤ op ∧ op ≤ 14) (h : isK a) (h' : isK b) : arith_Result.f op a b = some (if 11 ≤ op then 5 else inK op a b, 0) := by
  unfold arith_Result.f
  rw [isOp_eq, in_eq ho h h', isTruth_eq ho.2]
  have : 1 ≤ op ∧ op ≤ 17 := by omega
  rw [decide_eq_true this]
  simp only [Option.bind_some, if_true]
  by_cases h11 : 11 ≤ op
  · rw [if_pos (decide_eq_true h11), if_pos h11]
  · rw [if_neg (by simp only [decide_eq_true_eq]; exact h11), if_neg h11]
theorem lies_truth (b : Bool) : lies (truth b) 5 = true := by cases b <;> decide +kernel
end Go.Proofs.Ytbbepiechehojaa.Pure
