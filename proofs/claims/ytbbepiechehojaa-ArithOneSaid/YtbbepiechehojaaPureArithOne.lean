/- ArithOne: for every operator, number and kind the program's One and the reference's tell the same. No condition. -/
import Derived.Test.YtbbepiechehojaaZd
import Derived.Test.YtbbepiechehojaaPAx21
namespace Go.Proofs.Ytbbepiechehojaa.Pure
open Go.RowKit Go.Proofs.YtbbepiechehojaaX Go.Proofs.Ytbbepiechehojaa.PA Go.Proofs.YtbbepiechehojaaW.PrintWords Go.Proofs.YtbbepiechehojaaW.PrintLast Go.Proofs.YtbbepiechehojaaW.PrintMore
set_option linter.unusedVariables false
set_option linter.unusedSimpArgs false

theorem ArithOne : burinlaw09_ArithOne.Pure := by
  intro op a ak w0 w1 w2
  have ha := wf_i64 w1
  refine ⟨8, ?_⟩
  unfold burinlaw09_ArithOne.f
  rw [shown_eq 0, one_eq 0 op a ak ha.1 ha.2, rone_eq 0 op a ak ha.1 ha.2]
  simp

end Go.Proofs.Ytbbepiechehojaa.Pure
