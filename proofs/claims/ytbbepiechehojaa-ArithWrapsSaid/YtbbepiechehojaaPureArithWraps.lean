/- ArithWraps: for every operator, kind and two numbers the program's Wrap and the reference's tell the same. No condition. -/
import Derived.Test.YtbbepiechehojaaZe
import Derived.Test.YtbbepiechehojaaPAx24
namespace Go.Proofs.Ytbbepiechehojaa.Pure
open Go.RowKit Go.Proofs.YtbbepiechehojaaX Go.Proofs.Ytbbepiechehojaa.PA Go.Proofs.YtbbepiechehojaaW.PrintWords Go.Proofs.YtbbepiechehojaaW.PrintLast Go.Proofs.YtbbepiechehojaaW.PrintMore
set_option linter.unusedVariables false
set_option linter.unusedSimpArgs false

theorem ArithWraps : burinlaw09_ArithWraps.Pure := by
  intro op k a b w0 w1 w2 w3
  have ha := wf_i64 w2
  have hb := wf_i64 w3
  refine ⟨10, ?_⟩
  unfold burinlaw09_ArithWraps.f
  rw [shown_eq 2, wrap_eq 2 op k a b ha.1 ha.2 hb.1 hb.2, rwrap_eq 0 op k a b ha.1 ha.2 hb.1 hb.2]
  simp

end Go.Proofs.Ytbbepiechehojaa.Pure
