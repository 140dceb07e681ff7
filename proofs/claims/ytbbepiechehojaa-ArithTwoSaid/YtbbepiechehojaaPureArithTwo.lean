/- ArithTwo: for every operator, two numbers and two kinds the program's Two and the reference's tell the same (value, kind, error). No condition. -/
import Derived.Test.YtbbepiechehojaaZb
import Derived.Test.YtbbepiechehojaaPAx17
namespace Go.Proofs.Ytbbepiechehojaa.Pure
open Go.RowKit Go.Proofs.YtbbepiechehojaaX Go.Proofs.Ytbbepiechehojaa.PA Go.Proofs.YtbbepiechehojaaW.PrintWords Go.Proofs.YtbbepiechehojaaW.PrintLast Go.Proofs.YtbbepiechehojaaW.PrintMore

theorem ArithTwo : burinlaw09_ArithTwo.Pure := by
  intro op a ak b bk w0 w1 w2 w3 w4
  have ha := wf_i64 w1
  have hb := wf_i64 w3
  refine ⟨8, ?_⟩
  unfold burinlaw09_ArithTwo.f
  rw [shown_eq 0, two_eq 0 op a ak b bk ha.1 ha.2 hb.1 hb.2, rtwo_eq 0 op a ak b bk ha.1 ha.2 hb.1 hb.2]
  simp
end Go.Proofs.Ytbbepiechehojaa.Pure
