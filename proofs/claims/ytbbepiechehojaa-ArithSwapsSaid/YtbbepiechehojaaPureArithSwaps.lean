/- ArithSwaps: sums, products and bits of two numbers do not hang on their order, and what is less turns round: for every operator, two numbers, two kinds. No condition. -/
import Derived.Test.YtbbepiechehojaaZc
import Derived.Test.YtbbepiechehojaaPAx18
namespace Go.Proofs.Ytbbepiechehojaa.Pure
open Go.RowKit Go.Proofs.YtbbepiechehojaaX Go.Proofs.Ytbbepiechehojaa.PA Go.Proofs.YtbbepiechehojaaW.PrintWords Go.Proofs.YtbbepiechehojaaW.PrintLast Go.Proofs.YtbbepiechehojaaW.PrintMore
set_option linter.unusedVariables false
set_option linter.unusedSimpArgs false

theorem ArithSwaps : burinlaw09_ArithSwaps.Pure := by
  intro op a ak b bk w0 w1 w2 w3 w4
  have ha := wf_i64 w1
  have hb := wf_i64 w3
  refine ⟨16, ?_⟩
  unfold burinlaw09_ArithSwaps.f
  rw [shown_eq 8]
  simp only [Option.bind_some]
  by_cases hs : op = 2 ∨ op = 4 ∨ op = 5 ∨ op = 6 ∨ op = 7
  · have hj : burinlaw09_ArithSwaps.j0 16 op a ak b bk true true = some true := by simp only [burinlaw09_ArithSwaps.j0, if_true]
    rcases hs with rfl | rfl | rfl | rfl | rfl
    · rw [if_pos rfl]; exact hj
    · rw [if_neg (by decide), if_pos rfl]; exact hj
    · rw [if_neg (by decide), if_neg (by decide), if_pos rfl]; exact hj
    · rw [if_neg (by decide), if_neg (by decide), if_neg (by decide)]; exact hj
    · rw [if_neg (by decide), if_neg (by decide), if_neg (by decide)]; exact hj
  · have h7 : burinlaw09_isShift.f op = some false := by
      unfold burinlaw09_isShift.f
      rw [if_neg (by omega)]
      have : (op == 7) = false := beq_eq_false_iff_ne.mpr (by omega)
      rw [this]
    rw [if_neg (by omega), if_neg (by omega), if_neg (by omega), h7]
    simp only [Option.bind_some, burinlaw09_ArithSwaps.j0]
    rw [if_neg (by decide), two_eq 7 op a ak b bk ha.1 ha.2 hb.1 hb.2, two_eq 7 op b bk a ak hb.1 hb.2 ha.1 ha.2]
    simp only [Option.bind_some]
    by_cases hc : op = 11 ∨ op = 12
    · rw [two_cmp a ak b bk hc, two_cmp b bk a ak hc, mx_comm (prom bk) (prom ak)]
      generalize hx : tv (mx (prom ak) (prom bk)) (conv (mx (prom ak) (prom bk)) a) = x
      generalize hy : tv (mx (prom ak) (prom bk)) (conv (mx (prom ak) (prom bk)) b) = y
      by_cases hl : lies a ak = true ∧ lies b bk = true
      · have hl' : lies b bk = true ∧ lies a ak = true := ⟨hl.2, hl.1⟩
        rw [if_pos hl, if_pos hl', if_pos rfl]
        rcases hc with rfl | rfl
        · have e : two 12 b bk a ak = (truth (cmp 12 y x), 5, 0) := by rw [two_cmp b bk a ak (.inr rfl), if_pos hl', mx_comm (prom bk) (prom ak), hx, hy]
          simp only [burinlaw09_ArithSwaps.j1]
          rw [if_pos (show ((11 : Int) == 11) = true from rfl), two_eq 6 12 b bk a ak hb.1 hb.2 ha.1 ha.2, e]
          simp only [Option.bind_some, if_true]
          rw [(turns x y).1, beq_self_eq_true]
        · have e : two 11 b bk a ak = (truth (cmp 11 y x), 5, 0) := by rw [two_cmp b bk a ak (.inl rfl), if_pos hl', mx_comm (prom bk) (prom ak), hx, hy]
          simp only [burinlaw09_ArithSwaps.j1]
          rw [if_neg (show ¬ ((12 : Int) == 11) = true by decide), two_eq 6 11 b bk a ak hb.1 hb.2 ha.1 ha.2, e]
          simp only [Option.bind_some, if_true]
          rw [(turns x y).2, beq_self_eq_true]
      · have hl' : ¬ (lies b bk = true ∧ lies a ak = true) := fun z => hl ⟨z.2, z.1⟩
        rw [if_neg hl, if_neg hl', if_neg (by decide)]
        simp only [burinlaw09_ArithSwaps.j1]
        rw [if_neg (by decide), if_neg (by decide)]
        simp
    · have e := two_comm a ak b bk (op := op) (by omega)
      rw [← e]
      have h11 : (op == 11) = false := beq_eq_false_iff_ne.mpr (by omega)
      have h12 : ¬ op = 12 := by omega
      rw [h11]
      split
      · simp only [burinlaw09_ArithSwaps.j1]
        rw [if_neg (by decide)]
        rename_i hz
        rw [if_pos hz, if_neg h12]
        simp
      · simp only [burinlaw09_ArithSwaps.j1]
        rename_i hz
        rw [if_neg (by decide), if_neg hz]
        simp

end Go.Proofs.Ytbbepiechehojaa.Pure
