/- ArithDivides: a quotient times the divisor, and the remainder, are the dividend: for every two numbers and kinds. No condition. -/
import Derived.Test.YtbbepiechehojaaZc
import Derived.Test.YtbbepiechehojaaPAx19
namespace Go.Proofs.Ytbbepiechehojaa.Pure
open Go.RowKit Go.Proofs.YtbbepiechehojaaX Go.Proofs.Ytbbepiechehojaa.PA Go.Proofs.YtbbepiechehojaaW.PrintWords Go.Proofs.YtbbepiechehojaaW.PrintLast Go.Proofs.YtbbepiechehojaaW.PrintMore
set_option linter.unusedVariables false
set_option linter.unusedSimpArgs false

theorem ArithDivides : burinlaw09_ArithDivides.Pure := by
  intro a ak b bk w1 w2 w3 w4
  have ha := wf_i64 w1
  have hb := wf_i64 w3
  refine ⟨16, ?_⟩
  unfold burinlaw09_ArithDivides.f
  rw [shown_eq 8, two_eq 8 4 a ak b bk ha.1 ha.2 hb.1 hb.2, two_eq 8 5 a ak b bk ha.1 ha.2 hb.1 hb.2]
  simp only [Option.bind_some]
  have e45 : ∀ op, op = 4 ∨ op = 5 → two op a ak b bk = if lies a ak = true ∧ lies b bk = true then two2 op (mx (prom ak) (prom bk)) (tv (mx (prom ak) (prom bk)) (conv (mx (prom ak) (prom bk)) a)) (tv (mx (prom ak) (prom bk)) (conv (mx (prom ak) (prom bk)) b)) else (0, 0, 80) := by
    intro op ho
    have h1 : 1 ≤ op ∧ op ≤ 14 := by omega
    have h2 : ¬ (op = 6 ∨ op = 7) := by omega
    unfold two inK
    rw [if_pos h1, if_neg h2, if_neg h2]
  have e2 : ∀ op k x y, op = 4 ∨ op = 5 → two2 op k x y = if y = 0 then (0, 0, 90) else if tv k (conv k (Int.tdiv x y)) = Int.tdiv x y then fin k (if op = 4 then Int.tdiv x y else Int.tmod x y) else (0, 0, 90) := by
    intro op k x y ho
    have h1 : ¬ op = 1 := by omega
    have h2 : ¬ op = 2 := by omega
    have h3 : ¬ op = 3 := by omega
    unfold two2
    rw [if_neg h1, if_neg h2, if_neg h3, if_pos ho]
  rw [e45 4 (.inl rfl), e45 5 (.inr rfl)]
  by_cases hl : lies a ak = true ∧ lies b bk = true
  · obtain ⟨hka, hca⟩ := lies_isK hl.1
    obtain ⟨hkb, hcb⟩ := lies_isK hl.2
    rw [if_pos hl, if_pos hl]
    have hK := mx_isK (prom_isK hka) (prom_isK hkb)
    have hge : prom bk ≤ mx (prom ak) (prom bk) := by unfold mx; split <;> omega
    generalize hk : mx (prom ak) (prom bk) = k at hK hge
    obtain ⟨hK, h5⟩ := hK
    have hxr := inR_tv hK h5 a
    have hcx : conv k (tv k (conv k a)) = conv k a := by rw [conv_congr k (tv_congr k (conv k a)), conv_conv hK]
    generalize hx : tv k (conv k a) = x at hxr hcx
    generalize hy : tv k (conv k b) = y
    rw [e2 4 k x y (.inl rfl), e2 5 k x y (.inr rfl)]
    by_cases hy0 : y = 0
    · rw [if_pos hy0, if_pos hy0]; simp
    rw [if_neg hy0, if_neg hy0]
    by_cases hq : tv k (conv k (Int.tdiv x y)) = Int.tdiv x y
    · obtain ⟨hm, hd⟩ := tmod_between x y hy0
      have hmr := inR_between hK h5 hxr hm
      have hdr := inR_between hK h5 hxr hd
      have hsum := Int.tdiv_mul_add_tmod x y
      rw [if_pos hq, if_pos hq, if_pos rfl, if_neg (show ¬ (5 : Int) = 4 by decide), fin_in hq, fin_in hmr]
      generalize Int.tdiv x y = q at hq hdr hsum
      generalize Int.tmod x y = r at hmr hsum
      simp only [if_true]
      have c1 := conv_range k q
      have c2 := conv_range k (q * y)
      have c3 := conv_range k r
      rw [two_eq 8 3 (conv k q) k b bk c1.1 c1.2 hb.1 hb.2]
      have h3 : two 3 (conv k q) k b bk = (conv k (q * y), k, 0) := by
        unfold two inK
        have hmk : mx (prom k) (prom bk) = k := by rw [prom_K h5]; unfold mx; rw [if_neg (by omega)]
        rw [if_pos (by decide), if_pos ⟨lies_conv hK q, hl.2⟩, if_neg (by decide), if_neg (by decide), hmk, conv_conv hK, hq, hy]
        exact fin_in hdr
      rw [h3]
      simp only [Option.bind_some]
      rw [two_eq 8 1 (conv k (q * y)) k (conv k r) k c2.1 c2.2 c3.1 c3.2]
      have h4 : two 1 (conv k (q * y)) k (conv k r) k = (conv k x, k, 0) := by
        unfold two inK
        have hmk : mx (prom k) (prom k) = k := by rw [prom_K h5]; unfold mx; rw [if_neg (by omega)]
        rw [if_pos (by decide), if_pos ⟨lies_conv hK _, lies_conv hK _⟩, if_neg (by decide), if_neg (by decide), hmk, conv_conv hK, conv_conv hK, show tv k (conv k (q * y)) = q * y from hdr, show tv k (conv k r) = r from hmr]
        unfold two2
        rw [if_pos rfl, hsum]
        exact fin_in hxr
      rw [h4]
      simp only [Option.bind_some]
      rw [to_yes hK a ha.1 ha.2, hcx]
      simp
    · rw [if_neg hq, if_neg hq]; simp
  · rw [if_neg hl, if_neg hl]; simp

end Go.Proofs.Ytbbepiechehojaa.Pure
