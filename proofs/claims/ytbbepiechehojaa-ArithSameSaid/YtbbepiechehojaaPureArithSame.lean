/- ArithSame: where the result of two numbers is defined it is what going round makes of both: for every operator, two numbers, two kinds. No condition. -/
import Derived.Test.YtbbepiechehojaaZf
import Derived.Test.YtbbepiechehojaaPAx25
namespace Go.Proofs.Ytbbepiechehojaa.Pure
open Go.RowKit Go.Proofs.YtbbepiechehojaaX Go.Proofs.Ytbbepiechehojaa.PA Go.Proofs.YtbbepiechehojaaW.PrintWords Go.Proofs.YtbbepiechehojaaW.PrintLast Go.Proofs.YtbbepiechehojaaW.PrintMore
set_option linter.unusedVariables false
set_option linter.unusedSimpArgs false

theorem ArithSame : burinlaw09_ArithSame.Pure := by
  intro op a ak b bk w0 w1 w2 w3 w4
  have ha := wf_i64 w1
  have hb := wf_i64 w3
  refine ⟨16, ?_⟩
  unfold burinlaw09_ArithSame.f
  rw [shown_eq 8, two_eq 8 op a ak b bk ha.1 ha.2 hb.1 hb.2]
  simp only [Option.bind_some]
  by_cases h0 : (two op a ak b bk).2.2 = 0
  · rw [if_pos h0]
    have ho : 1 ≤ op ∧ op ≤ 14 := by
      by_cases h : 1 ≤ op ∧ op ≤ 14
      · exact h
      · unfold two at h0; rw [if_neg h] at h0; exact absurd h0 (by decide)
    have hl : lies a ak = true ∧ lies b bk = true := by
      by_cases h : lies a ak = true ∧ lies b bk = true
      · exact h
      · unfold two at h0; rw [if_pos ho, if_neg h] at h0; exact absurd h0 (by decide)
    obtain ⟨hka, hca⟩ := lies_isK hl.1
    obtain ⟨hkb, hcb⟩ := lies_isK hl.2
    obtain ⟨hk, h5⟩ := inK_isK op hka hkb
    have hsh : burinlaw09_isShift.f op = some (decide (op = 6 ∨ op = 7)) := by
      have : burinlaw09_isShift.f op = arith_isShift.f op := rfl
      rw [this, isShift_eq]
    rw [usual_eq hka hkb, hsh]
    simp only [Option.bind_some]
    -- both ways come to one state
    have hj : burinlaw09_ArithSame.j0 16 op a ak b bk true (two op a ak b bk).1 (two op a ak b bk).2.1 (inK op ak bk) 0 = some true := by
      simp only [burinlaw09_ArithSame.j0]
      rw [to_yes hk a ha.1 ha.2, to_yes hk b hb.1 hb.2]
      simp only [Option.bind_some]
      have ca := conv_range (inK op ak bk) a
      have cb := conv_range (inK op ak bk) b
      rw [wrap_eq 7 op (inK op ak bk) _ _ ca.1 ca.2 cb.1 cb.2, result_eq ho hka hkb]
      simp only [Option.bind_some, if_true]
      have l2 : lies (conv (inK op ak bk) a) (inK op ak bk) = true ∧ lies (conv (inK op ak bk) b) (inK op ak bk) = true := ⟨lies_conv hk a, lies_conv hk b⟩
      have h17 : 1 ≤ op ∧ op ≤ 17 := by omega
      have n17 : ¬ op = 17 := by omega
      have hw : wrapS op (inK op ak bk) (conv (inK op ak bk) a) (conv (inK op ak bk) b) = ((two op a ak b bk).1, 0) ∧ (two op a ak b bk).2.1 = (if 11 ≤ op then 5 else inK op ak bk) ∧ lies (two op a ak b bk).1 (two op a ak b bk).2.1 = true := by
        have hwS : wrapS op (inK op ak bk) (conv (inK op ak bk) a) (conv (inK op ak bk) b) = if 11 ≤ op ∧ op ≤ 14 then (truth (cmp op (tv (inK op ak bk) (conv (inK op ak bk) a)) (tv (inK op ak bk) (conv (inK op ak bk) b))), 0)
            else if op = 6 then (conv (inK op ak bk) (tv (inK op ak bk) (conv (inK op ak bk) a) * 2 ^ ((conv (inK op ak bk) b % 18446744073709551616) % wd (inK op ak bk)).toNat), 0)
            else if op = 7 then (conv (inK op ak bk) (tv (inK op ak bk) (conv (inK op ak bk) a) / 2 ^ ((conv (inK op ak bk) b % 18446744073709551616) % wd (inK op ak bk)).toNat), 0)
            else (conv (inK op ak bk) (res op (inK op ak bk) (tv (inK op ak bk) (conv (inK op ak bk) a)) (tv (inK op ak bk) (conv (inK op ak bk) b))), 0) := by
          unfold wrapS
          rw [if_pos h17, if_pos l2, if_neg n17]
        rw [hwS]
        have key : ∀ r k, fin k r = two op a ak b bk → isK k → two op a ak b bk = (conv k r, k, 0) ∧ lies (conv k r) k = true := by
          intro r k e hk
          rcases fin_cases k r with h | h
          · exact ⟨by rw [← e, h], lies_conv hk r⟩
          · rw [← e, h] at h0; exact absurd h0 (by decide)
        by_cases hs : op = 6 ∨ op = 7
        · have hik : inK op ak bk = prom ak := by unfold inK; rw [if_pos hs]
          have ht : two op a ak b bk = twoS op (prom ak) (tv (prom ak) (conv (prom ak) a)) b := by
            unfold two; rw [if_pos ho, if_pos hl, if_pos hs]
          rw [hik] at hk h5 ⊢
          have n11 : ¬ (11 ≤ op ∧ op ≤ 14) := by omega
          have n11' : ¬ 11 ≤ op := by omega
          rw [if_neg n11, if_neg n11']
          have hw := wd_range hk
          by_cases hb0 : b < 0 ∨ wd (prom ak) ≤ b
          · have : twoS op (prom ak) (tv (prom ak) (conv (prom ak) a)) b = (0, 0, 90) := by unfold twoS; rw [if_pos hb0]
            rw [ht, this] at h0; exact absurd h0 (by decide)
          · have hcb2 : conv (prom ak) b = b := by
              have h1 : 0 ≤ b ∧ b < 64 := by omega
              rcases isK_cases hk with h | h | h | h | h | h | h | h <;> rw [h] <;> simp [conv] <;> omega
            have hn : (conv (prom ak) b % 18446744073709551616) % wd (prom ak) = b := by
              rw [hcb2]
              have h1 : 0 ≤ b ∧ b < wd (prom ak) := by omega
              have h2 : b % 18446744073709551616 = b := by omega
              rw [h2]; exact Int.emod_eq_of_lt h1.1 h1.2
            rw [hn]
            rcases hs with rfl | rfl
            · rw [if_pos rfl]
              by_cases hx0 : tv (prom ak) (conv (prom ak) a) < 0
              · have : twoS 6 (prom ak) (tv (prom ak) (conv (prom ak) a)) b = (0, 0, 90) := by unfold twoS; rw [if_neg hb0, if_pos rfl, if_pos hx0]
                rw [ht, this] at h0; exact absurd h0 (by decide)
              · have e : fin (prom ak) (tv (prom ak) (conv (prom ak) a) * 2 ^ b.toNat) = two 6 a ak b bk := by
                  rw [ht]; unfold twoS; rw [if_neg hb0, if_pos rfl, if_neg hx0]
                obtain ⟨h1, h2⟩ := key _ _ e hk
                rw [h1]; exact ⟨rfl, rfl, h2⟩
            · rw [if_neg (by decide), if_pos rfl]
              have e : fin (prom ak) (tv (prom ak) (conv (prom ak) a) / 2 ^ b.toNat) = two 7 a ak b bk := by
                rw [ht]; unfold twoS; rw [if_neg hb0, if_neg (by decide)]
              obtain ⟨h1, h2⟩ := key _ _ e hk
              rw [h1]; exact ⟨rfl, rfl, h2⟩
        · have n6 : ¬ op = 6 := by omega
          have n7 : ¬ op = 7 := by omega
          have ht : two op a ak b bk = two2 op (inK op ak bk) (tv (inK op ak bk) (conv (inK op ak bk) a)) (tv (inK op ak bk) (conv (inK op ak bk) b)) := by
            unfold two; rw [if_pos ho, if_pos hl, if_neg hs]
          generalize tv (inK op ak bk) (conv (inK op ak bk) a) = x at ht ⊢
          generalize tv (inK op ak bk) (conv (inK op ak bk) b) = y at ht ⊢
          by_cases h11 : 11 ≤ op
          · have h11' : 11 ≤ op ∧ op ≤ 14 := ⟨h11, ho.2⟩
            have e : two op a ak b bk = (truth (cmp op x y), 5, 0) := by
              rw [ht]; unfold two2
              have h1 : ¬ op = 1 := by omega
              have h2 : ¬ op = 2 := by omega
              have h3 : ¬ op = 3 := by omega
              have h4 : ¬ (op = 4 ∨ op = 5) := by omega
              have h8 : ¬ (8 ≤ op ∧ op ≤ 10) := by omega
              rw [if_neg h1, if_neg h2, if_neg h3, if_neg h4, if_neg h8]
            rw [if_pos h11', if_pos h11, e]
            exact ⟨rfl, rfl, lies_truth _⟩
          · have n11 : ¬ (11 ≤ op ∧ op ≤ 14) := fun h => h11 h.1
            rw [if_neg n11, if_neg n6, if_neg n7, if_neg h11]
            have e : fin (inK op ak bk) (res op (inK op ak bk) x y) = two op a ak b bk := by
              rw [ht]
              rw [ht] at h0
              unfold two2 at h0 ⊢
              unfold res
              by_cases h1 : op = 1
              · rw [if_pos h1, if_pos h1]
              rw [if_neg h1] at h0; rw [if_neg h1, if_neg h1]
              by_cases h2 : op = 2
              · rw [if_pos h2, if_pos h2]
              rw [if_neg h2] at h0; rw [if_neg h2, if_neg h2]
              by_cases h3 : op = 3
              · rw [if_pos h3, if_pos h3]
              rw [if_neg h3] at h0; rw [if_neg h3, if_neg h3]
              by_cases hd : op = 4 ∨ op = 5
              · rw [if_pos hd] at h0; rw [if_pos hd]
                by_cases hy0 : y = 0
                · rw [if_pos hy0] at h0; exact absurd h0 (by decide)
                rw [if_neg hy0] at h0; rw [if_neg hy0]
                by_cases hq : tv (inK op ak bk) (conv (inK op ak bk) (Int.tdiv x y)) = Int.tdiv x y
                · rw [if_pos hq]
                  rcases hd with rfl | rfl
                  · rw [if_pos rfl, if_neg hy0, if_pos rfl]
                  · simp only [Int.reduceEq, if_false, if_true, if_neg hy0]
                · rw [if_neg hq] at h0; exact absurd h0 (by decide)
              · rw [if_neg hd]
                have h4 : ¬ op = 4 := by omega
                have h5' : ¬ op = 5 := by omega
                have h8 : 8 ≤ op ∧ op ≤ 10 := by omega
                have h15 : ¬ op = 15 := by omega
                have h16 : ¬ op = 16 := by omega
                rw [if_neg h4, if_neg h5', if_neg h15, if_neg h16, if_pos h8]
            obtain ⟨h1, h2⟩ := key _ _ e hk
            rw [h1]; exact ⟨rfl, rfl, h2⟩
      obtain ⟨h1, h2, h3⟩ := hw
      rw [h1]
      simp only [if_true]
      rw [← h2]
      simp only [if_true]
      have hv : -9223372036854775808 ≤ (two op a ak b bk).1 ∧ (two op a ak b bk).1 ≤ 9223372036854775807 := by
        have := (lies_isK h3).2
        rw [← this]; exact conv_range _ _
      rw [lies_eq _ _ hv.1 hv.2, h3]; rfl
    by_cases hs : op = 6 ∨ op = 7
    · rw [if_pos (decide_eq_true hs), promoted_eq hka]
      simp only [Option.bind_some]
      have : inK op ak bk = prom ak := by unfold inK; rw [if_pos hs]
      rw [this] at hj; exact hj
    · rw [if_neg (by simp only [decide_eq_true_eq]; exact hs)]
      have : inK op ak bk = mx (prom ak) (prom bk) := by unfold inK; rw [if_neg hs]
      rw [this] at hj; exact hj
  · rw [if_neg h0]
    obtain ⟨h1, h2⟩ := (two_cases op a ak b bk).resolve_left h0
    rw [h1, h2]; rfl

end Go.Proofs.Ytbbepiechehojaa.Pure
