/- Plain laws of operators of one number, the program's and the reference's. -/
import Derived.Test.YtbbepiechehojaaZb
import Derived.Test.YtbbepiechehojaaZc
import Derived.Test.YtbbepiechehojaaPAx20
namespace Go.Proofs.Ytbbepiechehojaa.Pure
open Go.RowKit Go.Proofs.YtbbepiechehojaaX Go.Proofs.Ytbbepiechehojaa.PA Go.Proofs.YtbbepiechehojaaW.PrintWords Go.Proofs.YtbbepiechehojaaW.PrintLast Go.Proofs.YtbbepiechehojaaW.PrintMore
set_option linter.unusedVariables false
set_option linter.unusedSimpArgs false


/-! ### One number -/
theorem isOp_eq (op : Int) : arith_isOp.f op = some (decide (1 ≤ op ∧ op ≤ 17)) := by
  unfold arith_isOp.f
  by_cases h : op ≥ 1
  · rw [if_pos h]; congr 1; rw [Bool.eq_iff_iff]; simp; intro; omega
  · rw [if_neg h]; congr 1; symm; exact decide_eq_false (by omega)
theorem binary_eq (op : Int) : arith_Binary.f op = some (decide (1 ≤ op ∧ op ≤ 14)) := by
  unfold arith_Binary.f
  by_cases h : op ≥ 1
  · rw [if_pos h]; congr 1; rw [Bool.eq_iff_iff]; simp; intro; omega
  · rw [if_neg h]; congr 1; symm; exact decide_eq_false (by omega)
theorem rbinary_eq (op : Int) : burinref09_Binary.f op = some (decide (1 ≤ op ∧ op ≤ 14)) := binary_eq op
theorem risOne_eq (op : Int) : burinref09_isOne.f op = some (decide (15 ≤ op ∧ op ≤ 17)) := by
  unfold burinref09_isOne.f
  by_cases h1 : op = 15
  · subst h1; rfl
  by_cases h2 : op = 16
  · subst h2; rfl
  rw [if_neg h1, if_neg h2]; congr 1
  rw [Bool.eq_iff_iff, beq_iff_eq, decide_eq_true_eq]; omega
theorem tv_prom {ak a : Int} (hk : isK ak) : tv (prom ak) a = tv ak a := by
  rcases isK_cases hk with rfl | rfl | rfl | rfl | rfl | rfl | rfl | rfl <;> simp [tv, prom]
def one (op a ak : Int) : Int × Int × Int :=
  if 15 ≤ op ∧ op ≤ 17 then
    if lies a ak = true then
      if op = 17 then (truth (a == 0), 5, 0)
      else if op = 16 then (conv (prom ak) (-1 - a), prom ak, 0) else fin (prom ak) (0 - tv (prom ak) a)
    else (0, 0, 80)
  else (0, 0, 2)
theorem in_one {op a : Int} (ho : 15 ≤ op) (h : isK a) : arith_in.f op a a = some (prom a, 0) := by
  unfold arith_in.f
  rw [binary_eq]
  simp only [Option.bind_some]
  rw [if_neg (by simp; omega), promoted_eq h]; rfl
/-- What is not in bits lies where the number lay. -/
theorem fin_not {k a : Int} (hk : isK k) (h5 : 5 ≤ k) (hc : conv k a = a) : fin k (-tv k a - 1) = (conv k (-1 - a), k, 0) := by
  have hk4 : k = 5 ∨ k = 6 ∨ k = 7 ∨ k = 8 := by unfold isK at hk; omega
  have e : conv k (-tv k a - 1) = conv k (-1 - a) := conv_congr k (by have := tv_congr k a; omega)
  unfold fin
  rw [e]
  by_cases hu : k % 2 = 0
  · rw [if_pos (.inl hu)]
  · have h8 : k ≠ 8 := by omega
    have h3 : tv k (conv k (-1 - a)) = -tv k a - 1 := by
      rw [tv_odd h8, tv_odd h8]
      rcases hk4 with rfl | rfl | rfl | rfl
      · simp [conv] at hc ⊢; omega
      · omega
      · simp [conv] at hc ⊢; omega
      · omega
    rw [if_pos (.inr h3)]
theorem one_eq (n : Nat) (op a ak : Int) (ha : -9223372036854775808 ≤ a) (ha' : a ≤ 9223372036854775807) : arith_One.f (n + 8) op a ak = some (one op a ak) := by
  unfold arith_One.f one
  rw [binary_eq, isOp_eq]
  simp only [Option.bind_some]
  by_cases ho : 15 ≤ op ∧ op ≤ 17
  · rw [if_neg (by simp; omega), if_pos ho]
    have h1 : (!decide (1 ≤ op ∧ op ≤ 17)) = false := by simp; omega
    rw [h1]
    simp only [arith_One.j0]
    rw [if_neg (by decide), lies_eq a ak ha ha']
    simp only [Option.bind_some]
    by_cases hl : lies a ak = true
    · obtain ⟨hka, hca⟩ := lies_isK hl
      obtain ⟨hk, h5⟩ := prom_isK hka
      rw [if_pos hl, if_pos hl, in_one ho.1 hka]
      simp only [Option.bind_some]
      by_cases h17 : op = 17
      · rw [if_pos h17, if_pos h17, truth_eq]; rfl
      · rw [if_neg h17, if_neg h17, of_eq a ak ha ha']
        simp only [Option.bind_some]
        have ht := tv_range ak a ha ha'
        have hz : hi 0 = 0 ∧ lo 0 = 0 := by unfold hi lo wrap64; omega
        rcases (show op = 15 ∨ op = 16 by omega) with rfl | rfl
        · have hm : arith_made.f (n + 7) 15 (hi (tv ak a)) (lo (tv ak a)) 0 0 = some (hi (-tv ak a), lo (-tv ak a)) := by
            unfold arith_made.f
            simp only [Int.reduceEq, if_false, if_true]
            rw [neg_eq]; rfl
          rw [hm, if_neg (by decide)]
          simp only [Option.bind_some]
          rw [narrow_small hk _ (by omega) (by omega), unsigned_yes hk]
          simp only [Option.bind_some]
          have e0 : 0 - tv (prom ak) a = -tv ak a := by rw [tv_prom hka]; omega
          rw [e0]
          unfold fin
          by_cases h2 : prom ak % 2 = 0
          · rw [if_pos (show prom ak % 2 = 0 ∨ _ from .inl h2)]
            split
            · rfl
            · rw [if_pos (decide_eq_true h2)]
          · by_cases h3 : tv (prom ak) (conv (prom ak) (-tv ak a)) = -tv ak a
            · rw [if_pos (decide_eq_true h3), if_pos (show _ ∨ tv (prom ak) (conv (prom ak) (-tv ak a)) = -tv ak a from .inr h3)]
            · rw [if_neg (show ¬ decide (tv (prom ak) (conv (prom ak) (-tv ak a)) = -tv ak a) = true by simp [h3]), if_neg (show ¬ decide (prom ak % 2 = 0) = true by simp [h2]), if_neg (show ¬ (prom ak % 2 = 0 ∨ tv (prom ak) (conv (prom ak) (-tv ak a)) = -tv ak a) by simp [h2, h3])]
        · have hm : arith_made.f (n + 7) 16 (hi (tv ak a)) (lo (tv ak a)) 0 0 = some (hi (-tv ak a - 1), lo (-tv ak a - 1)) := by
            unfold arith_made.f
            simp only [Int.reduceEq, if_false, if_true]
            rw [(not_eq _).1, (not_eq _).2]
          rw [hm, if_pos rfl]
          simp only [Option.bind_some]
          rw [narrow_small hk _ (by omega) (by omega), unsigned_yes hk]
          simp only [Option.bind_some]
          have hf := fin_not hk h5 (conv_prom hl)
          rw [tv_prom hka] at hf
          rw [← hf]
          unfold fin
          by_cases h2 : prom ak % 2 = 0
          · rw [if_pos (show prom ak % 2 = 0 ∨ _ from .inl h2)]
            split
            · rfl
            · rw [if_pos (decide_eq_true h2)]
          · by_cases h3 : tv (prom ak) (conv (prom ak) (-tv ak a - 1)) = -tv ak a - 1
            · rw [if_pos (decide_eq_true h3), if_pos (show _ ∨ tv (prom ak) (conv (prom ak) (-tv ak a - 1)) = -tv ak a - 1 from .inr h3)]
            · rw [if_neg (show ¬ decide (tv (prom ak) (conv (prom ak) (-tv ak a - 1)) = -tv ak a - 1) = true by simp [h3]), if_neg (show ¬ decide (prom ak % 2 = 0) = true by simp [h2]), if_neg (show ¬ (prom ak % 2 = 0 ∨ tv (prom ak) (conv (prom ak) (-tv ak a - 1)) = -tv ak a - 1) by simp [h2, h3])]
    · rw [if_neg hl, if_neg hl]
  · rw [if_neg ho]
    split
    · simp only [arith_One.j0, if_true]
    · rename_i hb
      have h1 : (!decide (1 ≤ op ∧ op ≤ 17)) = true := by
        simp only [decide_eq_true_eq] at hb
        simp; omega
      rw [h1]
      simp only [arith_One.j0, if_true]
theorem rIn_one (n : Nat) {op a : Int} (ho : 15 ≤ op ∧ op ≤ 17) (h : isK a) : burinref09_In.f (n + 5) op a a = some (prom a, 0) := by
  unfold burinref09_In.f
  rw [rpromoted_eq h (n + 2), risOne_eq]
  simp only [Option.bind_some]
  rw [if_pos (decide_eq_true ho)]
theorem rone_eq (n : Nat) (op a ak : Int) (ha : -9223372036854775808 ≤ a) (ha' : a ≤ 9223372036854775807) : burinref09_One.f (n + 8) op a ak = some (one op a ak) := by
  unfold burinref09_One.f one
  rw [risOne_eq]
  simp only [Option.bind_some]
  by_cases ho : 15 ≤ op ∧ op ≤ 17
  · rw [if_pos (decide_eq_true ho), if_pos ho, rlies_eq a ak ha ha']
    simp only [Option.bind_some]
    by_cases hl : lies a ak = true
    · obtain ⟨hka, hca⟩ := lies_isK hl
      obtain ⟨hk, h5⟩ := prom_isK hka
      rw [if_pos hl, if_pos hl]
      by_cases h17 : op = 17
      · rw [if_pos h17, if_pos h17, rtruth_eq]; rfl
      · rw [if_neg h17, if_neg h17, rIn_one (n + 3) ho hka]
        simp only [Option.bind_some]
        rcases (show op = 15 ∨ op = 16 by omega) with rfl | rfl
        · rw [if_neg (by decide), if_neg (by decide), rtwo_eq n 2 0 (prom ak) a (prom ak) (by decide) (by decide) ha ha']
          have h2 : two 2 0 (prom ak) a (prom ak) = fin (prom ak) (0 - tv (prom ak) a) := by
            have l0 : lies 0 (prom ak) = true := by
              unfold lies; rw [decide_eq_true_eq]; refine ⟨hk.1, hk.2, ?_⟩
              rcases isK_cases hk with h | h | h | h | h | h | h | h <;> rw [h] <;> decide
            have la : lies a (prom ak) = true := by
              unfold lies; rw [decide_eq_true_eq]; exact ⟨hk.1, hk.2, conv_prom hl⟩
            have hmk : mx (prom (prom ak)) (prom (prom ak)) = prom ak := by rw [prom_K h5]; unfold mx; rw [if_neg (by omega)]
            unfold two inK
            rw [if_pos (by decide), if_pos ⟨l0, la⟩, if_neg (by decide), if_neg (by decide), hmk, conv_prom hl]
            have c0 : conv (prom ak) 0 = 0 := by
              rcases isK_cases hk with h | h | h | h | h | h | h | h <;> rw [h] <;> decide
            have t0 : tv (prom ak) 0 = 0 := by unfold tv; split <;> rfl
            rw [c0, t0]
            unfold two2
            rw [if_neg (by decide), if_pos rfl]
          rw [h2]; rfl
        · rw [if_pos rfl, if_pos rfl, xor_i64 ha ha', rto_yes hk _ (by omega) (by omega)]; rfl
    · rw [if_neg hl, if_neg hl]
  · rw [if_neg (by simp; omega), if_neg ho]
end Go.Proofs.Ytbbepiechehojaa.Pure
