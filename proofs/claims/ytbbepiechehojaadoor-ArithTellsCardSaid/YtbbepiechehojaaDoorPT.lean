/- What there is to an operator, and the kind of its value: the program's answers are the reference's. -/
import Derived.Test.YtbbepiechehojaaDoorPAx14
namespace Go.Proofs.YtbbepiechehojaaDoor.Pure
open Go.RowKit Go.Proofs.YtbbepiechehojaaDoorX Go.Proofs.YtbbepiechehojaaDoor.PA Go.Proofs.YtbbepiechehojaaDoorW.PrintWords Go.Proofs.YtbbepiechehojaaDoorW.PrintLast Go.Proofs.YtbbepiechehojaaDoorW.PrintMore
set_option linter.unusedVariables false
set_option linter.unusedSimpArgs false
/-- The bits of a kind. -/
def wd (k : Int) : Int := if k = 1 ∨ k = 2 then 8 else if k = 3 ∨ k = 4 then 16 else if k = 5 ∨ k = 6 then 32 else 64
def isK (k : Int) : Prop := 1 ≤ k ∧ k ≤ 8
theorem isK_cases {k : Int} (h : isK k) : k = 1 ∨ k = 2 ∨ k = 3 ∨ k = 4 ∨ k = 5 ∨ k = 6 ∨ k = 7 ∨ k = 8 := by
  unfold isK at h
  omega

theorem is_yes {k : Int} (h : isK k) : kind_is.f k = some true := by
  obtain ⟨h1, h2⟩ := h
  unfold kind_is.f; rw [if_pos (by omega)]; simp [h2]
theorem is_no {k : Int} (h : ¬ isK k) : kind_is.f k = some false := by
  unfold kind_is.f isK at *
  split
  · have : ¬ k ≤ 8 := by omega
    simp [this]
  · rfl
/-- The kind in which one is reckoned. -/
def prom (k : Int) : Int := if k < 5 then 5 else k
theorem prom_isK {k : Int} (h : isK k) : isK (prom k) ∧ 5 ≤ prom k := by unfold isK prom at *; split <;> omega
theorem promoted_eq {k : Int} (h : isK k) : kind_Promoted.f k = some (prom k, 0) := by
  unfold kind_Promoted.f prom
  rw [is_yes h]; simp only [Option.bind_some, if_true]; split <;> rfl
theorem usual_eq {a b : Int} (h : isK a) (h' : isK b) : kind_Usual.f a b = some (mx (prom a) (prom b), 0) := by
  unfold kind_Usual.f
  rw [promoted_eq h, promoted_eq h']; rfl
theorem rsize_eq {k : Int} (h : isK k) (n : Nat) : burinref08_Size.f (n + 3) k = some (wd k / 8) := by
  rcases isK_cases h with rfl | rfl | rfl | rfl | rfl | rfl | rfl | rfl <;> rfl
theorem rsize_no {k : Int} (h : ¬ isK k) (n : Nat) : burinref08_Size.f (n + 3) k = some 0 := by
  unfold isK at h
  have e : ∀ c : Int, 1 ≤ c → c ≤ 8 → (k == c) = false := fun c _ _ => beq_eq_false_iff_ne.mpr (by omega)
  simp only [burinref08_Size.f, burinref08_Size.j0, burinref08_Size.j1, burinref08_Size.j2]
  repeat (rw [if_neg (by omega)])
  rw [e 2 (by omega) (by omega)]; simp only [Bool.false_eq_true, if_false]
  repeat (rw [if_neg (by omega)])
  rw [e 4 (by omega) (by omega)]; simp only [Bool.false_eq_true, if_false]
  repeat (rw [if_neg (by omega)])
  rw [e 6 (by omega) (by omega)]; simp only [Bool.false_eq_true, if_false]
  repeat (rw [if_neg (by omega)])
theorem rpromoted_eq {k : Int} (h : isK k) (n : Nat) : burinref08_Promoted.f (n + 3) k = some (prom k, 0) := by
  unfold burinref08_Promoted.f
  rw [rsize_eq h]
  rcases isK_cases h with rfl | rfl | rfl | rfl | rfl | rfl | rfl | rfl <;> rfl
theorem rusual_eq {a b : Int} (h : isK a) (h' : isK b) (n : Nat) : burinref08_Usual.f (n + 5) a b = some (mx (prom a) (prom b), 0) := by
  rcases isK_cases h with rfl | rfl | rfl | rfl | rfl | rfl | rfl | rfl <;> rcases isK_cases h' with rfl | rfl | rfl | rfl | rfl | rfl | rfl | rfl <;> rfl


theorem promoted_no {k : Int} (h : ¬ isK k) : kind_Promoted.f k = some (0, 80) := by
  unfold kind_Promoted.f; rw [is_no h]; rfl
theorem ris_eq (k : Int) : burinref08_Is.f k = kind_is.f k := rfl
theorem rpromoted_no {k : Int} (h : ¬ isK k) (n : Nat) : burinref08_Promoted.f (n + 3) k = some (0, 80) := by
  unfold burinref08_Promoted.f; rw [ris_eq, is_no h]; rfl
theorem usual_no {a b : Int} (h : ¬ (isK a ∧ isK b)) : kind_Usual.f a b = some (0, 80) := by
  unfold kind_Usual.f
  by_cases ha : isK a
  · have hb : ¬ isK b := fun hb => h ⟨ha, hb⟩
    rw [promoted_eq ha, promoted_no hb]; rfl
  · by_cases hb : isK b
    · rw [promoted_no ha, promoted_eq hb]; rfl
    · rw [promoted_no ha, promoted_no hb]; rfl
theorem rusual_no {a b : Int} (h : ¬ (isK a ∧ isK b)) (n : Nat) : burinref08_Usual.f (n + 5) a b = some (0, 80) := by
  unfold burinref08_Usual.f
  by_cases ha : isK a
  · have hb : ¬ isK b := fun hb => h ⟨ha, hb⟩
    rw [rpromoted_eq ha (n + 2), rpromoted_no hb (n + 2)]; rfl
  · by_cases hb : isK b
    · rw [rpromoted_no ha (n + 2), rpromoted_eq hb (n + 2)]; rfl
    · rw [rpromoted_no ha (n + 2), rpromoted_no hb (n + 2)]; rfl
theorem sign_eq (op : Int) (n : Nat) : ∃ s, arith_Sign.f op = some s ∧ burinref09_Sign.f (n + 1) op = some s := by
  by_cases h : 1 ≤ op ∧ op ≤ 17
  · have hc : op = 1 ∨ op = 2 ∨ op = 3 ∨ op = 4 ∨ op = 5 ∨ op = 6 ∨ op = 7 ∨ op = 8 ∨ op = 9 ∨ op = 10 ∨ op = 11 ∨ op = 12 ∨ op = 13 ∨ op = 14 ∨ op = 15 ∨ op = 16 ∨ op = 17 := by omega
    rcases hc with rfl | rfl | rfl | rfl | rfl | rfl | rfl | rfl | rfl | rfl | rfl | rfl | rfl | rfl | rfl | rfl | rfl <;> exact ⟨_, rfl, rfl⟩
  · refine ⟨_, rfl, ?_⟩
    rw [if_neg h]
    unfold burinref09_Sign.f
    have e : (op == 15) = false := beq_eq_false_iff_ne.mpr (by omega)
    rw [if_neg (by omega), if_neg (by omega), e, burinref09_Sign.j0, if_neg (by decide)]
    repeat (rw [if_neg (by omega)])
theorem result_eq (op a b : Int) (n : Nat) : ∃ r, arith_Result.f op a b = some r ∧ burinref09_Result.f (n + 8) op a b = some r := by
  unfold arith_Result.f burinref09_Result.f arith_isOp.f burinref09_Binary.f burinref09_isOne.f
  by_cases h1 : op ≥ 1
  · by_cases h17 : op ≤ 17
    · rw [if_pos h1, if_pos h1]
      simp only [Option.bind_some, h17, decide_true, if_true]
      by_cases h14 : op ≤ 14
      · simp only [h14, decide_true, if_true]
        rw [burinref09_Result.j0, if_neg (by decide)]
        unfold arith_in.f burinref09_In.f arith_Binary.f burinref09_isOne.f arith_isShift.f
        rw [if_pos h1]
        have e17 : (op == 17) = false := beq_eq_false_iff_ne.mpr (by omega)
        rw [if_neg (show ¬ op = 15 by omega), if_neg (show ¬ op = 16 by omega), e17]
        simp only [Option.bind_some, h14, decide_true, if_true]
        by_cases hk : isK a ∧ isK b
        · rw [usual_eq hk.1 hk.2, rusual_eq hk.1 hk.2 (n + 2), promoted_eq hk.1, rpromoted_eq hk.1 (n + 4)]
          by_cases h6 : op = 6
          · subst h6; exact ⟨_, rfl, rfl⟩
          · by_cases h7 : op = 7
            · subst h7; exact ⟨_, rfl, rfl⟩
            · have e7 : (op == 7) = false := beq_eq_false_iff_ne.mpr h7
              rw [if_neg h6, e7]
              simp only [Option.bind_some, if_true, if_neg h6, if_neg h7, Bool.false_eq_true, if_false]
              unfold arith_isTruth.f burinref09_isTruth.f
              by_cases h11 : op ≥ 11
              · rw [if_pos h11, if_pos h14]; exact ⟨_, rfl, rfl⟩
              · rw [if_neg h11, e17]; exact ⟨_, rfl, rfl⟩
        · rw [usual_no hk, rusual_no hk (n + 2)]
          by_cases ha : isK a
          · rw [rpromoted_eq ha (n + 4)]; exact ⟨_, rfl, rfl⟩
          · rw [rpromoted_no ha (n + 4)]; exact ⟨_, rfl, rfl⟩
      · have hc : op = 15 ∨ op = 16 ∨ op = 17 := by omega
        by_cases ha : isK a
        · rcases hc with rfl | rfl | rfl <;> (unfold arith_in.f; simp only [burinref09_Result.j0, burinref09_In.f, promoted_eq ha, rpromoted_eq ha (n + 4)]; exact ⟨_, rfl, rfl⟩)
        · rcases hc with rfl | rfl | rfl <;> (unfold arith_in.f; simp only [burinref09_Result.j0, burinref09_In.f, promoted_no ha, rpromoted_no ha (n + 4)]; exact ⟨_, rfl, rfl⟩)
    · rw [if_pos h1, if_pos h1]
      have e15 : (op == 17) = false := beq_eq_false_iff_ne.mpr (by omega)
      have d1 : decide (op ≤ 17) = false := decide_eq_false h17
      have d2 : decide (op ≤ 14) = false := decide_eq_false (by omega)
      rw [d1, d2, if_neg (show ¬ op = 15 by omega), if_neg (show ¬ op = 16 by omega), e15]
      exact ⟨_, rfl, rfl⟩
  · rw [if_neg h1, if_neg h1]
    have e15 : (op == 17) = false := beq_eq_false_iff_ne.mpr (by omega)
    rw [if_neg (show ¬ op = 15 by omega), if_neg (show ¬ op = 16 by omega), e15]
    exact ⟨_, rfl, rfl⟩
theorem shown_ok : burinlaw09_shown.f 20 = some true := by decide +kernel
theorem ArithTells : burinlaw09_ArithTells.Pure := by
  intro op a b _ _ _
  refine ⟨20, ?_⟩
  obtain ⟨r, h1, h2⟩ := result_eq op a b 12
  obtain ⟨s, h3, h4⟩ := sign_eq op 19
  have h5 : burinref09_Binary.f op = arith_Binary.f op := rfl
  obtain ⟨t, h6⟩ : ∃ t, arith_Binary.f op = some t := by unfold arith_Binary.f; split <;> exact ⟨_, rfl⟩
  unfold burinlaw09_ArithTells.f
  rw [shown_ok, h1, h2, h5, h6, h3, h4]
  simp
end Go.Proofs.YtbbepiechehojaaDoor.Pure
