/- Plain laws of going round, the program's. -/
import Derived.Test.YtbbepiechehojaaZc
import Derived.Test.YtbbepiechehojaaZh
import Derived.Test.YtbbepiechehojaaPAx22
namespace Go.Proofs.Ytbbepiechehojaa.Pure
open Go.RowKit Go.Proofs.YtbbepiechehojaaX Go.Proofs.Ytbbepiechehojaa.PA Go.Proofs.YtbbepiechehojaaW.PrintWords Go.Proofs.YtbbepiechehojaaW.PrintLast Go.Proofs.YtbbepiechehojaaW.PrintMore
set_option linter.unusedVariables false
set_option linter.unusedSimpArgs false

theorem wr64_range (x : Int) : -9223372036854775808 ≤ wrap64 x ∧ wrap64 x ≤ 9223372036854775807 := by unfold wrap64; omega

/-! ### Going round -/
/-- The number that an operator makes of two, whose kind's value is told. -/
def res (op k x y : Int) : Int :=
  if op = 1 then x + y else if op = 2 then x - y else if op = 3 then x * y else if op = 4 then (if y = 0 then 0 else Int.tdiv x y) else if op = 5 then (if y = 0 then x else Int.tmod x y)
  else if op = 15 then -x else if op = 16 then -x - 1 else bnum op k x y
def wrapS (op k a b : Int) : Int × Int :=
  if 1 ≤ op ∧ op ≤ 17 then
    if lies a k = true ∧ lies b k = true then
      if op = 17 then (truth (a == 0), 0)
      else if 11 ≤ op ∧ op ≤ 14 then (truth (cmp op (tv k a) (tv k b)), 0)
      else if op = 6 then (conv k (tv k a * 2 ^ ((b % 18446744073709551616) % wd k).toNat), 0)
      else if op = 7 then (conv k (tv k a / 2 ^ ((b % 18446744073709551616) % wd k).toNat), 0)
      else (conv k (res op k (tv k a) (tv k b)), 0)
    else (0, 80)
  else (0, 2)
theorem isTruth_eq' (op : Int) : arith_isTruth.f op = some (decide ((11 ≤ op ∧ op ≤ 14) ∨ op = 17)) := by
  unfold arith_isTruth.f
  by_cases h1 : op ≥ 11
  · rw [if_pos h1]
    by_cases h2 : op ≤ 14
    · rw [if_pos h2]; congr 1; symm; exact decide_eq_true (.inl ⟨h1, h2⟩)
    · rw [if_neg h2]; congr 1; rw [Bool.eq_iff_iff, beq_iff_eq, decide_eq_true_eq]; omega
  · rw [if_neg h1]; congr 1; rw [Bool.eq_iff_iff, beq_iff_eq, decide_eq_true_eq]; omega
theorem conv_lo (k r : Int) : conv k (wrap64 (lo r)) = conv k r := conv_congr k (by unfold wrap64 lo; omega)
theorem count_range {k : Int} (hk : isK k) (b : Int) : 0 ≤ (b % 18446744073709551616) % wd k ∧ (b % 18446744073709551616) % wd k < wd k ∧ wd k ≤ 64 := by
  rcases wd_range hk with h | h | h | h <;> rw [h] <;> omega
theorem made_one (n : Nat) {op k x y : Int} (ho : (1 ≤ op ∧ op ≤ 5) ∨ (8 ≤ op ∧ op ≤ 10) ∨ op = 15 ∨ op = 16) (hx : okV k x) (hy : okV k y) (h0 : op = 4 ∨ op = 5 → y ≠ 0) :
    arith_made.f (n + 4) op (hi x) (lo x) (hi y) (lo y) = some (hi (res op k x y), lo (res op k x y)) := by
  by_cases h : op = 15 ∨ op = 16
  · unfold arith_made.f res
    rcases h with rfl | rfl
    · simp only [Int.reduceEq, if_false, if_true]; rw [neg_eq]; rfl
    · simp only [Int.reduceEq, if_false, if_true]; rw [(not_eq _).1, (not_eq _).2]
  · obtain ⟨r, hr, hm⟩ := made_arith n (op := op) (by omega) hx hy h0
    rw [hm]
    have : r = res op k x y := by
      rw [hr]; unfold res
      by_cases h1 : op = 1
      · rw [if_pos h1, if_pos h1]
      rw [if_neg h1, if_neg h1]
      by_cases h2 : op = 2
      · rw [if_pos h2, if_pos h2]
      rw [if_neg h2, if_neg h2]
      by_cases h3 : op = 3
      · rw [if_pos h3, if_pos h3]
      rw [if_neg h3, if_neg h3]
      by_cases h4 : op = 4
      · rw [if_pos h4, if_pos h4, if_neg (h0 (.inl h4))]
      rw [if_neg h4, if_neg h4]
      by_cases h5 : op = 5
      · rw [if_pos h5, if_pos h5, if_neg (h0 (.inr h5))]
      have h15 : ¬ op = 15 := by omega
      have h16 : ¬ op = 16 := by omega
      rw [if_neg h5, if_neg h5, if_neg h15, if_neg h16]
    rw [this]
theorem tv_zero {k b : Int} (h0 : -9223372036854775808 ≤ b) (h1 : b ≤ 9223372036854775807) : tv k b = 0 ↔ b = 0 := by unfold tv; split <;> omega
theorem conv_tv (k a : Int) : conv k (tv k a) = conv k a := conv_congr k (tv_congr k a)
theorem wrap_eq (n : Nat) (op k a b : Int) (ha : -9223372036854775808 ≤ a) (ha' : a ≤ 9223372036854775807) (hb : -9223372036854775808 ≤ b) (hb' : b ≤ 9223372036854775807) :
    arith_Wrap.f (n + 8) op k a b = some (wrapS op k a b) := by
  unfold arith_Wrap.f wrapS
  rw [isOp_eq]
  simp only [Option.bind_some]
  by_cases ho : 1 ≤ op ∧ op ≤ 17
  · rw [if_pos (decide_eq_true ho), if_pos ho, lies_eq a k ha ha', lies_eq b k hb hb']
    simp only [Option.bind_some]
    by_cases hla : lies a k = true
    · by_cases hlb : lies b k = true
      · obtain ⟨hk, hca⟩ := lies_isK hla
        obtain ⟨_, hcb⟩ := lies_isK hlb
        rw [if_pos hla, if_pos hlb, if_pos ⟨hla, hlb⟩, of_eq a k ha ha', of_eq b k hb hb', isTruth_eq']
        simp only [Option.bind_some]
        have hx := okV_tv k a ha ha'
        have hy := okV_tv k b hb hb'
        have hx' := okV_range hx
        have hy' := okV_range hy
        by_cases h17 : op = 17
        · subst h17
          rw [if_pos (by decide), if_pos rfl]
          have hz : hi 0 = 0 ∧ lo 0 = 0 := by unfold hi lo wrap64; omega
          have hm : arith_made.f (n + 8) 17 (hi (tv k a)) (lo (tv k a)) (hi (tv k b)) (lo (tv k b)) = some (0, truth (a == 0)) := by
            unfold arith_made.f
            simp only [Int.reduceEq, if_false, if_true]
            have h0 := rep_small (a := tv k a) (b := 0) (by omega) (by omega) (by omega) (by omega)
            rw [hz.1, hz.2] at h0
            rw [h0, truth_eq]
            simp only [Option.bind_some]
            rw [u64_truth]
            have : decide (tv k a = 0) = (a == 0) := by
              rw [Bool.eq_iff_iff, decide_eq_true_eq, beq_iff_eq]; exact tv_zero ha ha'
            rw [this]
          rw [hm]
          simp only [Option.bind_some]
          have := truth_range (a == 0)
          rw [wrap64_id (by omega) (by omega)]
        · rw [if_neg h17]
          by_cases ht : 11 ≤ op ∧ op ≤ 14
          · rw [if_pos (decide_eq_true (.inl ht)), if_pos ht, made_cmp _ ht hx hy]
            simp only [Option.bind_some]
            have := truth_range (cmp op (tv k a) (tv k b))
            rw [wrap64_id (by omega) (by omega)]
          · have ht2 : ¬ ((11 ≤ op ∧ op ≤ 14) ∨ op = 17) := by omega
            rw [if_neg (by simp only [decide_eq_true_eq]; exact ht2), if_neg ht, isShift_eq]
            simp only [Option.bind_some]
            by_cases hs : op = 6 ∨ op = 7
            · rw [if_pos (decide_eq_true hs), size_yes hk]
              simp only [Option.bind_some]
              have hw := wd_range hk
              have hc := count_range hk b
              rw [size8 hk, if_neg (by omega)]
              have hcnt : wrap64 (Int.tmod (IntKind.u64.wrap b) (wd k)) = (b % 18446744073709551616) % wd k := by
                rw [wrap_u64, Int.tmod_eq_emod_of_nonneg (by omega), wrap64_id (by omega) (by omega)]
              rw [hcnt]
              rcases hs with rfl | rfl
              · obtain ⟨h, h1, _⟩ := shifted6 (n := (b % 18446744073709551616) % wd k) hx'.1 hx'.2 hc.1 (by omega)
                rw [h1, if_pos rfl]
                simp only [Option.bind_some]
                rw [to_yes hk _ (wr64_range _).1 (wr64_range _).2, conv_lo]; rfl
              · rw [shifted7 (n := (b % 18446744073709551616) % wd k) hx'.1 hx'.2 hc.1 (by omega), if_neg (by decide), if_pos rfl]
                simp only [Option.bind_some]
                rw [to_yes hk _ (wr64_range _).1 (wr64_range _).2, conv_lo]; rfl
            · have h6 : ¬ op = 6 := by omega
              have h7 : ¬ op = 7 := by omega
              rw [if_neg (by simp only [decide_eq_true_eq]; exact hs), if_neg h6, if_neg h7]
              have hj1 : ¬ ((op = 4 ∨ op = 5) ∧ b = 0) → arith_Wrap.j1 (n + 7) op k a false (hi (tv k a)) (lo (tv k a)) (hi (tv k b)) (lo (tv k b)) = some (conv k (res op k (tv k a) (tv k b)), 0) := by
                intro h0
                simp only [arith_Wrap.j1]
                rw [if_neg (by decide), made_one (n + 2) (op := op) (by omega) hx hy (fun h hz => h0 ⟨h, (tv_zero hb hb').1 hz⟩)]
                simp only [Option.bind_some]
                rw [to_yes hk _ (wr64_range _).1 (wr64_range _).2, conv_lo]; rfl
              by_cases h4 : op = 4
              · subst h4
                rw [if_pos rfl]
                by_cases hb0 : b = 0
                · have : (b == 0) = true := beq_iff_eq.mpr hb0
                  rw [this]
                  simp only [arith_Wrap.j0, if_true]
                  have hr : res 4 k (tv k a) (tv k b) = 0 := by unfold res; rw [if_neg (by decide), if_neg (by decide), if_neg (by decide), if_pos rfl, if_pos ((tv_zero hb hb').2 hb0)]
                  have c0 : conv k 0 = 0 := by rcases isK_cases hk with h | h | h | h | h | h | h | h <;> rw [h] <;> decide
                  rw [hr, c0]
                · have : (b == 0) = false := beq_eq_false_iff_ne.mpr hb0
                  rw [this]
                  simp only [arith_Wrap.j0]
                  rw [if_neg (by decide), if_neg (by decide)]
                  exact hj1 (fun z => hb0 z.2)
              · rw [if_neg h4]
                simp only [arith_Wrap.j0]
                rw [if_neg (by decide)]
                by_cases h5 : op = 5
                · subst h5
                  rw [if_pos rfl]
                  by_cases hb0 : b = 0
                  · have : (b == 0) = true := beq_iff_eq.mpr hb0
                    rw [this]
                    simp only [arith_Wrap.j1, if_true]
                    have hr : res 5 k (tv k a) (tv k b) = tv k a := by unfold res; rw [if_neg (by decide), if_neg (by decide), if_neg (by decide), if_neg (by decide), if_pos rfl, if_pos ((tv_zero hb hb').2 hb0)]
                    rw [hr, conv_tv, hca]
                  · have : (b == 0) = false := beq_eq_false_iff_ne.mpr hb0
                    rw [this]
                    exact hj1 (fun z => hb0 z.2)
                · rw [if_neg h5]
                  exact hj1 (fun z => by omega)
      · rw [if_pos hla, if_neg hlb, if_neg (by simp [hlb])]
    · rw [if_neg hla, if_neg (by simp [hla])]
  · rw [if_neg (by simp only [decide_eq_true_eq]; exact ho), if_neg ho]


end Go.Proofs.Ytbbepiechehojaa.Pure
