/- Plain laws of going round, the reference's. -/
import Derived.Test.YtbbepiechehojaaZb
import Derived.Test.YtbbepiechehojaaZg
import Derived.Test.YtbbepiechehojaaPAx23
namespace Go.Proofs.Ytbbepiechehojaa.Pure
open Go.RowKit Go.Proofs.YtbbepiechehojaaX Go.Proofs.Ytbbepiechehojaa.PA Go.Proofs.YtbbepiechehojaaW.PrintWords Go.Proofs.YtbbepiechehojaaW.PrintLast Go.Proofs.YtbbepiechehojaaW.PrintMore
set_option linter.unusedVariables false
set_option linter.unusedSimpArgs false

/-! ### The reference's -/
theorem plain_val {op k a b : Int} (ho : op = 1 ∨ op = 2 ∨ op = 3 ∨ op = 8 ∨ op = 9 ∨ op = 10) (ha : -9223372036854775808 ≤ a) (ha' : a ≤ 9223372036854775807) (hb : -9223372036854775808 ≤ b) (hb' : b ≤ 9223372036854775807) :
    ∃ ok, burinref09_plain.f op a b = some (wrap64 (res op k (tv k a) (tv k b)), ok) := by
  have hm : ∀ r s : Int, r % 18446744073709551616 = s % 18446744073709551616 → wrap64 r = wrap64 s := fun r s h => by unfold wrap64; omega
  have ta := tv_congr k a
  have tb := tv_congr k b
  have hl : ∀ o : Int, bop o (tv k a) (tv k b) = bop o a b := by
    intro o
    have l1 : lo (tv k a) = lo a := ta
    have l2 : lo (tv k b) = lo b := tb
    rw [← bop_lo, l1, l2, bop_lo]
  have hbn : ∀ o : Int, wrap64 (bop o a b) = wrap64 (bnum o k (tv k a) (tv k b)) := by
    intro o
    unfold bnum; rw [hl]; split
    · rfl
    · rw [wrap64_id (wrap64_range _).1 (wrap64_range _).2]
  unfold burinref09_plain.f res
  rcases ho with rfl | rfl | rfl | rfl | rfl | rfl <;> simp only [Int.reduceEq, if_true, if_false]
  · have e : wrap64 (a + b) = wrap64 (tv k a + tv k b) := hm _ _ (by omega)
    rw [e]; split <;> exact ⟨_, rfl⟩
  · have e : wrap64 (a - b) = wrap64 (tv k a - tv k b) := hm _ _ (by omega)
    rw [e]; split <;> exact ⟨_, rfl⟩
  · have e : wrap64 (a * b) = wrap64 (tv k a * tv k b) := hm _ _ (by rw [Int.mul_emod, ← ta, ← tb, ← Int.mul_emod])
    rw [product_eq ha ha' hb hb', e]; exact ⟨_, rfl⟩
  · rw [and_i64, hbn]; exact ⟨_, rfl⟩
  · rw [xor_i64', hbn]; exact ⟨_, rfl⟩
  · rw [or_i64, hbn]; exact ⟨_, rfl⟩
theorem conv_wrap (k r : Int) : conv k (wrap64 r) = conv k r := conv_congr k (by unfold wrap64; omega)
theorem rshift_val {op k a n : Int} (ho : op = 6 ∨ op = 7) (hk : isK k) (ha : -9223372036854775808 ≤ a) (ha' : a ≤ 9223372036854775807) (hn : 0 ≤ n) (hn' : n < wd k) :
    ∃ v ok, burinref09_shifted.f op k a n = some (v, ok) ∧ -9223372036854775808 ≤ v ∧ v ≤ 9223372036854775807 ∧ conv k v = if op = 6 then conv k (tv k a * 2 ^ n.toNat) else conv k (tv k a / 2 ^ n.toNat) := by
  have hw := wd_range hk
  unfold burinref09_shifted.f
  rcases ho with rfl | rfl
  · rw [if_neg (by decide), if_pos hn, shl_i64 _ hn (by omega), rto_yes hk _ (wrap64_range _).1 (wrap64_range _).2]
    simp only [Option.bind_some]
    rw [runsigned_yes hk]
    simp only [Option.bind_some]
    have e : conv k (conv k (wrap64 (a * 2 ^ n.toNat))) = conv k (tv k a * 2 ^ n.toNat) := by
      rw [conv_conv hk, conv_wrap]
      exact conv_congr k (by rw [Int.mul_emod, ← tv_congr k a, ← Int.mul_emod])
    have hr := conv_range k (wrap64 (a * 2 ^ n.toNat))
    simp only [if_true]
    split
    · exact ⟨_, _, rfl, hr.1, hr.2, e⟩
    · split
      · exact ⟨_, _, rfl, hr.1, hr.2, e⟩
      · exact ⟨_, _, rfl, hr.1, hr.2, e⟩
  · rw [if_pos rfl, if_neg (show ¬ (7 : Int) = 6 by decide)]
    obtain ⟨p, q, hp, hq, hpq, p0, q0, eq, ep, pl⟩ := pows (n := n) hn (by omega)
    by_cases h8 : k = 8
    · subst h8
      rw [if_pos rfl, if_pos hn, wrap_u64, shr_u64 _ hn (by omega)]
      refine ⟨_, _, rfl, (wrap64_range _).1, (wrap64_range _).2, ?_⟩
      rw [conv_wrap]; rfl
    · rw [if_neg h8, if_pos hn, shr_i64 _ hn (by omega), tv_odd h8, hp]
      have := div_between p0 ha ha' (by decide) (by decide)
      exact ⟨_, _, rfl, this.1, this.2, rfl⟩
theorem rwrap_eq (n : Nat) (op k a b : Int) (ha : -9223372036854775808 ≤ a) (ha' : a ≤ 9223372036854775807) (hb : -9223372036854775808 ≤ b) (hb' : b ≤ 9223372036854775807) :
    burinref09_Wrap.f (n + 10) op k a b = some (wrapS op k a b) := by
  have h0 : burinref09_Wrap.f (n + 10) op k a b = if 1 ≤ op ∧ op ≤ 17 then burinref09_Wrap.j0 (n + 10) op k a b false else some (0, 2) := by
    unfold burinref09_Wrap.f
    rw [rbinary_eq]
    simp only [Option.bind_some]
    by_cases h1 : 1 ≤ op ∧ op ≤ 14
    · have h2 : 1 ≤ op ∧ op ≤ 17 := by omega
      rw [if_pos (decide_eq_true h1), if_pos h2]
    · rw [if_neg (by simp only [decide_eq_true_eq]; exact h1), risOne_eq]
      simp only [Option.bind_some]
      by_cases h3 : 15 ≤ op ∧ op ≤ 17
      · have h2 : 1 ≤ op ∧ op ≤ 17 := by omega
        have : (!decide (15 ≤ op ∧ op ≤ 17)) = false := by rw [decide_eq_true h3]; rfl
        rw [this, if_pos h2]
      · have h2 : ¬ (1 ≤ op ∧ op ≤ 17) := by omega
        have : (!decide (15 ≤ op ∧ op ≤ 17)) = true := by rw [decide_eq_false h3]; rfl
        rw [this, if_neg h2]
        simp only [burinref09_Wrap.j0, if_true]
  rw [h0]
  unfold wrapS
  by_cases ho : 1 ≤ op ∧ op ≤ 17
  · rw [if_pos ho, if_pos ho]
    simp only [burinref09_Wrap.j0]
    rw [if_neg (by decide), rlies_eq a k ha ha', rlies_eq b k hb hb']
    simp only [Option.bind_some]
    by_cases hla : lies a k = true
    · by_cases hlb : lies b k = true
      · obtain ⟨hk, hca⟩ := lies_isK hla
        obtain ⟨_, hcb⟩ := lies_isK hlb
        rw [if_pos hla, if_pos ⟨hla, hlb⟩, hlb]
        simp only [burinref09_Wrap.j1, Bool.not_true]
        rw [if_neg (by decide)]
        by_cases h17 : op = 17
        · rw [if_pos h17, if_pos h17, rtruth_eq]; rfl
        · rw [if_neg h17, if_neg h17]
          have hT : burinref09_isTruth.f op = some (decide ((11 ≤ op ∧ op ≤ 14) ∨ op = 17)) := isTruth_eq' op
          rw [hT]
          simp only [Option.bind_some]
          by_cases ht : 11 ≤ op ∧ op ≤ 14
          · rw [if_pos (decide_eq_true (.inl ht)), if_pos ht, rcompared_eq ht ha ha' hb hb']; rfl
          · have ht2 : ¬ ((11 ≤ op ∧ op ≤ 14) ∨ op = 17) := by omega
            rw [if_neg (by simp only [decide_eq_true_eq]; exact ht2), if_neg ht]
            by_cases hs : op = 6 ∨ op = 7
            · have hw := wd_range hk
              have hc := count_range hk b
              have hj : burinref09_Wrap.j2 (n + 8) op k a b 0 op true = some (if op = 6 then conv k (tv k a * 2 ^ ((b % 18446744073709551616) % wd k).toNat) else conv k (tv k a / 2 ^ ((b % 18446744073709551616) % wd k).toNat), 0) := by
                simp only [burinref09_Wrap.j2, if_true]
                rw [rsize_eq hk (n + 4)]
                simp only [Option.bind_some]
                have hcnt : wrap64 (Int.tmod (IntKind.u64.wrap b) (wd k)) = (b % 18446744073709551616) % wd k := by
                  rw [wrap_u64, Int.tmod_eq_emod_of_nonneg (by omega), wrap64_id (by omega) (by omega)]
                rw [size8 hk, if_neg (by omega), hcnt]
                obtain ⟨v, ok, h1, h2, h3, h4⟩ := rshift_val hs hk ha ha' hc.1 hc.2.1
                rw [h1]
                simp only [Option.bind_some]
                rw [rto_yes hk v h2 h3, h4]; rfl
              rcases hs with rfl | rfl
              · rw [if_pos rfl, if_pos rfl]
                exact hj
              · rw [if_neg (by decide), if_neg (by decide), if_pos rfl]
                exact hj
            · have h6 : ¬ op = 6 := by omega
              have h7 : ¬ op = 7 := by omega
              have h7' : (op == 7) = false := beq_eq_false_iff_ne.mpr h7
              rw [if_neg h6, if_neg h6, if_neg h7, h7']
              simp only [burinref09_Wrap.j2]
              rw [if_neg (by decide)]
              by_cases hd : op = 4 ∨ op = 5
              · have c0 : conv k 0 = 0 := by rcases isK_cases hk with h | h | h | h | h | h | h | h <;> rw [h] <;> decide
                have hj : burinref09_Wrap.j3 (n + 7) op k a b 0 op true = some (conv k (res op k (tv k a) (tv k b)), 0) := by
                  simp only [burinref09_Wrap.j3, if_true]
                  by_cases hb0 : b = 0
                  · rw [if_pos hb0]
                    simp only [burinref09_Wrap.j4, burinref09_Wrap.j5]
                    rw [if_pos hb0, if_pos hb0, rto_yes hk a ha ha', rto_yes hk 0 (by decide) (by decide)]
                    simp only [Option.bind_some]
                    have hz := (tv_zero (k := k) hb hb').2 hb0
                    rcases hd with rfl | rfl
                    · have hr : res 4 k (tv k a) (tv k b) = 0 := by unfold res; rw [if_neg (by decide), if_neg (by decide), if_neg (by decide), if_pos rfl, if_pos hz]
                      rw [if_neg (by decide), hr]
                    · have hr : res 5 k (tv k a) (tv k b) = tv k a := by unfold res; rw [if_neg (by decide), if_neg (by decide), if_neg (by decide), if_neg (by decide), if_pos rfl, if_pos hz]
                      rw [if_pos (by decide), hr, conv_tv]
                  · rw [if_neg hb0]
                    simp only [burinref09_Wrap.j4, burinref09_Wrap.j5]
                    rw [if_neg (by decide), if_neg hb0, rdivided_eq hd ha ha' hb hb' hb0]
                    simp only [Option.bind_some]
                    rw [rto_yes hk _ (wrap64_range _).1 (wrap64_range _).2, conv_wrap]
                    have hz : ¬ tv k b = 0 := fun z => hb0 ((tv_zero hb hb').1 z)
                    rcases hd with rfl | rfl
                    · have hr : res 4 k (tv k a) (tv k b) = Int.tdiv (tv k a) (tv k b) := by unfold res; rw [if_neg (by decide), if_neg (by decide), if_neg (by decide), if_pos rfl, if_neg hz]
                      rw [hr, if_pos rfl]; rfl
                    · have hr : res 5 k (tv k a) (tv k b) = Int.tmod (tv k a) (tv k b) := by unfold res; rw [if_neg (by decide), if_neg (by decide), if_neg (by decide), if_neg (by decide), if_pos rfl, if_neg hz]
                      rw [hr, if_neg (show ¬ (5 : Int) = 4 by decide)]; rfl
                rcases hd with rfl | rfl
                · rw [if_pos rfl]; exact hj
                · rw [if_neg (by decide)]; exact hj
              · have h4 : ¬ op = 4 := by omega
                have h5 : (op == 5) = false := beq_eq_false_iff_ne.mpr (by omega)
                rw [if_neg h4, h5]
                simp only [burinref09_Wrap.j3]
                rw [if_neg (by decide)]
                by_cases h15 : op = 15
                · subst h15
                  rw [if_pos rfl, rto_yes hk _ (wrap64_range _).1 (wrap64_range _).2, conv_wrap]
                  simp only [Option.bind_some]
                  have hr : res 15 k (tv k a) (tv k b) = -tv k a := by unfold res; simp only [Int.reduceEq, if_false, if_true]
                  have e : conv k (-tv k a) = conv k (-a) := conv_congr k (by have := tv_congr k a; omega)
                  rw [hr, e]
                · rw [if_neg h15]
                  by_cases h16 : op = 16
                  · subst h16
                    rw [if_pos rfl, xor_i64 ha ha', rto_yes hk _ (by omega) (by omega)]
                    simp only [Option.bind_some]
                    have hr : res 16 k (tv k a) (tv k b) = -tv k a - 1 := by unfold res; simp only [Int.reduceEq, if_false, if_true]
                    have e : conv k (-tv k a - 1) = conv k (-1 - a) := conv_congr k (by have := tv_congr k a; omega)
                    rw [hr, e]
                  · rw [if_neg h16]
                    obtain ⟨ok, hp⟩ := plain_val (op := op) (k := k) (by omega) ha ha' hb hb'
                    rw [hp]
                    simp only [Option.bind_some]
                    rw [rto_yes hk _ (wrap64_range _).1 (wrap64_range _).2, conv_wrap]; rfl
      · have hlb' : lies b k = false := by simpa using hlb
        rw [if_pos hla, hlb', if_neg (by simp)]
        simp only [burinref09_Wrap.j1, Bool.not_false, if_true]
    · rw [if_neg hla, if_neg (by simp [hla])]
      simp only [burinref09_Wrap.j1, if_true]
  · rw [if_neg ho, if_neg ho]
end Go.Proofs.Ytbbepiechehojaa.Pure
