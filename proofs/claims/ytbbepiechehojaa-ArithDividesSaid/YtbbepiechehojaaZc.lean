/- Plain laws of order and of division, of what Two tells. -/
import Derived.Test.YtbbepiechehojaaZa
namespace Go.Proofs.Ytbbepiechehojaa.Pure
open Go.RowKit Go.Proofs.YtbbepiechehojaaX Go.Proofs.Ytbbepiechehojaa.PA Go.Proofs.YtbbepiechehojaaW.PrintWords Go.Proofs.YtbbepiechehojaaW.PrintLast Go.Proofs.YtbbepiechehojaaW.PrintMore
set_option linter.unusedVariables false
set_option linter.unusedSimpArgs false


/-! ### Order -/
theorem mx_comm (a b : Int) : mx a b = mx b a := by unfold mx; split <;> split <;> omega
theorem bop_comm (op x y : Int) : bop op x y = bop op y x := by
  unfold bop
  split
  · rw [bits_and_u64, bits_and_u64, BitVec.and_comm]
  split
  · rw [bits_xor_u64, bits_xor_u64, BitVec.xor_comm]
  · rw [bits_or_u64, bits_or_u64, BitVec.or_comm]
theorem bnum_comm (op k x y : Int) : bnum op k x y = bnum op k y x := by unfold bnum; rw [bop_comm]
theorem two2_comm {op : Int} (k x y : Int) (h : op ≠ 2 ∧ op ≠ 4 ∧ op ≠ 5 ∧ op ≠ 11 ∧ op ≠ 12) : two2 op k x y = two2 op k y x := by
  unfold two2
  rw [Int.add_comm x y, Int.mul_comm x y, bnum_comm op k x y]
  by_cases h1 : op = 1
  · rw [if_pos h1, if_pos h1]
  rw [if_neg h1, if_neg h1, if_neg h.1, if_neg h.1]
  by_cases h3 : op = 3
  · rw [if_pos h3, if_pos h3]
  have h45 : ¬ (op = 4 ∨ op = 5) := by omega
  rw [if_neg h3, if_neg h3, if_neg h45, if_neg h45]
  by_cases h8 : 8 ≤ op ∧ op ≤ 10
  · rw [if_pos h8, if_pos h8]
  rw [if_neg h8, if_neg h8]
  have : cmp op x y = cmp op y x := by
    unfold cmp
    rw [if_neg h.2.2.2.1, if_neg h.2.2.2.2, if_neg h.2.2.2.1, if_neg h.2.2.2.2]
    split
    · rw [decide_eq_decide]; exact eq_comm
    · rw [decide_eq_decide]; exact ne_comm
  rw [this]
theorem two_comm {op : Int} (a ak b bk : Int) (h : op ≠ 2 ∧ op ≠ 4 ∧ op ≠ 5 ∧ op ≠ 11 ∧ op ≠ 12 ∧ op ≠ 6 ∧ op ≠ 7) : two op a ak b bk = two op b bk a ak := by
  have hk : inK op ak bk = inK op bk ak := by unfold inK; rw [if_neg (by omega), if_neg (by omega), mx_comm]
  unfold two
  by_cases ho : 1 ≤ op ∧ op ≤ 14
  · rw [if_pos ho, if_pos ho]
    by_cases hl : lies a ak = true ∧ lies b bk = true
    · have hl' : lies b bk = true ∧ lies a ak = true := ⟨hl.2, hl.1⟩
      have hs : ¬ (op = 6 ∨ op = 7) := by omega
      rw [if_pos hl, if_pos hl', if_neg hs, if_neg hs, hk]
      exact two2_comm _ _ _ ⟨h.1, h.2.1, h.2.2.1, h.2.2.2.1, h.2.2.2.2.1⟩
    · have hl' : ¬ (lies b bk = true ∧ lies a ak = true) := fun z => hl ⟨z.2, z.1⟩
      rw [if_neg hl, if_neg hl']
  · rw [if_neg ho, if_neg ho]
/-- Less, and at most. -/
theorem two_cmp {op : Int} (a ak b bk : Int) (h : op = 11 ∨ op = 12) :
    two op a ak b bk = if lies a ak = true ∧ lies b bk = true then (truth (cmp op (tv (mx (prom ak) (prom bk)) (conv (mx (prom ak) (prom bk)) a)) (tv (mx (prom ak) (prom bk)) (conv (mx (prom ak) (prom bk)) b))), 5, 0) else (0, 0, 80) := by
  unfold two inK two2
  have h1 : 1 ≤ op ∧ op ≤ 14 := by omega
  have h2 : ¬ (op = 6 ∨ op = 7) := by omega
  have h3 : ¬ op = 1 := by omega
  have h4 : ¬ op = 2 := by omega
  have h5 : ¬ op = 3 := by omega
  have h6 : ¬ (op = 4 ∨ op = 5) := by omega
  have h7 : ¬ (8 ≤ op ∧ op ≤ 10) := by omega
  rw [if_pos h1, if_neg h2, if_neg h2, if_neg h3, if_neg h4, if_neg h5, if_neg h6, if_neg h7]
theorem turns (x y : Int) : truth (cmp 12 y x) = wrap64 (1 - truth (cmp 11 x y)) ∧ truth (cmp 11 y x) = wrap64 (1 - truth (cmp 12 x y)) := by
  unfold truth cmp
  simp only [Int.reduceEq, if_true, if_false, decide_eq_true_eq]
  constructor
  · by_cases h : x < y
    · rw [if_pos h, if_neg (by omega)]; decide +kernel
    · rw [if_neg h, if_pos (by omega)]; decide +kernel
  · by_cases h : x ≤ y
    · rw [if_pos h, if_neg (by omega)]; decide +kernel
    · rw [if_neg h, if_pos (by omega)]; decide +kernel

/-! ### A quotient, a remainder, and the dividend -/
/-- A number that lies in a kind. -/
def inR (k z : Int) : Prop := tv k (conv k z) = z
theorem inR_iff {k : Int} (hk : isK k) (h5 : 5 ≤ k) : ∃ l h : Int, l ≤ 0 ∧ 0 ≤ h ∧ ∀ z, inR k z ↔ l ≤ z ∧ z ≤ h := by
  have hk4 : k = 5 ∨ k = 6 ∨ k = 7 ∨ k = 8 := by unfold isK at hk; omega
  unfold inR
  rcases hk4 with rfl | rfl | rfl | rfl
  · exact ⟨-2147483648, 2147483647, by decide, by decide, fun z => by rw [tv_odd (by decide)]; simp [conv]; omega⟩
  · exact ⟨0, 4294967295, by decide, by decide, fun z => by rw [tv_odd (by decide)]; simp [conv]; omega⟩
  · exact ⟨-9223372036854775808, 9223372036854775807, by decide, by decide, fun z => by rw [tv_odd (by decide)]; simp [conv]; omega⟩
  · exact ⟨0, 18446744073709551615, by decide, by decide, fun z => by unfold tv; rw [if_pos rfl]; simp [conv]; omega⟩
/-- What lies between 0 and a number of a kind. -/
theorem inR_between {k x z : Int} (hk : isK k) (h5 : 5 ≤ k) (hx : inR k x) (h : (0 ≤ z ∧ z ≤ x) ∨ (x ≤ z ∧ z ≤ 0)) : inR k z := by
  obtain ⟨l, u, hl, hu, hi⟩ := inR_iff hk h5
  rw [hi] at hx ⊢
  omega
theorem inR_tv {k : Int} (hk : isK k) (h5 : 5 ≤ k) (a : Int) : inR k (tv k (conv k a)) := by
  have hk4 : k = 5 ∨ k = 6 ∨ k = 7 ∨ k = 8 := by unfold isK at hk; omega
  unfold inR
  rcases hk4 with rfl | rfl | rfl | rfl <;> simp [conv, tv] <;> omega
theorem tmod_between (x y : Int) (h : y ≠ 0) : ((0 ≤ Int.tmod x y ∧ Int.tmod x y ≤ x) ∨ (x ≤ Int.tmod x y ∧ Int.tmod x y ≤ 0)) ∧ ((0 ≤ Int.tdiv x y * y ∧ Int.tdiv x y * y ≤ x) ∨ (x ≤ Int.tdiv x y * y ∧ Int.tdiv x y * y ≤ 0)) := by
  have e := Int.tdiv_mul_add_tmod x y
  have b : (Int.tmod x y).natAbs ≤ x.natAbs := by rw [Int.natAbs_tmod]; exact Nat.mod_le _ _
  by_cases hx : 0 ≤ x
  · have h1 := Int.tmod_nonneg y hx
    omega
  · have h1 := Int.tmod_nonneg y (show 0 ≤ -x by omega)
    rw [Int.neg_tmod] at h1
    omega
theorem fin_in {k r : Int} (h : inR k r) : fin k r = (conv k r, k, 0) := by unfold fin; rw [if_pos (.inr h)]
theorem prom_K {k : Int} (h5 : 5 ≤ k) : prom k = k := by unfold prom; rw [if_neg (by omega)]
theorem lies_conv {k : Int} (hk : isK k) (a : Int) : lies (conv k a) k = true := by
  unfold lies; rw [decide_eq_true_eq]; exact ⟨hk.1, hk.2, conv_conv hk a⟩
end Go.Proofs.Ytbbepiechehojaa.Pure
