/- Plain laws of the reference's arithmetic: what its Two tells is what the program's tells. -/
import Derived.Test.YtbbepiechehojaaZa
import Derived.Test.YtbbepiechehojaaPAx16
namespace Go.Proofs.Ytbbepiechehojaa.Pure
open Go.RowKit Go.Proofs.YtbbepiechehojaaX Go.Proofs.Ytbbepiechehojaa.PA Go.Proofs.YtbbepiechehojaaW.PrintWords Go.Proofs.YtbbepiechehojaaW.PrintLast Go.Proofs.YtbbepiechehojaaW.PrintMore
set_option linter.unusedVariables false
set_option linter.unusedSimpArgs false

/-! ### The reference's pieces -/
theorem rtruth_eq (b : Bool) : burinref09_truth.f b = some (truth b) := by unfold burinref09_truth.f truth; split <;> rfl
theorem conv_prom {a ak : Int} (h : lies a ak = true) : conv (prom ak) a = a := by
  obtain ⟨hk, hc⟩ := lies_isK h
  rcases isK_cases hk with rfl | rfl | rfl | rfl | rfl | rfl | rfl | rfl <;> simp [conv, prom] at hc ⊢ <;> omega
theorem rIn_eq (n : Nat) {op a b : Int} (ho : 1 ≤ op ∧ op ≤ 14) (h : isK a) (h' : isK b) : burinref09_In.f (n + 5) op a b = some (inK op a b, 0) := by
  unfold burinref09_In.f burinref09_isOne.f inK
  rw [rpromoted_eq h (n + 2), rusual_eq h h' n]
  have : (op == 17) = false := beq_eq_false_iff_ne.mpr (by omega)
  rw [if_neg (by omega), if_neg (by omega), this]
  simp only [Option.bind_some, Bool.false_eq_true, if_false, if_true]
  by_cases h6 : op = 6
  · rw [if_pos h6, if_pos (.inl h6)]
  · rw [if_neg h6]
    by_cases h7 : op = 7
    · rw [if_pos h7, if_pos (.inr h7)]
    · rw [if_neg h7, if_neg (by omega)]
theorem div_between {a lo_ hi_ : Int} {p : Nat} (hp : 0 < p) (h0 : lo_ ≤ a) (h1 : a ≤ hi_) (hl : lo_ ≤ 0) (hh : 0 ≤ hi_) : lo_ ≤ a / p ∧ a / p ≤ hi_ := by
  by_cases h : 0 ≤ a
  · have h1 := Int.ediv_nonneg (a := a) (b := (p : Int)) h (by omega)
    have h2 := Int.ediv_le_self (a := a) (p : Int) h
    omega
  · have h1 : a / (p : Int) < 0 := Int.ediv_neg_of_neg_of_pos (by omega) (by omega)
    have h2 : a ≤ a / (p : Int) := by
      rw [Int.le_ediv_iff_mul_le (by omega)]
      have : (-a) * 1 ≤ (-a) * (p : Int) := Int.mul_le_mul_of_nonneg_left (by omega) (by omega)
      simp only [Int.neg_mul] at this
      omega
    omega
/-- A multiple of a power, made a signed value: a multiple. -/
theorem conv_mul {k n a : Int} (hk : k = 5 ∨ k = 7) (h0 : 0 ≤ n) (h1 : n < wd k) : ∃ m, conv k (a * 2 ^ n.toNat) = 2 ^ n.toNat * m := by
  have hw : n ≤ 63 := by rcases hk with rfl | rfl <;> simp [wd] at h1 <;> omega
  rcases hk with rfl | rfl
  · have hn : n < 32 := by simpa [wd] using h1
    obtain ⟨q, hq⟩ : ∃ q : Int, (2 : Int) ^ n.toNat * q = 4294967296 := ⟨2 ^ (32 - n.toNat), by rw [← Int.pow_add, show n.toNat + (32 - n.toNat) = 32 by omega]; decide⟩
    refine ⟨a - q * ((a * 2 ^ n.toNat + 2147483648) / 4294967296), ?_⟩
    have e : conv 5 (a * 2 ^ n.toNat) = a * 2 ^ n.toNat - 4294967296 * ((a * 2 ^ n.toNat + 2147483648) / 4294967296) := by simp [conv]; omega
    rw [e]
    generalize (a * 2 ^ n.toNat + 2147483648) / 4294967296 = z
    rw [Int.mul_sub, ← Int.mul_assoc, hq, Int.mul_comm a]
  · obtain ⟨q, hq⟩ : ∃ q : Int, (2 : Int) ^ n.toNat * q = 18446744073709551616 := ⟨2 ^ (64 - n.toNat), by rw [← Int.pow_add, show n.toNat + (64 - n.toNat) = 64 by omega]; decide⟩
    refine ⟨a - q * ((a * 2 ^ n.toNat + 9223372036854775808) / 18446744073709551616), ?_⟩
    have e : conv 7 (a * 2 ^ n.toNat) = a * 2 ^ n.toNat - 18446744073709551616 * ((a * 2 ^ n.toNat + 9223372036854775808) / 18446744073709551616) := by simp [conv]; omega
    rw [e]
    generalize (a * 2 ^ n.toNat + 9223372036854775808) / 18446744073709551616 = z
    rw [Int.mul_sub, ← Int.mul_assoc, hq, Int.mul_comm a]
/-- The reference's shift of a value of a kind in which is reckoned: what Two tells of it. -/
theorem rshift_eq {op k a b : Int} (ho : op = 6 ∨ op = 7) (hk : isK k) (h5 : 5 ≤ k) (hc : conv k a = a) (ha : -9223372036854775808 ≤ a) (ha' : a ≤ 9223372036854775807) (hb : 0 ≤ b) (hb' : b < wd k) :
    ∃ v ok, burinref09_shifted.f op k a b = some (v, ok) ∧ (if ok = true then (v, k, 0) else (0, 0, 90)) = twoS op k (tv k a) b := by
  have hw := wd_range hk
  have e : twoS op k (tv k a) b = if op = 6 then (if tv k a < 0 then (0, 0, 90) else fin k (tv k a * 2 ^ b.toNat)) else fin k (tv k a / 2 ^ b.toNat) := by
    unfold twoS; rw [if_neg (by omega)]
  obtain ⟨p, q, hp, hq, hpq, p0, q0, eq, ep, pl⟩ := pows (n := b) (by omega) (by omega)
  unfold burinref09_shifted.f
  have hk4 : k = 5 ∨ k = 6 ∨ k = 7 ∨ k = 8 := by unfold isK at hk; omega
  rcases ho with rfl | rfl
  · have e' : twoS 6 k (tv k a) b = if tv k a < 0 then (0, 0, 90) else fin k (tv k a * 2 ^ b.toNat) := by rw [e, if_pos rfl]
    rw [e', if_neg (by decide), if_pos hb, shl_i64 _ hb (by omega)]
    have hr : -9223372036854775808 ≤ wrap64 (a * 2 ^ b.toNat) ∧ wrap64 (a * 2 ^ b.toNat) ≤ 9223372036854775807 := by unfold wrap64; omega
    rw [rto_yes hk _ hr.1 hr.2]
    simp only [Option.bind_some]
    rw [runsigned_yes hk]
    simp only [Option.bind_some]
    have hcv : conv k (wrap64 (a * 2 ^ b.toNat)) = conv k (tv k a * 2 ^ b.toNat) := conv_congr k (by
      have h1 : wrap64 (a * 2 ^ b.toNat) % 18446744073709551616 = (a * 2 ^ b.toNat) % 18446744073709551616 := by unfold wrap64; omega
      rw [h1, Int.mul_emod, ← tv_congr k a, ← Int.mul_emod])
    rw [hcv]
    by_cases hu : k % 2 = 0
    · rw [if_pos (decide_eq_true hu)]
      have hx : ¬ tv k a < 0 := by
        rcases hk4 with rfl | rfl | rfl | rfl
        · omega
        · rw [tv_odd (by decide)]; simp [conv] at hc; omega
        · omega
        · unfold tv; rw [if_pos rfl]; omega
      have ef : fin k (tv k a * 2 ^ b.toNat) = (conv k (tv k a * 2 ^ b.toNat), k, 0) := by unfold fin; rw [if_pos (.inl hu)]
      exact ⟨_, _, rfl, by rw [if_pos rfl, if_neg hx, ef]⟩
    · rw [if_neg (by simp [hu])]
      have ht : tv k a = a := tv_odd (by omega)
      rw [ht]
      by_cases hn : a ≥ 0
      · rw [if_pos hn]
        refine ⟨_, _, rfl, ?_⟩
        rw [if_neg (show ¬ a < 0 by omega), shr_i64 _ hb (by omega)]
        obtain ⟨m, hm⟩ := conv_mul (k := k) (n := b) (a := a) (by omega) hb hb'
        have ef : fin k (a * 2 ^ b.toNat) = if conv k (a * 2 ^ b.toNat) = a * 2 ^ b.toNat then (conv k (a * 2 ^ b.toNat), k, 0) else (0, 0, 90) := by
          unfold fin
          rw [tv_odd (by omega)]
          by_cases hh : conv k (a * 2 ^ b.toNat) = a * 2 ^ b.toNat
          · rw [if_pos (.inr hh), if_pos hh]
          · rw [if_neg (by simp [hu, hh]), if_neg hh]
        rw [ef]
        have h2 : (2 : Int) ^ b.toNat ≠ 0 := by rw [hp]; omega
        have key : conv k (a * 2 ^ b.toNat) / 2 ^ b.toNat = a ↔ conv k (a * 2 ^ b.toNat) = a * 2 ^ b.toNat := by
          rw [hm, Int.mul_ediv_cancel_left _ h2]
          constructor
          · rintro rfl; rw [Int.mul_comm]
          · intro h
            rw [Int.mul_comm a] at h
            exact Int.eq_of_mul_eq_mul_left h2 h
        by_cases hh : conv k (a * 2 ^ b.toNat) = a * 2 ^ b.toNat
        · rw [if_pos hh, if_pos (beq_iff_eq.mpr (key.2 hh))]
        · rw [if_neg hh, if_neg (by rw [beq_iff_eq]; exact fun h => hh (key.1 h))]
      · rw [if_neg hn]
        exact ⟨_, _, rfl, by rw [if_neg (by decide), if_pos (by omega)]⟩
  · have e' : twoS 7 k (tv k a) b = fin k (tv k a / 2 ^ b.toNat) := by rw [e, if_neg (by decide)]
    rw [e', if_pos rfl]
    by_cases h8 : k = 8
    · subst h8
      rw [if_pos rfl, if_pos hb, wrap_u64, shr_u64 _ hb (by omega)]
      refine ⟨_, _, rfl, ?_⟩
      unfold fin
      rw [if_pos rfl, if_pos (.inl (by decide))]
      simp [conv, tv, wrap64]
    · rw [if_neg h8, if_pos hb, shr_i64 _ hb (by omega)]
      refine ⟨_, _, rfl, ?_⟩
      rw [if_pos rfl, tv_odd h8]
      have hcc : conv k (a / 2 ^ b.toNat) = a / 2 ^ b.toNat := by
        rw [hp]
        rcases hk4 with rfl | rfl | rfl | rfl
        · have hcr : -2147483648 ≤ a ∧ a ≤ 2147483647 := by simp [conv] at hc; omega
          have := div_between p0 hcr.1 hcr.2 (by decide) (by decide)
          simp [conv]; omega
        · have hcr : 0 ≤ a ∧ a ≤ 4294967295 := by simp [conv] at hc; omega
          have := div_between p0 hcr.1 hcr.2 (by decide) (by decide)
          simp [conv]; omega
        · have := div_between p0 ha ha' (by decide) (by decide)
          simp [conv]; omega
        · exact absurd rfl h8
      unfold fin
      rw [tv_odd h8, hcc, if_pos (.inr rfl)]
theorem rcompared_eq {op k a b : Int} (ho : 11 ≤ op ∧ op ≤ 14) (ha : -9223372036854775808 ≤ a) (ha' : a ≤ 9223372036854775807) (hb : -9223372036854775808 ≤ b) (hb' : b ≤ 9223372036854775807) :
    burinref09_compared.f op k a b = some (truth (cmp op (tv k a) (tv k b))) := by
  have hl : ∀ x y : Int, burinref09_less.f k x y = some (decide (tv k x < tv k y)) := by
    intro x y
    unfold burinref09_less.f tv
    rw [wrap_u64, wrap_u64]
    split <;> rfl
  have he : (a = b) = (tv k a = tv k b) := by unfold tv; rw [eq_iff_iff]; split <;> omega
  have hc : op = 11 ∨ op = 12 ∨ op = 13 ∨ op = 14 := by omega
  unfold burinref09_compared.f
  rcases hc with rfl | rfl | rfl | rfl <;> simp only [Int.reduceEq, if_true, if_false]
  · rw [hl]; simp only [Option.bind_some]; rw [rtruth_eq]; rfl
  · rw [hl]; simp only [Option.bind_some]; rw [rtruth_eq]; simp only [Option.bind_some]
    congr 2; rw [Bool.eq_iff_iff]; simp [cmp]
  · rw [rtruth_eq]; simp only [Option.bind_some]
    congr 2; rw [Bool.eq_iff_iff]; simp [cmp, he]
  · rw [rtruth_eq]; simp only [Option.bind_some]
    congr 2; rw [Bool.eq_iff_iff]; simp [cmp, he]
/-- Does a product of two long ones lie in them? -/
theorem product_eq {a b : Int} (ha : -9223372036854775808 ≤ a) (ha' : a ≤ 9223372036854775807) (hb : -9223372036854775808 ≤ b) (hb' : b ≤ 9223372036854775807) :
    burinref09_product.f a b = some (decide (wrap64 (a * b) = a * b)) := by
  unfold burinref09_product.f
  by_cases ha0 : a = 0
  · subst ha0; rw [if_pos rfl]; simp [wrap64]
  by_cases hb0 : b = 0
  · subst hb0; rw [if_neg ha0, if_pos rfl]; simp [wrap64]
  rw [if_neg ha0, if_neg hb0]
  have hr : -9223372036854775808 ≤ wrap64 (a * b) ∧ wrap64 (a * b) ≤ 9223372036854775807 := by unfold wrap64; omega
  -- the two that are told by name
  by_cases hs1 : a = -9223372036854775808 ∧ b = -1
  · obtain ⟨rfl, rfl⟩ := hs1; decide +kernel
  by_cases hs2 : a = -1 ∧ b = -9223372036854775808
  · obtain ⟨rfl, rfl⟩ := hs2; decide +kernel
  have hsp : (if a = (-9223372036854775808) then (if (b = (-1)) then (some false) else (if b = (-9223372036854775808) then (some (!(a == (-1)))) else (some (!false)))) else (if b = (-9223372036854775808) then (some (!(a == (-1)))) else (some (!false)))) = some true := by
    by_cases h1 : a = -9223372036854775808
    · rw [if_pos h1, if_neg (fun h => hs1 ⟨h1, h⟩)]
      split
      · have : (a == -1) = false := beq_eq_false_iff_ne.mpr (by omega)
        rw [this]; rfl
      · rfl
    · rw [if_neg h1]
      split
      · rename_i h2
        have : (a == -1) = false := beq_eq_false_iff_ne.mpr (fun h => hs2 ⟨h, h2⟩)
        rw [this]; rfl
      · rfl
  rw [hsp]
  by_cases hno : wrap64 (a * b) = a * b
  · rw [hno, Int.mul_tdiv_cancel _ hb0, if_pos (by unfold wrap64; omega)]
    simp
  · rw [if_neg]
    · simp [hno]
    intro hd
    -- the quotient is a, and so the product lies in them
    obtain ⟨p, hp⟩ : ∃ p, wrap64 (a * b) = p := ⟨_, rfl⟩
    rw [hp] at hd hr hno
    have hq : Int.tdiv p b = a := by
      have hb1 := Int.natAbs_tdiv p b
      by_cases hm : p = -9223372036854775808 ∧ b = -1
      · obtain ⟨h1, h2⟩ := hm
        rw [h1, h2] at hd
        have e : wrap64 (Int.tdiv (-9223372036854775808) (-1)) = -9223372036854775808 := by decide +kernel
        rw [e] at hd
        exact absurd ⟨hd.symm, h2⟩ hs1
      · have hz : -9223372036854775808 ≤ Int.tdiv p b ∧ Int.tdiv p b ≤ 9223372036854775807 := by
          have h1 := Int.natAbs_tdiv_le_natAbs p b
          by_cases h2 : p = -9223372036854775808
          · have hbn : b ≠ -1 := fun h => hm ⟨h2, h⟩
            by_cases h3 : b = 1
            · rw [h2, h3]; decide +kernel
            · have h4 : 2 ≤ b.natAbs := by omega
              rw [h2] at hb1 ⊢
              have h5 : (-9223372036854775808 : Int).natAbs.div b.natAbs ≤ 9223372036854775808 / 2 := Nat.div_le_div_left h4 (by decide)
              rw [← hb1] at h5
              omega
          · omega
        rw [wrap64_id hz.1 hz.2] at hd
        exact hd
    have hmod := Int.tdiv_mul_add_tmod p b
    rw [hq] at hmod
    -- p = a * b + rest, the rest smaller than b: the wrap is whole
    have hrest : (Int.tmod p b).natAbs < b.natAbs := by rw [Int.natAbs_tmod]; exact Nat.mod_lt _ (by omega)
    obtain ⟨c, hc⟩ := wrap64_ex (a * b)
    rw [hp] at hc
    have : c = 0 := by omega
    rw [this] at hc
    omega
theorem j4_eq (n : Nat) {k v : Int} (ok : Bool) (hk : isK k) (hv : -9223372036854775808 ≤ v) (hv' : v ≤ 9223372036854775807) :
    burinref09_Two.j4 (n + 1) k v ok = some (if k % 2 = 0 ∨ ok = true ∧ conv k v = v then (conv k v, k, 0) else (0, 0, 90)) := by
  simp only [burinref09_Two.j4]
  rw [rto_yes hk v hv hv', runsigned_yes hk]
  simp only [Option.bind_some]
  by_cases hu : k % 2 = 0
  · rw [if_pos (decide_eq_true hu), if_pos (.inl hu)]
  · rw [if_neg (by simp [hu])]
    by_cases ho : ok = true
    · rw [if_pos ho]
      by_cases hc : conv k v = v
      · rw [if_pos hc, if_pos (.inr ⟨ho, hc⟩)]
      · rw [if_neg hc, if_neg (by simp [hu, hc])]
    · rw [if_neg ho, if_neg (by simp [hu, ho])]
/-- j4 of a word and a flag that tells whether it is the number: what fin tells of the number. -/
theorem j4_fin (n : Nat) {k v r : Int} (ok : Bool) (hk : isK k) (hr : v = wrap64 r) (ho : k % 2 = 0 ∨ (ok = true ↔ v = r)) : burinref09_Two.j4 (n + 1) k v ok = some (fin k r) := by
  have hv : -9223372036854775808 ≤ v ∧ v ≤ 9223372036854775807 := by rw [hr]; unfold wrap64; omega
  rw [j4_eq n ok hk hv.1 hv.2]
  have hc : conv k v = conv k r := conv_congr k (by rw [hr]; unfold wrap64; omega)
  rw [hc]
  congr 1
  unfold fin
  by_cases hu : k % 2 = 0
  · rw [if_pos (.inl hu), if_pos (.inl hu)]
  · have ho := ho.resolve_left hu
    rw [tv_odd (by omega)]
    have hcr := conv_range k r
    by_cases h : conv k r = r
    · have hvr : v = r := by rw [hr]; exact wrap64_id (by omega) (by omega)
      rw [if_pos (.inr ⟨ho.2 hvr, by rw [h, hvr]⟩), if_pos (.inr h)]
    · rw [if_neg (by
        rintro (h1 | ⟨h1, h2⟩)
        · exact hu h1
        · exact h (by rw [h2]; exact ho.1 h1)), if_neg (by simp [hu, h])]
theorem wrap64_range (x : Int) : -9223372036854775808 ≤ wrap64 x ∧ wrap64 x ≤ 9223372036854775807 := by unfold wrap64; omega
theorem plain_eq {op k a b : Int} (ho : op = 1 ∨ op = 2 ∨ op = 3 ∨ op = 8 ∨ op = 9 ∨ op = 10) (hk : isK k) (ha : -9223372036854775808 ≤ a) (ha' : a ≤ 9223372036854775807) (hb : -9223372036854775808 ≤ b) (hb' : b ≤ 9223372036854775807) :
    ∃ v ok r, burinref09_plain.f op a b = some (v, ok) ∧ two2 op k (tv k a) (tv k b) = fin k r ∧ v = wrap64 r ∧ (k % 2 = 0 ∨ (ok = true ↔ v = r)) := by
  have hm : ∀ r s : Int, r % 18446744073709551616 = s % 18446744073709551616 → wrap64 r = wrap64 s := fun r s h => by unfold wrap64; omega
  have ta := tv_congr k a
  have tb := tv_congr k b
  have todd : k % 2 = 0 ∨ (tv k a = a ∧ tv k b = b) := by
    by_cases hu : k % 2 = 0
    · exact .inl hu
    · exact .inr ⟨tv_odd (by omega), tv_odd (by omega)⟩
  unfold burinref09_plain.f
  rcases ho with rfl | rfl | rfl | rfl | rfl | rfl <;> simp only [Int.reduceEq, if_true, if_false]
  · have e2 : two2 1 k (tv k a) (tv k b) = fin k (tv k a + tv k b) := by unfold two2; rw [if_pos rfl]
    by_cases hd : (decide (a < 0) != decide (b < 0)) = true
    · rw [if_pos hd]
      refine ⟨_, _, _, rfl, e2, hm _ _ (by omega), ?_⟩
      rcases todd with h | ⟨h1, h2⟩
      · exact .inl h
      · right
        rw [h1, h2]
        simp only [true_iff]
        rw [bne_iff_ne, ne_eq, decide_eq_decide] at hd
        exact wrap64_id (by omega) (by omega)
    · rw [if_neg hd]
      refine ⟨_, _, _, rfl, e2, hm _ _ (by omega), ?_⟩
      rcases todd with h | ⟨h1, h2⟩
      · exact .inl h
      · right
        rw [h1, h2, beq_iff_eq, decide_eq_decide]
        rw [bne_iff_ne, ne_eq, decide_eq_decide, Classical.not_not] at hd
        unfold wrap64; omega
  · have e2 : two2 2 k (tv k a) (tv k b) = fin k (tv k a - tv k b) := by unfold two2; rw [if_neg (by decide), if_pos rfl]
    by_cases hd : (decide (a < 0) == decide (b < 0)) = true
    · rw [if_pos hd]
      refine ⟨_, _, _, rfl, e2, hm _ _ (by omega), ?_⟩
      rcases todd with h | ⟨h1, h2⟩
      · exact .inl h
      · right
        rw [h1, h2]
        simp only [true_iff]
        rw [beq_iff_eq, decide_eq_decide] at hd
        exact wrap64_id (by omega) (by omega)
    · rw [if_neg hd]
      refine ⟨_, _, _, rfl, e2, hm _ _ (by omega), ?_⟩
      rcases todd with h | ⟨h1, h2⟩
      · exact .inl h
      · right
        rw [h1, h2, beq_iff_eq, decide_eq_decide]
        rw [beq_iff_eq, decide_eq_decide] at hd
        unfold wrap64; omega
  · have e2 : two2 3 k (tv k a) (tv k b) = fin k (tv k a * tv k b) := by unfold two2; rw [if_neg (by decide), if_neg (by decide), if_pos rfl]
    rw [product_eq ha ha' hb hb']
    simp only [Option.bind_some]
    refine ⟨_, _, _, rfl, e2, hm _ _ ?_, ?_⟩
    · rw [Int.mul_emod, ← ta, ← tb, ← Int.mul_emod]
    · rcases todd with h | ⟨h1, h2⟩
      · exact .inl h
      · right; rw [h1, h2, decide_eq_true_eq]
  all_goals
    refine ⟨_, _, _, rfl, by unfold two2; rw [if_neg (by decide), if_neg (by decide), if_neg (by decide), if_neg (by decide), if_pos (by decide)], ?_, ?_⟩
    · first | rw [and_i64] | rw [xor_i64'] | rw [or_i64]
      have hl : ∀ o : Int, bop o (tv k a) (tv k b) = bop o a b := by
        intro o
        have l1 : lo (tv k a) = lo a := ta
        have l2 : lo (tv k b) = lo b := tb
        rw [← bop_lo, l1, l2, bop_lo]
      unfold bnum
      rw [hl]
      split
      · rfl
      · rw [wrap64_id (wrap64_range _).1 (wrap64_range _).2]
    · rcases todd with h | ⟨h1, h2⟩
      · exact .inl h
      · by_cases hu : k % 2 = 0
        · exact .inl hu
        · right
          rw [h1, h2]
          unfold bnum
          rw [if_neg (by omega)]
          first | rw [and_i64] | rw [xor_i64'] | rw [or_i64]
          simp

theorem tmod_small {x y : Int} (h0 : -9223372036854775808 ≤ x) (h1 : x ≤ 9223372036854775807) (hy : -9223372036854775808 ≤ y) (hy' : y ≤ 9223372036854775807) (h : y ≠ 0) :
    -9223372036854775808 ≤ Int.tmod x y ∧ Int.tmod x y ≤ 9223372036854775807 := by
  have b2 : (Int.tmod x y).natAbs < y.natAbs := by rw [Int.natAbs_tmod]; exact Nat.mod_lt _ (by omega)
  omega
theorem rdivided_eq {op k a b : Int} (ho : op = 4 ∨ op = 5) (ha : -9223372036854775808 ≤ a) (ha' : a ≤ 9223372036854775807) (hb : -9223372036854775808 ≤ b) (hb' : b ≤ 9223372036854775807) (h0 : b ≠ 0) :
    burinref09_Divided.f op k a b = some (wrap64 (if op = 4 then Int.tdiv (tv k a) (tv k b) else Int.tmod (tv k a) (tv k b))) := by
  unfold burinref09_Divided.f tv
  by_cases h8 : k = 8
  · rw [if_pos h8, if_pos h8, if_pos h8]
    simp only [wrap_u64]
    have hb0 : ¬ b % 18446744073709551616 = 0 := by omega
    rcases ho with rfl | rfl
    · rw [if_pos rfl, if_neg hb0, wrap64_u64, if_pos rfl]
    · rw [if_neg (by decide), if_neg hb0, if_neg (by decide)]
  · rw [if_neg h8, if_neg h8, if_neg h8]
    by_cases h1 : b = -1
    · subst h1
      rw [if_pos rfl]
      rcases ho with rfl | rfl
      · rw [if_pos rfl, if_pos rfl, Int.tdiv_neg, Int.tdiv_one]
      · rw [if_neg (by decide), if_neg (by decide), Int.tmod_neg, Int.tmod_one]; simp [wrap64]
    · rw [if_neg h1]
      rcases ho with rfl | rfl
      · rw [if_pos rfl, if_neg h0, if_pos rfl]
      · rw [if_neg (by decide), if_neg h0, if_neg (by decide)]
        have := tmod_small ha ha' hb hb' h0
        rw [wrap64_id this.1 this.2]
theorem j3_div (n : Nat) {op k a b : Int} (ho : op = 4 ∨ op = 5) (hk : isK k) (h5 : 5 ≤ k) (ca : conv k a = a) (cb : conv k b = b)
    (ha : -9223372036854775808 ≤ a) (ha' : a ≤ 9223372036854775807) (hb : -9223372036854775808 ≤ b) (hb' : b ≤ 9223372036854775807) :
    burinref09_Two.j3 (n + 2) op a b k true = some (two2 op k (tv k a) (tv k b)) := by
  have e : two2 op k (tv k a) (tv k b) = if tv k b = 0 then (0, 0, 90) else if tv k (conv k (Int.tdiv (tv k a) (tv k b))) = Int.tdiv (tv k a) (tv k b) then fin k (if op = 4 then Int.tdiv (tv k a) (tv k b) else Int.tmod (tv k a) (tv k b)) else (0, 0, 90) := by
    unfold two2; rw [if_neg (by omega), if_neg (by omega), if_neg (by omega), if_pos ho]
  rw [e]
  simp only [burinref09_Two.j3, if_true]
  by_cases hb0 : b = 0
  · have : tv k b = 0 := by subst hb0; unfold tv; split <;> rfl
    rw [if_pos hb0, if_pos this]
  have hy0 : tv k b ≠ 0 := by unfold tv; split <;> omega
  rw [if_neg hb0, if_neg hy0, rdivided_eq ho ha ha' hb hb' hb0, rdivided_eq (.inl rfl) ha ha' hb hb' hb0, if_pos rfl]
  simp only [Option.bind_some]
  rw [rlies_eq _ _ (wrap64_range _).1 (wrap64_range _).2]
  simp only [Option.bind_some]
  obtain ⟨q, hq⟩ : ∃ q, q = Int.tdiv (tv k a) (tv k b) := ⟨_, rfl⟩
  obtain ⟨r, hr⟩ : ∃ r, r = (if op = 4 then Int.tdiv (tv k a) (tv k b) else Int.tmod (tv k a) (tv k b)) := ⟨_, rfl⟩
  rw [← hr, ← hq]
  have hk4 : k = 5 ∨ k = 6 ∨ k = 7 ∨ k = 8 := by unfold isK at hk; omega
  have hcw : conv k (wrap64 q) = conv k q := conv_congr k (by unfold wrap64; omega)
  have hl : lies (wrap64 q) k = decide (conv k q = wrap64 q) := by
    unfold lies; rw [hcw]; unfold isK at hk
    rw [Bool.eq_iff_iff]; simp only [decide_eq_true_eq]; omega
  rw [hl]
  have habs := Int.natAbs_tdiv_le_natAbs (tv k a) (tv k b)
  rw [← hq] at habs
  by_cases hu : k % 2 = 0
  · -- unsigned: the quotient lies
    have hpos : 0 ≤ tv k a ∧ tv k a < 18446744073709551616 ∧ 0 ≤ tv k b ∧ (k = 6 → tv k a < 4294967296) := by
      rcases hk4 with rfl | rfl | rfl | rfl
      · omega
      · rw [tv_odd (by decide), tv_odd (by decide)]; simp [conv] at ca cb; omega
      · omega
      · unfold tv; rw [if_pos rfl, if_pos rfl]; omega
    have hq0 : 0 ≤ q := by rw [hq]; exact Int.tdiv_nonneg hpos.1 hpos.2.2.1
    have hcq : conv k q = wrap64 q := by
      rcases hk4 with rfl | rfl | rfl | rfl
      · omega
      · have := hpos.2.2.2 rfl
        simp [conv]; unfold wrap64; omega
      · omega
      · simp [conv, wrap64]
    have htq : tv k (conv k q) = q := by
      rw [hcq]
      rcases hk4 with rfl | rfl | rfl | rfl
      · omega
      · have := hpos.2.2.2 rfl
        rw [tv_odd (by decide)]; unfold wrap64; omega
      · omega
      · unfold tv wrap64; rw [if_pos rfl]; omega
    rw [if_pos (decide_eq_true hcq), if_pos htq, if_neg (by omega)]
    exact j4_fin n _ hk rfl (.inl hu)
  · have t1 : tv k a = a := tv_odd (by omega)
    have t2 : tv k b = b := tv_odd (by omega)
    have t3 : tv k (conv k q) = conv k q := tv_odd (by omega)
    rw [t3]
    rw [t1, t2] at hq hr
    rw [t1] at habs
    by_cases hs : q = 9223372036854775808
    · -- the one that is told by name
      have hab : a = -9223372036854775808 ∧ b = -1 := by
        have h1 : a.natAbs = 9223372036854775808 := by omega
        have h2 : a = -9223372036854775808 := by omega
        refine ⟨h2, ?_⟩
        have h3 := Int.natAbs_tdiv a b
        rw [← hq, hs, h1] at h3
        by_cases h4 : 2 ≤ b.natAbs
        · have h5 : (9223372036854775808 : Nat).div b.natAbs ≤ 9223372036854775808 / 2 := Nat.div_le_div_left h4 (by decide)
          rw [← h3] at h5
          exact absurd h5 (by decide)
        · by_cases h5 : b = 1
          · rw [hq, h2, h5] at hs; exact absurd hs (by decide +kernel)
          · omega
      have hk7 : k = 7 := by
        rcases hk4 with rfl | rfl | rfl | rfl
        · rw [hab.1] at ca; exact absurd ca (by decide +kernel)
        · omega
        · rfl
        · omega
      have hc : conv k q = wrap64 q := by rw [hk7, hs]; decide +kernel
      rw [if_pos (decide_eq_true hc), if_pos hk7, if_pos hab.1, if_neg (by rw [hk7, hs]; decide +kernel)]
      have hb1 : (!(b == -1)) = false := by rw [hab.2]; rfl
      rw [hb1, j4_eq n _ hk (wrap64_range _).1 (wrap64_range _).2, if_neg (by simp [hu])]
    · have hqr : -9223372036854775808 ≤ q ∧ q ≤ 9223372036854775807 := by omega
      have hwq : wrap64 q = q := wrap64_id hqr.1 hqr.2
      have hrr : -9223372036854775808 ≤ r ∧ r ≤ 9223372036854775807 := by
        rw [hr]; split
        · rw [← hq]; exact hqr
        · exact tmod_small ha ha' hb hb' hb0
      have hwr : wrap64 r = r := wrap64_id hrr.1 hrr.2
      rw [hwq, hwr]
      by_cases hc : conv k q = q
      · rw [if_pos (decide_eq_true hc), if_pos hc]
        have hj : ∀ ok, ok = true → burinref09_Two.j4 (n + 1) k r ok = some (fin k r) := fun ok h => j4_fin n ok hk hwr.symm (.inr ⟨fun _ => rfl, fun _ => h⟩)
        by_cases h7 : k = 7
        · rw [if_pos h7]
          by_cases hm : a = -9223372036854775808
          · rw [if_pos hm]
            refine hj _ ?_
            have : b ≠ -1 := by
              rintro rfl
              rw [hm, Int.tdiv_neg, Int.tdiv_one] at hq
              omega
            have : (b == -1) = false := beq_eq_false_iff_ne.mpr this
            rw [this]; rfl
          · rw [if_neg hm]; exact hj _ rfl
        · rw [if_neg h7]; exact hj _ rfl
      · rw [if_neg (by simp [hc]), if_neg hc, j4_eq n _ hk hrr.1 hrr.2, if_neg (by simp [hu])]
theorem rtwo_eq (n : Nat) (op a ak b bk : Int) (ha : -9223372036854775808 ≤ a) (ha' : a ≤ 9223372036854775807) (hb : -9223372036854775808 ≤ b) (hb' : b ≤ 9223372036854775807) :
    burinref09_Two.f (n + 8) op a ak b bk = some (two op a ak b bk) := by
  unfold burinref09_Two.f two
  have hB : burinref09_Binary.f op = some (decide (1 ≤ op ∧ op ≤ 14)) := by
    unfold burinref09_Binary.f
    by_cases h : op ≥ 1
    · rw [if_pos h]; congr 1; rw [Bool.eq_iff_iff]; simp; intro; omega
    · rw [if_neg h]; congr 1; symm; exact decide_eq_false (by omega)
  rw [hB]
  simp only [Option.bind_some]
  by_cases ho : 1 ≤ op ∧ op ≤ 14
  · rw [if_pos (decide_eq_true ho), if_pos ho, rlies_eq a ak ha ha', rlies_eq b bk hb hb']
    simp only [Option.bind_some]
    by_cases hla : lies a ak = true
    · by_cases hlb : lies b bk = true
      · rw [if_pos hla, if_pos ⟨hla, hlb⟩, hlb]
        obtain ⟨hka, hca⟩ := lies_isK hla
        obtain ⟨hkb, hcb⟩ := lies_isK hlb
        obtain ⟨hk, h5⟩ := inK_isK op hka hkb
        simp only [burinref09_Two.j0]
        rw [if_neg (by decide), rIn_eq (n + 2) ho hka hkb]
        simp only [Option.bind_some]
        by_cases hs : op = 6 ∨ op = 7
        · rw [if_pos hs]
          have hik : inK op ak bk = prom ak := by unfold inK; rw [if_pos hs]
          rw [hik] at hk h5 ⊢
          have hj : burinref09_Two.j1 (n + 7) op a b (prom ak) true = some (twoS op (prom ak) (tv (prom ak) (conv (prom ak) a)) b) := by
            rw [conv_prom hla]
            simp only [burinref09_Two.j1, if_true]
            have hw := wd_range hk
            by_cases hb0 : b < 0
            · rw [if_pos hb0]
              simp only [burinref09_Two.j2, if_true]
              unfold twoS; rw [if_pos (.inl hb0)]
            · rw [if_neg hb0, rsize_eq hk (n + 3)]
              simp only [Option.bind_some]
              have h8 : wrap64 (8 * (wd (prom ak) / 8)) = wd (prom ak) := by rcases hw with h | h | h | h <;> rw [h] <;> decide +kernel
              rw [h8]
              simp only [burinref09_Two.j2]
              by_cases hbw : b ≥ wd (prom ak)
              · rw [if_pos (decide_eq_true hbw)]
                unfold twoS; rw [if_pos (.inr hbw)]
              · rw [if_neg (by simp; omega)]
                obtain ⟨v, ok, h1, h2⟩ := rshift_eq hs hk h5 (conv_prom hla) ha ha' (by omega) (by omega : b < wd (prom ak))
                rw [h1]
                simp only [Option.bind_some]
                rw [← h2]; split <;> rfl
          rcases hs with rfl | rfl
          · rw [if_pos rfl]; exact hj
          · rw [if_neg (by decide)]; exact hj
        · rw [if_neg hs, if_neg (by omega)]
          have h7 : (op == 7) = false := beq_eq_false_iff_ne.mpr (by omega)
          rw [h7]
          simp only [burinref09_Two.j1]
          rw [if_neg (by decide), rto_yes hk a ha ha', rto_yes hk b hb hb']
          simp only [Option.bind_some]
          have ca := conv_range (inK op ak bk) a
          have cb := conv_range (inK op ak bk) b
          have hT : burinref09_isTruth.f op = some (decide (11 ≤ op)) := by
            unfold burinref09_isTruth.f
            by_cases h1 : op ≥ 11
            · rw [if_pos h1, if_pos ho.2]; congr 1; symm; exact decide_eq_true h1
            · rw [if_neg h1]; congr 1
              rw [decide_eq_false (by omega), beq_eq_false_iff_ne]; omega
          rw [hT]
          simp only [Option.bind_some]
          by_cases ht : 11 ≤ op
          · rw [if_pos (decide_eq_true ht), rcompared_eq ⟨ht, ho.2⟩ ca.1 ca.2 cb.1 cb.2]
            simp only [Option.bind_some]
            unfold two2
            rw [if_neg (by omega), if_neg (by omega), if_neg (by omega), if_neg (by omega), if_neg (by omega)]
          · rw [if_neg (by simp; omega)]
            by_cases hd : op = 4 ∨ op = 5
            · have hj := j3_div (n + 4) hd hk h5 (conv_conv hk a) (conv_conv hk b) ca.1 ca.2 cb.1 cb.2
              rcases hd with rfl | rfl
              · rw [if_pos rfl]; exact hj
              · rw [if_neg (by decide)]; exact hj
            · have h5' : (op == 5) = false := beq_eq_false_iff_ne.mpr (by omega)
              rw [if_neg (by omega), h5']
              simp only [burinref09_Two.j3]
              rw [if_neg (by decide)]
              obtain ⟨v, ok, r, h1, h2, h3, h4⟩ := plain_eq (op := op) (by omega) hk ca.1 ca.2 cb.1 cb.2
              rw [h1, h2]
              simp only [Option.bind_some]
              exact j4_fin (n + 4) ok hk h3 h4
      · have hlb' : lies b bk = false := by simpa using hlb
        rw [if_pos hla, hlb', if_neg (by simp)]
        simp only [burinref09_Two.j0, Bool.not_false, if_true]
    · rw [if_neg hla, if_neg (by simp [hla])]
      simp only [burinref09_Two.j0, if_true]
  · rw [if_neg (by simp; omega), if_neg ho]

end Go.Proofs.Ytbbepiechehojaa.Pure
