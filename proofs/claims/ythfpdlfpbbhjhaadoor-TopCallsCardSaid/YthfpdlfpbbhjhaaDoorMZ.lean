import Derived.Test.YthfpdlfpbbhjhaaDoorA0
import Derived.Test.YthfpdlfpbbhjhaaDoorA1
import Derived.Test.YthfpdlfpbbhjhaaDoorA2
import Derived.Test.YthfpdlfpbbhjhaaDoorA3
import Derived.Test.YthfpdlfpbbhjhaaDoorA4
import Derived.Test.YthfpdlfpbbhjhaaDoorA5
import Derived.Test.YthfpdlfpbbhjhaaDoorA6
import Derived.Test.YthfpdlfpbbhjhaaDoorA7
import Derived.Test.YthfpdlfpbbhjhaaDoorA8
import Derived.Test.YthfpdlfpbbhjhaaDoorA9
import Derived.Test.YthfpdlfpbbhjhaaDoorA10
namespace Go.Proofs.YthfpdlfpbbhjhaaDoor.Pure
open Go.RowKit Go.Proofs.YthfpdlfpbbhjhaaDoorX Go.Proofs.YthfpdlfpbbhjhaaDoor.PA Go.Proofs.YthfpdlfpbbhjhaaDoorW.PrintWords Go.Proofs.YthfpdlfpbbhjhaaDoorW.PrintLast Go.Proofs.YthfpdlfpbbhjhaaDoorW.PrintMore
set_option linter.unusedVariables false
set_option linter.unusedSimpArgs false
theorem wrap_u64 (n : Int) : IntKind.u64.wrap n = n % 18446744073709551616 := by simp [IntKind.wrap, IntKind.bits, IntKind.signed]
theorem wrap_i64 (n : Int) : IntKind.i64.wrap n = wrap64 n := i64_w n
theorem wf_i64 {n : Int} (h : (Lit.int .i64 n).wf = true) : -9223372036854775808 ≤ n ∧ n ≤ 9223372036854775807 := by
  simpa [Lit.wf, IntKind.min, IntKind.max, IntKind.signed, IntKind.bits] using h
def conv (k v : Int) : Int :=
  if k = 1 then (v + 128) % 256 - 128 else if k = 2 then v % 256 else if k = 3 then (v + 32768) % 65536 - 32768 else if k = 4 then v % 65536
  else if k = 5 then (v + 2147483648) % 4294967296 - 2147483648 else if k = 6 then v % 4294967296 else (v + 9223372036854775808) % 18446744073709551616 - 9223372036854775808
def tv (k v : Int) : Int := if k = 8 then v % 18446744073709551616 else v
def wd (k : Int) : Int := if k = 1 ∨ k = 2 then 8 else if k = 3 ∨ k = 4 then 16 else if k = 5 ∨ k = 6 then 32 else 64
def isK (k : Int) : Prop := 1 ≤ k ∧ k ≤ 8
theorem isK_cases {k : Int} (h : isK k) : k = 1 ∨ k = 2 ∨ k = 3 ∨ k = 4 ∨ k = 5 ∨ k = 6 ∨ k = 7 ∨ k = 8 := by
  unfold isK at h
  omega
theorem is_yes {k : Int} (h : isK k) : kind_is.f k = some true := by
  obtain ⟨h1, h2⟩ := h
  unfold kind_is.f; rw [if_pos (by omega)]; simp [h2]
theorem is_no {k : Int} (h : ¬ isK k) : kind_is.f k = some false := by
  unfold kind_is.f isK at *
  split
  · have : ¬ k ≤ 8 := by omega
    simp [this]
  · rfl
theorem size_yes {k : Int} (h : isK k) : kind_Size.f k = some (wd k / 8) := by
  unfold kind_Size.f
  rw [is_yes h]
  rcases isK_cases h with rfl | rfl | rfl | rfl | rfl | rfl | rfl | rfl <;> decide +kernel
theorem size_no {k : Int} (h : ¬ isK k) : kind_Size.f k = some 0 := by
  unfold kind_Size.f
  rw [is_no h]; rfl
theorem unsigned_yes {k : Int} (h : isK k) : kind_Unsigned.f k = some (decide (k % 2 = 0)) := by
  unfold kind_Unsigned.f
  rw [is_yes h]
  rcases isK_cases h with rfl | rfl | rfl | rfl | rfl | rfl | rfl | rfl <;> decide +kernel
theorem to_yes {k : Int} (h : isK k) (v : Int) (h0 : -9223372036854775808 ≤ v) (h1 : v ≤ 9223372036854775807) : kind_To.f v k = some (conv k v, 0) := by
  unfold kind_To.f
  rw [is_yes h, size_yes h, unsigned_yes h]
  rcases isK_cases h with rfl | rfl | rfl | rfl | rfl | rfl | rfl | rfl <;>
    simp [wd, wrap64, shl, shr, wrap_u64, wrap_i64, conv, IntKind.bits] <;> omega
theorem to_no {k : Int} (h : ¬ isK k) (v : Int) : kind_To.f v k = some (0, 80) := by
  unfold kind_To.f
  rw [is_no h]; rfl
def lies (v k : Int) : Bool := decide (1 ≤ k ∧ k ≤ 8 ∧ conv k v = v)
theorem lies_eq (v k : Int) (h0 : -9223372036854775808 ≤ v) (h1 : v ≤ 9223372036854775807) : kind_Lies.f v k = some (lies v k) := by
  unfold kind_Lies.f
  by_cases h : isK k
  · rw [to_yes h v h0 h1]
    obtain ⟨a, b⟩ := h
    simp [lies, a, b]
    rw [Bool.eq_iff_iff]; simp; exact eq_comm
  · rw [to_no h]
    have : lies v k = false := by simp only [lies, decide_eq_false_iff_not]; intro hh; exact h ⟨hh.1, hh.2.1⟩
    rw [this]; rfl
theorem lies_isK {v k : Int} (h : lies v k = true) : isK k ∧ conv k v = v := by
  simp only [lies, decide_eq_true_eq] at h
  exact ⟨⟨h.1, h.2.1⟩, h.2.2⟩
def hi (r : Int) : Int := wrap64 (r / 18446744073709551616)
def lo (r : Int) : Int := r % 18446744073709551616
theorem lo_nonneg (r : Int) : 0 ≤ lo r ∧ lo r < 18446744073709551616 := by unfold lo; omega
theorem hi_range (r : Int) : -9223372036854775808 ≤ hi r ∧ hi r ≤ 9223372036854775807 := by unfold hi wrap64; omega
theorem of_eq (v k : Int) (h0 : -9223372036854775808 ≤ v) (h1 : v ≤ 9223372036854775807) : arith_of.f v k = some (hi (tv k v), lo (tv k v)) := by
  unfold arith_of.f tv hi lo
  rw [wrap_u64]
  split
  · congr 2
    · unfold wrap64; omega
    · omega
  · congr 2
    unfold wrap64; omega
theorem addLo_eq {x y : Int} (hx : 0 ≤ x) (hy : 0 ≤ y) : addLo x y = (x + y) % 18446744073709551616 := by unfold addLo; omega
theorem addHi_eq {x y : Int} (hx : 0 ≤ x) (hy : 0 ≤ y) : addHi x y = (x + y) / 18446744073709551616 := by unfold addHi; omega
theorem add_eq (x y : Int) : arith_wide_add.f (hi x) (lo x) (hi y) (lo y) = some (hi (x + y), lo (x + y)) := by
  unfold arith_wide_add.f
  rw [addLo_eq (lo_nonneg x).1 (lo_nonneg y).1, addHi_eq (lo_nonneg x).1 (lo_nonneg y).1]
  congr 2
  · unfold hi lo wrap64; omega
  · unfold lo; omega
theorem bits_xor_i64 (x y : Int) : Go.bits .xor .i64 x y = IntKind.i64.wrap ((BitVec.ofInt 64 x ^^^ BitVec.ofInt 64 y).toNat : Int) := rfl
theorem bits_and_i64 (x y : Int) : Go.bits .and .i64 x y = IntKind.i64.wrap ((BitVec.ofInt 64 x &&& BitVec.ofInt 64 y).toNat : Int) := rfl
theorem bits_or_i64 (x y : Int) : Go.bits .or .i64 x y = IntKind.i64.wrap ((BitVec.ofInt 64 x ||| BitVec.ofInt 64 y).toNat : Int) := rfl
theorem bits_xor_u64 (x y : Int) : Go.bits .xor .u64 x y = IntKind.u64.wrap ((BitVec.ofInt 64 x ^^^ BitVec.ofInt 64 y).toNat : Int) := rfl
theorem bits_and_u64 (x y : Int) : Go.bits .and .u64 x y = IntKind.u64.wrap ((BitVec.ofInt 64 x &&& BitVec.ofInt 64 y).toNat : Int) := rfl
theorem bits_or_u64 (x y : Int) : Go.bits .or .u64 x y = IntKind.u64.wrap ((BitVec.ofInt 64 x ||| BitVec.ofInt 64 y).toNat : Int) := rfl
theorem xor_i64 {a : Int} (h0 : -9223372036854775808 ≤ a) (h1 : a ≤ 9223372036854775807) : Go.bits .xor .i64 (-1) a = -1 - a := by
  have e : BitVec.ofInt 64 (-1) = BitVec.allOnes 64 := by decide
  rw [bits_xor_i64, e, BitVec.allOnes_xor, BitVec.toNat_not, BitVec.toNat_ofInt, wrap_i64]
  unfold wrap64
  omega
theorem xor_u64 {a : Int} (h0 : 0 ≤ a) (h1 : a < 18446744073709551616) : Go.bits .xor .u64 18446744073709551615 a = 18446744073709551615 - a := by
  have e : BitVec.ofInt 64 18446744073709551615 = BitVec.allOnes 64 := by decide
  rw [bits_xor_u64, e, BitVec.allOnes_xor, BitVec.toNat_not, BitVec.toNat_ofInt, wrap_u64]
  omega
theorem not_eq (x : Int) : Go.bits .xor .i64 (-1) (hi x) = hi (-x - 1) ∧ Go.bits .xor .u64 18446744073709551615 (lo x) = lo (-x - 1) := by
  rw [xor_i64 (hi_range x).1 (hi_range x).2, xor_u64 (lo_nonneg x).1 (lo_nonneg x).2]
  unfold hi lo wrap64
  omega
theorem neg_eq (x : Int) : arith_wide_neg.f (hi x) (lo x) = some (hi (-x), lo (-x)) := by
  unfold arith_wide_neg.f
  rw [(not_eq x).1, (not_eq x).2]
  have h := add_eq (-x - 1) 1
  have h1 : hi 1 = 0 := by unfold hi wrap64; omega
  have h2 : lo 1 = 1 := by unfold lo; omega
  rw [h1, h2] at h
  rw [h]
  simp only [Option.bind_some]
  have e : -x - 1 + 1 = -x := by omega
  rw [e]
theorem and_mask {a : Int} (h0 : 0 ≤ a) (h1 : a < 18446744073709551616) : Go.bits .and .u64 a 4294967295 = a % 4294967296 := by
  rw [bits_and_u64, BitVec.toNat_and, BitVec.toNat_ofInt, BitVec.toNat_ofInt, wrap_u64]
  have e : (4294967295 % ((2 ^ 64 : Nat) : Int)).toNat = 2 ^ 32 - 1 := by decide
  rw [e, Nat.and_two_pow_sub_one_eq_mod]
  omega
theorem mul64_eq {a b : Int} (h0 : 0 ≤ a) (h1 : a < 18446744073709551616) (k0 : 0 ≤ b) (k1 : b < 18446744073709551616) :
    bits_Mul64.f a b = some ((a * b) / 18446744073709551616, (a * b) % 18446744073709551616) := by
  unfold bits_Mul64.f
  have bd : ∀ x y : Int, 0 ≤ x → x ≤ 4294967295 → 0 ≤ y → y ≤ 4294967295 → 0 ≤ x * y ∧ x * y ≤ 18446744065119617025 := by
    intro x y hx hx' hy hy'
    exact ⟨Int.mul_nonneg hx hy, Int.le_trans (Int.mul_le_mul hx' hy' hy (by decide)) (by decide)⟩
  obtain ⟨x1, hx1⟩ : ∃ x, x = a / 4294967296 := ⟨_, rfl⟩
  obtain ⟨x0, hx0⟩ : ∃ x, x = a % 4294967296 := ⟨_, rfl⟩
  obtain ⟨y1, hy1⟩ : ∃ x, x = b / 4294967296 := ⟨_, rfl⟩
  obtain ⟨y0, hy0⟩ : ∃ x, x = b % 4294967296 := ⟨_, rfl⟩
  have p11 := bd x1 y1 (by omega) (by omega) (by omega) (by omega)
  have p10 := bd x1 y0 (by omega) (by omega) (by omega) (by omega)
  have p01 := bd x0 y1 (by omega) (by omega) (by omega) (by omega)
  have p00 := bd x0 y0 (by omega) (by omega) (by omega) (by omega)
  have ea : a = 4294967296 * x1 + x0 := by omega
  have eb : b = 4294967296 * y1 + y0 := by omega
  have e : a * b = 18446744073709551616 * (x1 * y1) + 4294967296 * (x1 * y0 + x0 * y1) + x0 * y0 := by
    rw [ea, eb]; grind
  have m1 : ∀ z : Int, 0 ≤ z → z ≤ 18446744073709551615 → IntKind.u64.wrap z = z := fun z h h' => by rw [wrap_u64]; omega
  rw [and_mask h0 h1, and_mask k0 k1, ← hx1, ← hx0, ← hy1, ← hy0]
  rw [m1 (x1 * y1) (by omega) (by omega), m1 (x1 * y0) (by omega) (by omega), m1 (x0 * y1) (by omega) (by omega), m1 (x0 * y0) (by omega) (by omega)]
  rw [m1 (x1 * y0 + _) (by omega) (by omega)]
  rw [and_mask (by omega) (by omega), wrap_u64 (a * b), e]
  rw [m1 (x1 * y1 + _) (by omega) (by omega), m1 (_ + x0 * y1) (by omega) (by omega), m1 _ (by omega) (by omega)]
  congr 2
  omega
theorem wrap64_ex (a : Int) : ∃ c, wrap64 a = a + 18446744073709551616 * c := ⟨-((a + 9223372036854775808) / 18446744073709551616), by unfold wrap64; omega⟩
theorem wrap64_more (a c : Int) : wrap64 (a + 18446744073709551616 * c) = wrap64 a := by unfold wrap64; omega
theorem mul_eq (x y : Int) : arith_wide_mul.f (hi x) (lo x) (hi y) (lo y) = some (hi (x * y), lo (x * y)) := by
  unfold arith_wide_mul.f
  have hx := lo_nonneg x
  have hy := lo_nonneg y
  rw [mul64_eq hx.1 hx.2 hy.1 hy.2]
  simp only [Option.bind_some]
  obtain ⟨p, hp⟩ : ∃ p, p = x / 18446744073709551616 := ⟨_, rfl⟩
  obtain ⟨q, hq⟩ : ∃ q, q = y / 18446744073709551616 := ⟨_, rfl⟩
  obtain ⟨c1, h1⟩ := wrap64_ex p
  obtain ⟨c2, h2⟩ := wrap64_ex q
  obtain ⟨c3, h3⟩ := wrap64_ex (lo x)
  obtain ⟨c4, h4⟩ := wrap64_ex (lo y)
  have ex : x = 18446744073709551616 * p + lo x := by unfold lo; omega
  have ey : y = 18446744073709551616 * q + lo y := by unfold lo; omega
  have hhx : hi x = p + 18446744073709551616 * c1 := by rw [← h1, hp]; rfl
  have hhy : hi y = q + 18446744073709551616 * c2 := by rw [← h2, hq]; rfl
  have e : x * y = 18446744073709551616 * (18446744073709551616 * (p * q) + p * lo y + q * lo x) + lo x * lo y := by
    conv => lhs; rw [ex, ey]
    grind
  have e1 : hi x * wrap64 (lo y) = p * lo y + 18446744073709551616 * (c1 * lo y + p * c4 + 18446744073709551616 * (c1 * c4)) := by
    rw [hhx, h4]; grind
  have e2 : hi y * wrap64 (lo x) = q * lo x + 18446744073709551616 * (c2 * lo x + q * c3 + 18446744073709551616 * (c2 * c3)) := by
    rw [hhy, h3]; grind
  rw [e1, e2, wrap64_more, wrap64_more]
  congr 2
  · unfold hi
    rw [e]
    generalize p * lo y = A
    generalize q * lo x = B
    generalize lo x * lo y = C
    generalize p * q = D
    unfold wrap64
    omega
  · have : lo (x * y) = (x * y) % 18446744073709551616 := rfl
    rw [this, e]
    omega
theorem conv_congr (k : Int) {a b : Int} (h : a % 18446744073709551616 = b % 18446744073709551616) : conv k a = conv k b := by
  unfold conv
  split
  · omega
  split
  · omega
  split
  · omega
  split
  · omega
  split
  · omega
  split
  · omega
  omega
theorem conv_range (k a : Int) : -9223372036854775808 ≤ conv k a ∧ conv k a ≤ 9223372036854775807 := by
  unfold conv
  repeat (split; omega)
  omega
theorem rep_inj {a b : Int} (ha : -170141183460469231731687303715884105728 ≤ a) (ha' : a < 170141183460469231731687303715884105728) (hb : -170141183460469231731687303715884105728 ≤ b) (hb' : b < 170141183460469231731687303715884105728) :
    (hi a == hi b && lo a == lo b) = decide (a = b) := by
  rw [Bool.eq_iff_iff]
  simp only [Bool.and_eq_true, beq_iff_eq, decide_eq_true_eq]
  constructor
  · unfold hi lo wrap64; omega
  · rintro rfl; exact ⟨rfl, rfl⟩
theorem hi_small {x : Int} (h0 : -18446744073709551616 ≤ x) (h1 : x < 18446744073709551616) : hi x = if x < 0 then -1 else 0 := by
  unfold hi wrap64; split <;> omega
theorem lo_small {x : Int} (h0 : 0 ≤ x) (h1 : x < 18446744073709551616) : lo x = x := by unfold lo; omega
theorem div_pos {x y : Int} (hx : 0 ≤ x) (hx' : x < 18446744073709551616) (hy : 0 < y) : 0 ≤ x / y ∧ x / y < 18446744073709551616 ∧ 0 ≤ x % y ∧ x % y < 18446744073709551616 := by
  have h1 : 0 ≤ x / y := Int.ediv_nonneg hx (by omega)
  have h2 : x / y ≤ x := Int.ediv_le_self _ hx
  have h3 := Int.emod_nonneg x (by omega : y ≠ 0)
  have h4 : x % y ≤ x := by have := Int.mul_ediv_add_emod x y; have : 0 ≤ y * (x / y) := Int.mul_nonneg (by omega) h1; omega
  omega
theorem divided_eq (n : Nat) {x y : Int} (hx : -9223372036854775808 ≤ x) (hx' : x < 18446744073709551616) (hy : -9223372036854775808 ≤ y) (hy' : y < 18446744073709551616) (h : y ≠ 0) :
    arith_divided.f (n + 4) (hi x) (lo x) (hi y) (lo y) = some (hi (Int.tdiv x y), lo (Int.tdiv x y), hi (Int.tmod x y), lo (Int.tmod x y)) := by
  have hsx := hi_small (x := x) (by omega) hx'
  have hsy := hi_small (x := y) (by omega) hy'
  -- what is left, once both are made positive
  have key : ∀ X Y : Int, 0 ≤ X → X < 18446744073709551616 → 0 < Y → Y < 18446744073709551616 →
      arith_divided.j1 (n + 3) (hi x) (lo x) (hi y) (lo y) (hi X) (lo X) (hi Y) (lo Y) =
      some (hi (if hi x = hi y then X / Y else -(X / Y)), lo (if hi x = hi y then X / Y else -(X / Y)), hi (if hi x < 0 then -(X % Y) else X % Y), lo (if hi x < 0 then -(X % Y) else X % Y)) := by
    intro X Y h1 h2 h3 h4
    obtain ⟨d1, d2, d3, d4⟩ := div_pos h1 h2 h3
    simp only [arith_divided.j1]
    rw [lo_small (by omega) h4, lo_small h1 h2, if_neg (by omega), Int.tdiv_eq_ediv_of_nonneg h1, Int.tmod_eq_emod_of_nonneg h1, wrap_u64]
    have e : X / Y % 18446744073709551616 = lo (X / Y) := rfl
    have e2 : X % Y = lo (X % Y) := (lo_small d3 d4).symm
    have e3 : (0 : Int) = hi (X / Y) := by rw [hi_small (by omega) d2, if_neg (by omega)]
    have e4 : (0 : Int) = hi (X % Y) := by rw [hi_small (by omega) d4, if_neg (by omega)]
    have j2 : ∀ q : Int, arith_divided.j2 (n + 2) (hi x) (lo x) (hi q) (lo q) 0 (X % Y) = some (hi q, lo q, hi (if hi x < 0 then -(X % Y) else X % Y), lo (if hi x < 0 then -(X % Y) else X % Y)) := by
      intro q
      simp only [arith_divided.j2]
      have en : arith_wide_neg.f 0 (X % Y) = some (hi (-(X % Y)), lo (-(X % Y))) := by
        have := neg_eq (X % Y)
        rwa [← e4, ← e2] at this
      by_cases hs : hi x < 0
      · rw [if_pos hs, en]; simp only [Option.bind_some]; rw [if_pos hs]
      · rw [if_neg hs]; simp only [if_neg hs]; rw [← e4, ← e2]
    rw [e]
    by_cases hxy : hi x = hi y
    · rw [if_pos hxy]
      have := j2 (X / Y)
      rw [← e3] at this
      rw [this]; simp only [if_pos hxy]; rw [← e3]
    · rw [if_neg hxy]
      have en : arith_wide_neg.f 0 (lo (X / Y)) = some (hi (-(X / Y)), lo (-(X / Y))) := by
        have := neg_eq (X / Y)
        rwa [← e3] at this
      rw [en]; simp only [Option.bind_some]
      rw [j2]; simp only [if_neg hxy]
  have e0 : hi x < 0 ↔ x < 0 := by rw [hsx]; split <;> omega
  have e1 : hi y < 0 ↔ y < 0 := by rw [hsy]; split <;> omega
  unfold arith_divided.f
  have j0 : ∀ X : Int, 0 ≤ X → X < 18446744073709551616 → arith_divided.j0 (n + 4) (hi x) (lo x) (hi y) (lo y) (hi X) (lo X) (hi y) (lo y) =
      some (hi (if hi x = hi y then X / (if y < 0 then -y else y) else -(X / (if y < 0 then -y else y))), lo (if hi x = hi y then X / (if y < 0 then -y else y) else -(X / (if y < 0 then -y else y))),
        hi (if hi x < 0 then -(X % (if y < 0 then -y else y)) else X % (if y < 0 then -y else y)), lo (if hi x < 0 then -(X % (if y < 0 then -y else y)) else X % (if y < 0 then -y else y))) := by
    intro X h1 h2
    simp only [arith_divided.j0]
    by_cases hs : hi y < 0
    · have hy0 := e1.1 hs
      rw [if_pos hs, neg_eq]; simp only [Option.bind_some]
      rw [key X (-y) h1 h2 (by omega) (by omega), if_pos (e1.1 hs)]
    · have hy0 : ¬ y < 0 := fun hh => hs (e1.2 hh)
      rw [if_neg hs, key X y h1 h2 (by omega) hy', if_neg hy0]
  have fin : ∀ a b c d : Int, a = c → b = d → (some (hi a, lo a, hi b, lo b) : Option (Int × Int × Int × Int)) = some (hi c, lo c, hi d, lo d) := by
    rintro a b c d rfl rfl; rfl
  by_cases hs : hi x < 0
  · rw [if_pos hs, neg_eq]; simp only [Option.bind_some]
    have hx0 := e0.1 hs
    rw [j0 (-x) (by omega) (by omega)]
    simp only [if_pos hs]
    refine fin _ _ _ _ ?_ ?_
    · by_cases hy0 : y < 0
      · rw [if_pos (by rw [hsx, hsy, if_pos hx0, if_pos hy0]), if_pos hy0]
        rw [← Int.tdiv_eq_ediv_of_nonneg (by omega), Int.neg_tdiv, Int.tdiv_neg, Int.neg_neg]
      · rw [if_neg (by rw [hsx, hsy, if_pos hx0, if_neg hy0]; decide), if_neg hy0]
        rw [← Int.tdiv_eq_ediv_of_nonneg (by omega), Int.neg_tdiv, Int.neg_neg]
    · by_cases hy0 : y < 0
      · rw [if_pos hy0, ← Int.tmod_eq_emod_of_nonneg (by omega), Int.neg_tmod, Int.tmod_neg, Int.neg_neg]
      · rw [if_neg hy0, ← Int.tmod_eq_emod_of_nonneg (by omega), Int.neg_tmod, Int.neg_neg]
  · rw [if_neg hs]
    have hx0 : ¬ x < 0 := fun hh => hs (e0.2 hh)
    rw [j0 x (by omega) hx']
    simp only [if_neg hs]
    refine fin _ _ _ _ ?_ ?_
    · by_cases hy0 : y < 0
      · rw [if_neg (by rw [hsx, hsy, if_neg hx0, if_pos hy0]; decide), if_pos hy0]
        rw [← Int.tdiv_eq_ediv_of_nonneg (by omega), Int.tdiv_neg, Int.neg_neg]
      · rw [if_pos (by rw [hsx, hsy, if_neg hx0, if_neg hy0]), if_neg hy0]
        rw [← Int.tdiv_eq_ediv_of_nonneg (by omega)]
    · by_cases hy0 : y < 0
      · rw [if_pos hy0, ← Int.tmod_eq_emod_of_nonneg (by omega), Int.tmod_neg]
      · rw [if_neg hy0, ← Int.tmod_eq_emod_of_nonneg (by omega)]
def bop (op x y : Int) : Int := if op = 8 then Go.bits .and .u64 (lo x) (lo y) else if op = 9 then Go.bits .xor .u64 (lo x) (lo y) else Go.bits .or .u64 (lo x) (lo y)
theorem ofInt_lo (x : Int) : BitVec.ofInt 64 (lo x) = BitVec.ofInt 64 x := by
  apply BitVec.eq_of_toNat_eq
  rw [BitVec.toNat_ofInt, BitVec.toNat_ofInt]
  unfold lo
  omega
theorem wrap64_u64 (n : Int) : wrap64 (n % 18446744073709551616) = wrap64 n := by unfold wrap64; omega
theorem and_i64 (x y : Int) : Go.bits .and .i64 x y = wrap64 (bop 8 x y) := by
  unfold bop
  rw [if_pos rfl, bits_and_i64, bits_and_u64, ofInt_lo, ofInt_lo, wrap_i64, wrap_u64, wrap64_u64]
theorem xor_i64' (x y : Int) : Go.bits .xor .i64 x y = wrap64 (bop 9 x y) := by
  unfold bop
  rw [if_neg (by decide), if_pos rfl, bits_xor_i64, bits_xor_u64, ofInt_lo, ofInt_lo, wrap_i64, wrap_u64, wrap64_u64]
theorem or_i64 (x y : Int) : Go.bits .or .i64 x y = wrap64 (bop 10 x y) := by
  unfold bop
  rw [if_neg (by decide), if_neg (by decide), bits_or_i64, bits_or_u64, ofInt_lo, ofInt_lo, wrap_i64, wrap_u64, wrap64_u64]
theorem bop_range (op x y : Int) : 0 ≤ bop op x y ∧ bop op x y < 18446744073709551616 := by
  unfold bop
  split
  · rw [bits_and_u64, wrap_u64]; omega
  split
  · rw [bits_xor_u64, wrap_u64]; omega
  · rw [bits_or_u64, wrap_u64]; omega
theorem msb_word {x : Int} : (BitVec.ofInt 64 x).msb = decide (wrap64 x < 0) := by
  rw [BitVec.msb_eq_decide, BitVec.toNat_ofInt]
  rw [Bool.eq_iff_iff]
  simp only [decide_eq_true_eq]
  unfold wrap64
  omega
theorem msb_nat {v : BitVec 64} : v.msb = decide (wrap64 (v.toNat : Int) < 0) := by
  rw [BitVec.msb_eq_decide]
  rw [Bool.eq_iff_iff]
  simp only [decide_eq_true_eq]
  have := v.isLt
  unfold wrap64
  omega
theorem bop_neg8 (x y : Int) : decide (wrap64 (bop 8 x y) < 0) = (decide (wrap64 x < 0) && decide (wrap64 y < 0)) := by
  rw [← and_i64, bits_and_i64, wrap_i64, ← msb_nat, BitVec.msb_and, msb_word, msb_word]
theorem bop_neg9 (x y : Int) : decide (wrap64 (bop 9 x y) < 0) = (decide (wrap64 x < 0) ^^ decide (wrap64 y < 0)) := by
  rw [← xor_i64', bits_xor_i64, wrap_i64, ← msb_nat, BitVec.msb_xor, msb_word, msb_word]
theorem bop_neg10 (x y : Int) : decide (wrap64 (bop 10 x y) < 0) = (decide (wrap64 x < 0) || decide (wrap64 y < 0)) := by
  rw [← or_i64, bits_or_i64, wrap_i64, ← msb_nat, BitVec.msb_or, msb_word, msb_word]
theorem wrap64_id {x : Int} (h0 : -9223372036854775808 ≤ x) (h1 : x ≤ 9223372036854775807) : wrap64 x = x := by unfold wrap64; omega
theorem bop_hi {op x y : Int} (ho : op = 8 ∨ op = 9 ∨ op = 10) (hx : -9223372036854775808 ≤ x) (hx' : x ≤ 9223372036854775807) (hy : -9223372036854775808 ≤ y) (hy' : y ≤ 9223372036854775807) :
    wrap64 (bop op (hi x) (hi y)) = hi (wrap64 (bop op x y)) := by
  have hb := bop_range op x y
  have hw : -9223372036854775808 ≤ wrap64 (bop op x y) ∧ wrap64 (bop op x y) ≤ 9223372036854775807 := by unfold wrap64; omega
  rw [hi_small (x := x) (by omega) (by omega), hi_small (x := y) (by omega) (by omega), hi_small (x := wrap64 (bop op x y)) (by omega) (by omega)]
  have ex := wrap64_id hx hx'
  have ey := wrap64_id hy hy'
  rcases ho with rfl | rfl | rfl
  · have h := bop_neg8 x y
    rw [ex, ey] at h
    by_cases h1 : x < 0 <;> by_cases h2 : y < 0 <;> simp only [h1, h2, if_true, if_false, decide_true, decide_false, Bool.and_true, Bool.and_false, decide_eq_true_eq, decide_eq_false_iff_not] at h ⊢
    · rw [if_pos h]; decide +kernel
    · rw [if_neg h]; decide +kernel
    · rw [if_neg h]; decide +kernel
    · rw [if_neg h]; decide +kernel
  · have h := bop_neg9 x y
    rw [ex, ey] at h
    by_cases h1 : x < 0 <;> by_cases h2 : y < 0 <;> simp only [h1, h2, if_true, if_false, decide_true, decide_false, Bool.xor_true, Bool.xor_false, Bool.not_true, Bool.not_false, decide_eq_true_eq, decide_eq_false_iff_not] at h ⊢
    · rw [if_neg h]; decide +kernel
    · rw [if_pos h]; decide +kernel
    · rw [if_pos h]; decide +kernel
    · rw [if_neg h]; decide +kernel
  · have h := bop_neg10 x y
    rw [ex, ey] at h
    by_cases h1 : x < 0 <;> by_cases h2 : y < 0 <;> simp only [h1, h2, if_true, if_false, decide_true, decide_false, Bool.or_true, Bool.or_false, decide_eq_true_eq, decide_eq_false_iff_not] at h ⊢
    · rw [if_pos h]; decide +kernel
    · rw [if_pos h]; decide +kernel
    · rw [if_pos h]; decide +kernel
    · rw [if_neg h]; decide +kernel
theorem lo_lo (x : Int) : lo (lo x) = lo x := by unfold lo; omega
theorem bop_lo (op x y : Int) : bop op (lo x) (lo y) = bop op x y := by unfold bop; rw [lo_lo, lo_lo]
theorem lo_wrap (x : Int) : lo (wrap64 x) = lo x := by unfold lo wrap64; omega
theorem lo_bop (op x y : Int) : lo (bop op x y) = bop op x y := lo_small (bop_range op x y).1 (bop_range op x y).2
def bnum (op k x y : Int) : Int := if k = 8 then bop op x y else wrap64 (bop op x y)
def okV (k x : Int) : Prop := if k = 8 then 0 ≤ x ∧ x < 18446744073709551616 else -9223372036854775808 ≤ x ∧ x ≤ 9223372036854775807
theorem okV_tv (k v : Int) (h0 : -9223372036854775808 ≤ v) (h1 : v ≤ 9223372036854775807) : okV k (tv k v) := by unfold okV tv; split <;> omega
theorem okV_range {k x : Int} (h : okV k x) : -9223372036854775808 ≤ x ∧ x < 18446744073709551616 := by unfold okV at h; split at h <;> omega
theorem bnum_words {op k x y : Int} (ho : op = 8 ∨ op = 9 ∨ op = 10) (hx : okV k x) (hy : okV k y) :
    wrap64 (bop op (hi x) (hi y)) = hi (bnum op k x y) ∧ bop op (lo x) (lo y) = lo (bnum op k x y) := by
  unfold bnum okV at *
  rw [bop_lo]
  split
  · rename_i h
    rw [if_pos h] at hx hy
    refine ⟨?_, (lo_bop _ _ _).symm⟩
    have hb := bop_range op x y
    rw [hi_small (x := x) (by omega) (by omega), hi_small (x := y) (by omega) (by omega), hi_small (x := bop op x y) (by omega) (by omega)]
    rw [if_neg (by omega), if_neg (by omega), if_neg (by omega)]
    rcases ho with rfl | rfl | rfl <;> decide +kernel
  · rename_i h
    rw [if_neg h] at hx hy
    exact ⟨bop_hi ho hx.1 hx.2 hy.1 hy.2, by rw [lo_wrap, lo_bop]⟩
theorem less_eq {x y : Int} (hx : -9223372036854775808 ≤ x) (hx' : x < 18446744073709551616) (hy : -9223372036854775808 ≤ y) (hy' : y < 18446744073709551616) :
    arith_wide_less.f (hi x) (lo x) (hi y) (lo y) = some (decide (x < y)) := by
  unfold arith_wide_less.f
  rw [hi_small (x := x) (by omega) hx', hi_small (x := y) (by omega) hy']
  unfold lo
  by_cases h1 : x < 0 <;> by_cases h2 : y < 0 <;> simp only [h1, h2, if_true, if_false]
  · rw [if_neg (by decide)]
    congr 1
    rw [Bool.eq_iff_iff]; simp only [decide_eq_true_eq]; omega
  · rw [if_pos (by decide)]
    congr 1
    symm; rw [decide_eq_true_eq]; omega
  · rw [if_neg (by decide), if_neg (by decide)]
    congr 1
    symm; rw [decide_eq_false_iff_not]; omega
  · rw [if_neg (by decide)]
    congr 1
    rw [Bool.eq_iff_iff]; simp only [decide_eq_true_eq]; omega
def truth (b : Bool) : Int := if b = true then 1 else 0
theorem truth_eq (b : Bool) : arith_truth.f b = some (truth b) := by unfold arith_truth.f truth; split <;> rfl
theorem truth_range (b : Bool) : 0 ≤ truth b ∧ truth b ≤ 1 := by unfold truth; split <;> omega
theorem u64_truth (b : Bool) : IntKind.u64.wrap (truth b) = truth b := by have := truth_range b; rw [wrap_u64]; omega
def cmp (op x y : Int) : Bool := if op = 11 then decide (x < y) else if op = 12 then decide (x ≤ y) else if op = 13 then decide (x = y) else decide (x ≠ y)
theorem rep_small {a b : Int} (ha : -9223372036854775808 ≤ a) (ha' : a < 18446744073709551616) (hb : -9223372036854775808 ≤ b) (hb' : b < 18446744073709551616) : (hi a == hi b && lo a == lo b) = decide (a = b) :=
  rep_inj (by omega) (by omega) (by omega) (by omega)
theorem made_cmp (n : Nat) {op k x y : Int} (ho : 11 ≤ op ∧ op ≤ 14) (hx : okV k x) (hy : okV k y) :
    arith_made.f n op (hi x) (lo x) (hi y) (lo y) = some (0, truth (cmp op x y)) := by
  obtain ⟨hx, hx'⟩ := okV_range hx
  obtain ⟨hy, hy'⟩ := okV_range hy
  have hc : op = 11 ∨ op = 12 ∨ op = 13 ∨ op = 14 := by omega
  unfold arith_made.f
  rcases hc with rfl | rfl | rfl | rfl <;> simp only [Int.reduceEq, if_false, if_true]
  · rw [less_eq hx hx' hy hy']; simp only [Option.bind_some]
    rw [truth_eq]; simp only [Option.bind_some]; rw [u64_truth]; rfl
  · rw [less_eq hy hy' hx hx']; simp only [Option.bind_some]
    rw [truth_eq]; simp only [Option.bind_some]; rw [u64_truth]
    have : (!decide (y < x)) = cmp 12 x y := by rw [Bool.eq_iff_iff]; simp [cmp]
    rw [this]
  · rw [rep_small hx hx' hy hy', truth_eq]; simp only [Option.bind_some]; rw [u64_truth]; rfl
  · have e : (!(hi x == hi y) || !(lo x == lo y)) = cmp 14 x y := by
      rw [← Bool.not_and, rep_small hx hx' hy hy']; rw [Bool.eq_iff_iff]; simp [cmp]
    rw [e, truth_eq]; simp only [Option.bind_some]; rw [u64_truth]
theorem made_arith (n : Nat) {op k x y : Int} (ho : (1 ≤ op ∧ op ≤ 5) ∨ (8 ≤ op ∧ op ≤ 10)) (hx : okV k x) (hy : okV k y) (h0 : op = 4 ∨ op = 5 → y ≠ 0) :
    ∃ r, r = (if op = 1 then x + y else if op = 2 then x - y else if op = 3 then x * y else if op = 4 then Int.tdiv x y else if op = 5 then Int.tmod x y else bnum op k x y) ∧
    arith_made.f (n + 4) op (hi x) (lo x) (hi y) (lo y) = some (hi r, lo r) := by
  refine ⟨_, rfl, ?_⟩
  obtain ⟨ax, ax'⟩ := okV_range hx
  obtain ⟨ay, ay'⟩ := okV_range hy
  have hc : op = 1 ∨ op = 2 ∨ op = 3 ∨ op = 4 ∨ op = 5 ∨ op = 8 ∨ op = 9 ∨ op = 10 := by omega
  unfold arith_made.f
  rcases hc with rfl | rfl | rfl | rfl | rfl | rfl | rfl | rfl <;> simp only [Int.reduceEq, if_false, if_true]
  · rw [add_eq]; rfl
  · rw [neg_eq]; simp only [Option.bind_some]; rw [add_eq]; rfl
  · rw [mul_eq]; rfl
  · rw [divided_eq n ax ax' ay ay' (h0 (.inl rfl))]; rfl
  · rw [divided_eq n ax ax' ay ay' (h0 (.inr rfl))]; rfl
  · have h := bnum_words (op := 8) (.inl rfl) hx hy
    rw [and_i64, h.1, ← h.2]; unfold bop; rw [if_pos rfl, lo_lo, lo_lo]
  · have h := bnum_words (op := 9) (.inr (.inl rfl)) hx hy
    rw [xor_i64', h.1, ← h.2]; unfold bop; rw [if_neg (by decide), if_pos rfl, lo_lo, lo_lo]
  · have h := bnum_words (op := 10) (.inr (.inr rfl)) hx hy
    rw [or_i64, h.1, ← h.2]; unfold bop; rw [if_neg (by decide), if_neg (by decide), lo_lo, lo_lo]
theorem shr_i64 (x : Int) {n : Int} (h0 : 0 ≤ n) (h1 : n ≤ 64) : shr .i64 x n = x / 2 ^ n.toNat := by
  unfold shr; simp only [IntKind.bits]; rw [Nat.min_eq_left (by omega)]
theorem shr_u64 (x : Int) {n : Int} (h0 : 0 ≤ n) (h1 : n ≤ 64) : shr .u64 x n = x / 2 ^ n.toNat := by
  unfold shr; simp only [IntKind.bits]; rw [Nat.min_eq_left (by omega)]
theorem shl_i64 (x : Int) {n : Int} (h0 : 0 ≤ n) (h1 : n ≤ 64) : shl .i64 x n = wrap64 (x * 2 ^ n.toNat) := by
  unfold shl; simp only [IntKind.bits]; rw [Nat.min_eq_left (by omega), wrap_i64]
theorem shl_u64 (x : Int) {n : Int} (h0 : 0 ≤ n) (h1 : n ≤ 64) : shl .u64 x n = (x * 2 ^ n.toNat) % 18446744073709551616 := by
  unfold shl; simp only [IntKind.bits]; rw [Nat.min_eq_left (by omega), wrap_u64]
theorem pows {n : Int} (h0 : 0 ≤ n) (h1 : n ≤ 63) : ∃ p q : Nat, (2 : Int) ^ n.toNat = p ∧ (2 : Int) ^ (64 - n).toNat = q ∧ p * q = 18446744073709551616 ∧ 0 < p ∧ 0 < q ∧ q = 2 ^ (64 - n).toNat ∧ p = 2 ^ n.toNat ∧ p ≤ 9223372036854775808 := by
  refine ⟨2 ^ n.toNat, 2 ^ (64 - n).toNat, by norm_cast, by norm_cast, ?_, Nat.pow_pos (by decide), Nat.pow_pos (by decide), rfl, rfl, ?_⟩
  · rw [← Nat.pow_add]
    have : n.toNat + (64 - n).toNat = 64 := by omega
    rw [this]
  · have : (2 : Nat) ^ n.toNat ≤ 2 ^ 63 := Nat.pow_le_pow_right (by decide) (by omega)
    simpa using this
theorem or_add {a b i : Nat} (hb : b < 2 ^ i) (h : 2 ^ i * a + b < 18446744073709551616) : Go.bits .or .u64 (b : Int) ((2 ^ i * a : Nat) : Int) = ((2 ^ i * a + b : Nat) : Int) := by
  rw [bits_or_u64, BitVec.toNat_or, BitVec.toNat_ofInt, BitVec.toNat_ofInt, wrap_u64]
  have e1 : ((b : Int) % ((2 ^ 64 : Nat) : Int)).toNat = b := by omega
  have e2 : (((2 ^ i * a : Nat) : Int) % ((2 ^ 64 : Nat) : Int)).toNat = 2 ^ i * a := by omega
  rw [e1, e2, Nat.or_comm, ← Nat.two_pow_add_eq_or_of_lt hb]
  omega
theorem lo_neg {x : Int} (h0 : -9223372036854775808 ≤ x) (h : x < 0) : lo x = x + 18446744073709551616 := by unfold lo; omega
theorem ediv_small {x : Int} {p : Nat} (hp : 0 < p) (h0 : -9223372036854775808 ≤ x) (h1 : x < 18446744073709551616) : -9223372036854775808 ≤ x / p ∧ x / p < 18446744073709551616 := by
  constructor
  · rw [Int.le_ediv_iff_mul_le (by omega)]
    have : (9223372036854775808 : Int) * 1 ≤ 9223372036854775808 * (p : Int) := Int.mul_le_mul_of_nonneg_left (by omega) (by decide)
    omega
  · rw [Int.ediv_lt_iff_lt_mul (by omega)]
    have : (18446744073709551616 : Int) * 1 ≤ 18446744073709551616 * (p : Int) := Int.mul_le_mul_of_nonneg_left (by omega) (by decide)
    omega
theorem shifted7 {x n : Int} (hx : -9223372036854775808 ≤ x) (hx' : x < 18446744073709551616) (h0 : 0 ≤ n) (h1 : n ≤ 63) :
    arith_shifted.f 7 (hi x) (lo x) n = some (hi (x / 2 ^ n.toNat), lo (x / 2 ^ n.toNat)) := by
  unfold arith_shifted.f
  have hw : wrap64 (64 - n) = 64 - n := by unfold wrap64; omega
  rw [if_pos rfl, if_pos h0, hw, if_pos (by omega), shr_i64 _ h0 (by omega), shr_u64 _ h0 (by omega), shl_u64 _ (by omega) (by omega), wrap_u64]
  obtain ⟨p, q, hp, hq, hpq, p0, q0, eq, ep, pl⟩ := pows h0 h1
  rw [hp, hq]
  have hsm := ediv_small p0 (x := x) (by omega) hx'
  have hxs : x < 0 ↔ x / (p : Int) < 0 := by
    constructor
    · intro h; exact Int.ediv_neg_of_neg_of_pos h (by omega)
    · intro h
      by_cases hh : x < 0
      · exact hh
      · have := Int.ediv_nonneg (a := x) (b := (p : Int)) (by omega) (by omega); omega
  have hh : hi x / (p : Int) = hi (x / (p : Int)) := by
    rw [hi_small (x := x) (by omega) hx', hi_small (x := x / p) (by omega) hsm.2]
    by_cases h : x < 0
    · rw [if_pos h, if_pos (hxs.1 h)]
      rw [Int.ediv_eq_iff_of_pos (by omega)]
      omega
    · rw [if_neg h, if_neg (fun z => h (hxs.2 z))]; simp
  rw [hh]
  congr 2
  by_cases h : x < 0
  · rw [hi_small (x := x) (by omega) hx', if_pos h]
    have hlo := lo_neg hx h
    -- lo x / p + q * (p - 1)
    have hq2 : (-1 : Int) % 18446744073709551616 * (q : Int) % 18446744073709551616 = ((2 ^ (64 - n).toNat * (p - 1) : Nat) : Int) := by
      rw [← eq]
      have e1 : (-1 : Int) % 18446744073709551616 = 18446744073709551616 - 1 := by decide
      have e2 : (q * (p - 1) : Nat) = 18446744073709551616 - q := by rw [Nat.mul_sub, Nat.mul_one, Nat.mul_comm q p, hpq]
      have hq3 : q ≤ 18446744073709551616 := by rw [← hpq]; exact Nat.le_mul_of_pos_left _ p0
      rw [e1, e2, Int.sub_mul, Int.one_mul]
      omega
    have hd : lo x / (p : Int) = (((lo x).toNat / p : Nat) : Int) := by
      have := lo_nonneg x
      rw [Int.natCast_ediv]; congr 1; omega
    have hlt : (lo x).toNat / p < 2 ^ (64 - n).toNat := by
      rw [← eq, Nat.div_lt_iff_lt_mul p0, Nat.mul_comm q p, hpq]
      have := lo_nonneg x; omega
    have hsum : 2 ^ (64 - n).toNat * (p - 1) + (lo x).toNat / p < 18446744073709551616 := by
      rw [← eq] at hlt ⊢
      have e2 : (q * (p - 1) : Nat) = 18446744073709551616 - q := by rw [Nat.mul_sub, Nat.mul_one, Nat.mul_comm q p, hpq]
      have hq3 : q ≤ 18446744073709551616 := by rw [← hpq]; exact Nat.le_mul_of_pos_left _ p0
      omega
    rw [hq2, hd, or_add hlt hsum, ← eq]
    have e2 : (q * (p - 1) : Nat) = 18446744073709551616 - q := by rw [Nat.mul_sub, Nat.mul_one, Nat.mul_comm q p, hpq]
    have hq3 : q ≤ 18446744073709551616 := by rw [← hpq]; exact Nat.le_mul_of_pos_left _ p0
    have hd2 : lo x / (p : Int) = x / (p : Int) + q := by
      rw [hlo]
      have : (18446744073709551616 : Int) = (q : Int) * (p : Int) := by rw [← Int.natCast_mul, Nat.mul_comm, hpq]; rfl
      rw [this, Int.add_mul_ediv_right _ _ (by omega)]
    rw [hd] at hd2
    have hneg := hxs.1 h
    rw [lo_neg (by omega) hneg, e2]
    omega
  · rw [hi_small (x := x) (by omega) hx', if_neg h]
    have e0 : (0 : Int) % 18446744073709551616 * (q : Int) % 18446744073709551616 = 0 := by simp
    have hlo : lo x = x := lo_small (by omega) hx'
    have hge : 0 ≤ x / (p : Int) := Int.ediv_nonneg (by omega) (by omega)
    rw [e0, hlo, lo_small hge hsm.2, bits_or_u64, wrap_u64, BitVec.toNat_or, BitVec.toNat_ofInt, BitVec.toNat_ofInt]
    simp
    omega
theorem ofInt_wrap (x : Int) : BitVec.ofInt 64 (wrap64 x) = BitVec.ofInt 64 x := by
  apply BitVec.eq_of_toNat_eq
  rw [BitVec.toNat_ofInt, BitVec.toNat_ofInt]
  unfold wrap64
  omega
theorem shifted6 {x n : Int} (hx : -9223372036854775808 ≤ x) (hx' : x < 18446744073709551616) (h0 : 0 ≤ n) (h1 : n ≤ 63) :
    ∃ h, arith_shifted.f 6 (hi x) (lo x) n = some (h, lo (x * 2 ^ n.toNat)) ∧ (0 ≤ x → h = hi (x * 2 ^ n.toNat)) := by
  unfold arith_shifted.f
  have hw : wrap64 (64 - n) = 64 - n := by unfold wrap64; omega
  rw [if_neg (by decide), if_pos h0, hw, if_pos (by omega), shl_i64 _ h0 (by omega), shl_u64 _ h0 (by omega), shr_u64 _ (by omega) (by omega)]
  obtain ⟨p, q, hp, hq, hpq, p0, q0, eq, ep, pl⟩ := pows h0 h1
  rw [hp, hq]
  have this : lo x * (p : Int) % 18446744073709551616 = lo (x * p) := by
    unfold lo; rw [Int.mul_emod, Int.emod_emod, ← Int.mul_emod]
  rw [this]
  refine ⟨_, rfl, ?_⟩
  · intro hx0
    rw [hi_small (x := x) (by omega) hx', if_neg (by omega), lo_small hx0 hx']
    have hd : x / (q : Int) = x * p / 18446744073709551616 := by
      have : (18446744073709551616 : Int) = (q : Int) * (p : Int) := by rw [← Int.natCast_mul, Nat.mul_comm, hpq]; rfl
      rw [this, Int.mul_ediv_mul_of_pos_left _ _ (by omega)]
    have hd0 : 0 ≤ x / (q : Int) := Int.ediv_nonneg hx0 (by omega)
    have e0 : wrap64 (0 * (p : Int)) = 0 := by simp [wrap64]
    rw [e0, bits_or_i64, ofInt_wrap, wrap_i64]
    have : (BitVec.ofInt 64 0 ||| BitVec.ofInt 64 (x / (q : Int))) = BitVec.ofInt 64 (x / (q : Int)) := by
      have z : BitVec.ofInt 64 0 = 0#64 := by decide
      rw [z, BitVec.zero_or]
    rw [this, BitVec.toNat_ofInt, hd]
    unfold hi
    unfold wrap64
    omega
def fin (k r : Int) : Int × Int × Int := if k % 2 = 0 ∨ tv k (conv k r) = r then (conv k r, k, 0) else (0, 0, 90)
theorem isShift_eq (op : Int) : arith_isShift.f op = some (decide (op = 6 ∨ op = 7)) := by
  unfold arith_isShift.f
  by_cases h6 : op = 6
  · subst h6; rfl
  · rw [if_neg h6]; congr 1; rw [Bool.eq_iff_iff]; simp [h6]
theorem wd_range {k : Int} (hk : isK k) : wd k = 8 ∨ wd k = 16 ∨ wd k = 32 ∨ wd k = 64 := by
  unfold wd; split
  · simp
  split
  · simp
  split
  · simp
  · simp
theorem size8 {k : Int} (hk : isK k) : IntKind.u64.wrap (wrap64 (8 * (wd k / 8))) = wd k := by
  rw [wrap_u64]
  rcases wd_range hk with h | h | h | h <;> rw [h] <;> decide +kernel
theorem tv_congr (k v : Int) : tv k v % 18446744073709551616 = v % 18446744073709551616 := by unfold tv; split <;> omega
theorem isOp_eq (op : Int) : arith_isOp.f op = some (decide (1 ≤ op ∧ op ≤ 17)) := by
  unfold arith_isOp.f
  by_cases h : op ≥ 1
  · rw [if_pos h]; congr 1; rw [Bool.eq_iff_iff]; simp; intro; omega
  · rw [if_neg h]; congr 1; symm; exact decide_eq_false (by omega)
theorem wr64_range (x : Int) : -9223372036854775808 ≤ wrap64 x ∧ wrap64 x ≤ 9223372036854775807 := by unfold wrap64; omega
def res (op k x y : Int) : Int :=
  if op = 1 then x + y else if op = 2 then x - y else if op = 3 then x * y else if op = 4 then (if y = 0 then 0 else Int.tdiv x y) else if op = 5 then (if y = 0 then x else Int.tmod x y)
  else if op = 15 then -x else if op = 16 then -x - 1 else bnum op k x y
def wrapS (op k a b : Int) : Int × Int :=
  if 1 ≤ op ∧ op ≤ 17 then
    if lies a k = true ∧ lies b k = true then
      if op = 17 then (truth (a == 0), 0)
      else if 11 ≤ op ∧ op ≤ 14 then (truth (cmp op (tv k a) (tv k b)), 0)
      else if op = 6 then (conv k (tv k a * 2 ^ ((b % 18446744073709551616) % wd k).toNat), 0)
      else if op = 7 then (conv k (tv k a / 2 ^ ((b % 18446744073709551616) % wd k).toNat), 0)
      else (conv k (res op k (tv k a) (tv k b)), 0)
    else (0, 80)
  else (0, 2)
theorem isTruth_eq' (op : Int) : arith_isTruth.f op = some (decide ((11 ≤ op ∧ op ≤ 14) ∨ op = 17)) := by
  unfold arith_isTruth.f
  by_cases h1 : op ≥ 11
  · rw [if_pos h1]
    by_cases h2 : op ≤ 14
    · rw [if_pos h2]; congr 1; symm; exact decide_eq_true (.inl ⟨h1, h2⟩)
    · rw [if_neg h2]; congr 1; rw [Bool.eq_iff_iff, beq_iff_eq, decide_eq_true_eq]; omega
  · rw [if_neg h1]; congr 1; rw [Bool.eq_iff_iff, beq_iff_eq, decide_eq_true_eq]; omega
theorem conv_lo (k r : Int) : conv k (wrap64 (lo r)) = conv k r := conv_congr k (by unfold wrap64 lo; omega)
theorem count_range {k : Int} (hk : isK k) (b : Int) : 0 ≤ (b % 18446744073709551616) % wd k ∧ (b % 18446744073709551616) % wd k < wd k ∧ wd k ≤ 64 := by
  rcases wd_range hk with h | h | h | h <;> rw [h] <;> omega
theorem made_one (n : Nat) {op k x y : Int} (ho : (1 ≤ op ∧ op ≤ 5) ∨ (8 ≤ op ∧ op ≤ 10) ∨ op = 15 ∨ op = 16) (hx : okV k x) (hy : okV k y) (h0 : op = 4 ∨ op = 5 → y ≠ 0) :
    arith_made.f (n + 4) op (hi x) (lo x) (hi y) (lo y) = some (hi (res op k x y), lo (res op k x y)) := by
  by_cases h : op = 15 ∨ op = 16
  · unfold arith_made.f res
    rcases h with rfl | rfl
    · simp only [Int.reduceEq, if_false, if_true]; rw [neg_eq]; rfl
    · simp only [Int.reduceEq, if_false, if_true]; rw [(not_eq _).1, (not_eq _).2]
  · obtain ⟨r, hr, hm⟩ := made_arith n (op := op) (by omega) hx hy h0
    rw [hm]
    have : r = res op k x y := by
      rw [hr]; unfold res
      by_cases h1 : op = 1
      · rw [if_pos h1, if_pos h1]
      rw [if_neg h1, if_neg h1]
      by_cases h2 : op = 2
      · rw [if_pos h2, if_pos h2]
      rw [if_neg h2, if_neg h2]
      by_cases h3 : op = 3
      · rw [if_pos h3, if_pos h3]
      rw [if_neg h3, if_neg h3]
      by_cases h4 : op = 4
      · rw [if_pos h4, if_pos h4, if_neg (h0 (.inl h4))]
      rw [if_neg h4, if_neg h4]
      by_cases h5 : op = 5
      · rw [if_pos h5, if_pos h5, if_neg (h0 (.inr h5))]
      have h15 : ¬ op = 15 := by omega
      have h16 : ¬ op = 16 := by omega
      rw [if_neg h5, if_neg h5, if_neg h15, if_neg h16]
    rw [this]
theorem tv_zero {k b : Int} (h0 : -9223372036854775808 ≤ b) (h1 : b ≤ 9223372036854775807) : tv k b = 0 ↔ b = 0 := by unfold tv; split <;> omega
theorem conv_tv (k a : Int) : conv k (tv k a) = conv k a := conv_congr k (tv_congr k a)
theorem wrap_eq (n : Nat) (op k a b : Int) (ha : -9223372036854775808 ≤ a) (ha' : a ≤ 9223372036854775807) (hb : -9223372036854775808 ≤ b) (hb' : b ≤ 9223372036854775807) :
    arith_Wrap.f (n + 8) op k a b = some (wrapS op k a b) := by
  unfold arith_Wrap.f wrapS
  rw [isOp_eq]
  simp only [Option.bind_some]
  by_cases ho : 1 ≤ op ∧ op ≤ 17
  · rw [if_pos (decide_eq_true ho), if_pos ho, lies_eq a k ha ha', lies_eq b k hb hb']
    simp only [Option.bind_some]
    by_cases hla : lies a k = true
    · by_cases hlb : lies b k = true
      · obtain ⟨hk, hca⟩ := lies_isK hla
        obtain ⟨_, hcb⟩ := lies_isK hlb
        rw [if_pos hla, if_pos hlb, if_pos ⟨hla, hlb⟩, of_eq a k ha ha', of_eq b k hb hb', isTruth_eq']
        simp only [Option.bind_some]
        have hx := okV_tv k a ha ha'
        have hy := okV_tv k b hb hb'
        have hx' := okV_range hx
        have hy' := okV_range hy
        by_cases h17 : op = 17
        · subst h17
          rw [if_pos (by decide), if_pos rfl]
          have hz : hi 0 = 0 ∧ lo 0 = 0 := by unfold hi lo wrap64; omega
          have hm : arith_made.f (n + 8) 17 (hi (tv k a)) (lo (tv k a)) (hi (tv k b)) (lo (tv k b)) = some (0, truth (a == 0)) := by
            unfold arith_made.f
            simp only [Int.reduceEq, if_false, if_true]
            have h0 := rep_small (a := tv k a) (b := 0) (by omega) (by omega) (by omega) (by omega)
            rw [hz.1, hz.2] at h0
            rw [h0, truth_eq]
            simp only [Option.bind_some]
            rw [u64_truth]
            have : decide (tv k a = 0) = (a == 0) := by
              rw [Bool.eq_iff_iff, decide_eq_true_eq, beq_iff_eq]; exact tv_zero ha ha'
            rw [this]
          rw [hm]
          simp only [Option.bind_some]
          have := truth_range (a == 0)
          rw [wrap64_id (by omega) (by omega)]
        · rw [if_neg h17]
          by_cases ht : 11 ≤ op ∧ op ≤ 14
          · rw [if_pos (decide_eq_true (.inl ht)), if_pos ht, made_cmp _ ht hx hy]
            simp only [Option.bind_some]
            have := truth_range (cmp op (tv k a) (tv k b))
            rw [wrap64_id (by omega) (by omega)]
          · have ht2 : ¬ ((11 ≤ op ∧ op ≤ 14) ∨ op = 17) := by omega
            rw [if_neg (by simp only [decide_eq_true_eq]; exact ht2), if_neg ht, isShift_eq]
            simp only [Option.bind_some]
            by_cases hs : op = 6 ∨ op = 7
            · rw [if_pos (decide_eq_true hs), size_yes hk]
              simp only [Option.bind_some]
              have hw := wd_range hk
              have hc := count_range hk b
              rw [size8 hk, if_neg (by omega)]
              have hcnt : wrap64 (Int.tmod (IntKind.u64.wrap b) (wd k)) = (b % 18446744073709551616) % wd k := by
                rw [wrap_u64, Int.tmod_eq_emod_of_nonneg (by omega), wrap64_id (by omega) (by omega)]
              rw [hcnt]
              rcases hs with rfl | rfl
              · obtain ⟨h, h1, _⟩ := shifted6 (n := (b % 18446744073709551616) % wd k) hx'.1 hx'.2 hc.1 (by omega)
                rw [h1, if_pos rfl]
                simp only [Option.bind_some]
                rw [to_yes hk _ (wr64_range _).1 (wr64_range _).2, conv_lo]; rfl
              · rw [shifted7 (n := (b % 18446744073709551616) % wd k) hx'.1 hx'.2 hc.1 (by omega), if_neg (by decide), if_pos rfl]
                simp only [Option.bind_some]
                rw [to_yes hk _ (wr64_range _).1 (wr64_range _).2, conv_lo]; rfl
            · have h6 : ¬ op = 6 := by omega
              have h7 : ¬ op = 7 := by omega
              rw [if_neg (by simp only [decide_eq_true_eq]; exact hs), if_neg h6, if_neg h7]
              have hj1 : ¬ ((op = 4 ∨ op = 5) ∧ b = 0) → arith_Wrap.j1 (n + 7) op k a false (hi (tv k a)) (lo (tv k a)) (hi (tv k b)) (lo (tv k b)) = some (conv k (res op k (tv k a) (tv k b)), 0) := by
                intro h0
                simp only [arith_Wrap.j1]
                rw [if_neg (by decide), made_one (n + 2) (op := op) (by omega) hx hy (fun h hz => h0 ⟨h, (tv_zero hb hb').1 hz⟩)]
                simp only [Option.bind_some]
                rw [to_yes hk _ (wr64_range _).1 (wr64_range _).2, conv_lo]; rfl
              by_cases h4 : op = 4
              · subst h4
                rw [if_pos rfl]
                by_cases hb0 : b = 0
                · have : (b == 0) = true := beq_iff_eq.mpr hb0
                  rw [this]
                  simp only [arith_Wrap.j0, if_true]
                  have hr : res 4 k (tv k a) (tv k b) = 0 := by unfold res; rw [if_neg (by decide), if_neg (by decide), if_neg (by decide), if_pos rfl, if_pos ((tv_zero hb hb').2 hb0)]
                  have c0 : conv k 0 = 0 := by rcases isK_cases hk with h | h | h | h | h | h | h | h <;> rw [h] <;> decide
                  rw [hr, c0]
                · have : (b == 0) = false := beq_eq_false_iff_ne.mpr hb0
                  rw [this]
                  simp only [arith_Wrap.j0]
                  rw [if_neg (by decide), if_neg (by decide)]
                  exact hj1 (fun z => hb0 z.2)
              · rw [if_neg h4]
                simp only [arith_Wrap.j0]
                rw [if_neg (by decide)]
                by_cases h5 : op = 5
                · subst h5
                  rw [if_pos rfl]
                  by_cases hb0 : b = 0
                  · have : (b == 0) = true := beq_iff_eq.mpr hb0
                    rw [this]
                    simp only [arith_Wrap.j1, if_true]
                    have hr : res 5 k (tv k a) (tv k b) = tv k a := by unfold res; rw [if_neg (by decide), if_neg (by decide), if_neg (by decide), if_neg (by decide), if_pos rfl, if_pos ((tv_zero hb hb').2 hb0)]
                    rw [hr, conv_tv, hca]
                  · have : (b == 0) = false := beq_eq_false_iff_ne.mpr hb0
                    rw [this]
                    exact hj1 (fun z => hb0 z.2)
                · rw [if_neg h5]
                  exact hj1 (fun z => by omega)
      · rw [if_pos hla, if_neg hlb, if_neg (by simp [hlb])]
    · rw [if_neg hla, if_neg (by simp [hla])]
  · rw [if_neg (by simp only [decide_eq_true_eq]; exact ho), if_neg ho]
end Go.Proofs.YthfpdlfpbbhjhaaDoor.Pure
