import Derived.Test.YtgdkkcdmflopjaaDoorMZ
import Derived.Test.YtgdkkcdmflopjaaDoorLP2
import Derived.Test.YtgdkkcdmflopjaaDoorLC
import Derived.Test.YtgdkkcdmflopjaaDoorLXt
namespace Go.Proofs.YtgdkkcdmflopjaaDoor.Pure
open Go.RowKit Go.Proofs.YtgdkkcdmflopjaaDoorX Go.Proofs.YtgdkkcdmflopjaaDoor.PA Go.Proofs.YtgdkkcdmflopjaaDoorW.PrintWords Go.Proofs.YtgdkkcdmflopjaaDoorW.PrintLast Go.Proofs.YtgdkkcdmflopjaaDoorW.PrintMore
set_option linter.unusedVariables false
set_option linter.unusedSimpArgs false
theorem promoted_eq {k : Int} (h : isK k) : kind_Promoted.f k = some (prom k, 0) := by
  unfold kind_Promoted.f prom
  rw [is_yes h]; simp only [Option.bind_some, if_true]; split <;> rfl
theorem usual_eq {a b : Int} (h : isK a) (h' : isK b) : kind_Usual.f a b = some (mx (prom a) (prom b), 0) := by
  unfold kind_Usual.f
  rw [promoted_eq h, promoted_eq h']; rfl
theorem narrow_eq {k : Int} (hk : isK k) (r : Int) : arith_narrow.f (hi r) (lo r) k = some (conv k r, hi (tv k (conv k r)) == hi r && lo (tv k (conv k r)) == lo r) := by
  unfold arith_narrow.f
  have h := wrap64_ex (lo r)
  have hr : -9223372036854775808 ≤ wrap64 (lo r) ∧ wrap64 (lo r) ≤ 9223372036854775807 := by unfold wrap64; omega
  have hc : conv k (wrap64 (lo r)) = conv k r := conv_congr k (by obtain ⟨c, h⟩ := h; rw [h]; unfold lo; omega)
  rw [to_yes hk _ hr.1 hr.2, hc]
  simp only [Option.bind_some]
  rw [of_eq _ _ (conv_range k r).1 (conv_range k r).2]
  rfl
theorem narrow_small {k : Int} (hk : isK k) (r : Int) (h0 : -170141183460469231731687303715884105728 ≤ r) (h1 : r < 170141183460469231731687303715884105728) :
    arith_narrow.f (hi r) (lo r) k = some (conv k r, decide (tv k (conv k r) = r)) := by
  have ht := tv_range k (conv k r) (conv_range k r).1 (conv_range k r).2
  rw [narrow_eq hk, rep_inj (by omega) (by omega) h0 h1]
theorem in_eq {op a b : Int} (ho : 1 ≤ op ∧ op ≤ 14) (h : isK a) (h' : isK b) : arith_in.f op a b = some (inK op a b, 0) := by
  unfold arith_in.f arith_Binary.f arith_isShift.f inK
  rw [if_pos (by omega), usual_eq h h', promoted_eq h]
  have : decide (op ≤ 14) = true := decide_eq_true ho.2
  rw [this]
  simp only [Option.bind_some, if_true]
  by_cases h6 : op = 6
  · subst h6; rfl
  · by_cases h7 : op = 7
    · subst h7; rfl
    · rw [if_neg h6, if_neg (by omega)]
      have : (op == 7) = false := beq_eq_false_iff_ne.mpr h7
      rw [this]; rfl
theorem j1_eq (n : Nat) {k r : Int} (hk : isK k) (h : k % 2 = 0 ∨ (-170141183460469231731687303715884105728 ≤ r ∧ r < 170141183460469231731687303715884105728)) :
    arith_Two.j1 (n + 1) k (hi r) (lo r) = some (fin k r) := by
  simp only [arith_Two.j1]
  rw [narrow_eq hk]
  simp only [Option.bind_some]
  rw [unsigned_yes hk]
  simp only [Option.bind_some]
  by_cases h2 : k % 2 = 0
  · have e : fin k r = (conv k r, k, 0) := by unfold fin; rw [if_pos (.inl h2)]
    rw [e]
    split
    · rfl
    · rw [if_pos (decide_eq_true h2)]
  · have hr := h.resolve_left h2
    have ht := tv_range k (conv k r) (conv_range k r).1 (conv_range k r).2
    rw [rep_inj (by omega) (by omega) hr.1 hr.2]
    by_cases h3 : tv k (conv k r) = r
    · have e : fin k r = (conv k r, k, 0) := by unfold fin; rw [if_pos (.inr h3)]
      rw [e, if_pos (decide_eq_true h3)]
    · have e : fin k r = (0, 0, 90) := by unfold fin; rw [if_neg (by simp [h2, h3])]
      rw [e, if_neg (by simp [h3]), if_neg (by simp [h2])]
theorem undef_div (n : Nat) {op k x y : Int} (ho : op = 4 ∨ op = 5) (hk : isK k) (hx : okV k x) (hy : okV k y) :
    arith_undefined.f (n + 5) op k (hi x) (lo x) (hi y) (lo y) = some (decide (y = 0 ∨ ¬ tv k (conv k (Int.tdiv x y)) = Int.tdiv x y)) := by
  obtain ⟨ax, ax'⟩ := okV_range hx
  obtain ⟨ay, ay'⟩ := okV_range hy
  have hz : hi 0 = 0 ∧ lo 0 = 0 := by unfold hi lo wrap64; omega
  have h0 := rep_small (a := y) (b := 0) (by omega) (by omega) (by omega) (by omega)
  rw [hz.1, hz.2] at h0
  have key : arith_undefined.j0 (n + 5) k op true (hi x) (lo x) (hi y) (lo y) = some (decide (y = 0 ∨ ¬ tv k (conv k (Int.tdiv x y)) = Int.tdiv x y)) := by
    simp only [arith_undefined.j0, if_true]
    rw [h0]
    by_cases hy0 : y = 0
    · rw [if_pos (decide_eq_true hy0)]; simp [hy0]
    · rw [if_neg (by simp [hy0]), divided_eq n ax ax' ay ay' hy0]
      simp only [Option.bind_some]
      have hq : -18446744073709551616 ≤ Int.tdiv x y ∧ Int.tdiv x y ≤ 18446744073709551616 := by
        have := Int.natAbs_tdiv_le_natAbs x y
        omega
      rw [narrow_small hk _ (by omega) (by omega)]
      simp [hy0]
  unfold arith_undefined.f
  rcases ho with rfl | rfl
  · rw [if_pos rfl]; exact key
  · rw [if_neg (by decide)]; exact key
theorem undef_shift (n : Nat) {op k x b bk : Int} (ho : op = 6 ∨ op = 7) (hk : isK k) (hx : okV k x) (hb : -9223372036854775808 ≤ b) (hb' : b ≤ 9223372036854775807) :
    arith_undefined.f (n + 1) op k (hi x) (lo x) (hi (tv bk b)) (lo (tv bk b)) = some (decide ((b < 0 ∨ wd k ≤ b) ∨ op = 6 ∧ x < 0)) := by
  obtain ⟨ax, ax'⟩ := okV_range hx
  have hsx := hi_small (x := x) (by omega) ax'
  have hw := wd_range hk
  have hs : kind_Size.f k = some (wd k / 8) := size_yes hk
  have ht := tv_range bk b hb hb'
  have e1 : (hi x < 0) = (x < 0) := by rw [hsx]; split <;> simp [*]
  -- the count: its high word, its low word
  have hcnt : (hi (tv bk b) = 0 ∧ ¬ lo (tv bk b) ≥ wd k) ↔ ¬ (b < 0 ∨ wd k ≤ b) := by
    rw [hi_small (by omega) ht.2]
    unfold lo tv
    split <;> split <;> omega
  unfold arith_undefined.f
  have f4 : op ≠ 4 := by omega
  have f5 : (op == 5) = false := beq_eq_false_iff_ne.mpr (by omega)
  rw [if_neg f4, f5]
  simp only [arith_undefined.j0]
  rw [if_neg (by decide)]
  rcases ho with rfl | rfl
  · rw [if_pos rfl]
    by_cases hb0 : hi (tv bk b) = 0
    · rw [if_pos hb0, hs]; simp only [Option.bind_some]
      rw [size8 hk]
      by_cases hl : lo (tv bk b) ≥ wd k
      · rw [if_pos hl]; congr 1; symm; rw [decide_eq_true_eq]
        left
        by_cases hh : b < 0 ∨ wd k ≤ b
        · exact hh
        · exact absurd hl (hcnt.2 hh).2
      · rw [if_neg hl]
        have := hcnt.1 ⟨hb0, hl⟩
        congr 1; rw [Bool.eq_iff_iff]; simp only [decide_eq_true_eq, e1]
        constructor
        · intro h; exact .inr ⟨by trivial, h⟩
        · rintro (h | h)
          · exact absurd h this
          · exact h.2
    · rw [if_neg hb0]; congr 1; symm; rw [decide_eq_true_eq]
      left
      by_cases hh : b < 0 ∨ wd k ≤ b
      · exact hh
      · exact absurd (hcnt.2 hh).1 hb0
  · rw [if_neg (by decide), if_pos rfl]
    by_cases hb0 : hi (tv bk b) = 0
    · rw [if_pos hb0, hs]; simp only [Option.bind_some]
      rw [size8 hk]
      congr 1; rw [Bool.eq_iff_iff]; simp only [decide_eq_true_eq]
      constructor
      · intro hl
        left
        by_cases hh : b < 0 ∨ wd k ≤ b
        · exact hh
        · exact absurd hl (hcnt.2 hh).2
      · rintro (h | h)
        · by_cases hl : lo (tv bk b) ≥ wd k
          · exact hl
          · exact absurd h (hcnt.1 ⟨hb0, hl⟩)
        · omega
    · rw [if_neg hb0]; congr 1; symm; rw [decide_eq_true_eq]
      left
      by_cases hh : b < 0 ∨ wd k ≤ b
      · exact hh
      · exact absurd (hcnt.2 hh).1 hb0
theorem undef_no (n : Nat) {op k x y z w : Int} (ho : op ≠ 4 ∧ op ≠ 5 ∧ op ≠ 6 ∧ op ≠ 7) : arith_undefined.f (n + 1) op k x y z w = some false := by
  unfold arith_undefined.f
  have f5 : (op == 5) = false := beq_eq_false_iff_ne.mpr ho.2.1
  rw [if_neg ho.1, f5]
  simp only [arith_undefined.j0]
  rw [if_neg (by decide), if_neg ho.2.2.1, if_neg ho.2.2.2]
theorem two2_eq (n : Nat) {op k x y : Int} (ho : 1 ≤ op ∧ op ≤ 14) (hs : op ≠ 6 ∧ op ≠ 7) (hk : isK k) (h5 : 5 ≤ k) (hx : okV k x) (hy : okV k y) :
    arith_Two.j0 (n + 8) op k (hi x) (lo x) (hi y) (lo y) = some (two2 op k x y) := by
  obtain ⟨ax, ax'⟩ := okV_range hx
  obtain ⟨ay, ay'⟩ := okV_range hy
  simp only [arith_Two.j0]
  have hsh : decide (op = 6 ∨ op = 7) = false := decide_eq_false (by omega)
  by_cases hd : op = 4 ∨ op = 5
  · rw [undef_div (n + 2) hd hk hx hy]
    simp only [Option.bind_some]
    have e : two2 op k x y = if y = 0 then (0, 0, 90) else if tv k (conv k (Int.tdiv x y)) = Int.tdiv x y then fin k (if op = 4 then Int.tdiv x y else Int.tmod x y) else (0, 0, 90) := by
      unfold two2; rw [if_neg (by omega), if_neg (by omega), if_neg (by omega), if_pos hd]
    rw [e]
    by_cases hu : y = 0 ∨ ¬ tv k (conv k (Int.tdiv x y)) = Int.tdiv x y
    · rw [if_pos (decide_eq_true hu)]
      by_cases hy0 : y = 0
      · rw [if_pos hy0]
      · rw [if_neg hy0, if_neg (hu.resolve_left hy0)]
    · have hy0 : y ≠ 0 := fun h => hu (.inl h)
      have hq : tv k (conv k (Int.tdiv x y)) = Int.tdiv x y := by
        by_cases h : tv k (conv k (Int.tdiv x y)) = Int.tdiv x y
        · exact h
        · exact absurd (.inr h) hu
      rw [if_neg (by simp [hy0, hq]), if_neg hy0, if_pos hq, isTruth_eq ho.2]
      simp only [Option.bind_some]
      rw [if_neg (by simp; omega), isShift_eq, hsh]
      simp only [Option.bind_some]
      rw [if_neg (by decide)]
      obtain ⟨r, hr, hm⟩ := made_arith (n + 3) (op := op) (by omega) hx hy (fun _ => hy0)
      rw [hm]; simp only [Option.bind_some]
      have hr2 : r = if op = 4 then Int.tdiv x y else Int.tmod x y := by
        rw [hr, if_neg (by omega), if_neg (by omega), if_neg (by omega)]
        rcases hd with rfl | rfl <;> simp only [Int.reduceEq, if_true, if_false]
      have b1 := Int.natAbs_tdiv_le_natAbs x y
      have b2 : (Int.tmod x y).natAbs ≤ x.natAbs := by rw [Int.natAbs_tmod]; exact Nat.mod_le _ _
      rw [j1_eq _ hk (.inr (by rw [hr2]; split <;> omega)), hr2]
  · rw [undef_no _ (by omega)]
    simp only [Option.bind_some]
    rw [if_neg (by decide), isTruth_eq ho.2]
    simp only [Option.bind_some]
    by_cases ht : 11 ≤ op
    · rw [if_pos (decide_eq_true ht), made_cmp _ ⟨ht, ho.2⟩ hx hy]
      simp only [Option.bind_some]
      have e : two2 op k x y = (truth (cmp op x y), 5, 0) := by
        unfold two2
        rw [if_neg (by omega), if_neg (by omega), if_neg (by omega), if_neg (by omega), if_neg (by omega)]
      rw [e]
      have := truth_range (cmp op x y)
      rw [wrap64_id (by omega) (by omega)]
    · rw [if_neg (by simp; omega), isShift_eq, hsh]
      simp only [Option.bind_some]
      rw [if_neg (by decide)]
      obtain ⟨r, hr, hm⟩ := made_arith (n + 3) (op := op) (by omega) hx hy (by omega)
      rw [hm]; simp only [Option.bind_some]
      have hb := bnum_range op k x y
      have hrr : k % 2 = 0 ∨ (-170141183460469231731687303715884105728 ≤ r ∧ r < 170141183460469231731687303715884105728) := by
        by_cases h8 : k % 2 = 0
        · exact .inl h8
        · right
          have hk8 : k ≠ 8 := by omega
          have hm := okV_mul hk8 hx hy
          rw [hr]
          split
          · omega
          split
          · omega
          split
          · exact hm
          split
          · omega
          split
          · omega
          · omega
      rw [j1_eq _ hk hrr]
      congr 1
      rw [hr]
      have hc : op = 1 ∨ op = 2 ∨ op = 3 ∨ op = 8 ∨ op = 9 ∨ op = 10 := by omega
      rcases hc with rfl | rfl | rfl | rfl | rfl | rfl <;> simp only [two2, Int.reduceEq, Int.reduceLE, if_true, if_false, or_self, and_self, or_false, false_or, and_true, true_and]
theorem twoS_eq (n : Nat) {op k x b bk : Int} (ho : op = 6 ∨ op = 7) (hk : isK k) (h5 : 5 ≤ k) (hx : okV k x) (hb : -9223372036854775808 ≤ b) (hb' : b ≤ 9223372036854775807) :
    arith_Two.j0 (n + 8) op k (hi x) (lo x) (hi (tv bk b)) (lo (tv bk b)) = some (twoS op k x b) := by
  obtain ⟨ax, ax'⟩ := okV_range hx
  simp only [arith_Two.j0]
  rw [undef_shift (n + 6) ho hk hx hb hb']
  simp only [Option.bind_some]
  unfold twoS
  by_cases hu : b < 0 ∨ wd k ≤ b
  · rw [if_pos (by simp [hu]), if_pos hu]
  · rw [if_neg hu]
    have hw := wd_range hk
    have htv : tv bk b = b := by unfold tv; split <;> omega
    have hlo : lo b = b := lo_small (by omega) (by omega)
    rw [isTruth_eq (by omega)]
    simp only [Option.bind_some]
    have hsh : decide (op = 6 ∨ op = 7) = true := decide_eq_true ho
    have e11 : ¬ (decide (11 ≤ op) = true) := by simp; omega
    have hwb : wrap64 b = b := wrap64_id (by omega) (by omega)
    rcases ho with rfl | rfl
    · by_cases hx0 : x < 0
      · rw [if_pos (by simp [hx0]), if_pos rfl, if_pos hx0]
      · rw [if_neg (by simp [hu, hx0]), if_neg e11, isShift_eq, hsh]
        simp only [Option.bind_some, if_true]
        rw [htv, hlo, hwb, if_neg hx0]
        obtain ⟨h, h1, h2⟩ := shifted6 (n := b) ax ax' (by omega) (by omega)
        rw [h1, h2 (by omega)]
        simp only [Option.bind_some]
        refine j1_eq _ hk ?_
        right
        have hp : (2 : Int) ^ b.toNat ≤ 9223372036854775808 := by
          obtain ⟨p, q, hp, hq, hpq, p0, q0, eq, ep, pl⟩ := pows (n := b) (by omega) (by omega)
          rw [hp]; omega
        have hp0 : (0 : Int) ≤ 2 ^ b.toNat := Int.pow_nonneg (by decide)
        have h1 : 0 ≤ x * 2 ^ b.toNat := Int.mul_nonneg (by omega) hp0
        have h2 : x * 2 ^ b.toNat ≤ 18446744073709551615 * 9223372036854775808 := Int.mul_le_mul (by omega) hp hp0 (by decide)
        omega
    · rw [if_neg (by simp [hu]), if_neg e11, isShift_eq, hsh]
      simp only [Option.bind_some, if_true]
      rw [htv, hlo, hwb, shifted7 (n := b) ax ax' (by omega) (by omega)]
      simp only [Option.bind_some]
      rw [if_neg (by decide)]
      refine j1_eq _ hk ?_
      right
      obtain ⟨p, q, hp, hq, hpq, p0, q0, eq, ep, pl⟩ := pows (n := b) (by omega) (by omega)
      rw [hp]
      have := ediv_small p0 ax ax'
      omega
theorem two_eq (n : Nat) (op a ak b bk : Int) (ha : -9223372036854775808 ≤ a) (ha' : a ≤ 9223372036854775807) (hb : -9223372036854775808 ≤ b) (hb' : b ≤ 9223372036854775807) :
    arith_Two.f (n + 8) op a ak b bk = some (two op a ak b bk) := by
  unfold arith_Two.f two
  have hB : arith_Binary.f op = some (decide (1 ≤ op ∧ op ≤ 14)) := by
    unfold arith_Binary.f
    by_cases h : op ≥ 1
    · rw [if_pos h]; congr 1; rw [Bool.eq_iff_iff]; simp; intro; omega
    · rw [if_neg h]; congr 1; symm; exact decide_eq_false (by omega)
  rw [hB]
  simp only [Option.bind_some]
  by_cases ho : 1 ≤ op ∧ op ≤ 14
  · rw [if_pos (decide_eq_true ho), if_pos ho, lies_eq a ak ha ha', lies_eq b bk hb hb']
    simp only [Option.bind_some]
    by_cases hla : lies a ak = true
    · by_cases hlb : lies b bk = true
      · rw [if_pos hla, if_pos hlb, if_pos ⟨hla, hlb⟩]
        obtain ⟨hka, hca⟩ := lies_isK hla
        obtain ⟨hkb, hcb⟩ := lies_isK hlb
        obtain ⟨hk, h5⟩ := inK_isK op hka hkb
        rw [in_eq ho hka hkb]
        simp only [Option.bind_some]
        rw [to_yes hk a ha ha']
        simp only [Option.bind_some]
        rw [of_eq _ _ (conv_range _ _).1 (conv_range _ _).2, of_eq b bk hb hb', isShift_eq]
        simp only [Option.bind_some]
        have hx := okV_tv (inK op ak bk) (conv (inK op ak bk) a) (conv_range _ _).1 (conv_range _ _).2
        by_cases hs : op = 6 ∨ op = 7
        · rw [if_pos (decide_eq_true hs), if_pos hs, twoS_eq n hs hk h5 hx hb hb']
          have : inK op ak bk = prom ak := by unfold inK; rw [if_pos hs]
          rw [this]
        · rw [if_neg (by simp [hs]), if_neg hs, to_yes hk b hb hb']
          simp only [Option.bind_some]
          rw [of_eq _ _ (conv_range _ _).1 (conv_range _ _).2]
          simp only [Option.bind_some]
          rw [two2_eq n ho (by omega) hk h5 hx (okV_tv _ _ (conv_range _ _).1 (conv_range _ _).2)]
      · rw [if_pos hla, if_neg hlb, if_neg (by simp [hlb])]
    · rw [if_neg hla, if_neg (by simp [hla])]
  · rw [if_neg (by simp; omega), if_neg ho]
end Go.Proofs.YtgdkkcdmflopjaaDoor.Pure
namespace Go.Proofs.YtgdkkcdmflopjaaDoor.Mc
open Go.RowKit Go.Proofs.YtgdkkcdmflopjaaDoor.PA Go.Proofs.YtgdkkcdmflopjaaDoor.Pure Go.Proofs.MapFun Go.Proofs.YtgdkkcdmflopjaaDoorW.PrintWords Go.Proofs.YtgdkkcdmflopjaaDoorW.PrintLast Go.Proofs.YtgdkkcdmflopjaaDoorW.PrintMore
set_option linter.unusedVariables false
set_option linter.unusedSimpArgs false
def iCmp (d s : Int) : S35 := ⟨11, d, s, 0, 0, false, 0, ⟨#[]⟩⟩
def iSet (d op : Int) : S35 := ⟨12, d, 0, 0, 0, false, op, ⟨#[]⟩⟩
def iCqo : S35 := ⟨8, 0, 0, 0, 0, false, 0, ⟨#[]⟩⟩
def iDiv (s : Int) (sg : Bool) : S35 := ⟨9, 0, s, 0, 0, sg, 0, ⟨#[]⟩⟩
theorem obs_of {s : St} {v q : Int} (h0 : s.e = 0) (h1 : s.reg 0 = v) (hk : keptOk s) (h4 : s.reg 4 = q) : obs s = [0, v, 1, 2, 3, 4, 5, 6, q] := by
  obtain ⟨k1, k2, k3, k4, k5, k6⟩ := hk
  unfold obs
  rw [if_pos h0, h1, k1, k2, k3, k4, k5, k6, h4]
theorem obs_ne {s : St} {n : Int} (h : s.e = n) (hn : n ≠ 0) : obs s = [n] := by
  unfold obs
  rw [if_neg (by rw [h]; exact hn), h]
theorem pi8 (a b : Int) : PI 8 [] 0 (beginsP (st0 64 ((0 : Nat) : Int)) [a, b] 64) :=
  ⟨by kernel_rfl, by kernel_rfl, by kernel_rfl, ⟨by kernel_rfl, by kernel_rfl, by kernel_rfl, by kernel_rfl, by kernel_rfl, by kernel_rfl⟩, by kernel_rfl, by kernel_rfl, by kernel_rfl, fun i h => absurd h (by simp)⟩
theorem pi8_regs (a b : Int) : (beginsP (st0 64 ((0 : Nat) : Int)) [a, b] 64).reg 7 = a ∧ (beginsP (st0 64 ((0 : Nat) : Int)) [a, b] 64).reg 6 = b := ⟨by kernel_rfl, by kernel_rfl⟩
theorem ret_run (W : Nat) (hW : W ≤ 8192) (hW1 : 1 ≤ W) {l P : List S35} {s : St} (hl : l = P ++ [iRet]) (h : PI W [] P.length s) (n : Nat) :
    obs (goesP l (n + 1) s) = [0, s.reg 0, 1, 2, 3, 4, 5, 6, 8 * (W : Int)] := by
  have hr4 : St.reg { s with pc := s.pc + 1, fl := none } 4 = 8 * ((W : Int) - 1) := by
    show s.reg 4 = _
    rw [h.r4]; simp
  have hok : wordOk { s with pc := s.pc + 1, fl := none } (8 * ((W : Int) - 1)) = true := by
    refine wordOk_iff.2 ⟨by omega, by omega, ?_⟩
    show _ < ((s.mem.length : Nat) : Int)
    rw [h.ml]; omega
  have hp : St.pop { s with pc := s.pc + 1, fl := none } = (-1, St.setR { s with pc := s.pc + 1, fl := none } 4 (8 * (W : Int))) := by
    unfold St.pop
    rw [hr4]
    unfold St.load
    rw [if_pos hok]
    have : (8 * ((W : Int) - 1) / 8).toNat = W - 1 := by omega
    rw [this]
    show (s.mem.getD (W - 1) 0, _) = _
    rw [h.bot, w64_id (by omega)]
    rw [show 8 * ((W : Int) - 1) + 8 = 8 * (W : Int) by omega]
  have e6 : goesP l (n + 1) s = St.setR { s with pc := s.pc + 1, fl := none } 4 (8 * (W : Int)) := by
    refine goes_last (P := P) (x := iRet) (S := []) hl h.pc ?_
    rw [stp_ret]
    unfold St.returns
    rw [hp]
    rw [if_neg (by show ¬ (s.e ≠ 0); rw [h.e]; simp), if_pos rfl]
  rw [e6]
  have hr : ∀ k, (St.setR { s with pc := s.pc + 1, fl := none } 4 (8 * (W : Int))).reg k = if 4 = k then 8 * (W : Int) else s.reg k := fun k =>
    reg_setR { s with pc := s.pc + 1, fl := none } 4 k _ (show 4 < s.r.length by rw [h.rl]; omega)
  obtain ⟨k1, k2, k3, k4, k5, k6⟩ := h.k
  exact obs_of h.e (by rw [hr, if_neg (by decide)]) ⟨by rw [hr, if_neg (by decide)]; exact k1, by rw [hr, if_neg (by decide)]; exact k2, by rw [hr, if_neg (by decide)]; exact k3, by rw [hr, if_neg (by decide)]; exact k4, by rw [hr, if_neg (by decide)]; exact k5, by rw [hr, if_neg (by decide)]; exact k6⟩ (by rw [hr, if_pos rfl])
theorem cmp_obs (a b op : Int) : obs (endP [iLab, iCmp 7 6, iSet 0 op, iRet] [a, b] 20 64 ((0 : Nat) : Int)) = [0, if holdsP op a b then 1 else 0, 1, 2, 3, 4, 5, 6, 64] := by
  have h := pi8 a b
  obtain ⟨g7, g6⟩ := pi8_regs a b
  show obs (goesP _ 20 _) = _
  generalize beginsP (st0 64 ((0 : Nat) : Int)) [a, b] 64 = s at h g7 g6 ⊢
  have h1 := h.step s.fl
  have e1 : goesP [iLab, iCmp 7 6, iSet 0 op, iRet] 20 s = goesP [iLab, iCmp 7 6, iSet 0 op, iRet] 19 { s with pc := s.pc + 1, fl := s.fl } :=
    goes_step (P := []) (x := iLab) rfl h.pc (stp_lab _ _) h1.e
  have k7 : St.reg { s with pc := s.pc + 1, fl := s.fl } 7 = a := g7
  have k6 : St.reg { s with pc := s.pc + 1, fl := s.fl } 6 = b := g6
  generalize ({ s with pc := s.pc + 1, fl := s.fl } : St) = s1 at h1 e1 k7 k6
  have h2 := h1.step (some (a, b))
  have e2 : goesP [iLab, iCmp 7 6, iSet 0 op, iRet] 19 s1 = goesP [iLab, iCmp 7 6, iSet 0 op, iRet] 18 { s1 with pc := s1.pc + 1, fl := some (a, b) } := by
    refine goes_step (P := [iLab]) (x := iCmp 7 6) rfl h1.pc ?_ h2.e
    show (false, ({ s1 with pc := s1.pc + 1, fl := some (s1.reg 7, s1.reg 6) } : St)) = _
    rw [k7, k6]
  have f2 : ({ s1 with pc := s1.pc + 1, fl := some (a, b) } : St).fl = some (a, b) := rfl
  generalize ({ s1 with pc := s1.pc + 1, fl := some (a, b) } : St) = s2 at h2 e2 f2
  have h3 := (h2.step s2.fl).setR 0 0 (by omega)
  have g0 := (h2.step s2.fl).get 0 0 0 (by omega)
  have hh : (St.setR { s2 with pc := s2.pc + 1, fl := s2.fl } 0 0).holds op = (holdsP op a b, St.setR { s2 with pc := s2.pc + 1, fl := s2.fl } 0 0) := by
    unfold St.holds
    rw [show (St.setR { s2 with pc := s2.pc + 1, fl := s2.fl } 0 0).fl = some (a, b) from f2]
  have e3' : s2.stp ([iLab, iCmp 7 6, iSet 0 op, iRet] : List S35).length (iSet 0 op) = (false, if holdsP op a b then (St.setR { s2 with pc := s2.pc + 1, fl := s2.fl } 0 0).setR 0 1 else St.setR { s2 with pc := s2.pc + 1, fl := s2.fl } 0 0) := by
    show (false, if ((St.setR { s2 with pc := s2.pc + 1, fl := s2.fl } 0 0).holds op).1 = true then ((St.setR { s2 with pc := s2.pc + 1, fl := s2.fl } 0 0).holds op).2.setR 0 1 else ((St.setR { s2 with pc := s2.pc + 1, fl := s2.fl } 0 0).holds op).2) = _
    rw [hh]
  rw [e1, e2]
  cases hc : holdsP op a b with
  | true =>
    rw [hc, if_pos rfl] at e3'
    have h4 := h3.setR 0 1 (by omega)
    have e3 : goesP [iLab, iCmp 7 6, iSet 0 op, iRet] 18 s2 = goesP [iLab, iCmp 7 6, iSet 0 op, iRet] 17 _ := goes_step (n := 17) (P := [iLab, iCmp 7 6]) (x := iSet 0 op) (S := [iRet]) rfl h2.pc e3' h4.e
    rw [e3, ret_run 8 (by omega) (by omega) (l := [iLab, iCmp 7 6, iSet 0 op, iRet]) (P := [iLab, iCmp 7 6, iSet 0 op]) rfl h4 16, h3.get 0 0 1 (by omega)]
    rfl
  | false =>
    rw [hc, if_neg (by decide)] at e3'
    have e3 : goesP [iLab, iCmp 7 6, iSet 0 op, iRet] 18 s2 = goesP [iLab, iCmp 7 6, iSet 0 op, iRet] 17 _ := goes_step (n := 17) (P := [iLab, iCmp 7 6]) (x := iSet 0 op) (S := [iRet]) rfl h2.pc e3' h3.e
    rw [e3, ret_run 8 (by omega) (by omega) (l := [iLab, iCmp 7 6, iSet 0 op, iRet]) (P := [iLab, iCmp 7 6, iSet 0 op]) rfl h3 16, g0]
    rfl
def noDiv (sg : Bool) (a b : Int) : Bool := b == 0 || (sg && b == -1 && a == -9223372036854775808)
def wideI (sg : Bool) : S35 := if sg then iCqo else iImm 2 0
def divL (sg : Bool) : List S35 := [iLab, iMov 0 7, wideI sg, iDiv 6 sg, iRet]
theorem div_obs (sg : Bool) (a b : Int) : obs (endP (divL sg) [a, b] 20 64 ((0 : Nat) : Int)) = if noDiv sg a b then [193] else [0, wv 4 (kindOfP 8 sg) a b, 1, 2, 3, 4, 5, 6, 64] := by
  have h := pi8 a b
  obtain ⟨g7, g6⟩ := pi8_regs a b
  show obs (goesP _ 20 _) = _
  generalize beginsP (st0 64 ((0 : Nat) : Int)) [a, b] 64 = s at h g7 g6 ⊢
  have h1 := h.step s.fl
  have e1 : goesP (divL sg) 20 s = goesP (divL sg) 19 { s with pc := s.pc + 1, fl := s.fl } :=
    goes_step (P := []) (x := iLab) rfl h.pc (stp_lab _ _) h1.e
  have k7 : St.reg { s with pc := s.pc + 1, fl := s.fl } 7 = a := g7
  have k6 : St.reg { s with pc := s.pc + 1, fl := s.fl } 6 = b := g6
  generalize ({ s with pc := s.pc + 1, fl := s.fl } : St) = s1 at h1 e1 k7 k6
  have h2 := (h1.step s1.fl).setR 0 a (by omega)
  have e2 : goesP (divL sg) 19 s1 = goesP (divL sg) 18 (St.setR { s1 with pc := s1.pc + 1, fl := s1.fl } 0 a) := by
    refine goes_step (P := [iLab]) (x := iMov 0 7) rfl h1.pc ?_ h2.e
    rw [stp_mov]
    show (false, St.setR _ 0 (s1.reg 7)) = _
    rw [k7]
  have l0 : (St.setR { s1 with pc := s1.pc + 1, fl := s1.fl } 0 a).reg 0 = a := by rw [(h1.step s1.fl).get 0 0 a (by omega), if_pos rfl]
  have l6 : (St.setR { s1 with pc := s1.pc + 1, fl := s1.fl } 0 a).reg 6 = b := by rw [(h1.step s1.fl).get 0 6 a (by omega), if_neg (by decide)]; exact k6
  generalize St.setR { s1 with pc := s1.pc + 1, fl := s1.fl } 0 a = s2 at h2 e2 l0 l6
  obtain ⟨s3, h3, e3, m0, m6, m2⟩ : ∃ s3, PI 8 [] 3 s3 ∧ goesP (divL sg) 18 s2 = goesP (divL sg) 17 s3 ∧ s3.reg 0 = a ∧ s3.reg 6 = b ∧ s3.reg 2 = (if sg then a / 9223372036854775808 else 0) := by
    cases sg with
    | true =>
      have h3 := (h2.step none).setR 2 (a / 9223372036854775808) (by omega)
      refine ⟨_, h3, ?_, by rw [(h2.step none).get 2 0 _ (by omega), if_neg (by decide)]; exact l0, by rw [(h2.step none).get 2 6 _ (by omega), if_neg (by decide)]; exact l6, by rw [(h2.step none).get 2 2 _ (by omega), if_pos rfl]; rfl⟩
      refine goes_step (P := [iLab, iMov 0 7]) (x := iCqo) (S := [iDiv 6 true, iRet]) rfl h2.pc ?_ h3.e
      show (false, St.setR { s2 with pc := s2.pc + 1, fl := none } 2 (s2.reg 0 / 9223372036854775808)) = _
      rw [l0]
    | false =>
      have h3 := (h2.step s2.fl).setR 2 0 (by omega)
      refine ⟨_, h3, ?_, by rw [(h2.step s2.fl).get 2 0 _ (by omega), if_neg (by decide)]; exact l0, by rw [(h2.step s2.fl).get 2 6 _ (by omega), if_neg (by decide)]; exact l6, by rw [(h2.step s2.fl).get 2 2 _ (by omega), if_pos rfl]; rfl⟩
      exact goes_step (P := [iLab, iMov 0 7]) (x := iImm 2 0) (S := [iDiv 6 false, iRet]) rfl h2.pc (stp_imm _ _ _ _) h3.e
  rw [e1, e2, e3]
  have e4 : s3.stp (divL sg).length (iDiv 6 sg) = (false, if trapB { s3 with pc := s3.pc + 1, fl := none } b sg then { ({ s3 with pc := s3.pc + 1, fl := none } : St) with e := 193 } else (St.setR { s3 with pc := s3.pc + 1, fl := none } 0 (wv 4 (kindOfP 8 sg) a b)).setR 2 (wv 5 (kindOfP 8 sg) a b)) := by
    show (false, St.divides { s3 with pc := s3.pc + 1, fl := none } 6 sg) = _
    unfold St.divides
    show (false, if trapB { s3 with pc := s3.pc + 1, fl := none } (s3.reg 6) sg = true then _ else (St.setR _ 0 (wv 4 (kindOfP 8 sg) (s3.reg 0) (s3.reg 6))).setR 2 (wv 5 (kindOfP 8 sg) (s3.reg 0) (s3.reg 6))) = _
    rw [m0, m6]
  have ht : trapB { s3 with pc := s3.pc + 1, fl := none } b sg = noDiv sg a b := by
    show (b == 0 || s3.reg 2 != (if sg then s3.reg 0 / 9223372036854775808 else 0) || (sg && b == -1 && s3.reg 0 == -9223372036854775808)) = _
    rw [m2, m0]
    unfold noDiv
    simp
  rw [ht] at e4
  cases hc : noDiv sg a b with
  | true =>
    rw [hc, if_pos rfl] at e4
    have e5 : goesP (divL sg) 17 s3 = _ := goes_err (n := 16) (P := [iLab, iMov 0 7, wideI sg]) (x := iDiv 6 sg) (S := [iRet]) rfl h3.pc e4 (by show (193 : Int) ≠ 0; decide)
    rw [e5]
    exact obs_ne rfl (by decide)
  | false =>
    rw [hc, if_neg (by decide)] at e4
    have h4 := (h3.step none).setR 0 (wv 4 (kindOfP 8 sg) a b) (by omega)
    have h5 := h4.setR 2 (wv 5 (kindOfP 8 sg) a b) (by omega)
    have e5 : goesP (divL sg) 17 s3 = goesP (divL sg) 16 _ := goes_step (n := 16) (P := [iLab, iMov 0 7, wideI sg]) (x := iDiv 6 sg) (S := [iRet]) rfl h3.pc e4 h5.e
    rw [e5]
    rw [ret_run 8 (by omega) (by omega) (l := divL sg) (P := [iLab, iMov 0 7, wideI sg, iDiv 6 sg]) rfl h5 15, h4.get 2 0 _ (by omega), if_neg (by decide), (h3.step none).get 0 0 _ (by omega), if_pos rfl]
    rfl
theorem cmp_good : ∀ op ∈ [2, 3, 4, 5], goodL [iLab, iCmp 7 6, iSet 0 op, iRet] = true := by decide +kernel
theorem div_good : ∀ sg, goodL (divL sg) = true := by decide +kernel
theorem cmp_run (a b op : Int) (ha : In64 a) (hb : In64 b) (ho : op ∈ [2, 3, 4, 5]) : ∃ ev, mach_Run.f [iLab, iCmp 7 6, iSet 0 op, iRet] [hd2] ⟨#[102]⟩ [a, b] [] 20 64 = some (0, (if holdsP op a b then 1 else 0), ev) :=
  run_v 56 (cmp_good op ho) ha hb (by decide) (by decide) (by decide) (by decide) (by decide) (beg64 a b) (cmp_obs a b op) (by decide +kernel) (by split <;> (unfold In64; omega))
theorem div_run (sg : Bool) (a b : Int) (ha : In64 a) (hb : In64 b) : ∃ ev, mach_Run.f (divL sg) [hd2] ⟨#[102]⟩ [a, b] [] 20 64 = some (if noDiv sg a b then 193 else 0, if noDiv sg a b then 0 else wv 4 (kindOfP 8 sg) a b, ev) := by
  have ho := div_obs sg a b
  cases hc : noDiv sg a b with
  | true =>
    rw [hc, if_pos rfl] at ho
    exact run_e (div_good sg) ha hb (by decide) (by decide) (by decide) (by decide) (by decide) (beg64 a b).1 ho
  | false =>
    rw [hc, if_neg (by decide)] at ho
    exact run_v 56 (div_good sg) ha hb (by decide) (by decide) (by decide) (by decide) (by decide) (beg64 a b) ho (by decide +kernel) (wv_in _ _ _ _)
end Go.Proofs.YtgdkkcdmflopjaaDoor.Mc
namespace Go.Proofs.YtgdkkcdmflopjaaDoor.Mc
open Go.RowKit Go.Proofs.YtgdkkcdmflopjaaDoor.PA Go.Proofs.YtgdkkcdmflopjaaDoor.Pure Go.Proofs.MapFun Go.Proofs.YtgdkkcdmflopjaaDoorW.PrintWords Go.Proofs.YtgdkkcdmflopjaaDoorW.PrintLast Go.Proofs.YtgdkkcdmflopjaaDoorW.PrintMore
set_option linter.unusedVariables false
set_option linter.unusedSimpArgs false
def kOf (sg : Bool) : Int := if sg then 7 else 8
theorem lies_k (sg : Bool) {a : Int} (h : In64 a) : lies a (kOf sg) = true := by
  cases sg with
  | false => exact lies8 h
  | true =>
    unfold In64 at h
    simp [lies, conv, kOf]
    omega
theorem less_law (sg : Bool) (a b : Int) (ha : In64 a) (hb : In64 b) : arith_Wrap.f 8 11 (kOf sg) a b = some ((if holdsP (if sg then 2 else 4) a b then 1 else 0), 0) := by
  rw [wrap_eq 0 11 (kOf sg) a b ha.1 ha.2 hb.1 hb.2]
  have h : wrapS 11 (kOf sg) a b = (truth (cmp 11 (tv (kOf sg) a) (tv (kOf sg) b)), 0) := by
    unfold wrapS
    rw [if_pos (by decide), if_pos ⟨lies_k sg ha, lies_k sg hb⟩, if_neg (by decide), if_pos (by decide)]
  rw [h]
  cases sg with
  | true => rfl
  | false =>
    show some (truth (decide (a % 18446744073709551616 < b % 18446744073709551616)), (0 : Int)) = some (if decide (IntKind.u64.wrap a < IntKind.u64.wrap b) then 1 else 0, 0)
    rw [wrap_u64, wrap_u64]; rfl
theorem leq_law (sg : Bool) (a b : Int) (ha : In64 a) (hb : In64 b) : arith_Wrap.f 8 12 (kOf sg) a b = some ((if holdsP (if sg then 3 else 5) a b then 1 else 0), 0) := by
  rw [wrap_eq 0 12 (kOf sg) a b ha.1 ha.2 hb.1 hb.2]
  have h : wrapS 12 (kOf sg) a b = (truth (cmp 12 (tv (kOf sg) a) (tv (kOf sg) b)), 0) := by
    unfold wrapS
    rw [if_pos (by decide), if_pos ⟨lies_k sg ha, lies_k sg hb⟩, if_neg (by decide), if_pos (by decide)]
  rw [h]
  cases sg with
  | true => rfl
  | false =>
    show some (truth (decide (a % 18446744073709551616 ≤ b % 18446744073709551616)), (0 : Int)) = some (if decide (IntKind.u64.wrap a ≤ IntKind.u64.wrap b) then 1 else 0, 0)
    rw [wrap_u64, wrap_u64]; rfl
theorem kindOf_k (sg : Bool) : kindOfP 8 sg = kOf sg := by cases sg <;> rfl
theorem tdiv_small {x y : Int} (hx : 0 ≤ x ∧ x < 18446744073709551616) (hy : 0 ≤ y) : 0 ≤ Int.tdiv x y ∧ Int.tdiv x y < 18446744073709551616 := by
  refine ⟨Int.tdiv_nonneg hx.1 hy, ?_⟩
  rw [Int.tdiv_eq_ediv_of_nonneg hx.1]
  have : x / y ≤ x := Int.ediv_le_self y hx.1
  omega
theorem tdiv_in {a b : Int} (ha : In64 a) (hb : b ≠ 0) (h : ¬ (b = -1 ∧ a = -9223372036854775808)) : In64 (Int.tdiv a b) := by
  have h1 : (Int.tdiv a b).natAbs = a.natAbs / b.natAbs := Int.natAbs_tdiv a b
  unfold In64 at *
  by_cases hb1 : b = -1
  · subst hb1
    have : Int.tdiv a (-1) = -a := by simp
    rw [this]; omega
  by_cases hb2 : b = 1
  · subst hb2
    rw [Int.tdiv_one]; exact ha
  have h2 : 2 ≤ b.natAbs := by omega
  have h3 : a.natAbs / b.natAbs ≤ a.natAbs / 2 := Nat.div_le_div_left h2 (by omega)
  omega
theorem div_law (sg : Bool) (a b : Int) (ha : In64 a) (hb : In64 b) : arith_Two.f 8 4 a (kOf sg) b (kOf sg) = some (if noDiv sg a b then (0, 0, 90) else (wv 4 (kOf sg) a b, kOf sg, 0)) := by
  rw [two_eq 0 4 a (kOf sg) b (kOf sg) ha.1 ha.2 hb.1 hb.2]
  have h1 : two 4 a (kOf sg) b (kOf sg) = two2 4 (kOf sg) (tv (kOf sg) (conv (kOf sg) a)) (tv (kOf sg) (conv (kOf sg) b)) := by
    unfold two
    rw [if_pos (by decide), if_pos ⟨lies_k sg ha, lies_k sg hb⟩, if_neg (by decide)]
    cases sg <;> rfl
  have hw : wv 4 (kOf sg) a b = conv (kOf sg) (if tv (kOf sg) b = 0 then 0 else Int.tdiv (tv (kOf sg) a) (tv (kOf sg) b)) := by
    unfold wv wrapS
    rw [if_pos (by decide), if_pos ⟨lies_k sg ha, lies_k sg hb⟩]
    rfl
  have h2 : two2 4 (kOf sg) (tv (kOf sg) (conv (kOf sg) a)) (tv (kOf sg) (conv (kOf sg) b)) = (if tv (kOf sg) (conv (kOf sg) b) = 0 then (0, 0, 90) else if tv (kOf sg) (conv (kOf sg) (Int.tdiv (tv (kOf sg) (conv (kOf sg) a)) (tv (kOf sg) (conv (kOf sg) b)))) = Int.tdiv (tv (kOf sg) (conv (kOf sg) a)) (tv (kOf sg) (conv (kOf sg) b)) then fin (kOf sg) (Int.tdiv (tv (kOf sg) (conv (kOf sg) a)) (tv (kOf sg) (conv (kOf sg) b))) else (0, 0, 90)) := rfl
  rw [h1, h2, hw]
  congr 1
  cases sg with
  | false =>
    have e1 : ∀ x, In64 x → tv 8 (conv 8 x) = x % 18446744073709551616 := fun x hx => by
      show (((x + 9223372036854775808) % 18446744073709551616 - 9223372036854775808) % 18446744073709551616) = _
      omega
    have e2 : ∀ r, 0 ≤ r ∧ r < 18446744073709551616 → tv 8 (conv 8 r) = r := fun r hr => by
      show (((r + 9223372036854775808) % 18446744073709551616 - 9223372036854775808) % 18446744073709551616) = _
      omega
    have ht : ∀ x, tv 8 x = x % 18446744073709551616 := fun x => rfl
    show (if tv 8 (conv 8 b) = 0 then ((0 : Int), (0 : Int), (90 : Int)) else if tv 8 (conv 8 (Int.tdiv (tv 8 (conv 8 a)) (tv 8 (conv 8 b)))) = Int.tdiv (tv 8 (conv 8 a)) (tv 8 (conv 8 b)) then fin 8 (Int.tdiv (tv 8 (conv 8 a)) (tv 8 (conv 8 b))) else (0, 0, 90)) = (if noDiv false a b = true then (0, 0, 90) else (conv 8 (if tv 8 b = 0 then 0 else Int.tdiv (tv 8 a) (tv 8 b)), 8, 0))
    rw [e1 a ha, e1 b hb, ht a, ht b]
    have hd := tdiv_small (x := a % 18446744073709551616) (y := b % 18446744073709551616) (by omega) (by omega)
    rw [e2 _ hd, if_pos rfl]
    have hn : noDiv false a b = (b == 0) := by simp [noDiv]
    rw [hn]
    unfold In64 at hb
    by_cases h0 : b = 0
    · subst h0; rfl
    · rw [if_neg (by omega), if_neg (by simpa using h0), if_neg (by omega)]
      rfl
  | true =>
    have e1 : ∀ x, In64 x → tv 7 (conv 7 x) = x := fun x hx => by
      unfold In64 at hx
      show (x + 9223372036854775808) % 18446744073709551616 - 9223372036854775808 = x
      omega
    have ht : ∀ x, tv 7 x = x := fun x => rfl
    show (if tv 7 (conv 7 b) = 0 then ((0 : Int), (0 : Int), (90 : Int)) else if tv 7 (conv 7 (Int.tdiv (tv 7 (conv 7 a)) (tv 7 (conv 7 b)))) = Int.tdiv (tv 7 (conv 7 a)) (tv 7 (conv 7 b)) then fin 7 (Int.tdiv (tv 7 (conv 7 a)) (tv 7 (conv 7 b))) else (0, 0, 90)) = (if noDiv true a b = true then (0, 0, 90) else (conv 7 (if tv 7 b = 0 then 0 else Int.tdiv (tv 7 a) (tv 7 b)), 7, 0))
    rw [e1 a ha, e1 b hb, ht a, ht b]
    have hn : noDiv true a b = (b == 0 || (b == -1 && a == -9223372036854775808)) := by simp [noDiv]
    rw [hn]
    by_cases h0 : b = 0
    · subst h0; rfl
    rw [if_neg h0, if_neg h0]
    by_cases h3 : b = -1 ∧ a = -9223372036854775808
    · obtain ⟨rfl, rfl⟩ := h3
      decide +kernel
    · have hin := tdiv_in ha h0 h3
      rw [e1 _ hin, if_pos rfl, if_neg (by simp [h0]; intro h; exact fun h' => h3 ⟨h, h'⟩)]
      have hfin : fin 7 (Int.tdiv a b) = (conv 7 (Int.tdiv a b), 7, 0) := by
        unfold fin
        rw [if_pos (Or.inr (e1 _ hin))]
      exact hfin
end Go.Proofs.YtgdkkcdmflopjaaDoor.Mc
