import Derived.Test.YtinfkbdhnbefmaaDoorF1
namespace Go.Proofs.YtinfkbdhnbefmaaDoor.PureF
open Go.RowKit Go.Lib Go.Proofs.YtinfkbdhnbefmaaDoorT Go.Proofs.YtinfkbdhnbefmaaDoor.PB Go.Proofs.YtinfkbdhnbefmaaDoorW.PrintWords Go.Proofs.YtinfkbdhnbefmaaDoorW.PrintLast Go.Proofs.YtinfkbdhnbefmaaDoorW.PrintMore
set_option linter.unusedVariables false
set_option linter.unusedSimpArgs false
theorem byte_eq (x : UInt8) (n : Nat) (hn : n < 256) : ((x.toNat : Int) = (n : Int)) ↔ x = UInt8.ofNat n := by
  constructor
  · intro h
    apply UInt8.toNat_inj.1
    rw [UInt8.toNat_ofNat']
    omega
  · rintro rfl
    rw [UInt8.toNat_ofNat']
    omega
theorem number_j6 (s : ByteArray) (i : Nat) (hi : i < s.size) (k : Nat) (hs : s.size < 9223372036854775800) (hpos : 0 < i) :
    burinref02_number.j6 (k + 1) s (i : Int) (isE (at_ s (i - 1))) = if onN s i then burinref02_number.l0 k s ((i + 1 : Nat) : Int) else some (i : Int) := by
  rw [burinref02_number.j6, if_pos (by omega), if_pos (by omega), bt_eq s i hi, letter_eq, Option.bind_some, wrap_succ i (by omega), digit_eq, Option.bind_some]
  unfold onN isW
  by_cases h1 : isL (at_ s i) = true
  · rw [h1]; rfl
  · have h1 : isL (at_ s i) = false := by simpa using h1
    rw [h1]
    by_cases h2 : isD (at_ s i) = true
    · rw [h2]; rfl
    · have h2 : isD (at_ s i) = false := by simpa using h2
      rw [h2, if_neg (by decide), if_neg (by decide)]
      by_cases h3 : at_ s i = 46
      · rw [if_pos (by rw [h3]; rfl), h3]; rfl
      · have e3 : ¬ (((at_ s i).toNat : Int) = 46) := fun hh => h3 ((byte_eq (at_ s i) 46 (by omega)).1 hh)
        rw [if_neg e3, show (at_ s i == 46) = false from beq_eq_false_iff_ne.2 h3]
        by_cases h4 : isE (at_ s (i - 1)) = true
        · rw [h4, if_pos rfl]
          by_cases h5 : at_ s i = 43
          · rw [if_pos (by rw [h5]; rfl), h5]
            simp [hpos]
          · have e5 : ¬ (((at_ s i).toNat : Int) = 43) := fun hh => h5 ((byte_eq (at_ s i) 43 (by omega)).1 hh)
            rw [if_neg e5, show (at_ s i == 43) = false from beq_eq_false_iff_ne.2 h5]
            by_cases h6 : at_ s i = 45
            · rw [if_pos (by rw [h6]; rfl), h6]
              simp [hpos]
            · have e6 : ¬ (((at_ s i).toNat : Int) = 45) := fun hh => h6 ((byte_eq (at_ s i) 45 (by omega)).1 hh)
              rw [if_neg e6, show (at_ s i == 45) = false from beq_eq_false_iff_ne.2 h6]
              simp
        · have h4 : isE (at_ s (i - 1)) = false := by simpa using h4
          rw [h4, if_neg (by decide)]
          simp
theorem number_l0 (s : ByteArray) (hs : s.size < 9223372036854775800) (e : Nat) : ∀ d i : Nat, 0 < i → i + d = s.size → burinref02_number.l0 (3 * d + 3 + e) s (i : Int) = some ((upto (onN s) d i : Nat) : Int) := by
  intro d
  induction d with
  | zero =>
    intro i hp h
    rw [show 3 * 0 + 3 + e = (e + 1) + 1 + 1 by omega, burinref02_number.l0, if_pos (by omega), decide_eq_false (by omega), burinref02_number.j5, if_neg (by decide)]
    rfl
  | succ d ih =>
    intro i hp h
    rw [show 3 * (d + 1) + 3 + e = ((3 * d + 3 + e) + 1) + 1 + 1 by omega, burinref02_number.l0, if_pos (by omega), decide_eq_true (by omega), burinref02_number.j5, if_pos rfl]
    have hw : wrap64 ((i : Int) - 1) = ((i - 1 : Nat) : Int) := by unfold wrap64; omega
    rw [hw, if_pos (by omega), if_pos (by omega), bt_eq s (i - 1) (by omega)]
    have key : ∀ b : Bool, b = isE (at_ s (i - 1)) → burinref02_number.j6 ((3 * d + 3 + e) + 1) s (i : Int) b = some ((upto (onN s) (d + 1) i : Nat) : Int) := fun b hb => by
      rw [hb, number_j6 s i (by omega) _ hs hp, upto]
      by_cases ho : onN s i = true
      · rw [if_pos ho, if_pos ho]; exact ih (i + 1) (by omega) (by omega)
      · rw [if_neg ho, if_neg ho]
    obtain ⟨p, hp'⟩ : ∃ p, at_ s (i - 1) = p := ⟨_, rfl⟩
    rw [hp'] at key ⊢
    unfold isE at key
    by_cases h1 : p = 101
    · rw [if_pos (by rw [h1]; rfl)]; exact key _ (by rw [h1]; rfl)
    · have e1 : ¬ ((p.toNat : Int) = 101) := fun hh => h1 ((byte_eq p 101 (by omega)).1 hh)
      rw [if_neg e1]
      by_cases h2 : p = 69
      · rw [if_pos (by rw [h2]; rfl)]; exact key _ (by rw [h2]; rfl)
      · have e2 : ¬ ((p.toNat : Int) = 69) := fun hh => h2 ((byte_eq p 69 (by omega)).1 hh)
        rw [if_neg e2]
        by_cases h3 : p = 112
        · rw [if_pos (by rw [h3]; rfl)]; exact key _ (by rw [h3]; rfl)
        · have e3 : ¬ ((p.toNat : Int) = 112) := fun hh => h3 ((byte_eq p 112 (by omega)).1 hh)
          rw [if_neg e3]
          refine key _ ?_
          rw [show (p == 101) = false from beq_eq_false_iff_ne.2 h1, show (p == 69) = false from beq_eq_false_iff_ne.2 h2, show (p == 112) = false from beq_eq_false_iff_ne.2 h3]
          rw [Bool.eq_iff_iff, beq_iff_eq]
          simp only [Bool.false_or, beq_iff_eq]
          exact byte_eq p 80 (by omega)
/-- Does a number begin a text? -/
def isNum (s : ByteArray) : Bool := isD (at_ s 0) || (at_ s 0 == 46 && (decide (1 < s.size) && isD (at_ s 1)))
theorem number_eq (s : ByteArray) (hs : s.size < 9223372036854775800) (h0 : 0 < s.size) (e : Nat) : burinref02_number.f (3 * s.size + 7 + e) s = some (if isNum s then ((upto (onN s) s.size 0 : Nat) : Int) else 0) := by
  obtain ⟨n, hn⟩ : ∃ n, s.size = n + 1 := ⟨s.size - 1, by omega⟩
  have l1 := number_l0 s hs (6 + e) n 1 (by omega) (by omega)
  have lz : ∀ k, burinref02_number.l0 (k + 2) s 0 = some 0 := fun k => by
    rw [burinref02_number.l0, if_neg (by decide), burinref02_number.j5, if_neg (by decide)]
  unfold burinref02_number.f
  rw [if_pos (by omega), if_pos (by omega), show bt s 0 = bt s ((0 : Nat) : Int) from rfl, bt_eq s 0 h0, digit_eq, Option.bind_some, show 3 * s.size + 7 + e = (3 * n + 3 + (3 + e)) + 1 + 1 + 1 + 1 by omega, burinref02_number.j0]
  by_cases h1 : isD (at_ s 0) = true
  · have n46 : ¬ (at_ s 0 = 46) := fun hh => by rw [hh] at h1; cases h1
    have hnum : isNum s = true := by unfold isNum; rw [h1]; rfl
    have hW : onN s 0 = true := by unfold onN isW; rw [h1]; simp
    have l2 := number_l0 s hs (3 + e) n 1 (by omega) (by omega)
    have e46 : ¬ (((at_ s 0).toNat : Int) = 46) := fun hh => n46 ((byte_eq (at_ s 0) 46 (by omega)).1 hh)
    have fin : burinref02_number.j2 (3 * n + 3 + (3 + e) + 1 + 1) s 1 false = some ((upto (onN s) s.size 0 : Nat) : Int) := by
      rw [burinref02_number.j2, if_neg (by decide), burinref02_number.j3, hn, upto, if_pos hW]
      exact l2
    rw [h1, if_pos rfl, burinref02_number.j1, hnum, if_pos rfl]
    by_cases hs1 : (s.size : Int) > 1
    · rw [if_pos hs1, if_pos (by omega), show bt s 0 = bt s ((0 : Nat) : Int) from rfl, bt_eq s 0 h0, if_neg e46]
      exact fin
    · rw [if_neg hs1]
      exact fin
  · have h1 : isD (at_ s 0) = false := by simpa using h1
    rw [h1, if_neg (by decide), burinref02_number.j1]
    have nope : isNum s = false → burinref02_number.j2 (3 * n + 3 + (3 + e) + 1 + 1) s 0 false = some (if isNum s then ((upto (onN s) s.size 0 : Nat) : Int) else 0) := fun hf => by
      rw [hf, burinref02_number.j2, if_neg (by decide), burinref02_number.j3, show 3 * n + 3 + (3 + e) = (3 * n + 4 + e) + 2 by omega, lz]
      rfl
    by_cases hs1 : (s.size : Int) > 1
    · rw [if_pos hs1, if_pos (by omega), show bt s 0 = bt s ((0 : Nat) : Int) from rfl, bt_eq s 0 h0]
      by_cases h46 : at_ s 0 = 46
      · rw [if_pos (by rw [h46]; rfl), if_pos hs1, show bt s 1 = bt s ((1 : Nat) : Int) from rfl, bt_eq s 1 (by omega), digit_eq, Option.bind_some]
        by_cases h2 : isD (at_ s 1) = true
        · have hnum : isNum s = true := by
            unfold isNum
            rw [h46, h2, decide_eq_true (show 1 < s.size by omega)]; rfl
          obtain ⟨j, hj⟩ : ∃ j, n = j + 1 := ⟨n - 1, by omega⟩
          have l3 := number_l0 s hs (6 + e) j 2 (by omega) (by omega)
          have o0 : onN s 0 = true := by unfold onN; rw [h46]; simp
          have o1 : onN s 1 = true := by unfold onN isW; rw [h2]; simp
          rw [h2, hnum, if_pos rfl, burinref02_number.j2, if_pos rfl, burinref02_number.j3, hn, hj, upto, if_pos o0, upto, if_pos o1, show 3 * (j + 1) + 3 + (3 + e) = 3 * j + 3 + (6 + e) by omega]
          exact l3
        · have h2 : isD (at_ s 1) = false := by simpa using h2
          rw [h2]
          exact nope (by unfold isNum; rw [h1, h2]; simp)
      · have e46 : ¬ (((at_ s 0).toNat : Int) = 46) := fun hh => h46 ((byte_eq (at_ s 0) 46 (by omega)).1 hh)
        rw [if_neg e46]
        exact nope (by unfold isNum; rw [h1, show (at_ s 0 == 46) = false from beq_eq_false_iff_ne.2 h46]; rfl)
    · rw [if_neg hs1]
      exact nope (by unfold isNum; rw [h1, decide_eq_false (show ¬ 1 < s.size by omega)]; simp)
end Go.Proofs.YtinfkbdhnbefmaaDoor.PureF
