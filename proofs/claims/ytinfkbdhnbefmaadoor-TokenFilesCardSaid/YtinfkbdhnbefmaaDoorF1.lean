import Derived.Test.YtinfkbdhnbefmaaDoorPBx10
import Derived.Test.YtinfkbdhnbefmaaDoorQ
namespace Go.Proofs.YtinfkbdhnbefmaaDoor.PureF
open Go.RowKit Go.Lib Go.Proofs.YtinfkbdhnbefmaaDoorT Go.Proofs.YtinfkbdhnbefmaaDoor.PB Go.Proofs.YtinfkbdhnbefmaaDoorW.PrintWords Go.Proofs.YtinfkbdhnbefmaaDoorW.PrintLast Go.Proofs.YtinfkbdhnbefmaaDoorW.PrintMore
set_option linter.unusedVariables false
set_option linter.unusedSimpArgs false
theorem letter_eq (c : UInt8) : burinref02_letter.f (c.toNat : Int) = some (isL c) := by
  unfold burinref02_letter.f
  have hr : isL c = decide ((97 ≤ (c.toNat : Int) ∧ (c.toNat : Int) ≤ 122) ∨ (65 ≤ (c.toNat : Int) ∧ (c.toNat : Int) ≤ 90) ∨ (c.toNat : Int) = 95) := by
    unfold isL
    rw [Bool.eq_iff_iff]
    simp only [Bool.or_eq_true, Bool.and_eq_true, decide_eq_true_eq, beq_iff_eq]
    omega
  rw [hr]
  repeat' split
  all_goals first
    | (congr 1; symm; rw [decide_eq_true_eq]; omega)
    | (congr 1; rw [Bool.eq_iff_iff, beq_iff_eq, decide_eq_true_eq]; omega)
theorem digit_eq (c : UInt8) : burinref02_digit.f (c.toNat : Int) = some (isD c) := by
  unfold burinref02_digit.f
  have hr : isD c = decide (48 ≤ (c.toNat : Int) ∧ (c.toNat : Int) ≤ 57) := by
    unfold isD
    rw [Bool.eq_iff_iff]
    simp only [Bool.and_eq_true, decide_eq_true_eq]
    omega
  rw [hr]
  split
  · congr 1; rw [Bool.eq_iff_iff, decide_eq_true_eq, decide_eq_true_eq]; omega
  · congr 1; symm; rw [decide_eq_false_iff_not]; omega
theorem bt_eq (s : ByteArray) (i : Nat) (h : i < s.size) : bt s (i : Int) = ((at_ s i).toNat : Int) := by
  unfold bt
  rw [dif_pos (by simpa using h)]
  simp only [Int.toNat_natCast]
  rw [at_get s i h]
theorem wrap_succ (i : Nat) (h : i < 9223372036854775806) : wrap64 ((i : Int) + 1) = ((i + 1 : Nat) : Int) := by unfold wrap64; omega
theorem name_l0 (s : ByteArray) (hs : s.size < 9223372036854775800) (e : Nat) : ∀ d i : Nat, i + d = s.size → burinref02_name.l0 (d + 1 + e) s (i : Int) = some ((upto (fun i => isW (at_ s i)) d i : Nat) : Int) := by
  intro d
  induction d with
  | zero =>
    intro i h
    rw [show 0 + 1 + e = e + 1 by omega]
    unfold burinref02_name.l0
    rw [if_neg (by omega)]; rfl
  | succ d ih =>
    intro i h
    rw [show d + 1 + 1 + e = (d + 1 + e) + 1 by omega]
    unfold burinref02_name.l0
    rw [if_pos (by omega), if_pos (by omega), bt_eq s i (by omega), letter_eq, Option.bind_some, wrap_succ i (by omega), digit_eq, Option.bind_some, upto]
    unfold isW
    by_cases h1 : isL (at_ s i) = true
    · rw [if_pos h1, h1, ih (i + 1) (by omega)]; rfl
    · have h1 : isL (at_ s i) = false := by simpa using h1
      rw [h1]
      by_cases h2 : isD (at_ s i) = true
      · rw [h2, ih (i + 1) (by omega)]; rfl
      · have h2 : isD (at_ s i) = false := by simpa using h2
        rw [h2]; rfl
theorem name_eq (s : ByteArray) (hs : s.size < 9223372036854775800) (h0 : 0 < s.size) (e : Nat) : burinref02_name.f (s.size + 1 + e) s = some (if isL (at_ s 0) then ((upto (fun i => isW (at_ s i)) s.size 0 : Nat) : Int) else 0) := by
  unfold burinref02_name.f
  rw [if_neg (by omega), if_pos (by omega), show bt s 0 = bt s ((0 : Nat) : Int) from rfl, bt_eq s 0 h0, letter_eq, Option.bind_some, show s.size + 1 + e = (s.size + e) + 1 by omega, burinref02_name.j0]
  by_cases h1 : isL (at_ s 0) = true
  · rw [h1]
    obtain ⟨n, hn⟩ : ∃ n, s.size = n + 1 := ⟨s.size - 1, by omega⟩
    have := name_l0 s hs e n 1 (by omega)
    rw [show s.size + e = n + 1 + e by omega]
    show burinref02_name.l0 (n + 1 + e) s ((1 : Nat) : Int) = _
    rw [this, hn, upto, if_pos (show isW (at_ s 0) = true by unfold isW; rw [h1]; rfl)]
    rfl
  · have h1 : isL (at_ s 0) = false := by simpa using h1
    rw [h1]; rfl
theorem quote_l0 (s : ByteArray) (hs : s.size < 9223372036854775800) (h0 : 0 < s.size) (e : Nat) : ∀ d i : Nat, s.size ≤ i + d → i ≤ s.size + 1 → burinref02_quote.l0 (d + 1 + e) s (i : Int) = some ((quo s d i : Nat) : Int) := by
  intro d
  induction d with
  | zero =>
    intro i h _
    rw [show 0 + 1 + e = e + 1 by omega]
    unfold burinref02_quote.l0
    rw [if_neg (by omega)]; rfl
  | succ d ih =>
    intro i h hi
    rw [show d + 1 + 1 + e = (d + 1 + e) + 1 by omega]
    unfold burinref02_quote.l0 quo
    by_cases h1 : s.size ≤ i
    · rw [if_neg (by omega), if_pos h1]; rfl
    · rw [if_pos (by omega), if_pos (by omega), if_neg h1, bt_eq s i (by omega), show bt s 0 = bt s ((0 : Nat) : Int) from rfl, bt_eq s 0 h0, wrap_succ i (by omega), wrap_succ (i + 1) (by omega)]
      by_cases h2 : at_ s i = 92
      · rw [if_pos (by rw [h2]; rfl), if_pos h2]
        exact ih (i + 2) (by omega) (by omega)
      · rw [if_neg (fun hh => h2 (UInt8.toNat_inj.1 (by have : ((92 : UInt8).toNat : Int) = 92 := rfl; omega))), if_neg h2, if_pos (by omega)]
        by_cases h3 : at_ s i = at_ s 0
        · rw [if_pos (by rw [h3]), if_pos h3]
        · rw [if_neg (fun hh => h3 (UInt8.toNat_inj.1 (by omega))), if_neg h3]
          exact ih (i + 1) (by omega) (by omega)
theorem quote_eq (s : ByteArray) (hs : s.size < 9223372036854775800) (h0 : 0 < s.size) (e : Nat) : burinref02_quote.f (s.size + 1 + e) s = some ((quo s s.size 1 : Nat) : Int) :=
  quote_l0 s hs h0 e s.size 1 (by omega) (by omega)
end Go.Proofs.YtinfkbdhnbefmaaDoor.PureF
