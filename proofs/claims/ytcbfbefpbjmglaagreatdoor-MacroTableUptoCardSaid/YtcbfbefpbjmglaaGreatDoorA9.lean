import Derived.Test.YtcbfbefpbjmglaaGreatDoorZ
import Derived.Test.YtcbfbefpbjmglaaGreatDoorA0
set_option maxHeartbeats 8000000
set_option maxRecDepth 100000
set_option linter.unusedSimpArgs false
set_option linter.unusedVariables false
namespace Go.Proofs.YtcbfbefpbjmglaaGreatDoor.PA
open Go.RowKit YtcbfbefpbjmglaaGreatDoorT YtcbfbefpbjmglaaGreatDoorW PrintWords PrintLast PrintMore
attribute [local go_sem] max2_int min2_int max_two min_two max_three min_three max_four min_four   -- for this text's walks alone
def burinref02_quote.l0 : Nat → ByteArray → Int → Option (Int)
 | 0, _, _ => none
 | k + 1, x0, x3 => if x3 < (x0.size : Int) then (if 0 ≤ x3 then (if (bt x0 x3) = 92 then (burinref02_quote.l0 k x0 (wrap64 ((wrap64 (x3 + 1)) + 1))) else (if 0 < (x0.size : Int) then (if (bt x0 x3) = (bt x0 0) then (some (wrap64 (x3 + 1))) else (burinref02_quote.l0 k x0 (wrap64 (x3 + 1)))) else (none))) else (none)) else (some 0)
def burinref02_quote.f (k : Nat) (a0 : ByteArray) : Option (Int) := burinref02_quote.l0 k a0 1
theorem burinref02_quote.calls (k : Nat) (a0 : ByteArray) (r : Int) (w : World) (h : burinref02_quote.f k a0 = some r) :
  Calls Tryz.prog 114 #[.string a0] w fun e w' => e = .returned (.int .i64 r) ∧ Drawn0 w w' := by
 have H : (burinref02_quote.l0 k a0 1) = some r := h
 clear h
 have H' := Az.mk H
 clear H
 go_enter Tryz.func114, Tryz.ntmps114
 go_wp2
 repeat (go_quiet (fail); try go_wp2)
 go_loopg [3] k (fun kq v3 w' => ∃ (x3_1 : Int), v3 = .int .i64 x3_1 ∧ Az (burinref02_quote.l0 kq a0 x3_1 = some r) ∧ Az (kq ≤ k) ∧ Drawn0 w w')
 case atStart => exact ⟨(1), (by first | rfl | (simp; done) | (simp [*]; done)), H', ⟨Nat.le_refl _⟩, by repeat (first | exact Drawn0.refl _ | apply Drawn0.step)⟩
 case round =>
  clear H'
  try clear c1
  obtain ⟨x3_1, rfl, HA, HK1, ⟨m1, rfl⟩⟩ := hrel
  cases gk with
  | zero => exact absurd HA.out (by simp [burinref02_quote.l0])
  | succ k1 =>
   have H := HA.out
   clear HA
   simp only [burinref02_quote.l0] at H
   by_cases c2 : x3_1 < (a0.size : Int)
   ·rw [if_pos c2] at H
    have c2b0 : decide (x3_1 < (a0.size : Int)) = true := decide_eq_true c2
    clear c2
    by_cases c3 : 0 ≤ x3_1
    ·rw [if_pos c3] at H
     have c3b0 : decide (0 ≤ x3_1) = true := decide_eq_true c3
     clear c3
     by_cases c5 : (bt a0 x3_1) = 92
     ·rw [if_pos c5] at H
      have c5b0 : ((bt a0 x3_1) == 92) = true := beq_iff_eq.mpr c5
      have c5b1 : ((bt a0 x3_1) != 92) = false := bne_eq_false_iff_eq.mpr c5
      clear c5
      have H' := Az.mk H
      clear H
      have p4 : 0 ≤ (x3_1 : Int) := od (by assumption)
      have q4 : x3_1 < (a0.size : Int) := od (by assumption)
      have hx4 := bt_at a0 x3_1
      replace p4 := eq_true p4
      replace q4 := eq_true q4
      go_wp2
      repeat (go_quiet (fail); try go_wp2)
      go_roundg k1
      case measure => have := HK1.out; omega
      case rel => exact ⟨(wrap64 ((wrap64 (x3_1 + 1)) + 1)), (by first | rfl | (simp; done) | (simp [*]; done)), H', ⟨by have := HK1.out; omega⟩, by repeat (first | exact Drawn0.refl _ | apply Drawn0.step)⟩
     ·rw [if_neg c5] at H
      have c5b0 : ((bt a0 x3_1) == 92) = false := beq_eq_false_iff_ne.mpr c5
      have c5b1 : ((bt a0 x3_1) != 92) = true := bne_iff_ne.mpr c5
      by_cases c7 : 0 < (a0.size : Int)
      ·rw [if_pos c7] at H
       have c7b0 : decide (0 < (a0.size : Int)) = true := decide_eq_true c7
       have c7b1 : decide (0 < a0.size) = true := decide_eq_true (by omega)
       clear c7
       by_cases c9 : (bt a0 x3_1) = (bt a0 0)
       ·rw [if_pos c9] at H
        have c9b0 : ((bt a0 x3_1) == (bt a0 0)) = true := beq_iff_eq.mpr c9
        have c9b1 : ((bt a0 x3_1) != (bt a0 0)) = false := bne_eq_false_iff_eq.mpr c9
        clear c9
        obtain rfl := Option.some.inj H
        have p4 : 0 ≤ (x3_1 : Int) := od (by assumption)
        have q4 : x3_1 < (a0.size : Int) := od (by assumption)
        have hx4 := bt_at a0 x3_1
        replace p4 := eq_true p4
        replace q4 := eq_true q4
        have p6 : 0 ≤ (x3_1 : Int) := od (by assumption)
        have q6 : x3_1 < (a0.size : Int) := od (by assumption)
        have hx6 := bt_at a0 x3_1
        replace p6 := eq_true p6
        replace q6 := eq_true q6
        have p8 : 0 ≤ (0 : Int) := (by omega)
        have q8 : 0 < a0.size := (by have : (0 : Int) < (a0.size : Int) := od (by assumption); omega)
        have hx8 : ∀ h : 0 < a0.size, ((a0[0]'h).toNat : Int) = bt a0 0 := bt_at a0 0
        clear p8
        have qi8 : (0 < (a0.size : Int)) = True := eq_true (od (by assumption))
        replace q8 := eq_true q8
        go_wp2
        repeat (go_quiet (fail); try go_wp2)
        go_ret
        exact ⟨by first | rfl | (simp; done) | (simp [*]; done), by repeat (first | exact Drawn0.refl _ | apply Drawn0.step)⟩
       ·rw [if_neg c9] at H
        have c9b0 : ((bt a0 x3_1) == (bt a0 0)) = false := beq_eq_false_iff_ne.mpr c9
        have c9b1 : ((bt a0 x3_1) != (bt a0 0)) = true := bne_iff_ne.mpr c9
        have H' := Az.mk H
        clear H
        have p4 : 0 ≤ (x3_1 : Int) := od (by assumption)
        have q4 : x3_1 < (a0.size : Int) := od (by assumption)
        have hx4 := bt_at a0 x3_1
        replace p4 := eq_true p4
        replace q4 := eq_true q4
        have p6 : 0 ≤ (x3_1 : Int) := od (by assumption)
        have q6 : x3_1 < (a0.size : Int) := od (by assumption)
        have hx6 := bt_at a0 x3_1
        replace p6 := eq_true p6
        replace q6 := eq_true q6
        have p8 : 0 ≤ (0 : Int) := (by omega)
        have q8 : 0 < a0.size := (by have : (0 : Int) < (a0.size : Int) := od (by assumption); omega)
        have hx8 : ∀ h : 0 < a0.size, ((a0[0]'h).toNat : Int) = bt a0 0 := bt_at a0 0
        clear p8
        have qi8 : (0 < (a0.size : Int)) = True := eq_true (od (by assumption))
        replace q8 := eq_true q8
        go_wp2
        repeat (go_quiet (fail); try go_wp2)
        go_roundg k1
        case measure => have := HK1.out; omega
        case rel => exact ⟨(wrap64 (x3_1 + 1)), (by first | rfl | (simp; done) | (simp [*]; done)), H', ⟨by have := HK1.out; omega⟩, by repeat (first | exact Drawn0.refl _ | apply Drawn0.step)⟩
      ·rw [if_neg c7] at H
       exact absurd H (by simp)
    ·rw [if_neg c3] at H
     exact absurd H (by simp)
   ·rw [if_neg c2] at H
    have c2b0 : decide (x3_1 < (a0.size : Int)) = false := decide_eq_false c2
    clear c2
    obtain rfl := Option.some.inj H
    go_wp2
    repeat (go_quiet (fail); try go_wp2)
    go_ret
    exact ⟨by first | rfl | (simp; done) | (simp [*]; done), by repeat (first | exact Drawn0.refl _ | apply Drawn0.step)⟩
def burinref02_Punct.l0 : Nat → ByteArray → Int → Int → Option (Bool)
 | 0, _, _, _ => none
 | k + 1, x0, x3, x4 => if x4 < 122 then (if 0 ≤ x4 then (if (bt (⟨#[46, 46, 46, 32, 60, 60, 61, 32, 62, 62, 61, 32, 45, 62, 32, 43, 43, 32, 45, 45, 32, 60, 60, 32, 62, 62, 32, 60, 61, 32, 62, 61, 32, 61, 61, 32, 33, 61, 32, 38, 38, 32, 124, 124, 32, 42, 61, 32, 47, 61, 32, 37, 61, 32, 43, 61, 32, 45, 61, 32, 38, 61, 32, 94, 61, 32, 124, 61, 32, 35, 35, 32, 91, 32, 93, 32, 40, 32, 41, 32, 123, 32, 125, 32, 46, 32, 38, 32, 42, 32, 43, 32, 45, 32, 126, 32, 33, 32, 47, 32, 37, 32, 60, 32, 62, 32, 94, 32, 124, 32, 63, 32, 58, 32, 59, 32, 61, 32, 44, 32, 35, 32]⟩ : ByteArray) x4) = 32 then (if 0 ≤ x3 then (if x3 ≤ x4 then (if x4 ≤ 122 then (if ((⟨#[46, 46, 46, 32, 60, 60, 61, 32, 62, 62, 61, 32, 45, 62, 32, 43, 43, 32, 45, 45, 32, 60, 60, 32, 62, 62, 32, 60, 61, 32, 62, 61, 32, 61, 61, 32, 33, 61, 32, 38, 38, 32, 124, 124, 32, 42, 61, 32, 47, 61, 32, 37, 61, 32, 43, 61, 32, 45, 61, 32, 38, 61, 32, 94, 61, 32, 124, 61, 32, 35, 35, 32, 91, 32, 93, 32, 40, 32, 41, 32, 123, 32, 125, 32, 46, 32, 38, 32, 42, 32, 43, 32, 45, 32, 126, 32, 33, 32, 47, 32, 37, 32, 60, 32, 62, 32, 94, 32, 124, 32, 63, 32, 58, 32, 59, 32, 61, 32, 44, 32, 35, 32]⟩ : ByteArray).extract (x3 : Int).toNat (x4 : Int).toNat).toList = x0.toList then (some true) else (burinref02_Punct.l0 k x0 (wrap64 (x4 + 1)) (wrap64 (x4 + 1)))) else (none)) else (none)) else (none)) else (burinref02_Punct.l0 k x0 x3 (wrap64 (x4 + 1)))) else (none)) else (some false)
def burinref02_Punct.f (k : Nat) (a0 : ByteArray) : Option (Bool) := burinref02_Punct.l0 k a0 0 0
theorem burinref02_Punct.calls (k : Nat) (a0 : ByteArray) (r : Bool) (w : World) (h : burinref02_Punct.f k a0 = some r) :
  Calls Tryz.prog 119 #[.string a0] w fun e w' => e = .returned (.bool r) ∧ Drawn0 w w' := by
 have H : (burinref02_Punct.l0 k a0 0 0) = some r := h
 clear h
 have H' := Az.mk H
 clear H
 go_enter Tryz.func119, Tryz.ntmps119
 go_wp2
 go_loopg [3, 4] k (fun kq v3 v4 w' => ∃ (x3_1 : Int) (x4_1 : Int), v3 = .int .i64 x3_1 ∧ v4 = .int .i64 x4_1 ∧ Az (burinref02_Punct.l0 kq a0 x3_1 x4_1 = some r) ∧ Az (kq ≤ k) ∧ Drawn0 w w')
 case atStart => exact ⟨(0), (0), (by first | rfl | (simp; done) | (simp [*]; done)), (by first | rfl | (simp; done) | (simp [*]; done)), H', ⟨Nat.le_refl _⟩, by repeat (first | exact Drawn0.refl _ | apply Drawn0.step)⟩
 case round =>
  clear H'
  try clear c1
  obtain ⟨x3_1, x4_1, rfl, rfl, HA, HK1, ⟨m1, rfl⟩⟩ := hrel
  cases gk with
  | zero => exact absurd HA.out (by simp [burinref02_Punct.l0])
  | succ k1 =>
   have H := HA.out
   clear HA
   simp only [burinref02_Punct.l0] at H
   by_cases c2 : x4_1 < 122
   ·rw [if_pos c2] at H
    have c2b0 : decide (x4_1 < 122) = true := decide_eq_true c2
    clear c2
    by_cases c3 : 0 ≤ x4_1
    ·rw [if_pos c3] at H
     have c3b0 : decide (0 ≤ x4_1) = true := decide_eq_true c3
     clear c3
     by_cases c5 : (bt (⟨#[46, 46, 46, 32, 60, 60, 61, 32, 62, 62, 61, 32, 45, 62, 32, 43, 43, 32, 45, 45, 32, 60, 60, 32, 62, 62, 32, 60, 61, 32, 62, 61, 32, 61, 61, 32, 33, 61, 32, 38, 38, 32, 124, 124, 32, 42, 61, 32, 47, 61, 32, 37, 61, 32, 43, 61, 32, 45, 61, 32, 38, 61, 32, 94, 61, 32, 124, 61, 32, 35, 35, 32, 91, 32, 93, 32, 40, 32, 41, 32, 123, 32, 125, 32, 46, 32, 38, 32, 42, 32, 43, 32, 45, 32, 126, 32, 33, 32, 47, 32, 37, 32, 60, 32, 62, 32, 94, 32, 124, 32, 63, 32, 58, 32, 59, 32, 61, 32, 44, 32, 35, 32]⟩ : ByteArray) x4_1) = 32
     ·rw [if_pos c5] at H
      have c5b0 : ((bt (⟨#[46, 46, 46, 32, 60, 60, 61, 32, 62, 62, 61, 32, 45, 62, 32, 43, 43, 32, 45, 45, 32, 60, 60, 32, 62, 62, 32, 60, 61, 32, 62, 61, 32, 61, 61, 32, 33, 61, 32, 38, 38, 32, 124, 124, 32, 42, 61, 32, 47, 61, 32, 37, 61, 32, 43, 61, 32, 45, 61, 32, 38, 61, 32, 94, 61, 32, 124, 61, 32, 35, 35, 32, 91, 32, 93, 32, 40, 32, 41, 32, 123, 32, 125, 32, 46, 32, 38, 32, 42, 32, 43, 32, 45, 32, 126, 32, 33, 32, 47, 32, 37, 32, 60, 32, 62, 32, 94, 32, 124, 32, 63, 32, 58, 32, 59, 32, 61, 32, 44, 32, 35, 32]⟩ : ByteArray) x4_1) == 32) = true := beq_iff_eq.mpr c5
      have c5b1 : ((bt (⟨#[46, 46, 46, 32, 60, 60, 61, 32, 62, 62, 61, 32, 45, 62, 32, 43, 43, 32, 45, 45, 32, 60, 60, 32, 62, 62, 32, 60, 61, 32, 62, 61, 32, 61, 61, 32, 33, 61, 32, 38, 38, 32, 124, 124, 32, 42, 61, 32, 47, 61, 32, 37, 61, 32, 43, 61, 32, 45, 61, 32, 38, 61, 32, 94, 61, 32, 124, 61, 32, 35, 35, 32, 91, 32, 93, 32, 40, 32, 41, 32, 123, 32, 125, 32, 46, 32, 38, 32, 42, 32, 43, 32, 45, 32, 126, 32, 33, 32, 47, 32, 37, 32, 60, 32, 62, 32, 94, 32, 124, 32, 63, 32, 58, 32, 59, 32, 61, 32, 44, 32, 35, 32]⟩ : ByteArray) x4_1) != 32) = false := bne_eq_false_iff_eq.mpr c5
      clear c5
      by_cases c6 : 0 ≤ x3_1
      ·rw [if_pos c6] at H
       have c6b0 := eq_true c6
       have c6b1 : decide (0 ≤ x3_1) = true := decide_eq_true c6
       clear c6
       by_cases c7 : x3_1 ≤ x4_1
       ·rw [if_pos c7] at H
        have c7b0 := eq_true c7
        have c7b1 : decide (x3_1 ≤ x4_1) = true := decide_eq_true c7
        clear c7
        by_cases c8 : x4_1 ≤ 122
        ·rw [if_pos c8] at H
         have c8b0 := eq_true c8
         have c8b1 : decide (x4_1 ≤ 122) = true := decide_eq_true c8
         clear c8
         by_cases c9 : ((⟨#[46, 46, 46, 32, 60, 60, 61, 32, 62, 62, 61, 32, 45, 62, 32, 43, 43, 32, 45, 45, 32, 60, 60, 32, 62, 62, 32, 60, 61, 32, 62, 61, 32, 61, 61, 32, 33, 61, 32, 38, 38, 32, 124, 124, 32, 42, 61, 32, 47, 61, 32, 37, 61, 32, 43, 61, 32, 45, 61, 32, 38, 61, 32, 94, 61, 32, 124, 61, 32, 35, 35, 32, 91, 32, 93, 32, 40, 32, 41, 32, 123, 32, 125, 32, 46, 32, 38, 32, 42, 32, 43, 32, 45, 32, 126, 32, 33, 32, 47, 32, 37, 32, 60, 32, 62, 32, 94, 32, 124, 32, 63, 32, 58, 32, 59, 32, 61, 32, 44, 32, 35, 32]⟩ : ByteArray).extract (x3_1 : Int).toNat (x4_1 : Int).toNat).toList = a0.toList
         ·rw [if_pos c9] at H
          have c9b0 : (((⟨#[46, 46, 46, 32, 60, 60, 61, 32, 62, 62, 61, 32, 45, 62, 32, 43, 43, 32, 45, 45, 32, 60, 60, 32, 62, 62, 32, 60, 61, 32, 62, 61, 32, 61, 61, 32, 33, 61, 32, 38, 38, 32, 124, 124, 32, 42, 61, 32, 47, 61, 32, 37, 61, 32, 43, 61, 32, 45, 61, 32, 38, 61, 32, 94, 61, 32, 124, 61, 32, 35, 35, 32, 91, 32, 93, 32, 40, 32, 41, 32, 123, 32, 125, 32, 46, 32, 38, 32, 42, 32, 43, 32, 45, 32, 126, 32, 33, 32, 47, 32, 37, 32, 60, 32, 62, 32, 94, 32, 124, 32, 63, 32, 58, 32, 59, 32, 61, 32, 44, 32, 35, 32]⟩ : ByteArray).extract (x3_1 : Int).toNat (x4_1 : Int).toNat).toList == a0.toList) = true := beq_iff_eq.mpr c9
          have c9b1 : (((⟨#[46, 46, 46, 32, 60, 60, 61, 32, 62, 62, 61, 32, 45, 62, 32, 43, 43, 32, 45, 45, 32, 60, 60, 32, 62, 62, 32, 60, 61, 32, 62, 61, 32, 61, 61, 32, 33, 61, 32, 38, 38, 32, 124, 124, 32, 42, 61, 32, 47, 61, 32, 37, 61, 32, 43, 61, 32, 45, 61, 32, 38, 61, 32, 94, 61, 32, 124, 61, 32, 35, 35, 32, 91, 32, 93, 32, 40, 32, 41, 32, 123, 32, 125, 32, 46, 32, 38, 32, 42, 32, 43, 32, 45, 32, 126, 32, 33, 32, 47, 32, 37, 32, 60, 32, 62, 32, 94, 32, 124, 32, 63, 32, 58, 32, 59, 32, 61, 32, 44, 32, 35, 32]⟩ : ByteArray).extract (x3_1 : Int).toNat (x4_1 : Int).toNat).toList != a0.toList) = false := bne_eq_false_iff_eq.mpr c9
          clear c9
          obtain rfl := Option.some.inj H
          have p4 : 0 ≤ (x4_1 : Int) := od (by assumption)
          have q4 : x4_1 < (122 : Int) := od (by assumption)
          have hx4 := bt_at (⟨#[46, 46, 46, 32, 60, 60, 61, 32, 62, 62, 61, 32, 45, 62, 32, 43, 43, 32, 45, 45, 32, 60, 60, 32, 62, 62, 32, 60, 61, 32, 62, 61, 32, 61, 61, 32, 33, 61, 32, 38, 38, 32, 124, 124, 32, 42, 61, 32, 47, 61, 32, 37, 61, 32, 43, 61, 32, 45, 61, 32, 38, 61, 32, 94, 61, 32, 124, 61, 32, 35, 35, 32, 91, 32, 93, 32, 40, 32, 41, 32, 123, 32, 125, 32, 46, 32, 38, 32, 42, 32, 43, 32, 45, 32, 126, 32, 33, 32, 47, 32, 37, 32, 60, 32, 62, 32, 94, 32, 124, 32, 63, 32, 58, 32, 59, 32, 61, 32, 44, 32, 35, 32]⟩ : ByteArray) x4_1
          replace p4 := eq_true p4
          replace q4 := eq_true q4
          go_wp2
          go_ret
          exact ⟨by first | rfl | (simp; done) | (simp [*]; done), by repeat (first | exact Drawn0.refl _ | apply Drawn0.step)⟩
         ·rw [if_neg c9] at H
          have c9b0 : (((⟨#[46, 46, 46, 32, 60, 60, 61, 32, 62, 62, 61, 32, 45, 62, 32, 43, 43, 32, 45, 45, 32, 60, 60, 32, 62, 62, 32, 60, 61, 32, 62, 61, 32, 61, 61, 32, 33, 61, 32, 38, 38, 32, 124, 124, 32, 42, 61, 32, 47, 61, 32, 37, 61, 32, 43, 61, 32, 45, 61, 32, 38, 61, 32, 94, 61, 32, 124, 61, 32, 35, 35, 32, 91, 32, 93, 32, 40, 32, 41, 32, 123, 32, 125, 32, 46, 32, 38, 32, 42, 32, 43, 32, 45, 32, 126, 32, 33, 32, 47, 32, 37, 32, 60, 32, 62, 32, 94, 32, 124, 32, 63, 32, 58, 32, 59, 32, 61, 32, 44, 32, 35, 32]⟩ : ByteArray).extract (x3_1 : Int).toNat (x4_1 : Int).toNat).toList == a0.toList) = false := beq_eq_false_iff_ne.mpr c9
          have c9b1 : (((⟨#[46, 46, 46, 32, 60, 60, 61, 32, 62, 62, 61, 32, 45, 62, 32, 43, 43, 32, 45, 45, 32, 60, 60, 32, 62, 62, 32, 60, 61, 32, 62, 61, 32, 61, 61, 32, 33, 61, 32, 38, 38, 32, 124, 124, 32, 42, 61, 32, 47, 61, 32, 37, 61, 32, 43, 61, 32, 45, 61, 32, 38, 61, 32, 94, 61, 32, 124, 61, 32, 35, 35, 32, 91, 32, 93, 32, 40, 32, 41, 32, 123, 32, 125, 32, 46, 32, 38, 32, 42, 32, 43, 32, 45, 32, 126, 32, 33, 32, 47, 32, 37, 32, 60, 32, 62, 32, 94, 32, 124, 32, 63, 32, 58, 32, 59, 32, 61, 32, 44, 32, 35, 32]⟩ : ByteArray).extract (x3_1 : Int).toNat (x4_1 : Int).toNat).toList != a0.toList) = true := bne_iff_ne.mpr c9
          have H' := Az.mk H
          clear H
          have p4 : 0 ≤ (x4_1 : Int) := od (by assumption)
          have q4 : x4_1 < (122 : Int) := od (by assumption)
          have hx4 := bt_at (⟨#[46, 46, 46, 32, 60, 60, 61, 32, 62, 62, 61, 32, 45, 62, 32, 43, 43, 32, 45, 45, 32, 60, 60, 32, 62, 62, 32, 60, 61, 32, 62, 61, 32, 61, 61, 32, 33, 61, 32, 38, 38, 32, 124, 124, 32, 42, 61, 32, 47, 61, 32, 37, 61, 32, 43, 61, 32, 45, 61, 32, 38, 61, 32, 94, 61, 32, 124, 61, 32, 35, 35, 32, 91, 32, 93, 32, 40, 32, 41, 32, 123, 32, 125, 32, 46, 32, 38, 32, 42, 32, 43, 32, 45, 32, 126, 32, 33, 32, 47, 32, 37, 32, 60, 32, 62, 32, 94, 32, 124, 32, 63, 32, 58, 32, 59, 32, 61, 32, 44, 32, 35, 32]⟩ : ByteArray) x4_1
          replace p4 := eq_true p4
          replace q4 := eq_true q4
          go_wp2
          go_roundg k1
          case measure => have := HK1.out; omega
          case rel => exact ⟨(wrap64 (x4_1 + 1)), (wrap64 (x4_1 + 1)), (by first | rfl | (simp; done) | (simp [*]; done)), (by first | rfl | (simp; done) | (simp [*]; done)), H', ⟨by have := HK1.out; omega⟩, by repeat (first | exact Drawn0.refl _ | apply Drawn0.step)⟩
        ·rw [if_neg c8] at H
         exact absurd H (by simp)
       ·rw [if_neg c7] at H
        exact absurd H (by simp)
      ·rw [if_neg c6] at H
       exact absurd H (by simp)
     ·rw [if_neg c5] at H
      have c5b0 : ((bt (⟨#[46, 46, 46, 32, 60, 60, 61, 32, 62, 62, 61, 32, 45, 62, 32, 43, 43, 32, 45, 45, 32, 60, 60, 32, 62, 62, 32, 60, 61, 32, 62, 61, 32, 61, 61, 32, 33, 61, 32, 38, 38, 32, 124, 124, 32, 42, 61, 32, 47, 61, 32, 37, 61, 32, 43, 61, 32, 45, 61, 32, 38, 61, 32, 94, 61, 32, 124, 61, 32, 35, 35, 32, 91, 32, 93, 32, 40, 32, 41, 32, 123, 32, 125, 32, 46, 32, 38, 32, 42, 32, 43, 32, 45, 32, 126, 32, 33, 32, 47, 32, 37, 32, 60, 32, 62, 32, 94, 32, 124, 32, 63, 32, 58, 32, 59, 32, 61, 32, 44, 32, 35, 32]⟩ : ByteArray) x4_1) == 32) = false := beq_eq_false_iff_ne.mpr c5
      have c5b1 : ((bt (⟨#[46, 46, 46, 32, 60, 60, 61, 32, 62, 62, 61, 32, 45, 62, 32, 43, 43, 32, 45, 45, 32, 60, 60, 32, 62, 62, 32, 60, 61, 32, 62, 61, 32, 61, 61, 32, 33, 61, 32, 38, 38, 32, 124, 124, 32, 42, 61, 32, 47, 61, 32, 37, 61, 32, 43, 61, 32, 45, 61, 32, 38, 61, 32, 94, 61, 32, 124, 61, 32, 35, 35, 32, 91, 32, 93, 32, 40, 32, 41, 32, 123, 32, 125, 32, 46, 32, 38, 32, 42, 32, 43, 32, 45, 32, 126, 32, 33, 32, 47, 32, 37, 32, 60, 32, 62, 32, 94, 32, 124, 32, 63, 32, 58, 32, 59, 32, 61, 32, 44, 32, 35, 32]⟩ : ByteArray) x4_1) != 32) = true := bne_iff_ne.mpr c5
      have H' := Az.mk H
      clear H
      have p4 : 0 ≤ (x4_1 : Int) := od (by assumption)
      have q4 : x4_1 < (122 : Int) := od (by assumption)
      have hx4 := bt_at (⟨#[46, 46, 46, 32, 60, 60, 61, 32, 62, 62, 61, 32, 45, 62, 32, 43, 43, 32, 45, 45, 32, 60, 60, 32, 62, 62, 32, 60, 61, 32, 62, 61, 32, 61, 61, 32, 33, 61, 32, 38, 38, 32, 124, 124, 32, 42, 61, 32, 47, 61, 32, 37, 61, 32, 43, 61, 32, 45, 61, 32, 38, 61, 32, 94, 61, 32, 124, 61, 32, 35, 35, 32, 91, 32, 93, 32, 40, 32, 41, 32, 123, 32, 125, 32, 46, 32, 38, 32, 42, 32, 43, 32, 45, 32, 126, 32, 33, 32, 47, 32, 37, 32, 60, 32, 62, 32, 94, 32, 124, 32, 63, 32, 58, 32, 59, 32, 61, 32, 44, 32, 35, 32]⟩ : ByteArray) x4_1
      replace p4 := eq_true p4
      replace q4 := eq_true q4
      go_wp2
      go_roundg k1
      case measure => have := HK1.out; omega
      case rel => exact ⟨(x3_1), (wrap64 (x4_1 + 1)), (by first | rfl | (simp; done) | (simp [*]; done)), (by first | rfl | (simp; done) | (simp [*]; done)), H', ⟨by have := HK1.out; omega⟩, by repeat (first | exact Drawn0.refl _ | apply Drawn0.step)⟩
    ·rw [if_neg c3] at H
     exact absurd H (by simp)
   ·rw [if_neg c2] at H
    have c2b0 : decide (x4_1 < 122) = false := decide_eq_false c2
    clear c2
    obtain rfl := Option.some.inj H
    go_wp2
    go_ret
    exact ⟨by first | rfl | (simp; done) | (simp [*]; done), by repeat (first | exact Drawn0.refl _ | apply Drawn0.step)⟩
end Go.Proofs.YtcbfbefpbjmglaaGreatDoor.PA
