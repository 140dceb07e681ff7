import Derived.Test.YtcbfbefpbjmglaaGreatDoorZ
import Derived.Test.YtcbfbefpbjmglaaGreatDoorA0
import Derived.Test.YtcbfbefpbjmglaaGreatDoorA6
set_option maxHeartbeats 8000000
set_option maxRecDepth 100000
set_option linter.unusedSimpArgs false
set_option linter.unusedVariables false
namespace Go.Proofs.YtcbfbefpbjmglaaGreatDoor.PA
open Go.RowKit YtcbfbefpbjmglaaGreatDoorT YtcbfbefpbjmglaaGreatDoorW PrintWords PrintLast PrintMore
attribute [local go_sem] max2_int min2_int max_two min_two max_three min_three max_four min_four   -- for this text's walks alone
mutual
def burinref02_name.j0 : Nat → ByteArray → Bool → Option (Int)
 | 0, _, _ => none
 | k + 1, x0, x12 => if x12 = true then (some 0) else (burinref02_name.l0 k x0 1)
def burinref02_name.l0 : Nat → ByteArray → Int → Option (Int)
 | 0, _, _ => none
 | k + 1, x0, x3 => if x3 < (x0.size : Int) then (if 0 ≤ x3 then ((burinref02_letter.f (bt x0 x3)).bind fun t174 => (if t174 = true then (burinref02_name.l0 k x0 (wrap64 (x3 + 1))) else ((burinref02_digit.f (bt x0 x3)).bind fun t175 => (if t175 = true then (burinref02_name.l0 k x0 (wrap64 (x3 + 1))) else (some x3))))) else (none)) else (some x3)
end
def burinref02_name.f (k : Nat) (a0 : ByteArray) : Option (Int) := if (a0.size : Int) = 0 then (burinref02_name.j0 k a0 true) else (if 0 < (a0.size : Int) then ((burinref02_letter.f (bt a0 0)).bind fun t173 => (burinref02_name.j0 k a0 (!t173))) else (none))
theorem burinref02_name.calls (k : Nat) (a0 : ByteArray) (r : Int) (w : World) (h : burinref02_name.f k a0 = some r) :
  Calls Tryz.prog 112 #[.string a0] w fun e w' => e = .returned (.int .i64 r) ∧ Drawn0 w w' := by
 have H : (if (a0.size : Int) = 0 then (burinref02_name.j0 k a0 true) else (if 0 < (a0.size : Int) then ((burinref02_letter.f (bt a0 0)).bind fun t173 => (burinref02_name.j0 k a0 (!t173))) else (none))) = some r := h
 clear h
 have HC2 := Az.mk H
 clear H
 go_enter Tryz.func112, Tryz.ntmps112
 go_upto_region 1 with (fail)
 go_cut [12] (fun v12 wc => ∃ (kq : Nat) (x12_1 : Bool), v12 = .bool x12_1 ∧ Az (burinref02_name.j0 kq a0 x12_1 = some r) ∧ Az (kq ≤ k) ∧ Drawn0 w wc)
 case first =>
  have H := HC2.out
  clear HC2
  by_cases c3 : (a0.size : Int) = 0
  ·rw [if_pos c3] at H
   have c3b0 : ((a0.size : Int) == 0) = true := beq_iff_eq.mpr c3
   have c3b1 : ((a0.size : Int) != 0) = false := bne_eq_false_iff_eq.mpr c3
   clear c3
   (first | rw [c3b0] | (simp only [i64_w, i32_w]; rw [c3b0]) | skip)
   have H' := Az.mk H
   clear H
   go_wp2
   go_meet
   case rel => exact ⟨_, (true), (by first | rfl | (simp; done) | (simp [*]; done)), H', ⟨by first | omega | exact Nat.le_refl _⟩, by repeat (first | exact Drawn0.refl _ | apply Drawn0.step)⟩
  ·rw [if_neg c3] at H
   have c3b0 : ((a0.size : Int) == 0) = false := beq_eq_false_iff_ne.mpr c3
   have c3b1 : ((a0.size : Int) != 0) = true := bne_iff_ne.mpr c3
   (first | rw [c3b0] | (simp only [i64_w, i32_w]; rw [c3b0]) | skip)
   by_cases c4 : 0 < (a0.size : Int)
   ·rw [if_pos c4] at H
    have c4b0 : decide (0 < (a0.size : Int)) = true := decide_eq_true c4
    have c4b1 : decide (0 < a0.size) = true := decide_eq_true (by omega)
    clear c4
    replace H := Option.bind_eq_some_iff.mp H
    obtain ⟨t173, A60, H⟩ := H
    replace H : (burinref02_name.j0 k a0 (!t173)) = some r := H
    have A6 := Az.mk A60
    clear A60
    have H' := Az.mk H
    clear H
    have p5 : 0 ≤ (0 : Int) := (by omega)
    have q5 : 0 < a0.size := (by have : (0 : Int) < (a0.size : Int) := od (by assumption); omega)
    have hx5 : ∀ h : 0 < a0.size, ((a0[0]'h).toNat : Int) = bt a0 0 := bt_at a0 0
    clear p5
    have qi5 : (0 < (a0.size : Int)) = True := eq_true (od (by assumption))
    replace q5 := eq_true q5
    go_wp2_with (first | (go_at_call 117; (with_reducible refine (burinref02_letter.calls (bt a0 0) t173 _ A6.out).mono ?_); rintro e w' ⟨rfl, ⟨nd, rfl⟩⟩))
    go_meet
    case rel => exact ⟨_, (!t173), (by first | rfl | (simp; done) | (simp [*]; done)), H', ⟨by first | omega | exact Nat.le_refl _⟩, by repeat (first | exact Drawn0.refl _ | apply Drawn0.step)⟩
   ·rw [if_neg c4] at H
    exact absurd H (by simp)
 case rest =>
  clear HC2
  try clear c1
  try clear p2
  try clear c3
  try clear c3b0
  try clear c3b1
  try clear c4
  try clear c4b0
  try clear c4b1
  try clear p5
  try clear q5
  try clear hx5
  try clear qi5
  try clear p5
  try clear q5
  obtain ⟨kq, x12_1, rfl, HA, HJ1, ⟨mc1, rfl⟩⟩ := hcut
  cases kq with
  | zero => exact absurd HA.out (by simp [burinref02_name.j0])
  | succ kj1 =>
   have H := HA.out
   clear HA
   simp only [burinref02_name.j0] at H
   by_cases c7 : x12_1 = true
   ·subst c7
    have H1 : (some 0) = some r := by rw [if_pos rfl] at H; exact H
    clear H
    have H := H1
    clear H1
    obtain rfl := Option.some.inj H
    go_wp2
    go_ret
    exact ⟨by first | rfl | (simp; done) | (simp [*]; done), by repeat (first | exact Drawn0.refl _ | apply Drawn0.step)⟩
   ·replace c7 := Bool.eq_false_iff.mpr c7
    subst c7
    have H1 : (burinref02_name.l0 kj1 a0 1) = some r := by rw [if_neg (show ¬ (false = true) by decide)] at H; exact H
    clear H
    have H := H1
    clear H1
    have H' := Az.mk H
    clear H
    go_wp2
    go_loopg [3] kj1 (fun kq v3 w' => ∃ (x3_2 : Int), v3 = .int .i64 x3_2 ∧ Az (burinref02_name.l0 kq a0 x3_2 = some r) ∧ Az (kq ≤ kj1) ∧ Drawn0 w w')
    case atStart => exact ⟨(1), (by first | rfl | (simp; done) | (simp [*]; done)), H', ⟨Nat.le_refl _⟩, by repeat (first | exact Drawn0.refl _ | apply Drawn0.step)⟩
    case round =>
     clear H'
     try clear c1
     try clear p2
     try clear c3
     try clear c3b0
     try clear c3b1
     try clear c4
     try clear c4b0
     try clear c4b1
     try clear p5
     try clear q5
     try clear hx5
     try clear qi5
     try clear c7
     try clear p2
     try clear p5
     try clear q5
     obtain ⟨x3_2, rfl, HA, HK2, ⟨m2, rfl⟩⟩ := hrel
     cases gk with
     | zero => exact absurd HA.out (by simp [burinref02_name.l0])
     | succ k2 =>
      have H := HA.out
      clear HA
      simp only [burinref02_name.l0] at H
      by_cases c8 : x3_2 < (a0.size : Int)
      ·rw [if_pos c8] at H
       have c8b0 : decide (x3_2 < (a0.size : Int)) = true := decide_eq_true c8
       clear c8
       by_cases c9 : 0 ≤ x3_2
       ·rw [if_pos c9] at H
        have c9b0 : decide (0 ≤ x3_2) = true := decide_eq_true c9
        clear c9
        replace H := Option.bind_eq_some_iff.mp H
        obtain ⟨t174, A110, H⟩ := H
        replace H : (if t174 = true then (burinref02_name.l0 k2 a0 (wrap64 (x3_2 + 1))) else ((burinref02_digit.f (bt a0 x3_2)).bind fun t175 => (if t175 = true then (burinref02_name.l0 k2 a0 (wrap64 (x3_2 + 1))) else (some x3_2)))) = some r := H
        have A11 := Az.mk A110
        clear A110
        by_cases c12 : t174 = true
        ·subst c12
         have H1 : (burinref02_name.l0 k2 a0 (wrap64 (x3_2 + 1))) = some r := by rw [if_pos rfl] at H; exact H
         clear H
         have H := H1
         clear H1
         have H' := Az.mk H
         clear H
         have p10 : 0 ≤ (x3_2 : Int) := od (by assumption)
         have q10 : x3_2 < (a0.size : Int) := od (by assumption)
         have hx10 := bt_at a0 x3_2
         replace p10 := eq_true p10
         replace q10 := eq_true q10
         go_wp2_with (first | (go_at_call 117; (with_reducible refine (burinref02_letter.calls (bt a0 x3_2) true _ A11.out).mono ?_); rintro e w' ⟨rfl, ⟨nd, rfl⟩⟩))
         go_roundg k2
         case measure => have := HJ1.out; have := HK2.out; omega
         case rel => exact ⟨(wrap64 (x3_2 + 1)), (by first | rfl | (simp; done) | (simp [*]; done)), H', ⟨by have := HJ1.out; have := HK2.out; omega⟩, by repeat (first | exact Drawn0.refl _ | apply Drawn0.step)⟩
        ·replace c12 := Bool.eq_false_iff.mpr c12
         subst c12
         have H1 : ((burinref02_digit.f (bt a0 x3_2)).bind fun t175 => (if t175 = true then (burinref02_name.l0 k2 a0 (wrap64 (x3_2 + 1))) else (some x3_2))) = some r := by rw [if_neg (show ¬ (false = true) by decide)] at H; exact H
         clear H
         have H := H1
         clear H1
         replace H := Option.bind_eq_some_iff.mp H
         obtain ⟨t175, A140, H⟩ := H
         replace H : (if t175 = true then (burinref02_name.l0 k2 a0 (wrap64 (x3_2 + 1))) else (some x3_2)) = some r := H
         have A14 := Az.mk A140
         clear A140
         by_cases c15 : t175 = true
         ·subst c15
          have H1 : (burinref02_name.l0 k2 a0 (wrap64 (x3_2 + 1))) = some r := by rw [if_pos rfl] at H; exact H
          clear H
          have H := H1
          clear H1
          have H' := Az.mk H
          clear H
          have p10 : 0 ≤ (x3_2 : Int) := od (by assumption)
          have q10 : x3_2 < (a0.size : Int) := od (by assumption)
          have hx10 := bt_at a0 x3_2
          replace p10 := eq_true p10
          replace q10 := eq_true q10
          go_wp2_with (first | (go_at_call 117; (with_reducible refine (burinref02_letter.calls (bt a0 x3_2) false _ A11.out).mono ?_); rintro e w' ⟨rfl, ⟨nd, rfl⟩⟩; have p13 : 0 ≤ (x3_2 : Int) := od (by assumption); have q13 : x3_2 < (a0.size : Int) := od (by assumption); have hx13 := bt_at a0 x3_2; replace p13 := eq_true p13; replace q13 := eq_true q13) | (go_at_call 118; (with_reducible refine (burinref02_digit.calls (bt a0 x3_2) true _ A14.out).mono ?_); rintro e w' ⟨rfl, ⟨nd, rfl⟩⟩))
          go_roundg k2
          case measure => have := HJ1.out; have := HK2.out; omega
          case rel => exact ⟨(wrap64 (x3_2 + 1)), (by first | rfl | (simp; done) | (simp [*]; done)), H', ⟨by have := HJ1.out; have := HK2.out; omega⟩, by repeat (first | exact Drawn0.refl _ | apply Drawn0.step)⟩
         ·replace c15 := Bool.eq_false_iff.mpr c15
          subst c15
          have H1 : (some x3_2) = some r := by rw [if_neg (show ¬ (false = true) by decide)] at H; exact H
          clear H
          have H := H1
          clear H1
          obtain rfl := Option.some.inj H
          have p10 : 0 ≤ (x3_2 : Int) := od (by assumption)
          have q10 : x3_2 < (a0.size : Int) := od (by assumption)
          have hx10 := bt_at a0 x3_2
          replace p10 := eq_true p10
          replace q10 := eq_true q10
          go_wp2_with (first | (go_at_call 117; (with_reducible refine (burinref02_letter.calls (bt a0 x3_2) false _ A11.out).mono ?_); rintro e w' ⟨rfl, ⟨nd, rfl⟩⟩; have p13 : 0 ≤ (x3_2 : Int) := od (by assumption); have q13 : x3_2 < (a0.size : Int) := od (by assumption); have hx13 := bt_at a0 x3_2; replace p13 := eq_true p13; replace q13 := eq_true q13) | (go_at_call 118; (with_reducible refine (burinref02_digit.calls (bt a0 x3_2) false _ A14.out).mono ?_); rintro e w' ⟨rfl, ⟨nd, rfl⟩⟩))
          go_ret
          exact ⟨by first | rfl | (simp; done) | (simp [*]; done), by repeat (first | exact Drawn0.refl _ | apply Drawn0.step)⟩
       ·rw [if_neg c9] at H
        exact absurd H (by simp)
      ·rw [if_neg c8] at H
       have c8b0 : decide (x3_2 < (a0.size : Int)) = false := decide_eq_false c8
       clear c8
       obtain rfl := Option.some.inj H
       go_wp2
       go_ret
       exact ⟨by first | rfl | (simp; done) | (simp [*]; done), by repeat (first | exact Drawn0.refl _ | apply Drawn0.step)⟩
end Go.Proofs.YtcbfbefpbjmglaaGreatDoor.PA
