import Derived.Test.YtcbfbefpbjmglaaGreatDoorZ
import Derived.Test.YtcbfbefpbjmglaaGreatDoorA0
import Derived.Test.YtcbfbefpbjmglaaGreatDoorA6
set_option maxHeartbeats 8000000
set_option maxRecDepth 100000
set_option linter.unusedSimpArgs false
set_option linter.unusedVariables false
namespace Go.Proofs.YtcbfbefpbjmglaaGreatDoor.PA
open Go.RowKit YtcbfbefpbjmglaaGreatDoorT YtcbfbefpbjmglaaGreatDoorW PrintWords PrintLast PrintMore
attribute [local go_sem] max2_int min2_int max_two min_two max_three min_three max_four min_four   -- for this text's walks alone
mutual
def burinref02_number.j0 : Nat → ByteArray → Int → Bool → Option (Int)
 | 0, _, _, _ => none
 | k + 1, x0, x3, x12 => if x12 = true then (burinref02_number.j1 k x0 1) else (burinref02_number.j1 k x0 x3)
def burinref02_number.j1 : Nat → ByteArray → Int → Option (Int)
 | 0, _, _ => none
 | k + 1, x0, x3 => if (x0.size : Int) > 1 then (if 0 < (x0.size : Int) then (if (bt x0 0) = 46 then (if 1 < (x0.size : Int) then ((burinref02_digit.f (bt x0 1)).bind fun t177 => (burinref02_number.j2 k x0 x3 t177)) else (none)) else (burinref02_number.j2 k x0 x3 false)) else (none)) else (burinref02_number.j2 k x0 x3 false)
def burinref02_number.j2 : Nat → ByteArray → Int → Bool → Option (Int)
 | 0, _, _, _ => none
 | k + 1, x0, x3, x25 => if x25 = true then (burinref02_number.j3 k x0 2) else (burinref02_number.j3 k x0 x3)
def burinref02_number.j3 : Nat → ByteArray → Int → Option (Int)
 | 0, _, _ => none
 | k + 1, x0, x3 => burinref02_number.l0 k x0 x3
def burinref02_number.l0 : Nat → ByteArray → Int → Option (Int)
 | 0, _, _ => none
 | k + 1, x0, x3 => if x3 > 0 then (burinref02_number.j5 k x0 x3 (decide (x3 < (x0.size : Int)))) else (burinref02_number.j5 k x0 x3 false)
def burinref02_number.j5 : Nat → ByteArray → Int → Bool → Option (Int)
 | 0, _, _, _ => none
 | k + 1, x0, x3, x33 => if x33 = true then (if 0 ≤ (wrap64 (x3 - 1)) then (if (wrap64 (x3 - 1)) < (x0.size : Int) then (if (bt x0 (wrap64 (x3 - 1))) = 101 then (burinref02_number.j6 k x0 x3 true) else (if (bt x0 (wrap64 (x3 - 1))) = 69 then (burinref02_number.j6 k x0 x3 true) else (if (bt x0 (wrap64 (x3 - 1))) = 112 then (burinref02_number.j6 k x0 x3 true) else (burinref02_number.j6 k x0 x3 ((bt x0 (wrap64 (x3 - 1))) == 80))))) else (none)) else (none)) else (some x3)
def burinref02_number.j6 : Nat → ByteArray → Int → Bool → Option (Int)
 | 0, _, _, _ => none
 | k + 1, x0, x3, x4 => if 0 ≤ x3 then (if x3 < (x0.size : Int) then ((burinref02_letter.f (bt x0 x3)).bind fun t178 => (if t178 = true then (burinref02_number.l0 k x0 (wrap64 (x3 + 1))) else ((burinref02_digit.f (bt x0 x3)).bind fun t179 => (if t179 = true then (burinref02_number.l0 k x0 (wrap64 (x3 + 1))) else (if (bt x0 x3) = 46 then (burinref02_number.l0 k x0 (wrap64 (x3 + 1))) else (if x4 = true then (if (bt x0 x3) = 43 then (burinref02_number.l0 k x0 (wrap64 (x3 + 1))) else (if ((bt x0 x3) = 45) then (burinref02_number.l0 k x0 (wrap64 (x3 + 1))) else (some x3))) else (some x3))))))) else (none)) else (none)
end
def burinref02_number.f (k : Nat) (a0 : ByteArray) : Option (Int) := if (a0.size : Int) > 0 then (if 0 < (a0.size : Int) then ((burinref02_digit.f (bt a0 0)).bind fun t176 => (burinref02_number.j0 k a0 0 t176)) else (none)) else (burinref02_number.j0 k a0 0 false)
theorem burinref02_number.calls (k : Nat) (a0 : ByteArray) (r : Int) (w : World) (h : burinref02_number.f k a0 = some r) :
  Calls Tryz.prog 113 #[.string a0] w fun e w' => e = .returned (.int .i64 r) ∧ Drawn0 w w' := by
 have H : (if (a0.size : Int) > 0 then (if 0 < (a0.size : Int) then ((burinref02_digit.f (bt a0 0)).bind fun t176 => (burinref02_number.j0 k a0 0 t176)) else (none)) else (burinref02_number.j0 k a0 0 false)) = some r := h
 clear h
 have HC2 := Az.mk H
 clear H
 go_enter Tryz.func113, Tryz.ntmps113
 go_upto_region 2 with (fail)
 go_cut [12] (fun v12 wc => ∃ (kq : Nat) (x12_1 : Bool), v12 = .bool x12_1 ∧ Az (burinref02_number.j0 kq a0 0 x12_1 = some r) ∧ Az (kq ≤ k) ∧ Drawn0 w wc)
 case first =>
  have H := HC2.out
  clear HC2
  by_cases c3 : (a0.size : Int) > 0
  ·rw [if_pos c3] at H
   have c3b0 : decide (0 < (a0.size : Int)) = true := decide_eq_true c3
   have c3b1 : decide (0 < a0.size) = true := decide_eq_true (by omega)
   clear c3
   (first | rw [c3b0] | (simp only [i64_w, i32_w]; rw [c3b0]) | skip)
   by_cases c4 : 0 < (a0.size : Int)
   ·rw [if_pos c4] at H
    have c4b0 : decide (0 < (a0.size : Int)) = true := decide_eq_true c4
    have c4b1 : decide (0 < a0.size) = true := decide_eq_true (by omega)
    clear c4
    replace H := Option.bind_eq_some_iff.mp H
    obtain ⟨t176, A60, H⟩ := H
    replace H : (burinref02_number.j0 k a0 0 t176) = some r := H
    have A6 := Az.mk A60
    clear A60
    have H' := Az.mk H
    clear H
    have p5 : 0 ≤ (0 : Int) := (by omega)
    have q5 : 0 < a0.size := (by have : (0 : Int) < (a0.size : Int) := od (by assumption); omega)
    have hx5 : ∀ h : 0 < a0.size, ((a0[0]'h).toNat : Int) = bt a0 0 := bt_at a0 0
    clear p5
    have qi5 : (0 < (a0.size : Int)) = True := eq_true (od (by assumption))
    replace q5 := eq_true q5
    go_wp2_with (first | (go_at_call 118; (with_reducible refine (burinref02_digit.calls (bt a0 0) t176 _ A6.out).mono ?_); rintro e w' ⟨rfl, ⟨nd, rfl⟩⟩))
    go_meet
    case rel => exact ⟨_, (t176), (by first | rfl | (simp; done) | (simp [*]; done)), H', ⟨by first | omega | exact Nat.le_refl _⟩, by repeat (first | exact Drawn0.refl _ | apply Drawn0.step)⟩
   ·rw [if_neg c4] at H
    exact absurd H (by simp)
  ·rw [if_neg c3] at H
   have c3b0 : decide (0 < (a0.size : Int)) = false := decide_eq_false c3
   have c3b1 : decide (0 < a0.size) = false := decide_eq_false (by omega)
   clear c3
   (first | rw [c3b0] | (simp only [i64_w, i32_w]; rw [c3b0]) | skip)
   have H' := Az.mk H
   clear H
   go_wp2
   go_meet
   case rel => exact ⟨_, (false), (by first | rfl | (simp; done) | (simp [*]; done)), H', ⟨by first | omega | exact Nat.le_refl _⟩, by repeat (first | exact Drawn0.refl _ | apply Drawn0.step)⟩
 case rest =>
  clear HC2
  try clear c1
  try clear p2
  try clear c3
  try clear c3b0
  try clear c3b1
  try clear c4
  try clear c4b0
  try clear c4b1
  try clear p5
  try clear q5
  try clear hx5
  try clear qi5
  try clear p5
  try clear q5
  obtain ⟨kq, x12_1, rfl, HA, HJ1, ⟨mc1, rfl⟩⟩ := hcut
  cases kq with
  | zero => exact absurd HA.out (by simp [burinref02_number.j0])
  | succ kj1 =>
   have H := HA.out
   clear HA
   simp only [burinref02_number.j0] at H
   have HC7 := Az.mk H
   clear H
   go_upto_if 12 with (fail)
   go_cut [3] (fun v3 wc => ∃ (kq : Nat) (x3_6 : Int), v3 = .int .i64 x3_6 ∧ Az (burinref02_number.j1 kq a0 x3_6 = some r) ∧ Az (kq ≤ kj1) ∧ Drawn0 w wc)
   case first =>
    have H := HC7.out
    clear HC7
    by_cases c8 : x12_1 = true
    ·subst c8
     have H1 : (burinref02_number.j1 kj1 a0 1) = some r := by rw [if_pos rfl] at H; exact H
     clear H
     have H := H1
     clear H1
     have H' := Az.mk H
     clear H
     go_wp2
     go_meet
     case rel => exact ⟨_, (1), (by first | rfl | (simp; done) | (simp [*]; done)), H', ⟨by have := HJ1.out; first | omega | exact Nat.le_refl _⟩, by repeat (first | exact Drawn0.refl _ | apply Drawn0.step)⟩
    ·replace c8 := Bool.eq_false_iff.mpr c8
     subst c8
     have H1 : (burinref02_number.j1 kj1 a0 0) = some r := by rw [if_neg (show ¬ (false = true) by decide)] at H; exact H
     clear H
     have H := H1
     clear H1
     have H' := Az.mk H
     clear H
     go_wp2
     go_meet
     case rel => exact ⟨_, (0), (by first | rfl | (simp; done) | (simp [*]; done)), H', ⟨by have := HJ1.out; first | omega | exact Nat.le_refl _⟩, by repeat (first | exact Drawn0.refl _ | apply Drawn0.step)⟩
   case rest =>
    clear HC7
    try clear c1
    try clear p2
    try clear c3
    try clear c3b0
    try clear c3b1
    try clear c4
    try clear c4b0
    try clear c4b1
    try clear p5
    try clear q5
    try clear hx5
    try clear qi5
    try clear c8
    try clear p2
    try clear p5
    try clear q5
    obtain ⟨kq, x3_6, rfl, HA, HJ6, ⟨mc6, rfl⟩⟩ := hcut
    cases kq with
    | zero => exact absurd HA.out (by simp [burinref02_number.j1])
    | succ kj6 =>
     have H := HA.out
     clear HA
     simp only [burinref02_number.j1] at H
     have HC9 := Az.mk H
     clear H
     go_upto_region 4 with (fail)
     go_cut [25] (fun v25 wc => ∃ (kq : Nat) (x25_8 : Bool), v25 = .bool x25_8 ∧ Az (burinref02_number.j2 kq a0 x3_6 x25_8 = some r) ∧ Az (kq ≤ kj6) ∧ Drawn0 w wc)
     case first =>
      have H := HC9.out
      clear HC9
      by_cases c10 : (a0.size : Int) > 1
      ·rw [if_pos c10] at H
       have c10b0 : decide (1 < (a0.size : Int)) = true := decide_eq_true c10
       have c10b1 : decide (1 < a0.size) = true := decide_eq_true (by omega)
       clear c10
       (first | rw [c10b0] | (simp only [i64_w, i32_w]; rw [c10b0]) | skip)
       by_cases c11 : 0 < (a0.size : Int)
       ·rw [if_pos c11] at H
        have c11b0 : decide (0 < (a0.size : Int)) = true := decide_eq_true c11
        have c11b1 : decide (0 < a0.size) = true := decide_eq_true (by omega)
        clear c11
        by_cases c13 : (bt a0 0) = 46
        ·rw [if_pos c13] at H
         have c13b0 : ((bt a0 0) == 46) = true := beq_iff_eq.mpr c13
         have c13b1 : ((bt a0 0) != 46) = false := bne_eq_false_iff_eq.mpr c13
         clear c13
         by_cases c14 : 1 < (a0.size : Int)
         ·rw [if_pos c14] at H
          have c14b0 : decide (1 < (a0.size : Int)) = true := decide_eq_true c14
          have c14b1 : decide (1 < a0.size) = true := decide_eq_true (by omega)
          clear c14
          replace H := Option.bind_eq_some_iff.mp H
          obtain ⟨t177, A160, H⟩ := H
          replace H : (burinref02_number.j2 kj6 a0 x3_6 t177) = some r := H
          have A16 := Az.mk A160
          clear A160
          have H' := Az.mk H
          clear H
          have p12 : 0 ≤ (0 : Int) := (by omega)
          have q12 : 0 < a0.size := (by have : (0 : Int) < (a0.size : Int) := od (by assumption); omega)
          have hx12 : ∀ h : 0 < a0.size, ((a0[0]'h).toNat : Int) = bt a0 0 := bt_at a0 0
          clear p12
          have qi12 : (0 < (a0.size : Int)) = True := eq_true (od (by assumption))
          replace q12 := eq_true q12
          have p15 : 0 ≤ (1 : Int) := (by omega)
          have q15 : 1 < a0.size := (by have : (1 : Int) < (a0.size : Int) := od (by assumption); omega)
          have hx15 : ∀ h : 1 < a0.size, ((a0[1]'h).toNat : Int) = bt a0 1 := bt_at a0 1
          clear p15
          have qi15 : (1 < (a0.size : Int)) = True := eq_true (od (by assumption))
          replace q15 := eq_true q15
          go_wp2_with (first | (go_at_call 118; (with_reducible refine (burinref02_digit.calls (bt a0 1) t177 _ A16.out).mono ?_); rintro e w' ⟨rfl, ⟨nd, rfl⟩⟩))
          go_meet
          case rel => exact ⟨_, (t177), (by first | rfl | (simp; done) | (simp [*]; done)), H', ⟨by have := HJ1.out; have := HJ6.out; first | omega | exact Nat.le_refl _⟩, by repeat (first | exact Drawn0.refl _ | apply Drawn0.step)⟩
         ·rw [if_neg c14] at H
          exact absurd H (by simp)
        ·rw [if_neg c13] at H
         have c13b0 : ((bt a0 0) == 46) = false := beq_eq_false_iff_ne.mpr c13
         have c13b1 : ((bt a0 0) != 46) = true := bne_iff_ne.mpr c13
         have H' := Az.mk H
         clear H
         have p12 : 0 ≤ (0 : Int) := (by omega)
         have q12 : 0 < a0.size := (by have : (0 : Int) < (a0.size : Int) := od (by assumption); omega)
         have hx12 : ∀ h : 0 < a0.size, ((a0[0]'h).toNat : Int) = bt a0 0 := bt_at a0 0
         clear p12
         have qi12 : (0 < (a0.size : Int)) = True := eq_true (od (by assumption))
         replace q12 := eq_true q12
         go_wp2
         go_meet
         case rel => exact ⟨_, (false), (by first | rfl | (simp; done) | (simp [*]; done)), H', ⟨by have := HJ1.out; have := HJ6.out; first | omega | exact Nat.le_refl _⟩, by repeat (first | exact Drawn0.refl _ | apply Drawn0.step)⟩
       ·rw [if_neg c11] at H
        exact absurd H (by simp)
      ·rw [if_neg c10] at H
       have c10b0 : decide (1 < (a0.size : Int)) = false := decide_eq_false c10
       have c10b1 : decide (1 < a0.size) = false := decide_eq_false (by omega)
       clear c10
       (first | rw [c10b0] | (simp only [i64_w, i32_w]; rw [c10b0]) | skip)
       have H' := Az.mk H
       clear H
       go_wp2
       go_meet
       case rel => exact ⟨_, (false), (by first | rfl | (simp; done) | (simp [*]; done)), H', ⟨by have := HJ1.out; have := HJ6.out; first | omega | exact Nat.le_refl _⟩, by repeat (first | exact Drawn0.refl _ | apply Drawn0.step)⟩
     case rest =>
      clear HC9
      try clear c1
      try clear p1
      try clear q1
      try clear hx1
      try clear qi1
      try clear p2
      try clear c3
      try clear c3b0
      try clear c3b1
      try clear c4
      try clear c4b0
      try clear c4b1
      try clear p5
      try clear q5
      try clear hx5
      try clear qi5
      try clear c6
      try clear c8
      try clear c10
      try clear c10b0
      try clear c10b1
      try clear c11
      try clear c11b0
      try clear c11b1
      try clear p12
      try clear q12
      try clear hx12
      try clear qi12
      try clear c13
      try clear c13b0
      try clear c13b1
      try clear c14
      try clear c14b0
      try clear c14b1
      try clear p15
      try clear q15
      try clear hx15
      try clear qi15
      try clear p12
      try clear p15
      try clear p2
      try clear p5
      try clear q12
      try clear q15
      try clear q5
      obtain ⟨kq, x25_8, rfl, HA, HJ8, ⟨mc8, rfl⟩⟩ := hcut
      cases kq with
      | zero => exact absurd HA.out (by simp [burinref02_number.j2])
      | succ kj8 =>
       have H := HA.out
       clear HA
       simp only [burinref02_number.j2] at H
       have HC17 := Az.mk H
       clear H
       go_upto_if 25 with (fail)
       go_cut [3] (fun v3 wc => ∃ (kq : Nat) (x3_16 : Int), v3 = .int .i64 x3_16 ∧ Az (burinref02_number.j3 kq a0 x3_16 = some r) ∧ Az (kq ≤ kj8) ∧ Drawn0 w wc)
       case first =>
        have H := HC17.out
        clear HC17
        by_cases c18 : x25_8 = true
        ·subst c18
         have H1 : (burinref02_number.j3 kj8 a0 2) = some r := by rw [if_pos rfl] at H; exact H
         clear H
         have H := H1
         clear H1
         have H' := Az.mk H
         clear H
         go_wp2
         go_meet
         case rel => exact ⟨_, (2), (by first | rfl | (simp; done) | (simp [*]; done)), H', ⟨by have := HJ1.out; have := HJ6.out; have := HJ8.out; first | omega | exact Nat.le_refl _⟩, by repeat (first | exact Drawn0.refl _ | apply Drawn0.step)⟩
        ·replace c18 := Bool.eq_false_iff.mpr c18
         subst c18
         have H1 : (burinref02_number.j3 kj8 a0 x3_6) = some r := by rw [if_neg (show ¬ (false = true) by decide)] at H; exact H
         clear H
         have H := H1
         clear H1
         have H' := Az.mk H
         clear H
         go_wp2
         go_meet
         case rel => exact ⟨_, (x3_6), (by first | rfl | (simp; done) | (simp [*]; done)), H', ⟨by have := HJ1.out; have := HJ6.out; have := HJ8.out; first | omega | exact Nat.le_refl _⟩, by repeat (first | exact Drawn0.refl _ | apply Drawn0.step)⟩
       case rest =>
        clear HC17
        try clear c1
        try clear p1
        try clear q1
        try clear hx1
        try clear qi1
        try clear p2
        try clear c3
        try clear c3b0
        try clear c3b1
        try clear c4
        try clear c4b0
        try clear c4b1
        try clear p5
        try clear q5
        try clear hx5
        try clear qi5
        try clear c6
        try clear c8
        try clear c10
        try clear c10b0
        try clear c10b1
        try clear c11
        try clear c11b0
        try clear c11b1
        try clear p12
        try clear q12
        try clear hx12
        try clear qi12
        try clear c13
        try clear c13b0
        try clear c13b1
        try clear c14
        try clear c14b0
        try clear c14b1
        try clear p15
        try clear q15
        try clear hx15
        try clear qi15
        try clear c18
        try clear p1
        try clear p12
        try clear p15
        try clear p2
        try clear p5
        try clear q1
        try clear q12
        try clear q15
        try clear q5
        obtain ⟨kq, x3_16, rfl, HA, HJ16, ⟨mc16, rfl⟩⟩ := hcut
        cases kq with
        | zero => exact absurd HA.out (by simp [burinref02_number.j3])
        | succ kj16 =>
         have H := HA.out
         clear HA
         simp only [burinref02_number.j3] at H
         have H' := Az.mk H
         clear H
         go_wp2
         go_loopg [3] kj16 (fun kq v3 w' => ∃ (x3_5 : Int), v3 = .int .i64 x3_5 ∧ Az (burinref02_number.l0 kq a0 x3_5 = some r) ∧ Az (kq ≤ kj16) ∧ Drawn0 w w')
         case atStart => exact ⟨(x3_16), (by first | rfl | (simp; done) | (simp [*]; done)), H', ⟨Nat.le_refl _⟩, by repeat (first | exact Drawn0.refl _ | apply Drawn0.step)⟩
         case round =>
          clear H'
          try clear c1
          try clear p1
          try clear q1
          try clear hx1
          try clear qi1
          try clear p2
          try clear c3
          try clear c3b0
          try clear c3b1
          try clear c4
          try clear c4b0
          try clear c4b1
          try clear p5
          try clear q5
          try clear hx5
          try clear qi5
          try clear c6
          try clear c8
          try clear c10
          try clear c10b0
          try clear c10b1
          try clear c11
          try clear c11b0
          try clear c11b1
          try clear p12
          try clear q12
          try clear hx12
          try clear qi12
          try clear c13
          try clear c13b0
          try clear c13b1
          try clear c14
          try clear c14b0
          try clear c14b1
          try clear p15
          try clear q15
          try clear hx15
          try clear qi15
          try clear c16
          try clear c18
          try clear p1
          try clear p12
          try clear p15
          try clear p2
          try clear p5
          try clear q1
          try clear q12
          try clear q15
          try clear q5
          obtain ⟨x3_5, rfl, HA, HK5, ⟨m5, rfl⟩⟩ := hrel
          cases gk with
          | zero => exact absurd HA.out (by simp [burinref02_number.l0])
          | succ k5 =>
           have H := HA.out
           clear HA
           simp only [burinref02_number.l0] at H
           have HC19 := Az.mk H
           clear H
           go_upto_region 6 with (fail)
           go_cut [33] (fun v33 wc => ∃ (kq : Nat) (x33_18 : Bool), v33 = .bool x33_18 ∧ Az (burinref02_number.j5 kq a0 x3_5 x33_18 = some r) ∧ Az (kq ≤ k5) ∧ Drawn0 w wc)
           case first =>
            have H := HC19.out
            clear HC19
            by_cases c20 : x3_5 > 0
            ·rw [if_pos c20] at H
             have c20b0 : decide (0 < x3_5) = true := decide_eq_true c20
             clear c20
             (first | rw [c20b0] | (simp only [i64_w, i32_w]; rw [c20b0]) | skip)
             have H' := Az.mk H
             clear H
             go_wp2
             go_meet
             case rel => exact ⟨_, (decide (x3_5 < (a0.size : Int))), (by first | rfl | (simp; done) | (simp [*]; done)), H', ⟨by have := HJ1.out; have := HJ6.out; have := HJ8.out; have := HJ16.out; have := HK5.out; first | omega | exact Nat.le_refl _⟩, by repeat (first | exact Drawn0.refl _ | apply Drawn0.step)⟩
            ·rw [if_neg c20] at H
             have c20b0 : decide (0 < x3_5) = false := decide_eq_false c20
             clear c20
             (first | rw [c20b0] | (simp only [i64_w, i32_w]; rw [c20b0]) | skip)
             have H' := Az.mk H
             clear H
             go_wp2
             go_meet
             case rel => exact ⟨_, (false), (by first | rfl | (simp; done) | (simp [*]; done)), H', ⟨by have := HJ1.out; have := HJ6.out; have := HJ8.out; have := HJ16.out; have := HK5.out; first | omega | exact Nat.le_refl _⟩, by repeat (first | exact Drawn0.refl _ | apply Drawn0.step)⟩
           case rest =>
            clear HC19
            try clear c1
            try clear p1
            try clear q1
            try clear hx1
            try clear qi1
            try clear c2
            try clear p2
            try clear c3
            try clear c3b0
            try clear c3b1
            try clear c4
            try clear c4b0
            try clear c4b1
            try clear p5
            try clear q5
            try clear hx5
            try clear qi5
            try clear c6
            try clear c8
            try clear c10
            try clear c10b0
            try clear c10b1
            try clear c11
            try clear c11b0
            try clear c11b1
            try clear p12
            try clear q12
            try clear hx12
            try clear qi12
            try clear c13
            try clear c13b0
            try clear c13b1
            try clear c14
            try clear c14b0
            try clear c14b1
            try clear p15
            try clear q15
            try clear hx15
            try clear qi15
            try clear c16
            try clear c18
            try clear c20
            try clear c20b0
            try clear p1
            try clear p12
            try clear p15
            try clear p2
            try clear p5
            try clear q1
            try clear q12
            try clear q15
            try clear q5
            obtain ⟨kq, x33_18, rfl, HA, HJ18, ⟨mc18, rfl⟩⟩ := hcut
            cases kq with
            | zero => exact absurd HA.out (by simp [burinref02_number.j5])
            | succ kj18 =>
             have H := HA.out
             clear HA
             simp only [burinref02_number.j5] at H
             by_cases c21 : x33_18 = true
             ·subst c21
              have H1 : (if 0 ≤ (wrap64 (x3_5 - 1)) then (if (wrap64 (x3_5 - 1)) < (a0.size : Int) then (if (bt a0 (wrap64 (x3_5 - 1))) = 101 then (burinref02_number.j6 kj18 a0 x3_5 true) else (if (bt a0 (wrap64 (x3_5 - 1))) = 69 then (burinref02_number.j6 kj18 a0 x3_5 true) else (if (bt a0 (wrap64 (x3_5 - 1))) = 112 then (burinref02_number.j6 kj18 a0 x3_5 true) else (burinref02_number.j6 kj18 a0 x3_5 ((bt a0 (wrap64 (x3_5 - 1))) == 80))))) else (none)) else (none)) = some r := by rw [if_pos rfl] at H; exact H
              clear H
              have H := H1
              clear H1
              have HC22 := Az.mk H
              clear H
              go_upto_region 7 with (fail)
              go_cut [4] (fun v4 wc => ∃ (kq : Nat) (x4_21 : Bool), v4 = .bool x4_21 ∧ Az (burinref02_number.j6 kq a0 x3_5 x4_21 = some r) ∧ Az (kq ≤ kj18) ∧ Drawn0 w wc)
              case first =>
               have H := HC22.out
               clear HC22
               obtain ⟨ji23, hji23⟩ : ∃ j_ : Int, (wrap64 (x3_5 - 1)) = j_ := ⟨_, rfl⟩
               replace H : (if 0 ≤ (ji23) then (if (ji23) < (a0.size : Int) then (if (bt a0 (ji23)) = 101 then (burinref02_number.j6 kj18 a0 x3_5 true) else (if (bt a0 (ji23)) = 69 then (burinref02_number.j6 kj18 a0 x3_5 true) else (if (bt a0 (ji23)) = 112 then (burinref02_number.j6 kj18 a0 x3_5 true) else (burinref02_number.j6 kj18 a0 x3_5 ((bt a0 (ji23)) == 80))))) else (none)) else (none)) = some r := by first | (rw [hji23] at H; exact H) | (simp only [hji23] at H ⊢; exact H)
               have hji23w : (IntKind.i64.wrap (x3_5 - 1)) = ji23 := (i64_w _).trans hji23
               by_cases c24 : 0 ≤ (ji23)
               ·rw [if_pos c24] at H
                have c24b0 : decide (0 ≤ (ji23)) = true := decide_eq_true c24
                clear c24
                (first | rw [c24b0] | (simp only [i64_w, i32_w]; rw [c24b0]) | skip)
                by_cases c25 : (ji23) < (a0.size : Int)
                ·rw [if_pos c25] at H
                 have c25b0 : decide ((ji23) < (a0.size : Int)) = true := decide_eq_true c25
                 clear c25
                 by_cases c27 : (bt a0 (ji23)) = 101
                 ·rw [if_pos c27] at H
                  have c27b0 : ((bt a0 (ji23)) == 101) = true := beq_iff_eq.mpr c27
                  have c27b1 : ((bt a0 (ji23)) != 101) = false := bne_eq_false_iff_eq.mpr c27
                  clear c27
                  have H' := Az.mk H
                  clear H
                  have p26 : 0 ≤ ((ji23) : Int) := od (by assumption)
                  have q26 : (ji23) < (a0.size : Int) := od (by assumption)
                  have hx26 := bt_at a0 (ji23)
                  replace p26 := eq_true p26
                  replace q26 := eq_true q26
                  go_wp2
                  go_meet
                  case rel => exact ⟨_, (true), (by first | rfl | (simp; done) | (simp [*]; done)), H', ⟨by have := HJ1.out; have := HJ6.out; have := HJ8.out; have := HJ16.out; have := HK5.out; have := HJ18.out; first | omega | exact Nat.le_refl _⟩, by repeat (first | exact Drawn0.refl _ | apply Drawn0.step)⟩
                 ·rw [if_neg c27] at H
                  have c27b0 : ((bt a0 (ji23)) == 101) = false := beq_eq_false_iff_ne.mpr c27
                  have c27b1 : ((bt a0 (ji23)) != 101) = true := bne_iff_ne.mpr c27
                  by_cases c29 : (bt a0 (ji23)) = 69
                  ·rw [if_pos c29] at H
                   have c29b0 : ((bt a0 (ji23)) == 69) = true := beq_iff_eq.mpr c29
                   have c29b1 : ((bt a0 (ji23)) != 69) = false := bne_eq_false_iff_eq.mpr c29
                   clear c29
                   have H' := Az.mk H
                   clear H
                   have p26 : 0 ≤ ((ji23) : Int) := od (by assumption)
                   have q26 : (ji23) < (a0.size : Int) := od (by assumption)
                   have hx26 := bt_at a0 (ji23)
                   replace p26 := eq_true p26
                   replace q26 := eq_true q26
                   have p28 : 0 ≤ ((ji23) : Int) := od (by assumption)
                   have q28 : (ji23) < (a0.size : Int) := od (by assumption)
                   have hx28 := bt_at a0 (ji23)
                   replace p28 := eq_true p28
                   replace q28 := eq_true q28
                   go_wp2
                   go_meet
                   case rel => exact ⟨_, (true), (by first | rfl | (simp; done) | (simp [*]; done)), H', ⟨by have := HJ1.out; have := HJ6.out; have := HJ8.out; have := HJ16.out; have := HK5.out; have := HJ18.out; first | omega | exact Nat.le_refl _⟩, by repeat (first | exact Drawn0.refl _ | apply Drawn0.step)⟩
                  ·rw [if_neg c29] at H
                   have c29b0 : ((bt a0 (ji23)) == 69) = false := beq_eq_false_iff_ne.mpr c29
                   have c29b1 : ((bt a0 (ji23)) != 69) = true := bne_iff_ne.mpr c29
                   by_cases c31 : (bt a0 (ji23)) = 112
                   ·rw [if_pos c31] at H
                    have c31b0 : ((bt a0 (ji23)) == 112) = true := beq_iff_eq.mpr c31
                    have c31b1 : ((bt a0 (ji23)) != 112) = false := bne_eq_false_iff_eq.mpr c31
                    clear c31
                    have H' := Az.mk H
                    clear H
                    have p26 : 0 ≤ ((ji23) : Int) := od (by assumption)
                    have q26 : (ji23) < (a0.size : Int) := od (by assumption)
                    have hx26 := bt_at a0 (ji23)
                    replace p26 := eq_true p26
                    replace q26 := eq_true q26
                    have p28 : 0 ≤ ((ji23) : Int) := od (by assumption)
                    have q28 : (ji23) < (a0.size : Int) := od (by assumption)
                    have hx28 := bt_at a0 (ji23)
                    replace p28 := eq_true p28
                    replace q28 := eq_true q28
                    have p30 : 0 ≤ ((ji23) : Int) := od (by assumption)
                    have q30 : (ji23) < (a0.size : Int) := od (by assumption)
                    have hx30 := bt_at a0 (ji23)
                    replace p30 := eq_true p30
                    replace q30 := eq_true q30
                    go_wp2
                    go_meet
                    case rel => exact ⟨_, (true), (by first | rfl | (simp; done) | (simp [*]; done)), H', ⟨by have := HJ1.out; have := HJ6.out; have := HJ8.out; have := HJ16.out; have := HK5.out; have := HJ18.out; first | omega | exact Nat.le_refl _⟩, by repeat (first | exact Drawn0.refl _ | apply Drawn0.step)⟩
                   ·rw [if_neg c31] at H
                    have c31b0 : ((bt a0 (ji23)) == 112) = false := beq_eq_false_iff_ne.mpr c31
                    have c31b1 : ((bt a0 (ji23)) != 112) = true := bne_iff_ne.mpr c31
                    have H' := Az.mk H
                    clear H
                    have p26 : 0 ≤ ((ji23) : Int) := od (by assumption)
                    have q26 : (ji23) < (a0.size : Int) := od (by assumption)
                    have hx26 := bt_at a0 (ji23)
                    replace p26 := eq_true p26
                    replace q26 := eq_true q26
                    have p28 : 0 ≤ ((ji23) : Int) := od (by assumption)
                    have q28 : (ji23) < (a0.size : Int) := od (by assumption)
                    have hx28 := bt_at a0 (ji23)
                    replace p28 := eq_true p28
                    replace q28 := eq_true q28
                    have p30 : 0 ≤ ((ji23) : Int) := od (by assumption)
                    have q30 : (ji23) < (a0.size : Int) := od (by assumption)
                    have hx30 := bt_at a0 (ji23)
                    replace p30 := eq_true p30
                    replace q30 := eq_true q30
                    have p32 : 0 ≤ ((ji23) : Int) := od (by assumption)
                    have q32 : (ji23) < (a0.size : Int) := od (by assumption)
                    have hx32 := bt_at a0 (ji23)
                    replace p32 := eq_true p32
                    replace q32 := eq_true q32
                    go_wp2
                    go_meet
                    case rel => exact ⟨_, (((bt a0 (ji23)) == 80)), (by first | rfl | (simp; done) | (simp only [← hji23] <;> (first | rfl | simp)) | (simp [*]; done)), H', ⟨by have := HJ1.out; have := HJ6.out; have := HJ8.out; have := HJ16.out; have := HK5.out; have := HJ18.out; first | omega | exact Nat.le_refl _⟩, by repeat (first | exact Drawn0.refl _ | apply Drawn0.step)⟩
                ·rw [if_neg c25] at H
                 exact absurd H (by simp)
               ·rw [if_neg c24] at H
                exact absurd H (by simp)
              case rest =>
               clear HC22
               try clear c1
               try clear p1
               try clear q1
               try clear hx1
               try clear qi1
               try clear c2
               try clear p2
               try clear q2
               try clear hx2
               try clear c3
               try clear c3b0
               try clear c3b1
               try clear p3
               try clear q3
               try clear hx3
               try clear c4
               try clear c4b0
               try clear c4b1
               try clear p5
               try clear q5
               try clear hx5
               try clear qi5
               try clear c6
               try clear p6
               try clear c8
               try clear c10
               try clear c10b0
               try clear c10b1
               try clear c11
               try clear c11b0
               try clear c11b1
               try clear p12
               try clear q12
               try clear hx12
               try clear qi12
               try clear c13
               try clear c13b0
               try clear c13b1
               try clear c14
               try clear c14b0
               try clear c14b1
               try clear p15
               try clear q15
               try clear hx15
               try clear qi15
               try clear c16
               try clear c18
               try clear c20
               try clear c20b0
               try clear c21
               try clear c24
               try clear c24b0
               try clear c25
               try clear c25b0
               try clear p26
               try clear q26
               try clear hx26
               try clear c27
               try clear c27b0
               try clear c27b1
               try clear p28
               try clear q28
               try clear hx28
               try clear c29
               try clear c29b0
               try clear c29b1
               try clear p30
               try clear q30
               try clear hx30
               try clear c31
               try clear c31b0
               try clear c31b1
               try clear p32
               try clear q32
               try clear hx32
               try clear p1
               try clear p12
               try clear p15
               try clear p2
               try clear p26
               try clear p28
               try clear p30
               try clear p32
               try clear p5
               try clear q1
               try clear q12
               try clear q15
               try clear q26
               try clear q28
               try clear q30
               try clear q32
               try clear q5
               obtain ⟨kq, x4_21, rfl, HA, HJ21, ⟨mc21, rfl⟩⟩ := hcut
               cases kq with
               | zero => exact absurd HA.out (by simp [burinref02_number.j6])
               | succ kj21 =>
                have H := HA.out
                clear HA
                simp only [burinref02_number.j6] at H
                by_cases c33 : 0 ≤ x3_5
                ·rw [if_pos c33] at H
                 have c33b0 : decide (0 ≤ x3_5) = true := decide_eq_true c33
                 clear c33
                 by_cases c34 : x3_5 < (a0.size : Int)
                 ·rw [if_pos c34] at H
                  have c34b0 : decide (x3_5 < (a0.size : Int)) = true := decide_eq_true c34
                  clear c34
                  replace H := Option.bind_eq_some_iff.mp H
                  obtain ⟨t178, A360, H⟩ := H
                  replace H : (if t178 = true then (burinref02_number.l0 kj21 a0 (wrap64 (x3_5 + 1))) else ((burinref02_digit.f (bt a0 x3_5)).bind fun t179 => (if t179 = true then (burinref02_number.l0 kj21 a0 (wrap64 (x3_5 + 1))) else (if (bt a0 x3_5) = 46 then (burinref02_number.l0 kj21 a0 (wrap64 (x3_5 + 1))) else (if x4_21 = true then (if (bt a0 x3_5) = 43 then (burinref02_number.l0 kj21 a0 (wrap64 (x3_5 + 1))) else (if ((bt a0 x3_5) = 45) then (burinref02_number.l0 kj21 a0 (wrap64 (x3_5 + 1))) else (some x3_5))) else (some x3_5)))))) = some r := H
                  have A36 := Az.mk A360
                  clear A360
                  by_cases c37 : t178 = true
                  ·subst c37
                   have H1 : (burinref02_number.l0 kj21 a0 (wrap64 (x3_5 + 1))) = some r := by rw [if_pos rfl] at H; exact H
                   clear H
                   have H := H1
                   clear H1
                   have H' := Az.mk H
                   clear H
                   have p35 : 0 ≤ (x3_5 : Int) := od (by assumption)
                   have q35 : x3_5 < (a0.size : Int) := od (by assumption)
                   have hx35 := bt_at a0 x3_5
                   replace p35 := eq_true p35
                   replace q35 := eq_true q35
                   go_wp2_with (first | ((with_reducible refine gC (f := 117) rfl ?_); refine goesL_ (some 63) rfl rfl Tryz.func117 (by kernel_rfl) rfl #[.int .u8 (bt a0 x3_5)] rfl (by (try simp only [List.map_toArray, List.map_cons, List.map_nil]); first | done | rfl | (simp only [List.length_drop, List.length_take]; rfl)) ?_; (with_reducible refine (burinref02_letter.calls (bt a0 x3_5) true _ A36.out).mono ?_); rintro e w' ⟨rfl, ⟨nd, rfl⟩⟩; refine ⟨_, rfl, ?_⟩))
                   go_roundg kj21
                   case measure => have := HJ1.out; have := HJ6.out; have := HJ8.out; have := HJ16.out; have := HK5.out; have := HJ18.out; have := HJ21.out; omega
                   case rel => exact ⟨(wrap64 (x3_5 + 1)), (by first | rfl | (simp; done) | (simp [*]; done)), H', ⟨by have := HJ1.out; have := HJ6.out; have := HJ8.out; have := HJ16.out; have := HK5.out; have := HJ18.out; have := HJ21.out; omega⟩, by repeat (first | exact Drawn0.refl _ | apply Drawn0.step)⟩
                  ·replace c37 := Bool.eq_false_iff.mpr c37
                   subst c37
                   have H1 : ((burinref02_digit.f (bt a0 x3_5)).bind fun t179 => (if t179 = true then (burinref02_number.l0 kj21 a0 (wrap64 (x3_5 + 1))) else (if (bt a0 x3_5) = 46 then (burinref02_number.l0 kj21 a0 (wrap64 (x3_5 + 1))) else (if x4_21 = true then (if (bt a0 x3_5) = 43 then (burinref02_number.l0 kj21 a0 (wrap64 (x3_5 + 1))) else (if ((bt a0 x3_5) = 45) then (burinref02_number.l0 kj21 a0 (wrap64 (x3_5 + 1))) else (some x3_5))) else (some x3_5))))) = some r := by rw [if_neg (show ¬ (false = true) by decide)] at H; exact H
                   clear H
                   have H := H1
                   clear H1
                   replace H := Option.bind_eq_some_iff.mp H
                   obtain ⟨t179, A390, H⟩ := H
                   replace H : (if t179 = true then (burinref02_number.l0 kj21 a0 (wrap64 (x3_5 + 1))) else (if (bt a0 x3_5) = 46 then (burinref02_number.l0 kj21 a0 (wrap64 (x3_5 + 1))) else (if x4_21 = true then (if (bt a0 x3_5) = 43 then (burinref02_number.l0 kj21 a0 (wrap64 (x3_5 + 1))) else (if ((bt a0 x3_5) = 45) then (burinref02_number.l0 kj21 a0 (wrap64 (x3_5 + 1))) else (some x3_5))) else (some x3_5)))) = some r := H
                   have A39 := Az.mk A390
                   clear A390
                   by_cases c40 : t179 = true
                   ·subst c40
                    have H1 : (burinref02_number.l0 kj21 a0 (wrap64 (x3_5 + 1))) = some r := by rw [if_pos rfl] at H; exact H
                    clear H
                    have H := H1
                    clear H1
                    have H' := Az.mk H
                    clear H
                    have p35 : 0 ≤ (x3_5 : Int) := od (by assumption)
                    have q35 : x3_5 < (a0.size : Int) := od (by assumption)
                    have hx35 := bt_at a0 x3_5
                    replace p35 := eq_true p35
                    replace q35 := eq_true q35
                    go_wp2_with (first | ((with_reducible refine gC (f := 117) rfl ?_); refine goesL_ (some 63) rfl rfl Tryz.func117 (by kernel_rfl) rfl #[.int .u8 (bt a0 x3_5)] rfl (by (try simp only [List.map_toArray, List.map_cons, List.map_nil]); first | done | rfl | (simp only [List.length_drop, List.length_take]; rfl)) ?_; (with_reducible refine (burinref02_letter.calls (bt a0 x3_5) false _ A36.out).mono ?_); rintro e w' ⟨rfl, ⟨nd, rfl⟩⟩; refine ⟨_, rfl, ?_⟩; have p38 : 0 ≤ (x3_5 : Int) := od (by assumption); have q38 : x3_5 < (a0.size : Int) := od (by assumption); have hx38 := bt_at a0 x3_5; replace p38 := eq_true p38; replace q38 := eq_true q38) | (go_at_call 118; (with_reducible refine (burinref02_digit.calls (bt a0 x3_5) true _ A39.out).mono ?_); rintro e w' ⟨rfl, ⟨nd, rfl⟩⟩))
                    go_roundg kj21
                    case measure => have := HJ1.out; have := HJ6.out; have := HJ8.out; have := HJ16.out; have := HK5.out; have := HJ18.out; have := HJ21.out; omega
                    case rel => exact ⟨(wrap64 (x3_5 + 1)), (by first | rfl | (simp; done) | (simp [*]; done)), H', ⟨by have := HJ1.out; have := HJ6.out; have := HJ8.out; have := HJ16.out; have := HK5.out; have := HJ18.out; have := HJ21.out; omega⟩, by repeat (first | exact Drawn0.refl _ | apply Drawn0.step)⟩
                   ·replace c40 := Bool.eq_false_iff.mpr c40
                    subst c40
                    have H1 : (if (bt a0 x3_5) = 46 then (burinref02_number.l0 kj21 a0 (wrap64 (x3_5 + 1))) else (if x4_21 = true then (if (bt a0 x3_5) = 43 then (burinref02_number.l0 kj21 a0 (wrap64 (x3_5 + 1))) else (if ((bt a0 x3_5) = 45) then (burinref02_number.l0 kj21 a0 (wrap64 (x3_5 + 1))) else (some x3_5))) else (some x3_5))) = some r := by rw [if_neg (show ¬ (false = true) by decide)] at H; exact H
                    clear H
                    have H := H1
                    clear H1
                    by_cases c42 : (bt a0 x3_5) = 46
                    ·rw [if_pos c42] at H
                     have c42b0 : ((bt a0 x3_5) == 46) = true := beq_iff_eq.mpr c42
                     have c42b1 : ((bt a0 x3_5) != 46) = false := bne_eq_false_iff_eq.mpr c42
                     clear c42
                     have H' := Az.mk H
                     clear H
                     have p35 : 0 ≤ (x3_5 : Int) := od (by assumption)
                     have q35 : x3_5 < (a0.size : Int) := od (by assumption)
                     have hx35 := bt_at a0 x3_5
                     replace p35 := eq_true p35
                     replace q35 := eq_true q35
                     go_wp2_with (first | ((with_reducible refine gC (f := 117) rfl ?_); refine goesL_ (some 63) rfl rfl Tryz.func117 (by kernel_rfl) rfl #[.int .u8 (bt a0 x3_5)] rfl (by (try simp only [List.map_toArray, List.map_cons, List.map_nil]); first | done | rfl | (simp only [List.length_drop, List.length_take]; rfl)) ?_; (with_reducible refine (burinref02_letter.calls (bt a0 x3_5) false _ A36.out).mono ?_); rintro e w' ⟨rfl, ⟨nd, rfl⟩⟩; refine ⟨_, rfl, ?_⟩; have p38 : 0 ≤ (x3_5 : Int) := od (by assumption); have q38 : x3_5 < (a0.size : Int) := od (by assumption); have hx38 := bt_at a0 x3_5; replace p38 := eq_true p38; replace q38 := eq_true q38) | (go_at_call 118; (with_reducible refine (burinref02_digit.calls (bt a0 x3_5) false _ A39.out).mono ?_); rintro e w' ⟨rfl, ⟨nd, rfl⟩⟩; have p41 : 0 ≤ (x3_5 : Int) := od (by assumption); have q41 : x3_5 < (a0.size : Int) := od (by assumption); have hx41 := bt_at a0 x3_5; replace p41 := eq_true p41; replace q41 := eq_true q41))
                     go_roundg kj21
                     case measure => have := HJ1.out; have := HJ6.out; have := HJ8.out; have := HJ16.out; have := HK5.out; have := HJ18.out; have := HJ21.out; omega
                     case rel => exact ⟨(wrap64 (x3_5 + 1)), (by first | rfl | (simp; done) | (simp [*]; done)), H', ⟨by have := HJ1.out; have := HJ6.out; have := HJ8.out; have := HJ16.out; have := HK5.out; have := HJ18.out; have := HJ21.out; omega⟩, by repeat (first | exact Drawn0.refl _ | apply Drawn0.step)⟩
                    ·rw [if_neg c42] at H
                     have c42b0 : ((bt a0 x3_5) == 46) = false := beq_eq_false_iff_ne.mpr c42
                     have c42b1 : ((bt a0 x3_5) != 46) = true := bne_iff_ne.mpr c42
                     by_cases c43 : x4_21 = true
                     ·subst c43
                      have H1 : (if (bt a0 x3_5) = 43 then (burinref02_number.l0 kj21 a0 (wrap64 (x3_5 + 1))) else (if ((bt a0 x3_5) = 45) then (burinref02_number.l0 kj21 a0 (wrap64 (x3_5 + 1))) else (some x3_5))) = some r := by rw [if_pos rfl] at H; exact H
                      clear H
                      have H := H1
                      clear H1
                      by_cases c45 : (bt a0 x3_5) = 43
                      ·rw [if_pos c45] at H
                       have c45b0 : ((bt a0 x3_5) == 43) = true := beq_iff_eq.mpr c45
                       have c45b1 : ((bt a0 x3_5) != 43) = false := bne_eq_false_iff_eq.mpr c45
                       clear c45
                       have H' := Az.mk H
                       clear H
                       have p35 : 0 ≤ (x3_5 : Int) := od (by assumption)
                       have q35 : x3_5 < (a0.size : Int) := od (by assumption)
                       have hx35 := bt_at a0 x3_5
                       replace p35 := eq_true p35
                       replace q35 := eq_true q35
                       go_wp2_with (first | ((with_reducible refine gC (f := 117) rfl ?_); refine goesL_ (some 63) rfl rfl Tryz.func117 (by kernel_rfl) rfl #[.int .u8 (bt a0 x3_5)] rfl (by (try simp only [List.map_toArray, List.map_cons, List.map_nil]); first | done | rfl | (simp only [List.length_drop, List.length_take]; rfl)) ?_; (with_reducible refine (burinref02_letter.calls (bt a0 x3_5) false _ A36.out).mono ?_); rintro e w' ⟨rfl, ⟨nd, rfl⟩⟩; refine ⟨_, rfl, ?_⟩; have p38 : 0 ≤ (x3_5 : Int) := od (by assumption); have q38 : x3_5 < (a0.size : Int) := od (by assumption); have hx38 := bt_at a0 x3_5; replace p38 := eq_true p38; replace q38 := eq_true q38) | (go_at_call 118; (with_reducible refine (burinref02_digit.calls (bt a0 x3_5) false _ A39.out).mono ?_); rintro e w' ⟨rfl, ⟨nd, rfl⟩⟩; have p41 : 0 ≤ (x3_5 : Int) := od (by assumption); have q41 : x3_5 < (a0.size : Int) := od (by assumption); have hx41 := bt_at a0 x3_5; replace p41 := eq_true p41; replace q41 := eq_true q41; have p44 : 0 ≤ (x3_5 : Int) := od (by assumption); have q44 : x3_5 < (a0.size : Int) := od (by assumption); have hx44 := bt_at a0 x3_5; replace p44 := eq_true p44; replace q44 := eq_true q44))
                       go_roundg kj21
                       case measure => have := HJ1.out; have := HJ6.out; have := HJ8.out; have := HJ16.out; have := HK5.out; have := HJ18.out; have := HJ21.out; omega
                       case rel => exact ⟨(wrap64 (x3_5 + 1)), (by first | rfl | (simp; done) | (simp [*]; done)), H', ⟨by have := HJ1.out; have := HJ6.out; have := HJ8.out; have := HJ16.out; have := HK5.out; have := HJ18.out; have := HJ21.out; omega⟩, by repeat (first | exact Drawn0.refl _ | apply Drawn0.step)⟩
                      ·rw [if_neg c45] at H
                       have c45b0 : ((bt a0 x3_5) == 43) = false := beq_eq_false_iff_ne.mpr c45
                       have c45b1 : ((bt a0 x3_5) != 43) = true := bne_iff_ne.mpr c45
                       by_cases c47 : ((bt a0 x3_5) = 45)
                       ·rw [if_pos c47] at H
                        have c47b0 : ((bt a0 x3_5) == 45) = true := beq_iff_eq.mpr c47
                        have c47b1 : ((bt a0 x3_5) != 45) = false := bne_eq_false_iff_eq.mpr c47
                        clear c47
                        have H' := Az.mk H
                        clear H
                        have p35 : 0 ≤ (x3_5 : Int) := od (by assumption)
                        have q35 : x3_5 < (a0.size : Int) := od (by assumption)
                        have hx35 := bt_at a0 x3_5
                        replace p35 := eq_true p35
                        replace q35 := eq_true q35
                        go_wp2_with (first | ((with_reducible refine gC (f := 117) rfl ?_); refine goesL_ (some 63) rfl rfl Tryz.func117 (by kernel_rfl) rfl #[.int .u8 (bt a0 x3_5)] rfl (by (try simp only [List.map_toArray, List.map_cons, List.map_nil]); first | done | rfl | (simp only [List.length_drop, List.length_take]; rfl)) ?_; (with_reducible refine (burinref02_letter.calls (bt a0 x3_5) false _ A36.out).mono ?_); rintro e w' ⟨rfl, ⟨nd, rfl⟩⟩; refine ⟨_, rfl, ?_⟩; have p38 : 0 ≤ (x3_5 : Int) := od (by assumption); have q38 : x3_5 < (a0.size : Int) := od (by assumption); have hx38 := bt_at a0 x3_5; replace p38 := eq_true p38; replace q38 := eq_true q38) | (go_at_call 118; (with_reducible refine (burinref02_digit.calls (bt a0 x3_5) false _ A39.out).mono ?_); rintro e w' ⟨rfl, ⟨nd, rfl⟩⟩; have p41 : 0 ≤ (x3_5 : Int) := od (by assumption); have q41 : x3_5 < (a0.size : Int) := od (by assumption); have hx41 := bt_at a0 x3_5; replace p41 := eq_true p41; replace q41 := eq_true q41; have p44 : 0 ≤ (x3_5 : Int) := od (by assumption); have q44 : x3_5 < (a0.size : Int) := od (by assumption); have hx44 := bt_at a0 x3_5; replace p44 := eq_true p44; replace q44 := eq_true q44; have p46 : 0 ≤ (x3_5 : Int) := od (by assumption); have q46 : x3_5 < (a0.size : Int) := od (by assumption); have hx46 := bt_at a0 x3_5; replace p46 := eq_true p46; replace q46 := eq_true q46))
                        go_roundg kj21
                        case measure => have := HJ1.out; have := HJ6.out; have := HJ8.out; have := HJ16.out; have := HK5.out; have := HJ18.out; have := HJ21.out; omega
                        case rel => exact ⟨(wrap64 (x3_5 + 1)), (by first | rfl | (simp; done) | (simp [*]; done)), H', ⟨by have := HJ1.out; have := HJ6.out; have := HJ8.out; have := HJ16.out; have := HK5.out; have := HJ18.out; have := HJ21.out; omega⟩, by repeat (first | exact Drawn0.refl _ | apply Drawn0.step)⟩
                       ·rw [if_neg c47] at H
                        have c47b0 : ((bt a0 x3_5) == 45) = false := beq_eq_false_iff_ne.mpr c47
                        have c47b1 : ((bt a0 x3_5) != 45) = true := bne_iff_ne.mpr c47
                        obtain rfl := Option.some.inj H
                        have p35 : 0 ≤ (x3_5 : Int) := od (by assumption)
                        have q35 : x3_5 < (a0.size : Int) := od (by assumption)
                        have hx35 := bt_at a0 x3_5
                        replace p35 := eq_true p35
                        replace q35 := eq_true q35
                        go_wp2_with (first | ((with_reducible refine gC (f := 117) rfl ?_); refine goesL_ (some 63) rfl rfl Tryz.func117 (by kernel_rfl) rfl #[.int .u8 (bt a0 x3_5)] rfl (by (try simp only [List.map_toArray, List.map_cons, List.map_nil]); first | done | rfl | (simp only [List.length_drop, List.length_take]; rfl)) ?_; (with_reducible refine (burinref02_letter.calls (bt a0 x3_5) false _ A36.out).mono ?_); rintro e w' ⟨rfl, ⟨nd, rfl⟩⟩; refine ⟨_, rfl, ?_⟩; have p38 : 0 ≤ (x3_5 : Int) := od (by assumption); have q38 : x3_5 < (a0.size : Int) := od (by assumption); have hx38 := bt_at a0 x3_5; replace p38 := eq_true p38; replace q38 := eq_true q38) | (go_at_call 118; (with_reducible refine (burinref02_digit.calls (bt a0 x3_5) false _ A39.out).mono ?_); rintro e w' ⟨rfl, ⟨nd, rfl⟩⟩; have p41 : 0 ≤ (x3_5 : Int) := od (by assumption); have q41 : x3_5 < (a0.size : Int) := od (by assumption); have hx41 := bt_at a0 x3_5; replace p41 := eq_true p41; replace q41 := eq_true q41; have p44 : 0 ≤ (x3_5 : Int) := od (by assumption); have q44 : x3_5 < (a0.size : Int) := od (by assumption); have hx44 := bt_at a0 x3_5; replace p44 := eq_true p44; replace q44 := eq_true q44; have p46 : 0 ≤ (x3_5 : Int) := od (by assumption); have q46 : x3_5 < (a0.size : Int) := od (by assumption); have hx46 := bt_at a0 x3_5; replace p46 := eq_true p46; replace q46 := eq_true q46))
                        go_ret
                        exact ⟨by first | rfl | (simp; done) | (simp [*]; done), by repeat (first | exact Drawn0.refl _ | apply Drawn0.step)⟩
                     ·replace c43 := Bool.eq_false_iff.mpr c43
                      subst c43
                      have H1 : (some x3_5) = some r := by rw [if_neg (show ¬ (false = true) by decide)] at H; exact H
                      clear H
                      have H := H1
                      clear H1
                      obtain rfl := Option.some.inj H
                      have p35 : 0 ≤ (x3_5 : Int) := od (by assumption)
                      have q35 : x3_5 < (a0.size : Int) := od (by assumption)
                      have hx35 := bt_at a0 x3_5
                      replace p35 := eq_true p35
                      replace q35 := eq_true q35
                      go_wp2_with (first | ((with_reducible refine gC (f := 117) rfl ?_); refine goesL_ (some 63) rfl rfl Tryz.func117 (by kernel_rfl) rfl #[.int .u8 (bt a0 x3_5)] rfl (by (try simp only [List.map_toArray, List.map_cons, List.map_nil]); first | done | rfl | (simp only [List.length_drop, List.length_take]; rfl)) ?_; (with_reducible refine (burinref02_letter.calls (bt a0 x3_5) false _ A36.out).mono ?_); rintro e w' ⟨rfl, ⟨nd, rfl⟩⟩; refine ⟨_, rfl, ?_⟩; have p38 : 0 ≤ (x3_5 : Int) := od (by assumption); have q38 : x3_5 < (a0.size : Int) := od (by assumption); have hx38 := bt_at a0 x3_5; replace p38 := eq_true p38; replace q38 := eq_true q38) | (go_at_call 118; (with_reducible refine (burinref02_digit.calls (bt a0 x3_5) false _ A39.out).mono ?_); rintro e w' ⟨rfl, ⟨nd, rfl⟩⟩; have p41 : 0 ≤ (x3_5 : Int) := od (by assumption); have q41 : x3_5 < (a0.size : Int) := od (by assumption); have hx41 := bt_at a0 x3_5; replace p41 := eq_true p41; replace q41 := eq_true q41))
                      go_ret
                      exact ⟨by first | rfl | (simp; done) | (simp [*]; done), by repeat (first | exact Drawn0.refl _ | apply Drawn0.step)⟩
                 ·rw [if_neg c34] at H
                  exact absurd H (by simp)
                ·rw [if_neg c33] at H
                 exact absurd H (by simp)
             ·replace c21 := Bool.eq_false_iff.mpr c21
              subst c21
              have H1 : (some x3_5) = some r := by rw [if_neg (show ¬ (false = true) by decide)] at H; exact H
              clear H
              have H := H1
              clear H1
              obtain rfl := Option.some.inj H
              go_wp2
              go_ret
              exact ⟨by first | rfl | (simp; done) | (simp [*]; done), by repeat (first | exact Drawn0.refl _ | apply Drawn0.step)⟩
end Go.Proofs.YtcbfbefpbjmglaaGreatDoor.PA
