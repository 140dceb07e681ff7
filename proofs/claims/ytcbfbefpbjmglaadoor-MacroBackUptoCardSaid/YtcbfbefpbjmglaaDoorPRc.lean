import Derived.Test.YtcbfbefpbjmglaaDoorM11
import Derived.Test.YtcbfbefpbjmglaaDoorA1
import Derived.Test.YtcbfbefpbjmglaaDoorM2
import Derived.Test.YtcbfbefpbjmglaaDoorLQ0
namespace Go.Proofs.YtcbfbefpbjmglaaDoor.PA
open Go.RowKit Go.Proofs.YtcbfbefpbjmglaaDoorT Go.Proofs.YtcbfbefpbjmglaaDoorW.PrintWords Go.Proofs.YtcbfbefpbjmglaaDoorW.PrintLast Go.Proofs.YtcbfbefpbjmglaaDoorW.PrintMore
attribute [local go_sem] max2_int min2_int max_two min_two max_three min_three max_four min_four
set_option linter.unusedVariables false
set_option linter.unusedSimpArgs false
attribute [local go_sem high] eqA48
def burinref02_Same.l0 : Nat → List (S48) → List (S48) → Int → Option (Bool)
 | 0, _, _, _ => none
 | k + 1, x0, x1, x5 => if x5 < (x0.length : Int) then (if 0 ≤ x5 then (if x5 < (x1.length : Int) then (if (!(((rd_T48 x0 x5).f0) == ((rd_T48 x1 x5).f0)) || (!((((rd_T48 x0 x5).f1).toList) == (((rd_T48 x1 x5).f1).toList)) || (!((((rd_T48 x0 x5).f2).toList) == (((rd_T48 x1 x5).f2).toList)) || (!(((rd_T48 x0 x5).f3) == ((rd_T48 x1 x5).f3)) || (!(((rd_T48 x0 x5).f4) == ((rd_T48 x1 x5).f4)) || (!(((rd_T48 x0 x5).f5) == ((rd_T48 x1 x5).f5)))))))) = true then (some false) else (burinref02_Same.l0 k x0 x1 (wrap64 (x5 + 1)))) else (none)) else (none)) else (some true)
def burinref02_Same.f (k : Nat) (l0 : List (S48)) (l1 : List (S48)) : Option (Bool) := if (l0.length : Int) = (l1.length : Int) then (burinref02_Same.l0 k l0 l1 0) else (some false)
set_option maxHeartbeats 8000000 in
set_option maxRecDepth 100000 in
theorem burinref02_Same.calls (k : Nat) (A0 : Option Addr) (c0 : Nat) (l0 : List (S48)) (A1 : Option Addr) (c1 : Nat) (l1 : List (S48)) (r : Bool) (w : World) (hr0 : Kd.C k48 w A0 l0.length l0) (hc0 : l0.length ≤ c0) (hr1 : Kd.C k48 w A1 l1.length l1) (hc1 : l1.length ≤ c1) (h : burinref02_Same.f k l0 l1 = some r) :
  Calls Tryd.prog 32 #[.slice A0 l0.length c0, .slice A1 l1.length c1] w fun e w' => e = .returned (.bool r) ∧ Drawn0 w w' := by
 have hu48 := Tryd.underlying48
 have HR0 := Aside0.mk hr0
 have HC0 := Aside0.mk hc0
 clear hr0 hc0
 have HR1 := Aside0.mk hr1
 have HC1 := Aside0.mk hc1
 clear hr1 hc1
 have H : (if (l0.length : Int) = (l1.length : Int) then (burinref02_Same.l0 k l0 l1 0) else (some false)) = some r := h
 clear h
 by_cases c3 : (l0.length : Int) = (l1.length : Int)
 ·rw [if_pos c3] at H
  have c3b0 : ((l0.length : Int) == (l1.length : Int)) = true := beq_iff_eq.mpr c3
  have c3b1 : ((l0.length : Int) != (l1.length : Int)) = false := bne_eq_false_iff_eq.mpr c3
  have c3b2 : (l0.length == l1.length) = true := by first | simpa using c3 | (simp at c3 ⊢; omega)
  clear c3
  have H' := Aside0.mk H
  clear H
  go_enter Tryd.func32, Tryd.ntmps32
  go_wp2
  repeat (go_quiet (fail); try go_wp2)
  go_loopg [5] k (fun kq v5 w' => ∃ (x5_1 : Int), v5 = .int .i64 x5_1 ∧ Aside0 (burinref02_Same.l0 kq l0 l1 x5_1 = some r) ∧ Aside0 (kq ≤ k) ∧ Drawn0 w w')
  case atStart => exact ⟨(0), (by first | rfl | (simp; done) | (simp [*]; done)), H', ⟨Nat.le_refl _⟩, by repeat (first | exact Drawn0.refl _ | apply Drawn0.step)⟩
  case round =>
   clear H'
   try clear c1
   try clear p2
   try clear c3
   try clear c3b0
   try clear c3b1
   try clear c3b2
   obtain ⟨x5_1, rfl, HA, HK1, ⟨m1, rfl⟩⟩ := hrel
   cases gk with
   | zero => exact absurd HA.out (by simp [burinref02_Same.l0])
   | succ k1 =>
    have H := HA.out
    clear HA
    simp only [burinref02_Same.l0] at H
    by_cases c4 : x5_1 < (l0.length : Int)
    ·rw [if_pos c4] at H
     have c4b0 : decide (x5_1 < (l0.length : Int)) = true := decide_eq_true c4
     clear c4
     by_cases c5 : 0 ≤ x5_1
     ·rw [if_pos c5] at H
      have c5b0 : decide (0 ≤ x5_1) = true := decide_eq_true c5
      clear c5
      by_cases c6 : x5_1 < (l1.length : Int)
      ·rw [if_pos c6] at H
       have c6b0 : decide (x5_1 < (l1.length : Int)) = true := decide_eq_true c6
       clear c6
       by_cases c7 : (!(((rd_T48 l0 x5_1).f0) == ((rd_T48 l1 x5_1).f0)) || (!((((rd_T48 l0 x5_1).f1).toList) == (((rd_T48 l1 x5_1).f1).toList)) || (!((((rd_T48 l0 x5_1).f2).toList) == (((rd_T48 l1 x5_1).f2).toList)) || (!(((rd_T48 l0 x5_1).f3) == ((rd_T48 l1 x5_1).f3)) || (!(((rd_T48 l0 x5_1).f4) == ((rd_T48 l1 x5_1).f4)) || (!(((rd_T48 l0 x5_1).f5) == ((rd_T48 l1 x5_1).f5)))))))) = true
       ·rw [if_pos c7] at H
        have c7b0 : (!(((rd_T48 l0 x5_1).f0) == ((rd_T48 l1 x5_1).f0)) || (!((((rd_T48 l0 x5_1).f1).toList) == (((rd_T48 l1 x5_1).f1).toList)) || (!((((rd_T48 l0 x5_1).f2).toList) == (((rd_T48 l1 x5_1).f2).toList)) || (!(((rd_T48 l0 x5_1).f3) == ((rd_T48 l1 x5_1).f3)) || (!(((rd_T48 l0 x5_1).f4) == ((rd_T48 l1 x5_1).f4)) || (!(((rd_T48 l0 x5_1).f5) == ((rd_T48 l1 x5_1).f5)))))))) = true := c7
        clear c7
        obtain rfl := Option.some.inj H
        have p223 : 0 ≤ (x5_1 : Int) := of_decide_eq_true (by first | (with_reducible assumption) | assumption)
        have q223 : x5_1 < (l0.length : Int) := of_decide_eq_true (by first | (with_reducible assumption) | assumption)
        obtain ⟨ad223, e223, hx223_0, hx223_1, hx223_2, hx223_3, hx223_4, hx223_5⟩ := at_T48 HR0.out x5_1 p223 q223
        cases e223
        replace p223 := eq_true p223
        replace q223 := eq_true q223
        have p224 : 0 ≤ (x5_1 : Int) := of_decide_eq_true (by first | (with_reducible assumption) | assumption)
        have q224 : x5_1 < (l1.length : Int) := of_decide_eq_true (by first | (with_reducible assumption) | assumption)
        obtain ⟨ad224, e224, hx224_0, hx224_1, hx224_2, hx224_3, hx224_4, hx224_5⟩ := at_T48 HR1.out x5_1 p224 q224
        cases e224
        replace p224 := eq_true p224
        replace q224 := eq_true q224
        go_wp2
        repeat (go_quiet (fail); try go_wp2)
        go_ret
        exact ⟨by first | rfl | (simp; done) | (simp [*]; done), by repeat (first | exact Drawn0.refl _ | apply Drawn0.step)⟩
       ·rw [if_neg c7] at H
        have c7b0 : (!(((rd_T48 l0 x5_1).f0) == ((rd_T48 l1 x5_1).f0)) || (!((((rd_T48 l0 x5_1).f1).toList) == (((rd_T48 l1 x5_1).f1).toList)) || (!((((rd_T48 l0 x5_1).f2).toList) == (((rd_T48 l1 x5_1).f2).toList)) || (!(((rd_T48 l0 x5_1).f3) == ((rd_T48 l1 x5_1).f3)) || (!(((rd_T48 l0 x5_1).f4) == ((rd_T48 l1 x5_1).f4)) || (!(((rd_T48 l0 x5_1).f5) == ((rd_T48 l1 x5_1).f5)))))))) = false := by simpa using c7
        clear c7
        have H' := Aside0.mk H
        clear H
        have p223 : 0 ≤ (x5_1 : Int) := of_decide_eq_true (by first | (with_reducible assumption) | assumption)
        have q223 : x5_1 < (l0.length : Int) := of_decide_eq_true (by first | (with_reducible assumption) | assumption)
        obtain ⟨ad223, e223, hx223_0, hx223_1, hx223_2, hx223_3, hx223_4, hx223_5⟩ := at_T48 HR0.out x5_1 p223 q223
        cases e223
        replace p223 := eq_true p223
        replace q223 := eq_true q223
        have p224 : 0 ≤ (x5_1 : Int) := of_decide_eq_true (by first | (with_reducible assumption) | assumption)
        have q224 : x5_1 < (l1.length : Int) := of_decide_eq_true (by first | (with_reducible assumption) | assumption)
        obtain ⟨ad224, e224, hx224_0, hx224_1, hx224_2, hx224_3, hx224_4, hx224_5⟩ := at_T48 HR1.out x5_1 p224 q224
        cases e224
        replace p224 := eq_true p224
        replace q224 := eq_true q224
        go_wp2
        repeat (go_quiet (fail); try go_wp2)
        go_roundg k1
        case measure => have := HK1.out; omega
        case rel => exact ⟨(wrap64 (x5_1 + 1)), (by first | rfl | (simp; done) | (simp [*]; done)), H', ⟨by have := HK1.out; omega⟩, by repeat (first | exact Drawn0.refl _ | apply Drawn0.step)⟩
      ·rw [if_neg c6] at H
       exact absurd H (by simp)
     ·rw [if_neg c5] at H
      exact absurd H (by simp)
    ·rw [if_neg c4] at H
     have c4b0 : decide (x5_1 < (l0.length : Int)) = false := decide_eq_false c4
     clear c4
     obtain rfl := Option.some.inj H
     go_wp2
     repeat (go_quiet (fail); try go_wp2)
     go_ret
     exact ⟨by first | rfl | (simp; done) | (simp [*]; done), by repeat (first | exact Drawn0.refl _ | apply Drawn0.step)⟩
 ·rw [if_neg c3] at H
  have c3b0 : ((l0.length : Int) == (l1.length : Int)) = false := beq_eq_false_iff_ne.mpr c3
  have c3b1 : ((l0.length : Int) != (l1.length : Int)) = true := bne_iff_ne.mpr c3
  have c3b2 : (l0.length == l1.length) = false := by first | simpa using c3 | (simp at c3 ⊢; omega)
  obtain rfl := Option.some.inj H
  go_enter Tryd.func32, Tryd.ntmps32
  go_wp2
  repeat (go_quiet (fail); try go_wp2)
  go_ret
  exact ⟨by first | rfl | (simp; done) | (simp [*]; done), by repeat (first | exact Drawn0.refl _ | apply Drawn0.step)⟩
end Go.Proofs.YtcbfbefpbjmglaaDoor.PA
namespace Go.Proofs.YtcbfbefpbjmglaaDoor.PA
open Go.RowKit Go.Proofs.YtcbfbefpbjmglaaDoorT Go.Proofs.YtcbfbefpbjmglaaDoorW.PrintWords Go.Proofs.YtcbfbefpbjmglaaDoorW.PrintLast Go.Proofs.YtcbfbefpbjmglaaDoorW.PrintMore
attribute [local go_sem] max2_int min2_int max_two min_two max_three min_three max_four min_four
set_option linter.unusedVariables false
set_option linter.unusedSimpArgs false
mutual
def burinref02_Spell.l0 : Nat → List (S48) → List Int → Int → Option (ByteArray)
 | 0, _, _, _ => none
 | k + 1, x0, x3, x4 => if x4 < (x0.length : Int) then (if x4 > 0 then (if 0 ≤ x4 then (burinref02_Spell.j1 k x0 x3 x4 ((rd_T48 x0 x4).f5)) else (none)) else (burinref02_Spell.j1 k x0 x3 x4 false)) else (some (strOfNums x3))
def burinref02_Spell.j1 : Nat → List (S48) → List Int → Int → Bool → Option (ByteArray)
 | 0, _, _, _, _ => none
 | k + 1, x0, x3, x4, x19 => if x19 = true then (if x3.length < 140737488355328 then ((some (x3 ++ [10] : List Int)).bind fun y226 => (if 0 ≤ x4 then (if x4 < (x0.length : Int) then (if y226.length + ((rd_T48 x0 x4).f1).size < 140737488355328 then (burinref02_Spell.l0 k x0 (y226 ++ bytesOf ((rd_T48 x0 x4).f1)) (wrap64 (x4 + 1))) else (none)) else (none)) else (none))) else (none)) else (if x4 > 0 then (if 0 ≤ x4 then (if x4 < (x0.length : Int) then (if (rd_T48 x0 x4).f4 = true then (if x3.length < 140737488355328 then ((some (x3 ++ [32] : List Int)).bind fun y234 => (if y234.length + ((rd_T48 x0 x4).f1).size < 140737488355328 then (burinref02_Spell.l0 k x0 (y234 ++ bytesOf ((rd_T48 x0 x4).f1)) (wrap64 (x4 + 1))) else (none))) else (none)) else (if x3.length + ((rd_T48 x0 x4).f1).size < 140737488355328 then (burinref02_Spell.l0 k x0 (x3 ++ bytesOf ((rd_T48 x0 x4).f1)) (wrap64 (x4 + 1))) else (none))) else (none)) else (none)) else (if 0 ≤ x4 then (if x4 < (x0.length : Int) then (if x3.length + ((rd_T48 x0 x4).f1).size < 140737488355328 then (burinref02_Spell.l0 k x0 (x3 ++ bytesOf ((rd_T48 x0 x4).f1)) (wrap64 (x4 + 1))) else (none)) else (none)) else (none)))
end
def burinref02_Spell.f (k : Nat) (l0 : List (S48)) : Option (ByteArray) := burinref02_Spell.l0 k l0 ([] : List Int) 0
end Go.Proofs.YtcbfbefpbjmglaaDoor.PA
namespace Go.Proofs.YtcbfbefpbjmglaaDoor.Mac
open Go.RowKit Go.Proofs.MapFun Go.Proofs.YtcbfbefpbjmglaaDoor.PA Go.Proofs.YtcbfbefpbjmglaaDoorT Go.Proofs.YtcbfbefpbjmglaaDoorW.PrintWords Go.Proofs.YtcbfbefpbjmglaaDoorW.PrintLast Go.Proofs.YtcbfbefpbjmglaaDoorW.PrintMore
set_option linter.unusedVariables false
set_option linter.unusedSimpArgs false
attribute [local go_sem] Oper.semAt_some
end Go.Proofs.YtcbfbefpbjmglaaDoor.Mac
namespace Go.Proofs.YtcbfbefpbjmglaaDoor.PA
open Go.RowKit Go.Proofs.YtcbfbefpbjmglaaDoor.Mac Go.Proofs.YtcbfbefpbjmglaaDoorW.PrintWords Go.Proofs.YtcbfbefpbjmglaaDoorW.PrintLast Go.Proofs.YtcbfbefpbjmglaaDoorW.PrintMore
set_option linter.unusedVariables false
def burinref03_Bare.f (k : Nat) (l0 : List S48) : Option (List S48) := if l0.length ≤ 1000000 then some (bareP l0) else none
end Go.Proofs.YtcbfbefpbjmglaaDoor.PA
namespace Go.Proofs.YtcbfbefpbjmglaaDoor.PA
open Go.RowKit Go.Proofs.YtcbfbefpbjmglaaDoorT Go.Proofs.YtcbfbefpbjmglaaDoorW.PrintWords Go.Proofs.YtcbfbefpbjmglaaDoorW.PrintLast Go.Proofs.YtcbfbefpbjmglaaDoorW.PrintMore
attribute [local go_sem] max2_int min2_int max_two min_two max_three min_three max_four min_four
set_option linter.unusedVariables false
set_option linter.unusedSimpArgs false
def burinref03_spelt.f (k : Nat) (l0 : List (S48)) : Option (Bool) := (burinref03_Bare.f k l0).bind fun t249 => ((burinref02_Same.f k l0 t249).bind fun t252 => (if t252 = true then ((burinref02_Spell.f k l0).bind fun t253 => ((burinref02_Lex.f (([(⟨1, t253⟩ : S28)] : List (S28)))).bind fun bt257 => (if bt257.2.1 = 0 then ((burinref03_Bare.f k bt257.1).bind fun t262 => ((burinref02_Same.f k l0 t262).bind fun t265 => (some t265))) else (some false)))) else (some false)))
def burinref03_param.l0 : Nat → Int → ByteArray → Bool → List ByteArray → Bool → List (S48) → Int → ByteArray → ByteArray → Int → Bool → Bool → Option (Int)
 | 0, _, _, _, _, _, _, _, _, _, _, _, _ => none
 | k + 1, x5, x267000, x267001, x267002, x267003, x267004, x268000, x268001, x268002, x268003, x268004, x268005 => if x5 < (x267002.length : Int) then (if x268000 = 1 then (if 0 ≤ x5 then (if x268001.toList = (rdOf ByteArray.empty x267002 x5).toList then (some x5) else (burinref03_param.l0 k (wrap64 (x5 + 1)) x267000 x267001 x267002 x267003 x267004 x268000 x268001 x268002 x268003 x268004 x268005)) else (none)) else (burinref03_param.l0 k (wrap64 (x5 + 1)) x267000 x267001 x267002 x267003 x267004 x268000 x268001 x268002 x268003 x268004 x268005)) else (if x267003 = true then (if x268000 = 1 then (if x268001.toList = ([95, 95, 86, 65, 95, 65, 82, 71, 83, 95, 95] : List UInt8) then (some (x267002.length : Int)) else (some (-1))) else (some (-1))) else (some (-1)))
def burinref03_param.f (k : Nat) (a0_0 : ByteArray) (a0_1 : Bool) (l0_2 : List ByteArray) (a0_3 : Bool) (l0_4 : List (S48)) (a1_0 : Int) (a1_1 : ByteArray) (a1_2 : ByteArray) (a1_3 : Int) (a1_4 : Bool) (a1_5 : Bool) : Option (Int) := burinref03_param.l0 k 0 a0_0 a0_1 l0_2 a0_3 l0_4 a1_0 a1_1 a1_2 a1_3 a1_4 a1_5
end Go.Proofs.YtcbfbefpbjmglaaDoor.PA
namespace Go.Proofs.YtcbfbefpbjmglaaDoor.PA
open Go.RowKit Go.Proofs.YtcbfbefpbjmglaaDoorT Go.Proofs.YtcbfbefpbjmglaaDoorW.PrintWords Go.Proofs.YtcbfbefpbjmglaaDoorW.PrintLast Go.Proofs.YtcbfbefpbjmglaaDoorW.PrintMore
attribute [local go_sem] max2_int min2_int max_two min_two max_three min_three max_four min_four
set_option linter.unusedVariables false
set_option linter.unusedSimpArgs false
mutual
def burinref03_body.j0 : Nat → List (S48) → Int → Bool → ByteArray → Bool → List ByteArray → Bool → List (S48) → Option (Bool)
 | 0, _, _, _, _, _, _, _, _ => none
 | k + 1, x3, x4, x36, x270000, x270001, x270002, x270003, x270004 => if x36 = true then (some false) else (burinref03_body.l0 k x3 x4 0 x270000 x270001 x270002 x270003 x270004)
def burinref03_body.l0 : Nat → List (S48) → Int → Int → ByteArray → Bool → List ByteArray → Bool → List (S48) → Option (Bool)
 | 0, _, _, _, _, _, _, _, _ => none
 | k + 1, x3, x4, x5, x270000, x270001, x270002, x270003, x270004 => if x5 < x4 then (if 0 ≤ x5 then (if x5 < (x3.length : Int) then (if ((rd_T48 x3 x5).f1).toList = ([95, 95, 86, 65, 95, 65, 82, 71, 83, 95, 95] : List UInt8) then (burinref03_body.j2 k x3 x4 x5 (!x270003) x270000 x270001 x270002 x270003 x270004) else (burinref03_body.j2 k x3 x4 x5 false x270000 x270001 x270002 x270003 x270004)) else (none)) else (none)) else (some true)
def burinref03_body.j2 : Nat → List (S48) → Int → Int → Bool → ByteArray → Bool → List ByteArray → Bool → List (S48) → Option (Bool)
 | 0, _, _, _, _, _, _, _, _, _ => none
 | k + 1, x3, x4, x5, x52, x270000, x270001, x270002, x270003, x270004 => if x52 = true then (some false) else (if x270001 = true then (if 0 ≤ x5 then (if x5 < (x3.length : Int) then (if ((rd_T48 x3 x5).f1).toList = ([35] : List UInt8) then (if (wrap64 (x5 + 1)) = x4 then (some false) else (if 0 ≤ (wrap64 (x5 + 1)) then (if (wrap64 (x5 + 1)) < (x3.length : Int) then ((burinref03_param.f k x270000 x270001 x270002 x270003 x270004 ((rd_T48 x3 (wrap64 (x5 + 1))).f0) ((rd_T48 x3 (wrap64 (x5 + 1))).f1) ((rd_T48 x3 (wrap64 (x5 + 1))).f2) ((rd_T48 x3 (wrap64 (x5 + 1))).f3) ((rd_T48 x3 (wrap64 (x5 + 1))).f4) ((rd_T48 x3 (wrap64 (x5 + 1))).f5)).bind fun t276 => (if t276 < 0 then (some false) else (burinref03_body.l0 k x3 x4 (wrap64 (x5 + 1)) x270000 x270001 x270002 x270003 x270004))) else (none)) else (none))) else (burinref03_body.l0 k x3 x4 (wrap64 (x5 + 1)) x270000 x270001 x270002 x270003 x270004)) else (none)) else (none)) else (burinref03_body.l0 k x3 x4 (wrap64 (x5 + 1)) x270000 x270001 x270002 x270003 x270004))
end
def burinref03_body.f (k : Nat) (a0_0 : ByteArray) (a0_1 : Bool) (l0_2 : List ByteArray) (a0_3 : Bool) (l0_4 : List (S48)) : Option (Bool) := if (l0_4.length : Int) > 500 then (burinref03_body.j0 k l0_4 (l0_4.length : Int) true a0_0 a0_1 l0_2 a0_3 l0_4) else ((burinref03_spelt.f k l0_4).bind fun t270 => (if t270 = true then (if (l0_4.length : Int) > 0 then (if 0 < (l0_4.length : Int) then (if ((rd_T48 l0_4 0).f1).toList = ([35, 35] : List UInt8) then (burinref03_body.j0 k l0_4 (l0_4.length : Int) true a0_0 a0_1 l0_2 a0_3 l0_4) else (if 0 ≤ (wrap64 ((l0_4.length : Int) - 1)) then (if (wrap64 ((l0_4.length : Int) - 1)) < (l0_4.length : Int) then (burinref03_body.j0 k l0_4 (l0_4.length : Int) (((rd_T48 l0_4 (wrap64 ((l0_4.length : Int) - 1))).f1).toList == ([35, 35] : List UInt8)) a0_0 a0_1 l0_2 a0_3 l0_4) else (none)) else (none))) else (none)) else (burinref03_body.j0 k l0_4 (l0_4.length : Int) false a0_0 a0_1 l0_2 a0_3 l0_4)) else (burinref03_body.j0 k l0_4 (l0_4.length : Int) true a0_0 a0_1 l0_2 a0_3 l0_4)))
end Go.Proofs.YtcbfbefpbjmglaaDoor.PA
namespace Go.Proofs.YtcbfbefpbjmglaaDoor.PA
open Go.RowKit Go.Proofs.YtcbfbefpbjmglaaDoorT Go.Proofs.YtcbfbefpbjmglaaDoorW.PrintWords Go.Proofs.YtcbfbefpbjmglaaDoorW.PrintLast Go.Proofs.YtcbfbefpbjmglaaDoorW.PrintMore
attribute [local go_sem] max2_int min2_int max_two min_two max_three min_three max_four min_four
set_option linter.unusedVariables false
set_option linter.unusedSimpArgs false
mutual
def burinref03_Right.j0 : Nat → Bool → ByteArray → Bool → List ByteArray → Bool → List (S48) → Option (Bool)
 | 0, _, _, _, _, _, _ => none
 | k + 1, x42, x278000, x278001, x278002, x278003, x278004 => if x42 = true then (some false) else (burinref03_Right.l0 k 0 x278000 x278001 x278002 x278003 x278004)
def burinref03_Right.l0 : Nat → Int → ByteArray → Bool → List ByteArray → Bool → List (S48) → Option (Bool)
 | 0, _, _, _, _, _, _ => none
 | k + 1, x4, x278000, x278001, x278002, x278003, x278004 => if x4 < (x278002.length : Int) then (if 0 ≤ x4 then ((burinref03_isName.f (rdOf ByteArray.empty x278002 x4)).bind fun t281 => (if t281 = true then (burinref03_Right.j2 k x4 ((rdOf ByteArray.empty x278002 x4).toList == ([95, 95, 86, 65, 95, 65, 82, 71, 83, 95, 95] : List UInt8)) x278000 x278001 x278002 x278003 x278004) else (burinref03_Right.j2 k x4 true x278000 x278001 x278002 x278003 x278004))) else (none)) else ((burinref03_body.f k x278000 x278001 x278002 x278003 x278004).bind fun t279 => (some t279))
def burinref03_Right.j2 : Nat → Int → Bool → ByteArray → Bool → List ByteArray → Bool → List (S48) → Option (Bool)
 | 0, _, _, _, _, _, _, _ => none
 | k + 1, x4, x65, x278000, x278001, x278002, x278003, x278004 => if x65 = true then (some false) else (burinref03_Right.l1 k x4 0 x278000 x278001 x278002 x278003 x278004)
def burinref03_Right.l1 : Nat → Int → Int → ByteArray → Bool → List ByteArray → Bool → List (S48) → Option (Bool)
 | 0, _, _, _, _, _, _, _ => none
 | k + 1, x4, x6, x278000, x278001, x278002, x278003, x278004 => if x6 < x4 then (if 0 ≤ x6 then (if x6 < (x278002.length : Int) then (if 0 ≤ x4 then (if x4 < (x278002.length : Int) then (if (rdOf ByteArray.empty x278002 x6).toList = (rdOf ByteArray.empty x278002 x4).toList then (some false) else (burinref03_Right.l1 k x4 (wrap64 (x6 + 1)) x278000 x278001 x278002 x278003 x278004)) else (none)) else (none)) else (none)) else (none)) else (burinref03_Right.l0 k (wrap64 (x4 + 1)) x278000 x278001 x278002 x278003 x278004)
end
end Go.Proofs.YtcbfbefpbjmglaaDoor.PA
namespace Go.Proofs.YtcbfbefpbjmglaaDoor.Mac
open Go.RowKit Go.Lib Go.Proofs.YtcbfbefpbjmglaaDoor.PA Go.Proofs.YtcbfbefpbjmglaaDoorT Go.Proofs.YtcbfbefpbjmglaaDoorW.PrintWords Go.Proofs.YtcbfbefpbjmglaaDoorW.PrintLast Go.Proofs.YtcbfbefpbjmglaaDoorW.PrintMore
set_option linter.unusedVariables false
set_option linter.unusedSimpArgs false
def spellD : Nat → List S48 → List UInt8
 | _, [] => []
 | i, x :: r => Sp.sepOf (i == 0) x ++ x.f1.data.toList ++ spellD (i + 1) r
theorem spell_items : ∀ (l : List S48) (i : Nat) (L : List S48), L.drop i = l → Sp.spellN ((List.range' i l.length).map fun j => (j, L.getD j z48)) = spellD i l
 | [], i, L, h => rfl
 | x :: r, i, L, h => by
  have hi : i < L.length := by
   rcases Nat.lt_or_ge i L.length with h' | h'
   ·exact h'
   ·rw [List.drop_eq_nil_of_le h'] at h; cases h
  have h2 := List.drop_eq_getElem_cons hi
  rw [h] at h2
  have hx : L.getD i z48 = x := by rw [List.getD_eq_getElem?_getD, List.getElem?_eq_getElem hi]; exact (List.cons.inj h2).1.symm
  rw [List.length_cons, List.range'_succ, List.map_cons, hx]
  show Sp.sepOf (i == 0) x ++ x.f1.data.toList ++ Sp.spellN _ = _
  rw [spell_items r (i + 1) L (List.cons.inj h2).2.symm]
  rfl
theorem spell_eq (l : List S48) : Sp.spellN (Sp.itemsOf l) = spellD 0 l := by
 rw [← spell_items l 0 l rfl]
 unfold Sp.itemsOf Sp.upto
 rw [List.range_eq_range']
end Go.Proofs.YtcbfbefpbjmglaaDoor.Mac
namespace Go.Proofs.YtcbfbefpbjmglaaDoor.Mac
open Go.RowKit Go.Lib Go.Proofs.YtcbfbefpbjmglaaDoor.PA Go.Proofs.YtcbfbefpbjmglaaDoorT Go.Proofs.YtcbfbefpbjmglaaDoorW.PrintWords Go.Proofs.YtcbfbefpbjmglaaDoorW.PrintLast Go.Proofs.YtcbfbefpbjmglaaDoorW.PrintMore
set_option linter.unusedVariables false
set_option linter.unusedSimpArgs false
theorem lexP_toks (N : Int) (S : List UInt8) (h : (lexP [(N, S)]).2.1 = 0) : (lexP [(N, S)]).1 = (lineP N S st0).1 ∧ (∀ t ∈ (lineP N S st0).1, t.s ≠ []) ∧ (lineP N S st0).1.length ≤ 20000 := by
 have hlen := lexP_len [(N, S)]
 have hu : lexP [(N, S)] = if (foldT [] (lineP N S st0).1).2 = 0 then (if (lineP N S st0).2.op then ([], 20, (lineP N S st0).2.fr) else ((foldT [] (lineP N S st0).1).1, 0, 0)) else ([], (foldT [] (lineP N S st0).1).2, N) := rfl
 by_cases hz : (foldT [] (lineP N S st0).1).2 = 0
 ·obtain ⟨o, ho⟩ : ∃ o, foldT [] (lineP N S st0).1 = (o, 0) := ⟨(foldT [] (lineP N S st0).1).1, by rw [← hz]⟩
  obtain ⟨h1, h2⟩ := foldT_ok _ _ _ ho
  rw [List.nil_append] at h1
  rw [hu, if_pos hz] at h hlen ⊢
  cases hop : (lineP N S st0).2.op with
  | true => rw [hop, if_pos rfl] at h; cases h
  | false =>
   rw [hop, if_neg (by decide)] at hlen
   rw [if_neg (by decide), ho]
   rw [ho] at hlen
   exact ⟨h1, h2, by rw [← h1]; exact hlen⟩
 ·rw [hu, if_neg hz] at h
  exact absurd h hz
theorem cut_suffix (l p : List UInt8) : (Lib.cut l p).2.1 <:+ l := by
 unfold Lib.cut
 split
 ·exact List.drop_suffix _ _
 ·exact List.nil_suffix
theorem skipP_suffix (line : Int) : ∀ k l st, (skipP line k l st).1 <:+ l
 | 0, l, st => List.nil_suffix
 | k + 1, l, st => by
  unfold skipP
  split
  ·exact List.nil_suffix
  ·split
   ·exact (skipP_suffix line k _ _).trans (cut_suffix _ _)
   ·split
    ·exact List.nil_suffix
    ·split
     ·exact (skipP_suffix line k _ _).trans (List.drop_suffix _ _)
     ·split
      ·exact (skipP_suffix line k _ _).trans (List.drop_suffix _ _)
      ·exact List.suffix_refl _
theorem one_text (S : List UInt8) (t : TokP) (h : (lexP [(1, S)]).2.1 = 0) (h1 : (lexP [(1, S)]).1 = [t]) (hl : t.s.length = S.length) : t.s = S := by
 obtain ⟨e1, e2, _⟩ := lexP_toks 1 S h
 rw [h1] at e1
 rw [← e1] at e2
 have hm := skipP_suffix 1 (S.length + 1) S (begin_ st0)
 have hlp : lineP 1 S st0 = toksL 1 (skipP 1 (S.length + 1) S (begin_ st0)).1 (skipP 1 (S.length + 1) S (begin_ st0)).2 := rfl
 rw [hlp] at e1
 generalize (skipP 1 (S.length + 1) S (begin_ st0)).1 = m at hm e1
 generalize (skipP 1 (S.length + 1) S (begin_ st0)).2 = st at e1
 by_cases h0 : m = []
 ·subst h0; rw [toksL_nil] at e1; cases e1
 ·by_cases hn : (nextP (bstr m)).2 = 0
  ·rw [toksL_zero _ _ _ h0 hn] at e1
   have := (List.cons.inj e1).1
   exact absurd (by rw [this]) (e2 t (by simp))
  ·rw [toksL_cons _ _ _ h0 hn] at e1
   have ht := (List.cons.inj e1).1
   have hts : t.s = m.take (nextP (bstr m)).2 := by rw [ht]
   have hml := hm.length_le
   have htl : t.s.length ≤ m.length := by rw [hts, List.length_take]; omega
   have hmS : m = S := hm.eq_of_length (by omega)
   subst hmS
   rw [hts] at hl ⊢
   rw [List.length_take] at hl
   exact List.take_of_length_le (by omega)
def oneP (s : ByteArray) : Option TokP :=
 if (lexP [(1, s.data.toList)]).2.1 = 0 then
  match (lexP [(1, s.data.toList)]).1 with
  | [t] => if t.s = s.data.toList then some t else none
  | _ => none
 else none
def nameR (s : ByteArray) : Bool := match oneP s with
 | some t => t.kind == 1
 | none => false
theorem toList_bstr (l : List UInt8) : (bstr l).toList = l := by
 rw [ByteArray.toList_eq]; rfl
theorem size_bstr (l : List UInt8) : (bstr l).size = l.length := rfl
theorem one_cases (s : ByteArray) : (∃ t, oneP s = some t ∧ (lexP [(1, s.data.toList)]).2.1 = 0 ∧ (lexP [(1, s.data.toList)]).1 = [t] ∧ t.s = s.data.toList) ∨ (oneP s = none ∧ ∀ t, (lexP [(1, s.data.toList)]).2.1 = 0 → (lexP [(1, s.data.toList)]).1 = [t] → t.s.length ≠ s.size) := by
 unfold oneP
 by_cases hz : (lexP [(1, s.data.toList)]).2.1 = 0
 ·rw [if_pos hz]
  match hL : (lexP [(1, s.data.toList)]).1 with
  | [] => exact .inr ⟨rfl, fun t _ h => by cases h⟩
  | [t] =>
   by_cases hs : t.s = s.data.toList
   ·exact .inl ⟨t, by simp only [hs, if_true], hz, rfl, hs⟩
   ·refine .inr ⟨by simp only [hs, if_false], fun t' _ h hl => ?_⟩
    cases h
    exact hs (one_text _ t hz hL (by rw [hl]; exact Lib.size_eq s))
  | t :: u :: r => exact .inr ⟨rfl, fun t _ h => by cases h⟩
 ·rw [if_neg hz]
  exact .inr ⟨rfl, fun t h => absurd h hz⟩
theorem isNameP_eq (s : ByteArray) (h : s.size < 4294967281) : isNameP s = (nameR s && !(s.toList == restL)) := by
 have hf := isName_f s h
 have key : macro_isName.f s = some (nameR s && !(s.toList == restL)) := by
  unfold macro_isName.f token_One.f
  rw [lex_one s h, Option.bind_some]
  unfold nameR
  rcases one_cases s with ⟨t, h1, h2, h3, h4⟩ | ⟨h1, h2⟩
  ·rw [h1, h2, h3]
   simp only [List.map_cons, List.map_nil, List.length_cons, List.length_nil]
   rw [if_pos trivial, if_pos (by rfl), if_pos (by decide), show rd_T48 [toT t] 0 = toT t from rfl]
   rw [if_pos (by show (bstr t.s).toList = _; rw [toList_bstr, h4, ByteArray.toList_eq])]
   rw [Option.bind_some, if_pos rfl]
   show (if (t.kind : Int) = 1 then _ else _) = _
   by_cases hk : t.kind = 1
   ·rw [if_pos (by omega), hk]; rfl
   ·rw [if_neg (by omega), show (t.kind == 1) = false from beq_eq_false_iff_ne.2 hk]; rfl
  ·rw [h1]
   by_cases hz : (lexP [(1, s.data.toList)]).2.1 = 0
   ·simp only [hz, if_true]
    match hL : (lexP [(1, s.data.toList)]).1 with
    | [] => rfl
    | [t] =>
     simp only [List.map_cons, List.map_nil, List.length_cons, List.length_nil]
     rw [if_pos (by rfl), if_pos (by decide), show rd_T48 [toT t] 0 = toT t from rfl]
     rw [if_neg (by show ¬ (bstr t.s).toList = _; rw [toList_bstr, ByteArray.toList_eq]; intro e; exact h2 t hz hL (by rw [e, Lib.size_eq]))]
     rfl
    | t :: u :: r =>
     simp only [List.map_cons, List.length_cons]
     rw [if_neg (by omega)]
     rfl
   ·simp only [hz, if_false]
    rfl
 rw [hf] at key
 exact Option.some.inj key
end Go.Proofs.YtcbfbefpbjmglaaDoor.Mac
namespace Go.Proofs.YtcbfbefpbjmglaaDoor.Mac
open Go.RowKit Go.Lib Go.Proofs.YtcbfbefpbjmglaaDoor.PA Go.Proofs.YtcbfbefpbjmglaaDoorT Go.Proofs.YtcbfbefpbjmglaaDoorW.PrintWords Go.Proofs.YtcbfbefpbjmglaaDoorW.PrintLast Go.Proofs.YtcbfbefpbjmglaaDoorW.PrintMore
set_option linter.unusedVariables false
set_option linter.unusedSimpArgs false
theorem same_loop (a b : List S48) (hab : a.length = b.length) (hl : a.length ≤ 1000000) : ∀ d k i, i + d = a.length → d < k → burinref02_Same.l0 k a b (i : Int) = some (toksEq (a.drop i) (b.drop i))
 | 0, k, i, h1, h3 => by
  obtain ⟨k, rfl⟩ : ∃ m, k = m + 1 := ⟨k - 1, by omega⟩
  simp only [burinref02_Same.l0]
  rw [if_neg (by omega), List.drop_eq_nil_of_le (by omega), List.drop_eq_nil_of_le (by omega), toksEq]
 | d + 1, k, i, h1, h3 => by
  obtain ⟨k, rfl⟩ : ∃ m, k = m + 1 := ⟨k - 1, by omega⟩
  have hi : i < a.length := by omega
  have hw : wrap64 ((i : Int) + 1) = ((i + 1 : Nat) : Int) := by unfold wrap64; omega
  simp only [burinref02_Same.l0]
  rw [if_pos (by omega), if_pos (by omega), if_pos (by omega), rd_at hi, rd_at (hab ▸ hi), hw, List.drop_eq_getElem_cons hi, List.drop_eq_getElem_cons (l := b) (by omega), toksEq, tokEq_not]
  cases tokEq a[i] b[i] with
  | true => rw [if_neg (by decide), Bool.true_and]; exact same_loop a b hab hl d k (i + 1) (by omega) (by omega)
  | false => rw [if_pos (by decide), Bool.false_and]
theorem same_f (k : Nat) (a b : List S48) (hl : a.length ≤ 1000000) (hk : a.length < k) : burinref02_Same.f k a b = some (toksEq a b) := by
 unfold burinref02_Same.f
 by_cases hab : a.length = b.length
 ·rw [if_pos (by omega)]
  have := same_loop a b hab hl a.length k 0 (by omega) hk
  simpa using this
 ·rw [if_neg (by omega), toksEq_ne hab]
def speltP (body : List S48) : Bool := toksEq body (bareP body) && (decide ((lexS body).2.1 = 0) && toksEq body (bareP ((lexS body).1.map toT)))
end Go.Proofs.YtcbfbefpbjmglaaDoor.Mac
namespace Go.Proofs.YtcbfbefpbjmglaaDoor.Mac
open Go.RowKit Go.Lib Go.Proofs.YtcbfbefpbjmglaaDoor.PA Go.Proofs.YtcbfbefpbjmglaaDoorT Go.Proofs.YtcbfbefpbjmglaaDoorW.PrintWords Go.Proofs.YtcbfbefpbjmglaaDoorW.PrintLast Go.Proofs.YtcbfbefpbjmglaaDoorW.PrintMore
set_option linter.unusedVariables false
set_option linter.unusedSimpArgs false
def HK (ps : List ByteArray) (more : Bool) (body : List S48) : Prop := ∀ t ∈ body, (contB ps t.f1 || (more && isRest t.f1)) = true → t.f0 = 1
theorem bytes_ext {a b : ByteArray} (h : a.toList = b.toList) : a = b := by
 rw [ByteArray.toList_eq, ByteArray.toList_eq] at h
 cases a; cases b
 congr 1
 exact Array.ext' h
theorem goodParams_mem : ∀ (ps seen : List ByteArray), goodParams seen ps = true → ∀ p ∈ ps, isNameP p = true
 | [], _, _, p, hp => by cases hp
 | x :: r, seen, h, p, hp => by
  rw [goodParams, Bool.and_eq_true, Bool.and_eq_true] at h
  rcases List.mem_cons.1 hp with rfl | hp
  ·exact h.1
  ·exact goodParams_mem r _ h.2.2 p hp
end Go.Proofs.YtcbfbefpbjmglaaDoor.Mac
namespace Go.Proofs.YtcbfbefpbjmglaaDoorT
open Go.RowKit Go.Lib
set_option linter.unusedVariables false
set_option linter.unusedSimpArgs false
theorem upto_stop (on : Nat → Bool) : ∀ k i, upto on k i < i + k → on (upto on k i) = false
 | 0, i, h => by unfold upto at h; omega
 | k + 1, i, h => by
  unfold upto at h ⊢
  by_cases hh : on i = true
  ·rw [if_pos hh] at h ⊢
   exact upto_stop on k (i + 1) (by omega)
  ·rw [if_neg hh]
   simpa using hh
theorem upto_is (on : Nat → Bool) (n : Nat) : ∀ k i, i ≤ n → n ≤ i + k → (∀ j, i ≤ j → j < n → on j = true) → (n < i + k → on n = false) → upto on k i = n
 | 0, i, h1, h2, _, _ => by unfold upto; omega
 | k + 1, i, h1, h2, h3, h4 => by
  unfold upto
  by_cases e : i = n
  ·subst e
   rw [if_neg (by rw [h4 (by omega)]; decide)]
  ·rw [if_pos (h3 i (Nat.le_refl _) (by omega))]
   exact upto_is on n k (i + 1) (by omega) (by omega) (fun j a b => h3 j (by omega) b) (fun h => h4 (by omega))
theorem at_end (l : List UInt8) (i : Nat) (h : l.length ≤ i) : at_ (bstr l) i = 0 := by
 rw [at_bstr, List.getD_eq_getElem?_getD, List.getElem?_eq_none h]; rfl
theorem quo_same (s s' : ByteArray) (n : Nat) (hs : n ≤ s'.size) (ha : ∀ j, j < n → at_ s' j = at_ s j) (hn : n ≠ 0) : ∀ k i, quo s k i = n → quo s' k i = n
 | 0, i, h => absurd h.symm hn
 | k + 1, i, h => by
  have hgt := quo_gt s (k + 1) i (by omega)
  rw [h] at hgt
  unfold quo at h ⊢
  rw [if_neg (by omega), ha i (by omega), ha 0 (by omega)]
  by_cases h1 : s.size ≤ i
  ·rw [if_pos h1] at h; exact absurd h.symm hn
  ·rw [if_neg h1] at h
   by_cases h2 : at_ s i = 92
   ·rw [if_pos h2] at h ⊢
    exact quo_same s s' n hs ha hn k _ h
   ·rw [if_neg h2] at h ⊢
    by_cases h3 : at_ s i = at_ s 0
    ·rw [if_pos h3] at h ⊢; exact h
    ·rw [if_neg h3] at h ⊢
     exact quo_same s s' n hs ha hn k _ h
theorem quo_any (s s' : ByteArray) (n : Nat) (hs : n ≤ s'.size) (ha : ∀ j, j < n → at_ s' j = at_ s j) (hn : n ≠ 0) (h : quo s s.size 1 = n) : quo s' s'.size 1 = n := by
 have h1 := quo_same s s' n hs ha hn s.size 1 h
 rcases Nat.le_total s.size s'.size with hc | hc
 ·obtain ⟨d, hd⟩ : ∃ d, s'.size = s.size + d := ⟨s'.size - s.size, by omega⟩
  have hgt := quo_le s s.size 1
  -- more fuel leaves an answer
  have key : ∀ (k i : Nat), quo s' k i = n → quo s' (k + d) i = n := by
   intro k
   induction k with
   | zero => intro i hq; exact absurd hq.symm hn
   | succ k ih =>
    intro i hq
    rw [show k + 1 + d = k + d + 1 by omega]
    unfold quo at hq ⊢
    by_cases a1 : s'.size ≤ i
    ·rw [if_pos a1] at hq; exact absurd hq.symm hn
    ·rw [if_neg a1] at hq ⊢
     by_cases a2 : at_ s' i = 92
     ·rw [if_pos a2] at hq ⊢; exact ih _ hq
     ·rw [if_neg a2] at hq ⊢
      by_cases a3 : at_ s' i = at_ s' 0
      ·rw [if_pos a3] at hq ⊢; exact hq
      ·rw [if_neg a3] at hq ⊢; exact ih _ hq
  rw [hd]; exact key _ _ h1
 ·obtain ⟨d, hd⟩ : ∃ d, s.size = s'.size + d := ⟨s.size - s'.size, by omega⟩
  have := quo_fuel s' 1 d s'.size (by omega)
  rw [← hd, h1] at this
  exact this.symm
theorem sgs_bytes : ∀ a ∈ sgs, a.length ≤ 3 ∧ ∀ c ∈ a, c ≠ 0 ∧ c ≠ 32 := by decide
theorem pre_at {l a : List UInt8} (hz : ∀ c ∈ a, c ≠ 0) : Lib.hasPrefix l a = true ↔ ∀ j, j < a.length → at_ (bstr l) j = a.getD j 0 := by
 rw [hasPrefix_iff]
 constructor
 ·rintro ⟨r, rfl⟩ j hj
  rw [at_bstr, List.getD_eq_getElem?_getD, List.getElem?_append_left hj, ← List.getD_eq_getElem?_getD]
 ·intro h
  rw [List.prefix_iff_eq_take]
  have hlen : a.length ≤ l.length := by
   rcases Nat.lt_or_ge l.length a.length with hlt | hge
   ·have := h l.length hlt
    rw [at_end l _ (Nat.le_refl _), List.getD_eq_getElem?_getD, List.getElem?_eq_getElem hlt] at this
    exact absurd this.symm (hz _ (List.getElem_mem hlt))
   ·exact hge
  apply List.ext_getElem
  ·rw [List.length_take]; omega
  ·intro i h1 h2
   have := h i h1
   rw [at_bstr, List.getD_eq_getElem?_getD, List.getElem?_eq_getElem (by omega), List.getD_eq_getElem?_getD, List.getElem?_eq_getElem h1] at this
   rw [List.getElem_take]
   exact this.symm
def Near (m' m : List UInt8) (n : Nat) : Prop :=
 at_ (bstr m') n = 0 ∨ at_ (bstr m') n = 32 ∨ (at_ (bstr m') n = at_ (bstr m) n ∧ (at_ (bstr m') (n + 1) = 0 ∨ at_ (bstr m') (n + 1) = 32 ∨ at_ (bstr m') (n + 1) = at_ (bstr m) (n + 1)))
theorem sgn_near {m m' : List UInt8} {n : Nat} (h0 : n ≠ 0) (ha : ∀ j, j < n → at_ (bstr m') j = at_ (bstr m) j) (hs : Near m' m n) {a : List UInt8} (hmem : a ∈ sgs) (hp : Lib.hasPrefix m' a = true) : Lib.hasPrefix m a = true := by
 obtain ⟨h3, hb⟩ := sgs_bytes a hmem
 have hz : ∀ c ∈ a, c ≠ 0 := fun c hc => (hb c hc).1
 rw [pre_at hz] at hp ⊢
 have nz : ∀ j, j < a.length → a.getD j 0 ≠ 0 ∧ a.getD j 0 ≠ 32 := fun j hj => by
  rw [List.getD_eq_getElem?_getD, List.getElem?_eq_getElem hj]
  exact hb _ (List.getElem_mem hj)
 intro j hj
 have hpj := hp j hj
 by_cases c1 : j < n
 ·rw [← ha j c1]; exact hpj
 ·by_cases c2 : j = n
  ·subst c2
   obtain ⟨z1, z2⟩ := nz j hj
   rcases hs with e | e | ⟨e, _⟩
   ·rw [e] at hpj; exact absurd hpj.symm z1
   ·rw [e] at hpj; exact absurd hpj.symm z2
   ·rw [← e]; exact hpj
  ·have c3 : j = n + 1 := by omega
   subst c3
   obtain ⟨z1, z2⟩ := nz (n + 1) hj
   obtain ⟨y1, y2⟩ := nz n (by omega)
   have hpn := hp n (by omega)
   rcases hs with e | e | ⟨_, e⟩
   ·rw [e] at hpn; exact absurd hpn.symm y1
   ·rw [e] at hpn; exact absurd hpn.symm y2
   ·rcases e with e | e | e
    ·rw [e] at hpj; exact absurd hpj.symm z1
    ·rw [e] at hpj; exact absurd hpj.symm z2
    ·rw [← e]; exact hpj
theorem sgn_keep {m m' : List UInt8} {n : Nat} (h0 : n ≠ 0) (hl : n ≤ m'.length) (ha : ∀ j, j < n → at_ (bstr m') j = at_ (bstr m) j) (hs : Near m' m n) : ∀ (t : List (List UInt8)), (∀ a ∈ t, a ∈ sgs) →
  (∀ x, t.find? (fun x => Lib.hasPrefix m x) = some x → x.length = n → t.find? (fun x => Lib.hasPrefix m' x) = some x) ∧ (t.find? (fun x => Lib.hasPrefix m x) = none → t.find? (fun x => Lib.hasPrefix m' x) = none)
 | [], _ => ⟨fun x h => (by cases h), fun _ => rfl⟩
 | a :: t, hsub => by
  obtain ⟨i1, i2⟩ := sgn_keep h0 hl ha hs t (fun b hb => hsub b (List.mem_cons_of_mem _ hb))
  have hmem := hsub a List.mem_cons_self
  refine ⟨fun x h hx => ?_, fun h => ?_⟩
  ·rw [List.find?_cons] at h ⊢
   cases hc : Lib.hasPrefix m a with
   | true =>
    rw [hc] at h
    simp only [Option.some.injEq] at h
    subst h
    have : Lib.hasPrefix m' a = true := by
     have hz : ∀ c ∈ a, c ≠ 0 := fun c hc => ((sgs_bytes a hmem).2 c hc).1
     rw [pre_at hz] at hc ⊢
     intro j hj
     rw [ha j (by omega)]; exact hc j hj
    rw [this]
   | false =>
    rw [hc] at h
    cases hc' : Lib.hasPrefix m' a with
    | true => rw [sgn_near h0 ha hs hmem hc'] at hc; cases hc
    | false => exact i1 x h hx
  ·rw [List.find?_cons] at h ⊢
   cases hc : Lib.hasPrefix m a with
   | true => rw [hc] at h; cases h
   | false =>
    rw [hc] at h
    cases hc' : Lib.hasPrefix m' a with
    | true => rw [sgn_near h0 ha hs hmem hc'] at hc; cases hc
    | false => exact i2 h
theorem nextP_loc (m m' : List UInt8) (n k : Nat) (hm : m ≠ []) (hN : nextP (bstr m) = (k, n)) (h0 : n ≠ 0) (ha : ∀ j, j < n → at_ (bstr m') j = at_ (bstr m) j) (hl : n ≤ m'.length) (hs : Near m' m n) : nextP (bstr m') = (k, n) := by
 have hle := nextP_le m hm
 rw [hN] at hle
 simp only at hle
 have hms := bstr_size m
 have hms' := bstr_size m'
 have ha0 := ha 0 (by omega)
 have hwz : isW 0 = false := by decide
 have hw32 : isW 32 = false := by decide
 have hdz : isD 0 = false := by decide
 have hd32 : isD 32 = false := by decide
 unfold nextP at hN ⊢
 rw [ha0]
 by_cases hL : isL (at_ (bstr m) 0) = true
 ·rw [if_pos hL] at hN ⊢
  simp only [Prod.mk.injEq] at hN ⊢
  refine ⟨hN.1, upto_is _ n _ 0 (by omega) (by omega) (fun j _ hj => ?_) (fun hlt => ?_)⟩
  ·rw [ha j hj]
   exact upto_on (fun i => isW (at_ (bstr m) i)) (bstr m).size 0 j (by omega) (by rw [hN.2]; exact hj)
  ·show isW (at_ (bstr m') n) = false
   rcases hs with e | e | ⟨e, _⟩
   ·rw [e]; exact hwz
   ·rw [e]; exact hw32
   ·rw [e]
    by_cases c : n < m.length
    ·have := upto_stop (fun i => isW (at_ (bstr m) i)) (bstr m).size 0 (by rw [hN.2]; omega)
     rw [hN.2] at this
     exact this
    ·rw [at_end m n (by omega)]; exact hwz
 ·rw [if_neg hL] at hN ⊢
  have hsz1 : at_ (bstr m) 0 = 46 → (decide (1 < (bstr m').size) && isD (at_ (bstr m') 1)) = (decide (1 < (bstr m).size) && isD (at_ (bstr m) 1)) ∨ n = 1 := fun e46 => by
   by_cases c : n = 1
   ·exact .inr c
   ·left
    rw [ha 1 (by omega), decide_eq_true (show 1 < (bstr m').size by omega), decide_eq_true (show 1 < (bstr m).size by omega)]
  by_cases hD : (isD (at_ (bstr m) 0) || (at_ (bstr m) 0 == 46 && (decide (1 < (bstr m).size) && isD (at_ (bstr m) 1)))) = true
  ·rw [if_pos hD] at hN
   simp only [Prod.mk.injEq] at hN
   have hone : ∀ j, j < n → onN (bstr m) j = true := fun j hj => upto_on (onN (bstr m)) (bstr m).size 0 j (by omega) (by rw [hN.2]; exact hj)
   have hD' : (isD (at_ (bstr m) 0) || (at_ (bstr m) 0 == 46 && (decide (1 < (bstr m').size) && isD (at_ (bstr m') 1)))) = true := by
    by_cases hd : isD (at_ (bstr m) 0) = true
    ·rw [hd]; rfl
    ·have hd : isD (at_ (bstr m) 0) = false := by simpa using hd
     rw [hd, Bool.false_or, Bool.and_eq_true, Bool.and_eq_true, decide_eq_true_eq] at hD
     obtain ⟨e1, e2, e3⟩ := hD
     have hon0 : onN (bstr m) 0 = true := by unfold onN; rw [beq_iff_eq.1 e1]; simp
     have hon1 : onN (bstr m) 1 = true := by unfold onN isW; rw [e3]; simp
     have hn2 : 2 ≤ n := by
      obtain ⟨k2, hk2⟩ : ∃ k2, (bstr m).size = k2 + 2 := ⟨(bstr m).size - 2, by omega⟩
      rw [← hN.2, hk2]
      have : upto (onN (bstr m)) (k2 + 2) 0 = upto (onN (bstr m)) k2 2 := by
       rw [upto, if_pos hon0, upto, if_pos hon1]
      rw [this]
      exact upto_ge _ _ _
     rw [ha 1 (by omega), e1, e3, decide_eq_true (show 1 < (bstr m').size by omega)]
     simp
   rw [if_pos hD']
   simp only [Prod.mk.injEq]
   refine ⟨hN.1, upto_is _ n _ 0 (by omega) (by omega) (fun j _ hj => ?_) (fun hlt => ?_)⟩
   ·have := hone j hj
    unfold onN at this ⊢
    rw [ha j hj, ha (j - 1) (by omega)]
    exact this
   ·have hoz : ∀ c, c = 0 ∨ c = 32 → at_ (bstr m') n = c → onN (bstr m') n = false := by
     rintro c (rfl | rfl) e
     ·unfold onN; rw [e, hwz]; simp
     ·unfold onN; rw [e, hw32]; simp
    rcases hs with e | e | ⟨e, _⟩
    ·exact hoz 0 (.inl rfl) e
    ·exact hoz 32 (.inr rfl) e
    ·by_cases c : n < m.length
     ·have := upto_stop (onN (bstr m)) (bstr m).size 0 (by rw [hN.2]; omega)
      rw [hN.2] at this
      unfold onN at this ⊢
      rw [e, ha (n - 1) (by omega)]
      exact this
     ·exact hoz 0 (.inl rfl) (by rw [e, at_end m n (by omega)])
  ·rw [if_neg hD] at hN
   have hD' : ¬ (isD (at_ (bstr m) 0) || (at_ (bstr m) 0 == 46 && (decide (1 < (bstr m').size) && isD (at_ (bstr m') 1)))) = true := by
    intro h
    apply hD
    rw [Bool.or_eq_true] at h ⊢
    rcases h with h | h
    ·exact .inl h
    ·right
     rw [Bool.and_eq_true] at h ⊢
     refine ⟨h.1, ?_⟩
     rcases hsz1 (beq_iff_eq.1 h.1) with e | rfl
     ·rw [← e]; exact h.2
     ·have h2 := h.2
      rw [Bool.and_eq_true, decide_eq_true_eq] at h2 ⊢
      rcases hs with e | e | ⟨e, _⟩
      ·rw [e, hdz] at h2; exact absurd h2.2 (by decide)
      ·rw [e, hd32] at h2; exact absurd h2.2 (by decide)
      ·rw [e] at h2
       refine ⟨?_, h2.2⟩
       rcases Nat.lt_or_ge 1 (bstr m).size with c | c
       ·exact c
       ·rw [at_end m 1 (by omega), hdz] at h2; exact absurd h2.2 (by decide)
   rw [if_neg hD']
   by_cases h34 : at_ (bstr m) 0 = 34
   ·rw [if_pos h34] at hN ⊢
    simp only [Prod.mk.injEq] at hN ⊢
    exact ⟨hN.1, quo_any (bstr m) (bstr m') n (by omega) ha h0 hN.2⟩
   ·rw [if_neg h34] at hN ⊢
    by_cases h39 : at_ (bstr m) 0 = 39
    ·rw [if_pos h39] at hN ⊢
     simp only [Prod.mk.injEq] at hN ⊢
     by_cases h2 : quo (bstr m) (bstr m).size 1 = 2
     ·rw [if_pos h2] at hN; exact absurd hN.2.symm h0
     ·rw [if_neg h2] at hN
      have hq := quo_any (bstr m) (bstr m') n (by omega) ha h0 hN.2
      rw [hq, if_neg (by rw [← hN.2]; exact h2)]
      exact ⟨hN.1, rfl⟩
    ·rw [if_neg h39] at hN ⊢
     unfold sgn at hN ⊢
     change (match sgs.find? (fun x => Lib.hasPrefix m x) with | some x => ((5 : Nat), x.length) | none => (6, 1)) = (k, n) at hN
     show (match sgs.find? (fun x => Lib.hasPrefix m' x) with | some x => ((5 : Nat), x.length) | none => (6, 1)) = (k, n)
     obtain ⟨i1, i2⟩ := sgn_keep h0 hl ha hs sgs (fun a h => h)
     cases hf : sgs.find? (fun x => Lib.hasPrefix m x) with
     | some x =>
      rw [hf] at hN
      simp only [Prod.mk.injEq] at hN
      rw [i1 x hf hN.2]
      simp only [Prod.mk.injEq]; exact hN
     | none =>
      rw [hf] at hN
      rw [i2 hf]; exact hN
end Go.Proofs.YtcbfbefpbjmglaaDoorT
