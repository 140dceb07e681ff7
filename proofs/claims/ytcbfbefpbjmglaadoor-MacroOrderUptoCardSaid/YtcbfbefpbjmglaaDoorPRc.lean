import Derived.Test.YtcbfbefpbjmglaaDoorM11
import Derived.Test.YtcbfbefpbjmglaaDoorA1
import Derived.Test.YtcbfbefpbjmglaaDoorM2
namespace Go.Proofs.YtcbfbefpbjmglaaDoor.PA
open Go.RowKit Go.Proofs.YtcbfbefpbjmglaaDoorT Go.Proofs.YtcbfbefpbjmglaaDoorW.PrintWords Go.Proofs.YtcbfbefpbjmglaaDoorW.PrintLast Go.Proofs.YtcbfbefpbjmglaaDoorW.PrintMore
attribute [local go_sem] max2_int min2_int max_two min_two max_three min_three max_four min_four
set_option linter.unusedVariables false
set_option linter.unusedSimpArgs false
attribute [local go_sem high] eqA48
def burinref02_Same.l0 : Nat → List (S48) → List (S48) → Int → Option (Bool)
 | 0, _, _, _ => none
 | k + 1, x0, x1, x5 => if x5 < (x0.length : Int) then (if 0 ≤ x5 then (if x5 < (x1.length : Int) then (if (!(((rd_T48 x0 x5).f0) == ((rd_T48 x1 x5).f0)) || (!((((rd_T48 x0 x5).f1).toList) == (((rd_T48 x1 x5).f1).toList)) || (!((((rd_T48 x0 x5).f2).toList) == (((rd_T48 x1 x5).f2).toList)) || (!(((rd_T48 x0 x5).f3) == ((rd_T48 x1 x5).f3)) || (!(((rd_T48 x0 x5).f4) == ((rd_T48 x1 x5).f4)) || (!(((rd_T48 x0 x5).f5) == ((rd_T48 x1 x5).f5)))))))) = true then (some false) else (burinref02_Same.l0 k x0 x1 (wrap64 (x5 + 1)))) else (none)) else (none)) else (some true)
def burinref02_Same.f (k : Nat) (l0 : List (S48)) (l1 : List (S48)) : Option (Bool) := if (l0.length : Int) = (l1.length : Int) then (burinref02_Same.l0 k l0 l1 0) else (some false)
set_option maxHeartbeats 8000000 in
set_option maxRecDepth 100000 in
theorem burinref02_Same.calls (k : Nat) (A0 : Option Addr) (c0 : Nat) (l0 : List (S48)) (A1 : Option Addr) (c1 : Nat) (l1 : List (S48)) (r : Bool) (w : World) (hr0 : Kd.C k48 w A0 l0.length l0) (hc0 : l0.length ≤ c0) (hr1 : Kd.C k48 w A1 l1.length l1) (hc1 : l1.length ≤ c1) (h : burinref02_Same.f k l0 l1 = some r) :
  Calls Tryd.prog 32 #[.slice A0 l0.length c0, .slice A1 l1.length c1] w fun e w' => e = .returned (.bool r) ∧ Drawn0 w w' := by
 have hu48 := Tryd.underlying48
 have HR0 := Aside0.mk hr0
 have HC0 := Aside0.mk hc0
 clear hr0 hc0
 have HR1 := Aside0.mk hr1
 have HC1 := Aside0.mk hc1
 clear hr1 hc1
 have H : (if (l0.length : Int) = (l1.length : Int) then (burinref02_Same.l0 k l0 l1 0) else (some false)) = some r := h
 clear h
 by_cases c3 : (l0.length : Int) = (l1.length : Int)
 ·rw [if_pos c3] at H
  have c3b0 : ((l0.length : Int) == (l1.length : Int)) = true := beq_iff_eq.mpr c3
  have c3b1 : ((l0.length : Int) != (l1.length : Int)) = false := bne_eq_false_iff_eq.mpr c3
  have c3b2 : (l0.length == l1.length) = true := by first | simpa using c3 | (simp at c3 ⊢; omega)
  clear c3
  have H' := Aside0.mk H
  clear H
  go_enter Tryd.func32, Tryd.ntmps32
  go_wp2
  repeat (go_quiet (fail); try go_wp2)
  go_loopg [5] k (fun kq v5 w' => ∃ (x5_1 : Int), v5 = .int .i64 x5_1 ∧ Aside0 (burinref02_Same.l0 kq l0 l1 x5_1 = some r) ∧ Aside0 (kq ≤ k) ∧ Drawn0 w w')
  case atStart => exact ⟨(0), (by first | rfl | (simp; done) | (simp [*]; done)), H', ⟨Nat.le_refl _⟩, by repeat (first | exact Drawn0.refl _ | apply Drawn0.step)⟩
  case round =>
   clear H'
   try clear c1
   try clear p2
   try clear c3
   try clear c3b0
   try clear c3b1
   try clear c3b2
   obtain ⟨x5_1, rfl, HA, HK1, ⟨m1, rfl⟩⟩ := hrel
   cases gk with
   | zero => exact absurd HA.out (by simp [burinref02_Same.l0])
   | succ k1 =>
    have H := HA.out
    clear HA
    simp only [burinref02_Same.l0] at H
    by_cases c4 : x5_1 < (l0.length : Int)
    ·rw [if_pos c4] at H
     have c4b0 : decide (x5_1 < (l0.length : Int)) = true := decide_eq_true c4
     clear c4
     by_cases c5 : 0 ≤ x5_1
     ·rw [if_pos c5] at H
      have c5b0 : decide (0 ≤ x5_1) = true := decide_eq_true c5
      clear c5
      by_cases c6 : x5_1 < (l1.length : Int)
      ·rw [if_pos c6] at H
       have c6b0 : decide (x5_1 < (l1.length : Int)) = true := decide_eq_true c6
       clear c6
       by_cases c7 : (!(((rd_T48 l0 x5_1).f0) == ((rd_T48 l1 x5_1).f0)) || (!((((rd_T48 l0 x5_1).f1).toList) == (((rd_T48 l1 x5_1).f1).toList)) || (!((((rd_T48 l0 x5_1).f2).toList) == (((rd_T48 l1 x5_1).f2).toList)) || (!(((rd_T48 l0 x5_1).f3) == ((rd_T48 l1 x5_1).f3)) || (!(((rd_T48 l0 x5_1).f4) == ((rd_T48 l1 x5_1).f4)) || (!(((rd_T48 l0 x5_1).f5) == ((rd_T48 l1 x5_1).f5)))))))) = true
       ·rw [if_pos c7] at H
        have c7b0 : (!(((rd_T48 l0 x5_1).f0) == ((rd_T48 l1 x5_1).f0)) || (!((((rd_T48 l0 x5_1).f1).toList) == (((rd_T48 l1 x5_1).f1).toList)) || (!((((rd_T48 l0 x5_1).f2).toList) == (((rd_T48 l1 x5_1).f2).toList)) || (!(((rd_T48 l0 x5_1).f3) == ((rd_T48 l1 x5_1).f3)) || (!(((rd_T48 l0 x5_1).f4) == ((rd_T48 l1 x5_1).f4)) || (!(((rd_T48 l0 x5_1).f5) == ((rd_T48 l1 x5_1).f5)))))))) = true := c7
        clear c7
        obtain rfl := Option.some.inj H
        have p223 : 0 ≤ (x5_1 : Int) := of_decide_eq_true (by first | (with_reducible assumption) | assumption)
        have q223 : x5_1 < (l0.length : Int) := of_decide_eq_true (by first | (with_reducible assumption) | assumption)
        obtain ⟨ad223, e223, hx223_0, hx223_1, hx223_2, hx223_3, hx223_4, hx223_5⟩ := at_T48 HR0.out x5_1 p223 q223
        cases e223
        replace p223 := eq_true p223
        replace q223 := eq_true q223
        have p224 : 0 ≤ (x5_1 : Int) := of_decide_eq_true (by first | (with_reducible assumption) | assumption)
        have q224 : x5_1 < (l1.length : Int) := of_decide_eq_true (by first | (with_reducible assumption) | assumption)
        obtain ⟨ad224, e224, hx224_0, hx224_1, hx224_2, hx224_3, hx224_4, hx224_5⟩ := at_T48 HR1.out x5_1 p224 q224
        cases e224
        replace p224 := eq_true p224
        replace q224 := eq_true q224
        go_wp2
        repeat (go_quiet (fail); try go_wp2)
        go_ret
        exact ⟨by first | rfl | (simp; done) | (simp [*]; done), by repeat (first | exact Drawn0.refl _ | apply Drawn0.step)⟩
       ·rw [if_neg c7] at H
        have c7b0 : (!(((rd_T48 l0 x5_1).f0) == ((rd_T48 l1 x5_1).f0)) || (!((((rd_T48 l0 x5_1).f1).toList) == (((rd_T48 l1 x5_1).f1).toList)) || (!((((rd_T48 l0 x5_1).f2).toList) == (((rd_T48 l1 x5_1).f2).toList)) || (!(((rd_T48 l0 x5_1).f3) == ((rd_T48 l1 x5_1).f3)) || (!(((rd_T48 l0 x5_1).f4) == ((rd_T48 l1 x5_1).f4)) || (!(((rd_T48 l0 x5_1).f5) == ((rd_T48 l1 x5_1).f5)))))))) = false := by simpa using c7
        clear c7
        have H' := Aside0.mk H
        clear H
        have p223 : 0 ≤ (x5_1 : Int) := of_decide_eq_true (by first | (with_reducible assumption) | assumption)
        have q223 : x5_1 < (l0.length : Int) := of_decide_eq_true (by first | (with_reducible assumption) | assumption)
        obtain ⟨ad223, e223, hx223_0, hx223_1, hx223_2, hx223_3, hx223_4, hx223_5⟩ := at_T48 HR0.out x5_1 p223 q223
        cases e223
        replace p223 := eq_true p223
        replace q223 := eq_true q223
        have p224 : 0 ≤ (x5_1 : Int) := of_decide_eq_true (by first | (with_reducible assumption) | assumption)
        have q224 : x5_1 < (l1.length : Int) := of_decide_eq_true (by first | (with_reducible assumption) | assumption)
        obtain ⟨ad224, e224, hx224_0, hx224_1, hx224_2, hx224_3, hx224_4, hx224_5⟩ := at_T48 HR1.out x5_1 p224 q224
        cases e224
        replace p224 := eq_true p224
        replace q224 := eq_true q224
        go_wp2
        repeat (go_quiet (fail); try go_wp2)
        go_roundg k1
        case measure => have := HK1.out; omega
        case rel => exact ⟨(wrap64 (x5_1 + 1)), (by first | rfl | (simp; done) | (simp [*]; done)), H', ⟨by have := HK1.out; omega⟩, by repeat (first | exact Drawn0.refl _ | apply Drawn0.step)⟩
      ·rw [if_neg c6] at H
       exact absurd H (by simp)
     ·rw [if_neg c5] at H
      exact absurd H (by simp)
    ·rw [if_neg c4] at H
     have c4b0 : decide (x5_1 < (l0.length : Int)) = false := decide_eq_false c4
     clear c4
     obtain rfl := Option.some.inj H
     go_wp2
     repeat (go_quiet (fail); try go_wp2)
     go_ret
     exact ⟨by first | rfl | (simp; done) | (simp [*]; done), by repeat (first | exact Drawn0.refl _ | apply Drawn0.step)⟩
 ·rw [if_neg c3] at H
  have c3b0 : ((l0.length : Int) == (l1.length : Int)) = false := beq_eq_false_iff_ne.mpr c3
  have c3b1 : ((l0.length : Int) != (l1.length : Int)) = true := bne_iff_ne.mpr c3
  have c3b2 : (l0.length == l1.length) = false := by first | simpa using c3 | (simp at c3 ⊢; omega)
  obtain rfl := Option.some.inj H
  go_enter Tryd.func32, Tryd.ntmps32
  go_wp2
  repeat (go_quiet (fail); try go_wp2)
  go_ret
  exact ⟨by first | rfl | (simp; done) | (simp [*]; done), by repeat (first | exact Drawn0.refl _ | apply Drawn0.step)⟩
end Go.Proofs.YtcbfbefpbjmglaaDoor.PA
namespace Go.Proofs.YtcbfbefpbjmglaaDoor.PA
open Go.RowKit Go.Proofs.YtcbfbefpbjmglaaDoorT Go.Proofs.YtcbfbefpbjmglaaDoorW.PrintWords Go.Proofs.YtcbfbefpbjmglaaDoorW.PrintLast Go.Proofs.YtcbfbefpbjmglaaDoorW.PrintMore
attribute [local go_sem] max2_int min2_int max_two min_two max_three min_three max_four min_four
set_option linter.unusedVariables false
set_option linter.unusedSimpArgs false
mutual
def burinref02_Spell.l0 : Nat → List (S48) → List Int → Int → Option (ByteArray)
 | 0, _, _, _ => none
 | k + 1, x0, x3, x4 => if x4 < (x0.length : Int) then (if x4 > 0 then (if 0 ≤ x4 then (burinref02_Spell.j1 k x0 x3 x4 ((rd_T48 x0 x4).f5)) else (none)) else (burinref02_Spell.j1 k x0 x3 x4 false)) else (some (strOfNums x3))
def burinref02_Spell.j1 : Nat → List (S48) → List Int → Int → Bool → Option (ByteArray)
 | 0, _, _, _, _ => none
 | k + 1, x0, x3, x4, x19 => if x19 = true then (if x3.length < 140737488355328 then ((some (x3 ++ [10] : List Int)).bind fun y226 => (if 0 ≤ x4 then (if x4 < (x0.length : Int) then (if y226.length + ((rd_T48 x0 x4).f1).size < 140737488355328 then (burinref02_Spell.l0 k x0 (y226 ++ bytesOf ((rd_T48 x0 x4).f1)) (wrap64 (x4 + 1))) else (none)) else (none)) else (none))) else (none)) else (if x4 > 0 then (if 0 ≤ x4 then (if x4 < (x0.length : Int) then (if (rd_T48 x0 x4).f4 = true then (if x3.length < 140737488355328 then ((some (x3 ++ [32] : List Int)).bind fun y234 => (if y234.length + ((rd_T48 x0 x4).f1).size < 140737488355328 then (burinref02_Spell.l0 k x0 (y234 ++ bytesOf ((rd_T48 x0 x4).f1)) (wrap64 (x4 + 1))) else (none))) else (none)) else (if x3.length + ((rd_T48 x0 x4).f1).size < 140737488355328 then (burinref02_Spell.l0 k x0 (x3 ++ bytesOf ((rd_T48 x0 x4).f1)) (wrap64 (x4 + 1))) else (none))) else (none)) else (none)) else (if 0 ≤ x4 then (if x4 < (x0.length : Int) then (if x3.length + ((rd_T48 x0 x4).f1).size < 140737488355328 then (burinref02_Spell.l0 k x0 (x3 ++ bytesOf ((rd_T48 x0 x4).f1)) (wrap64 (x4 + 1))) else (none)) else (none)) else (none)))
end
def burinref02_Spell.f (k : Nat) (l0 : List (S48)) : Option (ByteArray) := burinref02_Spell.l0 k l0 ([] : List Int) 0
end Go.Proofs.YtcbfbefpbjmglaaDoor.PA
namespace Go.Proofs.YtcbfbefpbjmglaaDoor.Mac
open Go.RowKit Go.Proofs.MapFun Go.Proofs.YtcbfbefpbjmglaaDoor.PA Go.Proofs.YtcbfbefpbjmglaaDoorT Go.Proofs.YtcbfbefpbjmglaaDoorW.PrintWords Go.Proofs.YtcbfbefpbjmglaaDoorW.PrintLast Go.Proofs.YtcbfbefpbjmglaaDoorW.PrintMore
set_option linter.unusedVariables false
set_option linter.unusedSimpArgs false
attribute [local go_sem] Oper.semAt_some
end Go.Proofs.YtcbfbefpbjmglaaDoor.Mac
namespace Go.Proofs.YtcbfbefpbjmglaaDoor.PA
open Go.RowKit Go.Proofs.YtcbfbefpbjmglaaDoor.Mac Go.Proofs.YtcbfbefpbjmglaaDoorW.PrintWords Go.Proofs.YtcbfbefpbjmglaaDoorW.PrintLast Go.Proofs.YtcbfbefpbjmglaaDoorW.PrintMore
set_option linter.unusedVariables false
def burinref03_Bare.f (k : Nat) (l0 : List S48) : Option (List S48) := if l0.length ≤ 1000000 then some (bareP l0) else none
end Go.Proofs.YtcbfbefpbjmglaaDoor.PA
namespace Go.Proofs.YtcbfbefpbjmglaaDoor.PA
open Go.RowKit Go.Proofs.YtcbfbefpbjmglaaDoorT Go.Proofs.YtcbfbefpbjmglaaDoorW.PrintWords Go.Proofs.YtcbfbefpbjmglaaDoorW.PrintLast Go.Proofs.YtcbfbefpbjmglaaDoorW.PrintMore
attribute [local go_sem] max2_int min2_int max_two min_two max_three min_three max_four min_four
set_option linter.unusedVariables false
set_option linter.unusedSimpArgs false
def burinref03_spelt.f (k : Nat) (l0 : List (S48)) : Option (Bool) := (burinref03_Bare.f k l0).bind fun t249 => ((burinref02_Same.f k l0 t249).bind fun t252 => (if t252 = true then ((burinref02_Spell.f k l0).bind fun t253 => ((burinref02_Lex.f (([(⟨1, t253⟩ : S28)] : List (S28)))).bind fun bt257 => (if bt257.2.1 = 0 then ((burinref03_Bare.f k bt257.1).bind fun t262 => ((burinref02_Same.f k l0 t262).bind fun t265 => (some t265))) else (some false)))) else (some false)))
def burinref03_param.l0 : Nat → Int → ByteArray → Bool → List ByteArray → Bool → List (S48) → Int → ByteArray → ByteArray → Int → Bool → Bool → Option (Int)
 | 0, _, _, _, _, _, _, _, _, _, _, _, _ => none
 | k + 1, x5, x267000, x267001, x267002, x267003, x267004, x268000, x268001, x268002, x268003, x268004, x268005 => if x5 < (x267002.length : Int) then (if x268000 = 1 then (if 0 ≤ x5 then (if x268001.toList = (rdOf ByteArray.empty x267002 x5).toList then (some x5) else (burinref03_param.l0 k (wrap64 (x5 + 1)) x267000 x267001 x267002 x267003 x267004 x268000 x268001 x268002 x268003 x268004 x268005)) else (none)) else (burinref03_param.l0 k (wrap64 (x5 + 1)) x267000 x267001 x267002 x267003 x267004 x268000 x268001 x268002 x268003 x268004 x268005)) else (if x267003 = true then (if x268000 = 1 then (if x268001.toList = ([95, 95, 86, 65, 95, 65, 82, 71, 83, 95, 95] : List UInt8) then (some (x267002.length : Int)) else (some (-1))) else (some (-1))) else (some (-1)))
def burinref03_param.f (k : Nat) (a0_0 : ByteArray) (a0_1 : Bool) (l0_2 : List ByteArray) (a0_3 : Bool) (l0_4 : List (S48)) (a1_0 : Int) (a1_1 : ByteArray) (a1_2 : ByteArray) (a1_3 : Int) (a1_4 : Bool) (a1_5 : Bool) : Option (Int) := burinref03_param.l0 k 0 a0_0 a0_1 l0_2 a0_3 l0_4 a1_0 a1_1 a1_2 a1_3 a1_4 a1_5
end Go.Proofs.YtcbfbefpbjmglaaDoor.PA
namespace Go.Proofs.YtcbfbefpbjmglaaDoor.PA
open Go.RowKit Go.Proofs.YtcbfbefpbjmglaaDoorT Go.Proofs.YtcbfbefpbjmglaaDoorW.PrintWords Go.Proofs.YtcbfbefpbjmglaaDoorW.PrintLast Go.Proofs.YtcbfbefpbjmglaaDoorW.PrintMore
attribute [local go_sem] max2_int min2_int max_two min_two max_three min_three max_four min_four
set_option linter.unusedVariables false
set_option linter.unusedSimpArgs false
mutual
def burinref03_body.j0 : Nat → List (S48) → Int → Bool → ByteArray → Bool → List ByteArray → Bool → List (S48) → Option (Bool)
 | 0, _, _, _, _, _, _, _, _ => none
 | k + 1, x3, x4, x36, x270000, x270001, x270002, x270003, x270004 => if x36 = true then (some false) else (burinref03_body.l0 k x3 x4 0 x270000 x270001 x270002 x270003 x270004)
def burinref03_body.l0 : Nat → List (S48) → Int → Int → ByteArray → Bool → List ByteArray → Bool → List (S48) → Option (Bool)
 | 0, _, _, _, _, _, _, _, _ => none
 | k + 1, x3, x4, x5, x270000, x270001, x270002, x270003, x270004 => if x5 < x4 then (if 0 ≤ x5 then (if x5 < (x3.length : Int) then (if ((rd_T48 x3 x5).f1).toList = ([95, 95, 86, 65, 95, 65, 82, 71, 83, 95, 95] : List UInt8) then (burinref03_body.j2 k x3 x4 x5 (!x270003) x270000 x270001 x270002 x270003 x270004) else (burinref03_body.j2 k x3 x4 x5 false x270000 x270001 x270002 x270003 x270004)) else (none)) else (none)) else (some true)
def burinref03_body.j2 : Nat → List (S48) → Int → Int → Bool → ByteArray → Bool → List ByteArray → Bool → List (S48) → Option (Bool)
 | 0, _, _, _, _, _, _, _, _, _ => none
 | k + 1, x3, x4, x5, x52, x270000, x270001, x270002, x270003, x270004 => if x52 = true then (some false) else (if x270001 = true then (if 0 ≤ x5 then (if x5 < (x3.length : Int) then (if ((rd_T48 x3 x5).f1).toList = ([35] : List UInt8) then (if (wrap64 (x5 + 1)) = x4 then (some false) else (if 0 ≤ (wrap64 (x5 + 1)) then (if (wrap64 (x5 + 1)) < (x3.length : Int) then ((burinref03_param.f k x270000 x270001 x270002 x270003 x270004 ((rd_T48 x3 (wrap64 (x5 + 1))).f0) ((rd_T48 x3 (wrap64 (x5 + 1))).f1) ((rd_T48 x3 (wrap64 (x5 + 1))).f2) ((rd_T48 x3 (wrap64 (x5 + 1))).f3) ((rd_T48 x3 (wrap64 (x5 + 1))).f4) ((rd_T48 x3 (wrap64 (x5 + 1))).f5)).bind fun t276 => (if t276 < 0 then (some false) else (burinref03_body.l0 k x3 x4 (wrap64 (x5 + 1)) x270000 x270001 x270002 x270003 x270004))) else (none)) else (none))) else (burinref03_body.l0 k x3 x4 (wrap64 (x5 + 1)) x270000 x270001 x270002 x270003 x270004)) else (none)) else (none)) else (burinref03_body.l0 k x3 x4 (wrap64 (x5 + 1)) x270000 x270001 x270002 x270003 x270004))
end
def burinref03_body.f (k : Nat) (a0_0 : ByteArray) (a0_1 : Bool) (l0_2 : List ByteArray) (a0_3 : Bool) (l0_4 : List (S48)) : Option (Bool) := if (l0_4.length : Int) > 500 then (burinref03_body.j0 k l0_4 (l0_4.length : Int) true a0_0 a0_1 l0_2 a0_3 l0_4) else ((burinref03_spelt.f k l0_4).bind fun t270 => (if t270 = true then (if (l0_4.length : Int) > 0 then (if 0 < (l0_4.length : Int) then (if ((rd_T48 l0_4 0).f1).toList = ([35, 35] : List UInt8) then (burinref03_body.j0 k l0_4 (l0_4.length : Int) true a0_0 a0_1 l0_2 a0_3 l0_4) else (if 0 ≤ (wrap64 ((l0_4.length : Int) - 1)) then (if (wrap64 ((l0_4.length : Int) - 1)) < (l0_4.length : Int) then (burinref03_body.j0 k l0_4 (l0_4.length : Int) (((rd_T48 l0_4 (wrap64 ((l0_4.length : Int) - 1))).f1).toList == ([35, 35] : List UInt8)) a0_0 a0_1 l0_2 a0_3 l0_4) else (none)) else (none))) else (none)) else (burinref03_body.j0 k l0_4 (l0_4.length : Int) false a0_0 a0_1 l0_2 a0_3 l0_4)) else (burinref03_body.j0 k l0_4 (l0_4.length : Int) true a0_0 a0_1 l0_2 a0_3 l0_4)))
def burinref03_body.B10 : List Nat := [0, 1, 3, 7, 7, 31, 63, 127, 255, 511, 1023, 2047, 4095, 2047, 16383, 32767, 65535, 65535, 65535, 327679, 983039, 2031615, 4194303, 8388607, 16777215, 33554431]
end Go.Proofs.YtcbfbefpbjmglaaDoor.PA
namespace Go.Proofs.YtcbfbefpbjmglaaDoor.PA
open Go.RowKit Go.Proofs.YtcbfbefpbjmglaaDoorT Go.Proofs.YtcbfbefpbjmglaaDoorW.PrintWords Go.Proofs.YtcbfbefpbjmglaaDoorW.PrintLast Go.Proofs.YtcbfbefpbjmglaaDoorW.PrintMore
attribute [local go_sem] max2_int min2_int max_two min_two max_three min_three max_four min_four
set_option linter.unusedVariables false
set_option linter.unusedSimpArgs false
mutual
def burinref03_Right.j0 : Nat → Bool → ByteArray → Bool → List ByteArray → Bool → List (S48) → Option (Bool)
 | 0, _, _, _, _, _, _ => none
 | k + 1, x42, x278000, x278001, x278002, x278003, x278004 => if x42 = true then (some false) else (burinref03_Right.l0 k 0 x278000 x278001 x278002 x278003 x278004)
def burinref03_Right.l0 : Nat → Int → ByteArray → Bool → List ByteArray → Bool → List (S48) → Option (Bool)
 | 0, _, _, _, _, _, _ => none
 | k + 1, x4, x278000, x278001, x278002, x278003, x278004 => if x4 < (x278002.length : Int) then (if 0 ≤ x4 then ((burinref03_isName.f (rdOf ByteArray.empty x278002 x4)).bind fun t281 => (if t281 = true then (burinref03_Right.j2 k x4 ((rdOf ByteArray.empty x278002 x4).toList == ([95, 95, 86, 65, 95, 65, 82, 71, 83, 95, 95] : List UInt8)) x278000 x278001 x278002 x278003 x278004) else (burinref03_Right.j2 k x4 true x278000 x278001 x278002 x278003 x278004))) else (none)) else ((burinref03_body.f k x278000 x278001 x278002 x278003 x278004).bind fun t279 => (some t279))
def burinref03_Right.j2 : Nat → Int → Bool → ByteArray → Bool → List ByteArray → Bool → List (S48) → Option (Bool)
 | 0, _, _, _, _, _, _, _ => none
 | k + 1, x4, x65, x278000, x278001, x278002, x278003, x278004 => if x65 = true then (some false) else (burinref03_Right.l1 k x4 0 x278000 x278001 x278002 x278003 x278004)
def burinref03_Right.l1 : Nat → Int → Int → ByteArray → Bool → List ByteArray → Bool → List (S48) → Option (Bool)
 | 0, _, _, _, _, _, _, _ => none
 | k + 1, x4, x6, x278000, x278001, x278002, x278003, x278004 => if x6 < x4 then (if 0 ≤ x6 then (if x6 < (x278002.length : Int) then (if 0 ≤ x4 then (if x4 < (x278002.length : Int) then (if (rdOf ByteArray.empty x278002 x6).toList = (rdOf ByteArray.empty x278002 x4).toList then (some false) else (burinref03_Right.l1 k x4 (wrap64 (x6 + 1)) x278000 x278001 x278002 x278003 x278004)) else (none)) else (none)) else (none)) else (none)) else (burinref03_Right.l0 k (wrap64 (x4 + 1)) x278000 x278001 x278002 x278003 x278004)
end
end Go.Proofs.YtcbfbefpbjmglaaDoor.PA
namespace Go.Proofs.YtcbfbefpbjmglaaDoor.Mac
open Go.RowKit Go.Lib Go.Proofs.YtcbfbefpbjmglaaDoor.PA Go.Proofs.YtcbfbefpbjmglaaDoorT Go.Proofs.YtcbfbefpbjmglaaDoorW.PrintWords Go.Proofs.YtcbfbefpbjmglaaDoorW.PrintLast Go.Proofs.YtcbfbefpbjmglaaDoorW.PrintMore
set_option linter.unusedVariables false
set_option linter.unusedSimpArgs false
theorem lexP_toks (N : Int) (S : List UInt8) (h : (lexP [(N, S)]).2.1 = 0) : (lexP [(N, S)]).1 = (lineP N S st0).1 ∧ (∀ t ∈ (lineP N S st0).1, t.s ≠ []) ∧ (lineP N S st0).1.length ≤ 20000 := by
 have hlen := lexP_len [(N, S)]
 have hu : lexP [(N, S)] = if (foldT [] (lineP N S st0).1).2 = 0 then (if (lineP N S st0).2.op then ([], 20, (lineP N S st0).2.fr) else ((foldT [] (lineP N S st0).1).1, 0, 0)) else ([], (foldT [] (lineP N S st0).1).2, N) := rfl
 by_cases hz : (foldT [] (lineP N S st0).1).2 = 0
 ·obtain ⟨o, ho⟩ : ∃ o, foldT [] (lineP N S st0).1 = (o, 0) := ⟨(foldT [] (lineP N S st0).1).1, by rw [← hz]⟩
  obtain ⟨h1, h2⟩ := foldT_ok _ _ _ ho
  rw [List.nil_append] at h1
  rw [hu, if_pos hz] at h hlen ⊢
  cases hop : (lineP N S st0).2.op with
  | true => rw [hop, if_pos rfl] at h; cases h
  | false =>
   rw [hop, if_neg (by decide)] at hlen
   rw [if_neg (by decide), ho]
   rw [ho] at hlen
   exact ⟨h1, h2, by rw [← h1]; exact hlen⟩
 ·rw [hu, if_neg hz] at h
  exact absurd h hz
end Go.Proofs.YtcbfbefpbjmglaaDoor.Mac
namespace Go.Proofs.YtcbfbefpbjmglaaDoor.Mac
open Go.RowKit Go.Lib Go.Proofs.YtcbfbefpbjmglaaDoor.PA Go.Proofs.YtcbfbefpbjmglaaDoorT Go.Proofs.YtcbfbefpbjmglaaDoorW.PrintWords Go.Proofs.YtcbfbefpbjmglaaDoorW.PrintLast Go.Proofs.YtcbfbefpbjmglaaDoorW.PrintMore
set_option linter.unusedVariables false
set_option linter.unusedSimpArgs false
theorem same_loop (a b : List S48) (hab : a.length = b.length) (hl : a.length ≤ 1000000) : ∀ d k i, i + d = a.length → d < k → burinref02_Same.l0 k a b (i : Int) = some (toksEq (a.drop i) (b.drop i))
 | 0, k, i, h1, h3 => by
  obtain ⟨k, rfl⟩ : ∃ m, k = m + 1 := ⟨k - 1, by omega⟩
  simp only [burinref02_Same.l0]
  rw [if_neg (by omega), List.drop_eq_nil_of_le (by omega), List.drop_eq_nil_of_le (by omega), toksEq]
 | d + 1, k, i, h1, h3 => by
  obtain ⟨k, rfl⟩ : ∃ m, k = m + 1 := ⟨k - 1, by omega⟩
  have hi : i < a.length := by omega
  have hw : wrap64 ((i : Int) + 1) = ((i + 1 : Nat) : Int) := by unfold wrap64; omega
  simp only [burinref02_Same.l0]
  rw [if_pos (by omega), if_pos (by omega), if_pos (by omega), rd_at hi, rd_at (hab ▸ hi), hw, List.drop_eq_getElem_cons hi, List.drop_eq_getElem_cons (l := b) (by omega), toksEq, tokEq_not]
  cases tokEq a[i] b[i] with
  | true => rw [if_neg (by decide), Bool.true_and]; exact same_loop a b hab hl d k (i + 1) (by omega) (by omega)
  | false => rw [if_pos (by decide), Bool.false_and]
theorem same_f (k : Nat) (a b : List S48) (hl : a.length ≤ 1000000) (hk : a.length < k) : burinref02_Same.f k a b = some (toksEq a b) := by
 unfold burinref02_Same.f
 by_cases hab : a.length = b.length
 ·rw [if_pos (by omega)]
  have := same_loop a b hab hl a.length k 0 (by omega) hk
  simpa using this
 ·rw [if_neg (by omega), toksEq_ne hab]
def speltP (body : List S48) : Bool := toksEq body (bareP body) && (decide ((lexS body).2.1 = 0) && toksEq body (bareP ((lexS body).1.map toT)))
end Go.Proofs.YtcbfbefpbjmglaaDoor.Mac
namespace Go.Proofs.YtcbfbefpbjmglaaDoor.Mac
open Go.RowKit Go.Lib Go.Proofs.YtcbfbefpbjmglaaDoor.PA Go.Proofs.YtcbfbefpbjmglaaDoorT Go.Proofs.YtcbfbefpbjmglaaDoorW.PrintWords Go.Proofs.YtcbfbefpbjmglaaDoorW.PrintLast Go.Proofs.YtcbfbefpbjmglaaDoorW.PrintMore
set_option linter.unusedVariables false
set_option linter.unusedSimpArgs false
def HK (ps : List ByteArray) (more : Bool) (body : List S48) : Prop := ∀ t ∈ body, (contB ps t.f1 || (more && isRest t.f1)) = true → t.f0 = 1
end Go.Proofs.YtcbfbefpbjmglaaDoor.Mac
