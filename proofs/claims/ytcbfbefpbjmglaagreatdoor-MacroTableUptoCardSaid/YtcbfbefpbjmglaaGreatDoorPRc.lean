import Derived.Test.YtcbfbefpbjmglaaGreatDoorZ
import Derived.Test.YtcbfbefpbjmglaaGreatDoorMC
import Derived.Test.YtcbfbefpbjmglaaGreatDoorA1
set_option maxHeartbeats 8000000
set_option maxRecDepth 100000
set_option linter.unusedSimpArgs false
set_option linter.unusedVariables false
namespace Go.Proofs.YtcbfbefpbjmglaaGreatDoor.PA
open Go.RowKit YtcbfbefpbjmglaaGreatDoorT YtcbfbefpbjmglaaGreatDoorW PrintWords PrintLast PrintMore
attribute [local go_sem] max2_int min2_int max_two min_two max_three min_three max_four min_four
attribute [local go_sem high] eqA55
def burinref02_Same.l0 : Nat → List (S55) → List (S55) → Int → Option (Bool)
 | 0, _, _, _ => none
 | k + 1, x0, x1, x5 => if x5 < (x0.length : Int) then (if 0 ≤ x5 then (if x5 < (x1.length : Int) then (if (!(((rT x0 x5).f0) == ((rT x1 x5).f0)) || (!((((rT x0 x5).f1).toList) == (((rT x1 x5).f1).toList)) || (!((((rT x0 x5).f2).toList) == (((rT x1 x5).f2).toList)) || (!(((rT x0 x5).f3) == ((rT x1 x5).f3)) || (!(((rT x0 x5).f4) == ((rT x1 x5).f4)) || (!(((rT x0 x5).f5) == ((rT x1 x5).f5)))))))) = true then (some false) else (burinref02_Same.l0 k x0 x1 (wrap64 (x5 + 1)))) else (none)) else (none)) else (some true)
def burinref02_Same.f (k : Nat) (l0 : List (S55)) (l1 : List (S55)) : Option (Bool) := if (l0.length : Int) = (l1.length : Int) then (burinref02_Same.l0 k l0 l1 0) else (some false)
theorem burinref02_Same.calls (k : Nat) (A0 : Option Addr) (c0 : Nat) (l0 : List (S55)) (A1 : Option Addr) (c1 : Nat) (l1 : List (S55)) (r : Bool) (w : World) (hr0 : Kd.C k55 w A0 l0.length l0) (hc0 : l0.length ≤ c0) (hr1 : Kd.C k55 w A1 l1.length l1) (hc1 : l1.length ≤ c1) (h : burinref02_Same.f k l0 l1 = some r) :
  Calls Tryz.prog 27 #[.slice A0 l0.length c0, .slice A1 l1.length c1] w fun e w' => e = .returned (.bool r) ∧ Drawn0 w w' := by
 have hu48 := Tryz.underlying55
 have HR0 := Az.mk hr0
 have HC0 := Az.mk hc0
 clear hr0 hc0
 have HR1 := Az.mk hr1
 have HC1 := Az.mk hc1
 clear hr1 hc1
 have H : (if (l0.length : Int) = (l1.length : Int) then (burinref02_Same.l0 k l0 l1 0) else (some false)) = some r := h
 clear h
 by_cases c3 : (l0.length : Int) = (l1.length : Int)
 ·rw [if_pos c3] at H
  have c3b0 : ((l0.length : Int) == (l1.length : Int)) = true := beq_iff_eq.mpr c3
  have c3b1 : ((l0.length : Int) != (l1.length : Int)) = false := bne_eq_false_iff_eq.mpr c3
  have c3b2 : (l0.length == l1.length) = true := by first | simpa using c3 | (simp at c3 ⊢; omega)
  clear c3
  have H' := Az.mk H
  clear H
  go_enter Tryz.func27, Tryz.ntmps27
  go_wp2
  repeat (go_quiet (fail); try go_wp2)
  go_loopg [5] k (fun kq v5 w' => ∃ (x5_1 : Int), v5 = .int .i64 x5_1 ∧ Az (burinref02_Same.l0 kq l0 l1 x5_1 = some r) ∧ Az (kq ≤ k) ∧ Drawn0 w w')
  case atStart => exact ⟨(0), (by first | rfl | (simp; done) | (simp [*]; done)), H', ⟨Nat.le_refl _⟩, by repeat (first | exact Drawn0.refl _ | apply Drawn0.step)⟩
  case round =>
   clear H'
   try clear c1
   try clear p2
   try clear c3
   try clear c3b0
   try clear c3b1
   try clear c3b2
   obtain ⟨x5_1, rfl, HA, HK1, ⟨m1, rfl⟩⟩ := hrel
   cases gk with
   | zero => exact absurd HA.out (by simp [burinref02_Same.l0])
   | succ k1 =>
    have H := HA.out
    clear HA
    simp only [burinref02_Same.l0] at H
    by_cases c4 : x5_1 < (l0.length : Int)
    ·rw [if_pos c4] at H
     have c4b0 : decide (x5_1 < (l0.length : Int)) = true := decide_eq_true c4
     clear c4
     by_cases c5 : 0 ≤ x5_1
     ·rw [if_pos c5] at H
      have c5b0 : decide (0 ≤ x5_1) = true := decide_eq_true c5
      clear c5
      by_cases c6 : x5_1 < (l1.length : Int)
      ·rw [if_pos c6] at H
       have c6b0 : decide (x5_1 < (l1.length : Int)) = true := decide_eq_true c6
       clear c6
       by_cases c7 : (!(((rT l0 x5_1).f0) == ((rT l1 x5_1).f0)) || (!((((rT l0 x5_1).f1).toList) == (((rT l1 x5_1).f1).toList)) || (!((((rT l0 x5_1).f2).toList) == (((rT l1 x5_1).f2).toList)) || (!(((rT l0 x5_1).f3) == ((rT l1 x5_1).f3)) || (!(((rT l0 x5_1).f4) == ((rT l1 x5_1).f4)) || (!(((rT l0 x5_1).f5) == ((rT l1 x5_1).f5)))))))) = true
       ·rw [if_pos c7] at H
        have c7b0 : (!(((rT l0 x5_1).f0) == ((rT l1 x5_1).f0)) || (!((((rT l0 x5_1).f1).toList) == (((rT l1 x5_1).f1).toList)) || (!((((rT l0 x5_1).f2).toList) == (((rT l1 x5_1).f2).toList)) || (!(((rT l0 x5_1).f3) == ((rT l1 x5_1).f3)) || (!(((rT l0 x5_1).f4) == ((rT l1 x5_1).f4)) || (!(((rT l0 x5_1).f5) == ((rT l1 x5_1).f5)))))))) = true := c7
        clear c7
        obtain rfl := Option.some.inj H
        have p223 : 0 ≤ (x5_1 : Int) := od (by assumption)
        have q223 : x5_1 < (l0.length : Int) := od (by assumption)
        obtain ⟨ad223, e223, hx223_0, hx223_1, hx223_2, hx223_3, hx223_4, hx223_5⟩ := at_T55 HR0.out x5_1 p223 q223
        cases e223
        replace p223 := eq_true p223
        replace q223 := eq_true q223
        have p224 : 0 ≤ (x5_1 : Int) := od (by assumption)
        have q224 : x5_1 < (l1.length : Int) := od (by assumption)
        obtain ⟨ad224, e224, hx224_0, hx224_1, hx224_2, hx224_3, hx224_4, hx224_5⟩ := at_T55 HR1.out x5_1 p224 q224
        cases e224
        replace p224 := eq_true p224
        replace q224 := eq_true q224
        go_wp2
        repeat (go_quiet (fail); try go_wp2)
        go_ret
        exact ⟨by first | rfl | (simp; done) | (simp [*]; done), by repeat (first | exact Drawn0.refl _ | apply Drawn0.step)⟩
       ·rw [if_neg c7] at H
        have c7b0 : (!(((rT l0 x5_1).f0) == ((rT l1 x5_1).f0)) || (!((((rT l0 x5_1).f1).toList) == (((rT l1 x5_1).f1).toList)) || (!((((rT l0 x5_1).f2).toList) == (((rT l1 x5_1).f2).toList)) || (!(((rT l0 x5_1).f3) == ((rT l1 x5_1).f3)) || (!(((rT l0 x5_1).f4) == ((rT l1 x5_1).f4)) || (!(((rT l0 x5_1).f5) == ((rT l1 x5_1).f5)))))))) = false := by simpa using c7
        clear c7
        have H' := Az.mk H
        clear H
        have p223 : 0 ≤ (x5_1 : Int) := od (by assumption)
        have q223 : x5_1 < (l0.length : Int) := od (by assumption)
        obtain ⟨ad223, e223, hx223_0, hx223_1, hx223_2, hx223_3, hx223_4, hx223_5⟩ := at_T55 HR0.out x5_1 p223 q223
        cases e223
        replace p223 := eq_true p223
        replace q223 := eq_true q223
        have p224 : 0 ≤ (x5_1 : Int) := od (by assumption)
        have q224 : x5_1 < (l1.length : Int) := od (by assumption)
        obtain ⟨ad224, e224, hx224_0, hx224_1, hx224_2, hx224_3, hx224_4, hx224_5⟩ := at_T55 HR1.out x5_1 p224 q224
        cases e224
        replace p224 := eq_true p224
        replace q224 := eq_true q224
        go_wp2
        repeat (go_quiet (fail); try go_wp2)
        go_roundg k1
        case measure => have := HK1.out; omega
        case rel => exact ⟨(wrap64 (x5_1 + 1)), (by first | rfl | (simp; done) | (simp [*]; done)), H', ⟨by have := HK1.out; omega⟩, by repeat (first | exact Drawn0.refl _ | apply Drawn0.step)⟩
      ·rw [if_neg c6] at H
       exact absurd H (by simp)
     ·rw [if_neg c5] at H
      exact absurd H (by simp)
    ·rw [if_neg c4] at H
     have c4b0 : decide (x5_1 < (l0.length : Int)) = false := decide_eq_false c4
     clear c4
     obtain rfl := Option.some.inj H
     go_wp2
     repeat (go_quiet (fail); try go_wp2)
     go_ret
     exact ⟨by first | rfl | (simp; done) | (simp [*]; done), by repeat (first | exact Drawn0.refl _ | apply Drawn0.step)⟩
 ·rw [if_neg c3] at H
  have c3b0 : ((l0.length : Int) == (l1.length : Int)) = false := beq_eq_false_iff_ne.mpr c3
  have c3b1 : ((l0.length : Int) != (l1.length : Int)) = true := bne_iff_ne.mpr c3
  have c3b2 : (l0.length == l1.length) = false := by first | simpa using c3 | (simp at c3 ⊢; omega)
  obtain rfl := Option.some.inj H
  go_enter Tryz.func27, Tryz.ntmps27
  go_wp2
  repeat (go_quiet (fail); try go_wp2)
  go_ret
  exact ⟨by first | rfl | (simp; done) | (simp [*]; done), by repeat (first | exact Drawn0.refl _ | apply Drawn0.step)⟩
end Go.Proofs.YtcbfbefpbjmglaaGreatDoor.PA
namespace Go.Proofs.YtcbfbefpbjmglaaGreatDoor.PA
open Go.RowKit YtcbfbefpbjmglaaGreatDoorT YtcbfbefpbjmglaaGreatDoorW PrintWords PrintLast PrintMore
attribute [local go_sem] max2_int min2_int max_two min_two max_three min_three max_four min_four
mutual
def burinref02_Spell.l0 : Nat → List (S55) → List Int → Int → Option (ByteArray)
 | 0, _, _, _ => none
 | k + 1, x0, x3, x4 => if x4 < (x0.length : Int) then (if x4 > 0 then (if 0 ≤ x4 then (burinref02_Spell.j1 k x0 x3 x4 ((rT x0 x4).f5)) else (none)) else (burinref02_Spell.j1 k x0 x3 x4 false)) else (some (strOfNums x3))
def burinref02_Spell.j1 : Nat → List (S55) → List Int → Int → Bool → Option (ByteArray)
 | 0, _, _, _, _ => none
 | k + 1, x0, x3, x4, x19 => if x19 = true then (if x3.length < 140737488355328 then ((some (x3 ++ [10] : List Int)).bind fun y226 => (if 0 ≤ x4 then (if x4 < (x0.length : Int) then (if y226.length + ((rT x0 x4).f1).size < 140737488355328 then (burinref02_Spell.l0 k x0 (y226 ++ bytesOf ((rT x0 x4).f1)) (wrap64 (x4 + 1))) else (none)) else (none)) else (none))) else (none)) else (if x4 > 0 then (if 0 ≤ x4 then (if x4 < (x0.length : Int) then (if (rT x0 x4).f4 = true then (if x3.length < 140737488355328 then ((some (x3 ++ [32] : List Int)).bind fun y234 => (if y234.length + ((rT x0 x4).f1).size < 140737488355328 then (burinref02_Spell.l0 k x0 (y234 ++ bytesOf ((rT x0 x4).f1)) (wrap64 (x4 + 1))) else (none))) else (none)) else (if x3.length + ((rT x0 x4).f1).size < 140737488355328 then (burinref02_Spell.l0 k x0 (x3 ++ bytesOf ((rT x0 x4).f1)) (wrap64 (x4 + 1))) else (none))) else (none)) else (none)) else (if 0 ≤ x4 then (if x4 < (x0.length : Int) then (if x3.length + ((rT x0 x4).f1).size < 140737488355328 then (burinref02_Spell.l0 k x0 (x3 ++ bytesOf ((rT x0 x4).f1)) (wrap64 (x4 + 1))) else (none)) else (none)) else (none)))
end
def burinref02_Spell.f (k : Nat) (l0 : List (S55)) : Option (ByteArray) := burinref02_Spell.l0 k l0 ([] : List Int) 0
theorem burinref02_Spell.calls (k : Nat) (A0 : Option Addr) (c0 : Nat) (l0 : List (S55)) (r : ByteArray) (w : World) (hr0 : Kd.C k55 w A0 l0.length l0) (hc0 : l0.length ≤ c0) (h : burinref02_Spell.f k l0 = some r) :
  Calls Tryz.prog 79 #[.slice A0 l0.length c0] w fun e w' => e = .returned (.string r) ∧ Below w.heap.size w w' := by
 have HR0 := Az.mk hr0
 have HC0 := Az.mk hc0
 clear hr0 hc0
 have HB := Az.mk (Below.refl w.heap.size w)
 have H : (burinref02_Spell.l0 k l0 ([] : List Int) 0) = some r := h
 clear h
 have H' := Az.mk H
 clear H
 go_enter Tryz.func79, Tryz.ntmps79
 go_wp2
 go_loopg [3, 4] k (fun kq v3 v4 w' => ∃ (x3_1 : List Int) (x4_1 : Int), v4 = .int .i64 x4_1 ∧ Az (burinref02_Spell.l0 kq l0 x3_1 x4_1 = some r) ∧ Az (kq ≤ k) ∧ Az (Kd.R (Kd.int .u8) 5 w' w.heap.size (fun _ => True) v3 x3_1) ∧ Az (Below w.heap.size w w'))
 case atStart => exact ⟨(([] : List Int)), (0), (by first | rfl | (simp; done) | (simp [*]; done)), H', ⟨Nat.le_refl _⟩, ⟨by first | exact Kd.R_nil _ _ _ _ _ | exact Kd.N_nil _ _ _ _ _ | exact Kd.V_nil _ _ _ _ _ | exact Kd.Q_nil _ _ _ _ _ | exact Kd.S_nil _ _ _ _ _⟩, ⟨by repeat (with_reducible first | exact HB.out | apply bA | apply bQ | apply bD)⟩⟩
 case round =>
  clear H'
  obtain ⟨x3_1, x4_1, rfl, HA, HK1, HO_3, HB⟩ := hrel
  cases gk with
  | zero => exact absurd HA.out (by simp [burinref02_Spell.l0])
  | succ k1 =>
   have H := HA.out
   clear HA
   simp only [burinref02_Spell.l0] at H
   by_cases c2 : x4_1 < (l0.length : Int)
   ·rw [if_pos c2] at H
    have c2b0 : decide (x4_1 < (l0.length : Int)) = true := decide_eq_true c2
    clear c2
    have HC3 := Az.mk H
    clear H
    go_upto_region 5 with (fail)
    go_cut [19] (fun v19 wc => ∃ (kq : Nat) (x19_2 : Bool), v19 = .bool x19_2 ∧ Az (burinref02_Spell.j1 kq l0 x3_1 x4_1 x19_2 = some r) ∧ Az (kq ≤ k1) ∧ Az (Kd.R (Kd.int .u8) 5 wc w.heap.size (fun _ => True) u3 x3_1) ∧ Az (Below w.heap.size w wc))
    case first =>
     have H := HC3.out
     clear HC3
     by_cases c4 : x4_1 > 0
     ·rw [if_pos c4] at H
      have c4b0 : decide (0 < x4_1) = true := decide_eq_true c4
      clear c4
      (first | rw [c4b0] | (simp only [i64_w, i32_w]; rw [c4b0]) | skip)
      by_cases c5 : 0 ≤ x4_1
      ·rw [if_pos c5] at H
       have c5b0 : decide (0 ≤ x4_1) = true := decide_eq_true c5
       clear c5
       have H' := Az.mk H
       clear H
       have p225 : 0 ≤ (x4_1 : Int) := od (by assumption)
       have q225 : x4_1 < (l0.length : Int) := od (by assumption)
       obtain ⟨ad225, e225, hx225_0, hx225_1, hx225_2, hx225_3, hx225_4, hx225_5⟩ := at_T55 HR0.out x4_1 p225 q225
       cases e225
       replace hx225_0 := (HB.out.cell (cl w _ hx225_0)).trans hx225_0
       replace hx225_1 := (HB.out.cell (cl w _ hx225_1)).trans hx225_1
       replace hx225_2 := (HB.out.cell (cl w _ hx225_2)).trans hx225_2
       replace hx225_3 := (HB.out.cell (cl w _ hx225_3)).trans hx225_3
       replace hx225_4 := (HB.out.cell (cl w _ hx225_4)).trans hx225_4
       replace hx225_5 := (HB.out.cell (cl w _ hx225_5)).trans hx225_5
       replace p225 := eq_true p225
       replace q225 := eq_true q225
       go_wp2
       go_meet
       case rel => exact ⟨_, ((rT l0 x4_1).f5), (by first | rfl | (simp; done) | (simp [*]; done)), H', ⟨by have := HK1.out; first | omega | exact Nat.le_refl _⟩, ⟨by (with_reducible repeat (first | apply Kd.R_alloc | apply Kd.R_drewN | apply Kd.R_drew)); exact HO_3.out⟩, ⟨by repeat (with_reducible first | exact HB.out | apply bA | apply bQ | apply bD)⟩⟩
      ·rw [if_neg c5] at H
       exact absurd H (by simp)
     ·rw [if_neg c4] at H
      have c4b0 : decide (0 < x4_1) = false := decide_eq_false c4
      clear c4
      (first | rw [c4b0] | (simp only [i64_w, i32_w]; rw [c4b0]) | skip)
      have H' := Az.mk H
      clear H
      go_wp2
      go_meet
      case rel => exact ⟨_, (false), (by first | rfl | (simp; done) | (simp [*]; done)), H', ⟨by have := HK1.out; first | omega | exact Nat.le_refl _⟩, ⟨by (with_reducible repeat (first | apply Kd.R_alloc | apply Kd.R_drewN | apply Kd.R_drew)); exact HO_3.out⟩, ⟨by repeat (with_reducible first | exact HB.out | apply bA | apply bQ | apply bD)⟩⟩
    case rest =>
     clear HC3
     try clear c2
     try clear c2b0
     try clear p2
     try clear q2
     try clear hx2
     try clear c3
     try clear c4
     try clear c4b0
     try clear c5
     try clear c5b0
     try clear hx225_0
     try clear hx225_1
     try clear hx225_2
     try clear hx225_3
     try clear hx225_4
     try clear hx225_5
     try clear p225
     try clear q225
     obtain ⟨kq, x19_2, rfl, HA, HJ2, HO_3, HB⟩ := hcut
     cases kq with
     | zero => exact absurd HA.out (by simp [burinref02_Spell.j1])
     | succ kj2 =>
      have H := HA.out
      clear HA
      simp only [burinref02_Spell.j1] at H
      by_cases c6 : x19_2 = true
      ·subst c6
       have H1 : (if x3_1.length < 140737488355328 then ((some (x3_1 ++ [10] : List Int)).bind fun y226 => (if 0 ≤ x4_1 then (if x4_1 < (l0.length : Int) then (if y226.length + ((rT l0 x4_1).f1).size < 140737488355328 then (burinref02_Spell.l0 kj2 l0 (y226 ++ bytesOf ((rT l0 x4_1).f1)) (wrap64 (x4_1 + 1))) else (none)) else (none)) else (none))) else (none)) = some r := by rw [if_pos rfl] at H; exact H
       clear H
       have H := H1
       clear H1
       by_cases c7 : x3_1.length < 140737488355328
       ·rw [if_pos c7] at H
        have LMc7 := Az.mk c7
        clear c7
        obtain ⟨y226, hy226⟩ : ∃ y_ : List Int, y_ = (x3_1 ++ [10]) := ⟨_, rfl⟩
        replace H : (if 0 ≤ x4_1 then (if x4_1 < (l0.length : Int) then (if y226.length + ((rT l0 x4_1).f1).size < 140737488355328 then (burinref02_Spell.l0 kj2 l0 (y226 ++ bytesOf ((rT l0 x4_1).f1)) (wrap64 (x4_1 + 1))) else (none)) else (none)) else (none)) = some r := by first | (rw [hy226]; with_reducible exact H) | (have H2_ := (Option.bind_some _ _).symm.trans H; rw [hy226]; with_reducible exact H2_) | (have H2_ := (Option.bind_some _ _).symm.trans H; with_reducible exact H2_) | with_reducible exact H | (rw [hy226]; exact H) | exact H
        have Ny226 := Az.mk hy226
        clear hy226
        by_cases c8 : 0 ≤ x4_1
        ·rw [if_pos c8] at H
         have c8b0 : decide (0 ≤ x4_1) = true := decide_eq_true c8
         clear c8
         by_cases c9 : x4_1 < (l0.length : Int)
         ·rw [if_pos c9] at H
          have c9b0 : decide (x4_1 < (l0.length : Int)) = true := decide_eq_true c9
          clear c9
          by_cases c10 : y226.length + ((rT l0 x4_1).f1).size < 140737488355328
          ·rw [if_pos c10] at H
           have LMc10 := Az.mk c10
           clear c10
           obtain ⟨y230, hy230⟩ : ∃ y_ : List Int, y_ = (y226 ++ bytesOf ((rT l0 x4_1).f1)) := ⟨_, rfl⟩
           replace H : (burinref02_Spell.l0 kj2 l0 y230 (wrap64 (x4_1 + 1))) = some r := by first | (rw [hy230]; with_reducible exact H) | (have H2_ := (Option.bind_some _ _).symm.trans H; rw [hy230]; with_reducible exact H2_) | (have H2_ := (Option.bind_some _ _).symm.trans H; with_reducible exact H2_) | with_reducible exact H | (rw [hy230]; exact H) | exact H
           have Ny230 := Az.mk hy230
           clear hy230
           have H' := Az.mk H
           clear H
           go_wp2_with (first | ((with_reducible refine gate_builtin (b := .append) (xs := #[.tmp 20, .tmp 21]) rfl ?_); at_builtin; refine Kd.R_append (Kd.int .u8) (w0 := w) w.heap.size rfl (.tmp 20) (.tmp 21) 88 5 (.int .u8 0) 1 rfl Tryz.underlying88 info5 rfl (by decide) (by omega) u3 x3_1 10 [.int .u8 10] (fun _ => True) (fun _ => False) rfl rfl ?aP (fun _ hk => hk.elim) ?aF ?aO ?aB ?aS ?aL ?_; (case aP => exact rfl); (case aB => exact (by repeat (with_reducible first | exact HB.out | apply bA | apply bQ | apply bD))); (case aF => exact (fun _ _ => trivial)); (case aO => exact (by (with_reducible repeat (first | apply Kd.R_alloc | apply Kd.R_drewN | apply Kd.R_drew)); exact HO_3.out)); (case aS => exact (bZ (by repeat (with_reducible first | exact HB.out | apply bA | apply bQ | apply bD)))); (case aL => have := LMc7.out; omega); intro v227 w11 ho hb hg hat; rw [← Ny226.out] at ho; have n0_ := Az.mk (hb); have n1_ := Az.mk (ho); clear HB; clear HO_3; have HB := n0_; have HO228 := n1_; clear n0_ n1_; clear ho hb hg hat; have p229 : 0 ≤ (x4_1 : Int) := od (by assumption); have q229 : x4_1 < (l0.length : Int) := od (by assumption); obtain ⟨ad229, e229, hx229_0, hx229_1, hx229_2, hx229_3, hx229_4, hx229_5⟩ := at_T55 HR0.out x4_1 p229 q229; cases e229; replace hx229_0 := (HB.out.cell (cl w _ hx229_0)).trans hx229_0; replace hx229_1 := (HB.out.cell (cl w _ hx229_1)).trans hx229_1; replace hx229_2 := (HB.out.cell (cl w _ hx229_2)).trans hx229_2; replace hx229_3 := (HB.out.cell (cl w _ hx229_3)).trans hx229_3; replace hx229_4 := (HB.out.cell (cl w _ hx229_4)).trans hx229_4; replace hx229_5 := (HB.out.cell (cl w _ hx229_5)).trans hx229_5; replace p229 := eq_true p229; replace q229 := eq_true q229) | (at_builtin; refine print_append_str (w0 := w) w.heap.size rfl (.tmp 35) _ 88 9 5 rfl Tryz.underlying88 Tryz.underlying9 info5 v227 y226 ((rT l0 x4_1).f1) rfl rfl ?aO ?aB ?aS ?aL ?_; (case aB => exact (by repeat (with_reducible first | exact HB.out | apply bA | apply bQ | apply bD))); (case aO => exact (Kd.own_of_R (by (with_reducible repeat (first | apply Kd.R_alloc | apply Kd.R_drewN | apply Kd.R_drew)); exact HO228.out))); (case aS => exact (bZ (by repeat (with_reducible first | exact HB.out | apply bA | apply bQ | apply bD)))); (case aL => have := LMc10.out; omega); intro v231 w12 ho0 hb hg; have ho := Kd.R_of_own (h1 := fun _ => rfl) (ok := fun _ => True) ho0 (fun _ _ => trivial); clear ho0; have hat := True.intro; rw [← Ny230.out] at ho; change Kd.R (Kd.int .u8) 5 w12 w.heap.size (fun _ => True) v231 y230 at ho; have n0_ := Az.mk (hb); have n1_ := Az.mk (ho); clear HB; clear HO228; have HB := n0_; have HO232 := n1_; clear n0_ n1_; clear ho hb hg hat))
           go_roundg kj2
           case measure => have := HK1.out; have := HJ2.out; omega
           case rel => exact ⟨(y230), (wrap64 (x4_1 + 1)), (by first | rfl | (simp; done) | (simp [*]; done)), H', ⟨by have := HK1.out; have := HJ2.out; omega⟩, ⟨by (with_reducible repeat (first | apply Kd.R_alloc | apply Kd.R_drewN | apply Kd.R_drew)); exact HO232.out⟩, ⟨by repeat (with_reducible first | exact HB.out | apply bA | apply bQ | apply bD)⟩⟩
          ·rw [if_neg c10] at H
           exact absurd H (by simp)
         ·rw [if_neg c9] at H
          exact absurd H (by simp)
        ·rw [if_neg c8] at H
         exact absurd H (by simp)
       ·rw [if_neg c7] at H
        exact absurd H (by simp)
      ·replace c6 := Bool.eq_false_iff.mpr c6
       subst c6
       have H1 : (if x4_1 > 0 then (if 0 ≤ x4_1 then (if x4_1 < (l0.length : Int) then (if (rT l0 x4_1).f4 = true then (if x3_1.length < 140737488355328 then ((some (x3_1 ++ [32] : List Int)).bind fun y234 => (if y234.length + ((rT l0 x4_1).f1).size < 140737488355328 then (burinref02_Spell.l0 kj2 l0 (y234 ++ bytesOf ((rT l0 x4_1).f1)) (wrap64 (x4_1 + 1))) else (none))) else (none)) else (if x3_1.length + ((rT l0 x4_1).f1).size < 140737488355328 then (burinref02_Spell.l0 kj2 l0 (x3_1 ++ bytesOf ((rT l0 x4_1).f1)) (wrap64 (x4_1 + 1))) else (none))) else (none)) else (none)) else (if 0 ≤ x4_1 then (if x4_1 < (l0.length : Int) then (if x3_1.length + ((rT l0 x4_1).f1).size < 140737488355328 then (burinref02_Spell.l0 kj2 l0 (x3_1 ++ bytesOf ((rT l0 x4_1).f1)) (wrap64 (x4_1 + 1))) else (none)) else (none)) else (none))) = some r := by rw [if_neg (show ¬ (false = true) by decide)] at H; exact H
       clear H
       have H := H1
       clear H1
       by_cases c13 : x4_1 > 0
       ·rw [if_pos c13] at H
        have c13b0 : decide (0 < x4_1) = true := decide_eq_true c13
        clear c13
        by_cases c14 : 0 ≤ x4_1
        ·rw [if_pos c14] at H
         have c14b0 : decide (0 ≤ x4_1) = true := decide_eq_true c14
         clear c14
         by_cases c15 : x4_1 < (l0.length : Int)
         ·rw [if_pos c15] at H
          have c15b0 : decide (x4_1 < (l0.length : Int)) = true := decide_eq_true c15
          clear c15
          obtain ⟨bq16, hbq16⟩ : ∃ b_ : Bool, b_ = ((rT l0 x4_1).f4) := ⟨_, rfl⟩
          replace H : (if bq16 = true then (if x3_1.length < 140737488355328 then ((some (x3_1 ++ [32] : List Int)).bind fun y234 => (if y234.length + ((rT l0 x4_1).f1).size < 140737488355328 then (burinref02_Spell.l0 kj2 l0 (y234 ++ bytesOf ((rT l0 x4_1).f1)) (wrap64 (x4_1 + 1))) else (none))) else (none)) else (if x3_1.length + ((rT l0 x4_1).f1).size < 140737488355328 then (burinref02_Spell.l0 kj2 l0 (x3_1 ++ bytesOf ((rT l0 x4_1).f1)) (wrap64 (x4_1 + 1))) else (none))) = some r := by rw [← hbq16] at H; exact H
          have Nbq16 := Az.mk hbq16
          clear hbq16
          by_cases c17 : bq16 = true
          ·subst c17
           have H1 : (if x3_1.length < 140737488355328 then ((some (x3_1 ++ [32] : List Int)).bind fun y234 => (if y234.length + ((rT l0 x4_1).f1).size < 140737488355328 then (burinref02_Spell.l0 kj2 l0 (y234 ++ bytesOf ((rT l0 x4_1).f1)) (wrap64 (x4_1 + 1))) else (none))) else (none)) = some r := by rw [if_pos rfl] at H; exact H
           clear H
           have H := H1
           clear H1
           by_cases c18 : x3_1.length < 140737488355328
           ·rw [if_pos c18] at H
            have LMc18 := Az.mk c18
            clear c18
            obtain ⟨y234, hy234⟩ : ∃ y_ : List Int, y_ = (x3_1 ++ [32]) := ⟨_, rfl⟩
            replace H : (if y234.length + ((rT l0 x4_1).f1).size < 140737488355328 then (burinref02_Spell.l0 kj2 l0 (y234 ++ bytesOf ((rT l0 x4_1).f1)) (wrap64 (x4_1 + 1))) else (none)) = some r := by first | (rw [hy234]; with_reducible exact H) | (have H2_ := (Option.bind_some _ _).symm.trans H; rw [hy234]; with_reducible exact H2_) | (have H2_ := (Option.bind_some _ _).symm.trans H; with_reducible exact H2_) | with_reducible exact H | (rw [hy234]; exact H) | exact H
            have Ny234 := Az.mk hy234
            clear hy234
            by_cases c19 : y234.length + ((rT l0 x4_1).f1).size < 140737488355328
            ·rw [if_pos c19] at H
             have LMc19 := Az.mk c19
             clear c19
             obtain ⟨y238, hy238⟩ : ∃ y_ : List Int, y_ = (y234 ++ bytesOf ((rT l0 x4_1).f1)) := ⟨_, rfl⟩
             replace H : (burinref02_Spell.l0 kj2 l0 y238 (wrap64 (x4_1 + 1))) = some r := by first | (rw [hy238]; with_reducible exact H) | (have H2_ := (Option.bind_some _ _).symm.trans H; rw [hy238]; with_reducible exact H2_) | (have H2_ := (Option.bind_some _ _).symm.trans H; with_reducible exact H2_) | with_reducible exact H | (rw [hy238]; exact H) | exact H
             have Ny238 := Az.mk hy238
             clear hy238
             have H' := Az.mk H
             clear H
             have p233 : 0 ≤ (x4_1 : Int) := od (by assumption)
             have q233 : x4_1 < (l0.length : Int) := od (by assumption)
             obtain ⟨ad233, e233, hx233_0, hx233_1, hx233_2, hx233_3, hx233_4, hx233_5⟩ := at_T55 HR0.out x4_1 p233 q233
             (try rw [← Nbq16.out] at hx233_4)
             (try rw [← Nbq16.out] at hx233_5)
             cases e233
             replace hx233_0 := (HB.out.cell (cl w _ hx233_0)).trans hx233_0
             replace hx233_1 := (HB.out.cell (cl w _ hx233_1)).trans hx233_1
             replace hx233_2 := (HB.out.cell (cl w _ hx233_2)).trans hx233_2
             replace hx233_3 := (HB.out.cell (cl w _ hx233_3)).trans hx233_3
             replace hx233_4 := (HB.out.cell (cl w _ hx233_4)).trans hx233_4
             replace hx233_5 := (HB.out.cell (cl w _ hx233_5)).trans hx233_5
             replace p233 := eq_true p233
             replace q233 := eq_true q233
             go_wp2_with (first | ((with_reducible refine gate_builtin (b := .append) (xs := #[.tmp 32, .tmp 33]) rfl ?_); at_builtin; refine Kd.R_append (Kd.int .u8) (w0 := w) w.heap.size rfl (.tmp 32) (.tmp 33) 88 5 (.int .u8 0) 1 rfl Tryz.underlying88 info5 rfl (by decide) (by omega) u3 x3_1 32 [.int .u8 32] (fun _ => True) (fun _ => False) rfl rfl ?aP (fun _ hk => hk.elim) ?aF ?aO ?aB ?aS ?aL ?_; (case aP => exact rfl); (case aB => exact (by repeat (with_reducible first | exact HB.out | apply bA | apply bQ | apply bD))); (case aF => exact (fun _ _ => trivial)); (case aO => exact (by (with_reducible repeat (first | apply Kd.R_alloc | apply Kd.R_drewN | apply Kd.R_drew)); exact HO_3.out)); (case aS => exact (bZ (by repeat (with_reducible first | exact HB.out | apply bA | apply bQ | apply bD)))); (case aL => have := LMc18.out; omega); intro v235 w20 ho hb hg hat; rw [← Ny234.out] at ho; have n0_ := Az.mk (hb); have n1_ := Az.mk (ho); clear HB; clear HO_3; have HB := n0_; have HO236 := n1_; clear n0_ n1_; clear ho hb hg hat; have p237 : 0 ≤ (x4_1 : Int) := od (by assumption); have q237 : x4_1 < (l0.length : Int) := od (by assumption); obtain ⟨ad237, e237, hx237_0, hx237_1, hx237_2, hx237_3, hx237_4, hx237_5⟩ := at_T55 HR0.out x4_1 p237 q237; (try rw [← Nbq16.out] at hx237_4); (try rw [← Nbq16.out] at hx237_5); obtain rfl : ad233 = ad237 := (by injection e237); replace hx237_0 := (HB.out.cell (cl w _ hx237_0)).trans hx237_0; replace hx237_1 := (HB.out.cell (cl w _ hx237_1)).trans hx237_1; replace hx237_2 := (HB.out.cell (cl w _ hx237_2)).trans hx237_2; replace hx237_3 := (HB.out.cell (cl w _ hx237_3)).trans hx237_3; replace hx237_4 := (HB.out.cell (cl w _ hx237_4)).trans hx237_4; replace hx237_5 := (HB.out.cell (cl w _ hx237_5)).trans hx237_5; replace p237 := eq_true p237; replace q237 := eq_true q237) | (at_builtin; refine print_append_str (w0 := w) w.heap.size rfl (.tmp 35) _ 88 9 5 rfl Tryz.underlying88 Tryz.underlying9 info5 v235 y234 ((rT l0 x4_1).f1) rfl rfl ?aO ?aB ?aS ?aL ?_; (case aB => exact (by repeat (with_reducible first | exact HB.out | apply bA | apply bQ | apply bD))); (case aO => exact (Kd.own_of_R (by (with_reducible repeat (first | apply Kd.R_alloc | apply Kd.R_drewN | apply Kd.R_drew)); exact HO236.out))); (case aS => exact (bZ (by repeat (with_reducible first | exact HB.out | apply bA | apply bQ | apply bD)))); (case aL => have := LMc19.out; omega); intro v239 w21 ho0 hb hg; have ho := Kd.R_of_own (h1 := fun _ => rfl) (ok := fun _ => True) ho0 (fun _ _ => trivial); clear ho0; have hat := True.intro; rw [← Ny238.out] at ho; change Kd.R (Kd.int .u8) 5 w21 w.heap.size (fun _ => True) v239 y238 at ho; have n0_ := Az.mk (hb); have n1_ := Az.mk (ho); clear HB; clear HO236; have HB := n0_; have HO240 := n1_; clear n0_ n1_; clear ho hb hg hat))
             go_roundg kj2
             case measure => have := HK1.out; have := HJ2.out; omega
             case rel => exact ⟨(y238), (wrap64 (x4_1 + 1)), (by first | rfl | (simp; done) | (simp [*]; done)), H', ⟨by have := HK1.out; have := HJ2.out; omega⟩, ⟨by (with_reducible repeat (first | apply Kd.R_alloc | apply Kd.R_drewN | apply Kd.R_drew)); exact HO240.out⟩, ⟨by repeat (with_reducible first | exact HB.out | apply bA | apply bQ | apply bD)⟩⟩
            ·rw [if_neg c19] at H
             exact absurd H (by simp)
           ·rw [if_neg c18] at H
            exact absurd H (by simp)
          ·replace c17 := Bool.eq_false_iff.mpr c17
           subst c17
           have H1 : (if x3_1.length + ((rT l0 x4_1).f1).size < 140737488355328 then (burinref02_Spell.l0 kj2 l0 (x3_1 ++ bytesOf ((rT l0 x4_1).f1)) (wrap64 (x4_1 + 1))) else (none)) = some r := by rw [if_neg (show ¬ (false = true) by decide)] at H; exact H
           clear H
           have H := H1
           clear H1
           by_cases c22 : x3_1.length + ((rT l0 x4_1).f1).size < 140737488355328
           ·rw [if_pos c22] at H
            have LMc22 := Az.mk c22
            clear c22
            obtain ⟨y242, hy242⟩ : ∃ y_ : List Int, y_ = (x3_1 ++ bytesOf ((rT l0 x4_1).f1)) := ⟨_, rfl⟩
            replace H : (burinref02_Spell.l0 kj2 l0 y242 (wrap64 (x4_1 + 1))) = some r := by first | (rw [hy242]; with_reducible exact H) | (have H2_ := (Option.bind_some _ _).symm.trans H; rw [hy242]; with_reducible exact H2_) | (have H2_ := (Option.bind_some _ _).symm.trans H; with_reducible exact H2_) | with_reducible exact H | (rw [hy242]; exact H) | exact H
            have Ny242 := Az.mk hy242
            clear hy242
            have H' := Az.mk H
            clear H
            have p233 : 0 ≤ (x4_1 : Int) := od (by assumption)
            have q233 : x4_1 < (l0.length : Int) := od (by assumption)
            obtain ⟨ad233, e233, hx233_0, hx233_1, hx233_2, hx233_3, hx233_4, hx233_5⟩ := at_T55 HR0.out x4_1 p233 q233
            (try rw [← Nbq16.out] at hx233_4)
            (try rw [← Nbq16.out] at hx233_5)
            cases e233
            replace hx233_0 := (HB.out.cell (cl w _ hx233_0)).trans hx233_0
            replace hx233_1 := (HB.out.cell (cl w _ hx233_1)).trans hx233_1
            replace hx233_2 := (HB.out.cell (cl w _ hx233_2)).trans hx233_2
            replace hx233_3 := (HB.out.cell (cl w _ hx233_3)).trans hx233_3
            replace hx233_4 := (HB.out.cell (cl w _ hx233_4)).trans hx233_4
            replace hx233_5 := (HB.out.cell (cl w _ hx233_5)).trans hx233_5
            replace p233 := eq_true p233
            replace q233 := eq_true q233
            have p241 : 0 ≤ (x4_1 : Int) := od (by assumption)
            have q241 : x4_1 < (l0.length : Int) := od (by assumption)
            obtain ⟨ad241, e241, hx241_0, hx241_1, hx241_2, hx241_3, hx241_4, hx241_5⟩ := at_T55 HR0.out x4_1 p241 q241
            (try rw [← Nbq16.out] at hx241_4)
            (try rw [← Nbq16.out] at hx241_5)
            obtain rfl : ad233 = ad241 := (by injection e241)
            replace hx241_0 := (HB.out.cell (cl w _ hx241_0)).trans hx241_0
            replace hx241_1 := (HB.out.cell (cl w _ hx241_1)).trans hx241_1
            replace hx241_2 := (HB.out.cell (cl w _ hx241_2)).trans hx241_2
            replace hx241_3 := (HB.out.cell (cl w _ hx241_3)).trans hx241_3
            replace hx241_4 := (HB.out.cell (cl w _ hx241_4)).trans hx241_4
            replace hx241_5 := (HB.out.cell (cl w _ hx241_5)).trans hx241_5
            replace p241 := eq_true p241
            replace q241 := eq_true q241
            go_wp2_with (first | (at_builtin; refine print_append_str (w0 := w) w.heap.size rfl (.tmp 35) _ 88 9 5 rfl Tryz.underlying88 Tryz.underlying9 info5 u3 x3_1 ((rT l0 x4_1).f1) rfl rfl ?aO ?aB ?aS ?aL ?_; (case aB => exact (by repeat (with_reducible first | exact HB.out | apply bA | apply bQ | apply bD))); (case aO => exact (Kd.own_of_R (by (with_reducible repeat (first | apply Kd.R_alloc | apply Kd.R_drewN | apply Kd.R_drew)); exact HO_3.out))); (case aS => exact (bZ (by repeat (with_reducible first | exact HB.out | apply bA | apply bQ | apply bD)))); (case aL => have := LMc22.out; omega); intro v243 w23 ho0 hb hg; have ho := Kd.R_of_own (h1 := fun _ => rfl) (ok := fun _ => True) ho0 (fun _ _ => trivial); clear ho0; have hat := True.intro; rw [← Ny242.out] at ho; change Kd.R (Kd.int .u8) 5 w23 w.heap.size (fun _ => True) v243 y242 at ho; have n0_ := Az.mk (hb); have n1_ := Az.mk (ho); clear HB; clear HO_3; have HB := n0_; have HO244 := n1_; clear n0_ n1_; clear ho hb hg hat))
            go_roundg kj2
            case measure => have := HK1.out; have := HJ2.out; omega
            case rel => exact ⟨(y242), (wrap64 (x4_1 + 1)), (by first | rfl | (simp; done) | (simp [*]; done)), H', ⟨by have := HK1.out; have := HJ2.out; omega⟩, ⟨by (with_reducible repeat (first | apply Kd.R_alloc | apply Kd.R_drewN | apply Kd.R_drew)); exact HO244.out⟩, ⟨by repeat (with_reducible first | exact HB.out | apply bA | apply bQ | apply bD)⟩⟩
           ·rw [if_neg c22] at H
            exact absurd H (by simp)
         ·rw [if_neg c15] at H
          exact absurd H (by simp)
        ·rw [if_neg c14] at H
         exact absurd H (by simp)
       ·rw [if_neg c13] at H
        have c13b0 : decide (0 < x4_1) = false := decide_eq_false c13
        clear c13
        by_cases c24 : 0 ≤ x4_1
        ·rw [if_pos c24] at H
         have c24b0 : decide (0 ≤ x4_1) = true := decide_eq_true c24
         clear c24
         by_cases c25 : x4_1 < (l0.length : Int)
         ·rw [if_pos c25] at H
          have c25b0 : decide (x4_1 < (l0.length : Int)) = true := decide_eq_true c25
          clear c25
          by_cases c26 : x3_1.length + ((rT l0 x4_1).f1).size < 140737488355328
          ·rw [if_pos c26] at H
           have LMc26 := Az.mk c26
           clear c26
           obtain ⟨y246, hy246⟩ : ∃ y_ : List Int, y_ = (x3_1 ++ bytesOf ((rT l0 x4_1).f1)) := ⟨_, rfl⟩
           replace H : (burinref02_Spell.l0 kj2 l0 y246 (wrap64 (x4_1 + 1))) = some r := by first | (rw [hy246]; with_reducible exact H) | (have H2_ := (Option.bind_some _ _).symm.trans H; rw [hy246]; with_reducible exact H2_) | (have H2_ := (Option.bind_some _ _).symm.trans H; with_reducible exact H2_) | with_reducible exact H | (rw [hy246]; exact H) | exact H
           have Ny246 := Az.mk hy246
           clear hy246
           have H' := Az.mk H
           clear H
           have p245 : 0 ≤ (x4_1 : Int) := od (by assumption)
           have q245 : x4_1 < (l0.length : Int) := od (by assumption)
           obtain ⟨ad245, e245, hx245_0, hx245_1, hx245_2, hx245_3, hx245_4, hx245_5⟩ := at_T55 HR0.out x4_1 p245 q245
           cases e245
           replace hx245_0 := (HB.out.cell (cl w _ hx245_0)).trans hx245_0
           replace hx245_1 := (HB.out.cell (cl w _ hx245_1)).trans hx245_1
           replace hx245_2 := (HB.out.cell (cl w _ hx245_2)).trans hx245_2
           replace hx245_3 := (HB.out.cell (cl w _ hx245_3)).trans hx245_3
           replace hx245_4 := (HB.out.cell (cl w _ hx245_4)).trans hx245_4
           replace hx245_5 := (HB.out.cell (cl w _ hx245_5)).trans hx245_5
           replace p245 := eq_true p245
           replace q245 := eq_true q245
           go_wp2_with (first | (at_builtin; refine print_append_str (w0 := w) w.heap.size rfl (.tmp 35) _ 88 9 5 rfl Tryz.underlying88 Tryz.underlying9 info5 u3 x3_1 ((rT l0 x4_1).f1) rfl rfl ?aO ?aB ?aS ?aL ?_; (case aB => exact (by repeat (with_reducible first | exact HB.out | apply bA | apply bQ | apply bD))); (case aO => exact (Kd.own_of_R (by (with_reducible repeat (first | apply Kd.R_alloc | apply Kd.R_drewN | apply Kd.R_drew)); exact HO_3.out))); (case aS => exact (bZ (by repeat (with_reducible first | exact HB.out | apply bA | apply bQ | apply bD)))); (case aL => have := LMc26.out; omega); intro v247 w27 ho0 hb hg; have ho := Kd.R_of_own (h1 := fun _ => rfl) (ok := fun _ => True) ho0 (fun _ _ => trivial); clear ho0; have hat := True.intro; rw [← Ny246.out] at ho; change Kd.R (Kd.int .u8) 5 w27 w.heap.size (fun _ => True) v247 y246 at ho; have n0_ := Az.mk (hb); have n1_ := Az.mk (ho); clear HB; clear HO_3; have HB := n0_; have HO248 := n1_; clear n0_ n1_; clear ho hb hg hat))
           go_roundg kj2
           case measure => have := HK1.out; have := HJ2.out; omega
           case rel => exact ⟨(y246), (wrap64 (x4_1 + 1)), (by first | rfl | (simp; done) | (simp [*]; done)), H', ⟨by have := HK1.out; have := HJ2.out; omega⟩, ⟨by (with_reducible repeat (first | apply Kd.R_alloc | apply Kd.R_drewN | apply Kd.R_drew)); exact HO248.out⟩, ⟨by repeat (with_reducible first | exact HB.out | apply bA | apply bQ | apply bD)⟩⟩
          ·rw [if_neg c26] at H
           exact absurd H (by simp)
         ·rw [if_neg c25] at H
          exact absurd H (by simp)
        ·rw [if_neg c24] at H
         exact absurd H (by simp)
   ·rw [if_neg c2] at H
    have c2b0 : decide (x4_1 < (l0.length : Int)) = false := decide_eq_false c2
    clear c2
    obtain rfl := Option.some.inj H
    have hcv28 := own_string (P := Tryz.prog) Tryz.underlying88 Tryz.underlying5 Tryz.underlying9 (Kd.own_of_R HO_3.out)
    go_wp2
    go_ret
    exact ⟨by first | rfl | (simp [eN, eS] <;> rfl) | (simp [*, eN, eS] <;> rfl), by repeat (with_reducible first | exact HB.out | apply bA | apply bQ | apply bD)⟩
end Go.Proofs.YtcbfbefpbjmglaaGreatDoor.PA
