-- Printed by a program of this repo's wip/tools (a variant of the kit's print): Lean checks it.
import Derived.Test.YtgipfcdmhdljgaaPBx0
namespace Go.Proofs.Ytgipfcdmhdljgaa.PB
open Go.RowKit Go.Proofs.YtgipfcdmhdljgaaW.PrintWords Go.Proofs.YtgipfcdmhdljgaaW.PrintLast Go.Proofs.YtgipfcdmhdljgaaW.PrintMore
attribute [local go_sem] max2_int min2_int max_two min_two max_three min_three max_four min_four   -- for this text's walks alone
set_option linter.unusedVariables false
set_option linter.unusedSimpArgs false

/-! ### burinref01_Plain: function 16 -/
mutual
def burinref01_Plain.l0 : Nat → List (S32) → Int → Option (Bool)
  | 0, _, _ => none
  | k + 1, x0, x3 => if x3 < (x0.length : Int) then (if 0 ≤ x3 then (burinref01_Plain.l1 k x0 x3 ((rd_T32 x0 x3).f1) 0) else (none)) else (some true)
def burinref01_Plain.l1 : Nat → List (S32) → Int → ByteArray → Int → Option (Bool)
  | 0, _, _, _, _ => none
  | k + 1, x0, x3, x4, x5 => if x5 < (x4.size : Int) then (if 0 ≤ x5 then (if (bt x4 x5) = 13 then (some false) else (if (bt x4 x5) = 10 then (some false) else (burinref01_Plain.l1 k x0 x3 x4 (wrap64 (x5 + 1))))) else (none)) else (if (x4.size : Int) > 0 then (if 0 ≤ (wrap64 ((x4.size : Int) - 1)) then (if (wrap64 ((x4.size : Int) - 1)) < (x4.size : Int) then (if (bt x4 (wrap64 ((x4.size : Int) - 1))) = 92 then (if (x3 = (wrap64 ((x0.length : Int) - 1))) then (burinref01_Plain.j2 k x0 x3 (x3 == (wrap64 ((x0.length : Int) - 1)))) else (burinref01_Plain.j2 k x0 x3 true)) else (burinref01_Plain.j2 k x0 x3 false)) else (none)) else (none)) else (burinref01_Plain.j2 k x0 x3 false))
def burinref01_Plain.j2 : Nat → List (S32) → Int → Bool → Option (Bool)
  | 0, _, _, _ => none
  | k + 1, x0, x3, x69 => if x69 = true then (some false) else (if x3 = 0 then (if 0 ≤ x3 then (if x3 < (x0.length : Int) then (if ((rd_T32 x0 x3).f0) = 1 then (if x3 > 0 then (if 0 ≤ (wrap64 (x3 - 1)) then (if (wrap64 (x3 - 1)) < (x0.length : Int) then (if ((rd_T32 x0 x3).f0) ≤ ((rd_T32 x0 (wrap64 (x3 - 1))).f0) then (some false) else (if ((rd_T32 x0 x3).f0) > 1000000 then (some false) else (burinref01_Plain.l0 k x0 (wrap64 (x3 + 1))))) else (none)) else (none)) else (burinref01_Plain.l0 k x0 (wrap64 (x3 + 1)))) else (some false)) else (none)) else (none)) else (if x3 > 0 then (if 0 ≤ x3 then (if x3 < (x0.length : Int) then (if 0 ≤ (wrap64 (x3 - 1)) then (if (wrap64 (x3 - 1)) < (x0.length : Int) then (if ((rd_T32 x0 x3).f0) ≤ ((rd_T32 x0 (wrap64 (x3 - 1))).f0) then (some false) else (if ((rd_T32 x0 x3).f0) > 1000000 then (some false) else (burinref01_Plain.l0 k x0 (wrap64 (x3 + 1))))) else (none)) else (none)) else (none)) else (none)) else (burinref01_Plain.l0 k x0 (wrap64 (x3 + 1)))))
end
def burinref01_Plain.f (k : Nat) (l0 : List (S32)) : Option (Bool) := burinref01_Plain.l0 k l0 0
theorem burinref01_Plain.mono_l : ∀ k, (∀ y0 y1, LeO (burinref01_Plain.l0 k y0 y1) (burinref01_Plain.l0 (k + 1) y0 y1)) ∧ (∀ y0 y1 y2 y3, LeO (burinref01_Plain.l1 k y0 y1 y2 y3) (burinref01_Plain.l1 (k + 1) y0 y1 y2 y3)) ∧ (∀ y0 y1 y2, LeO (burinref01_Plain.j2 k y0 y1 y2) (burinref01_Plain.j2 (k + 1) y0 y1 y2))
  | 0 => ⟨fun _ _ r h => by simp [burinref01_Plain.l0] at h, fun _ _ _ _ r h => by simp [burinref01_Plain.l1] at h, fun _ _ _ r h => by simp [burinref01_Plain.j2] at h⟩
  | k + 1 => by
    obtain ⟨ih0, ih1, ih2⟩ := burinref01_Plain.mono_l k
    refine ⟨?_, ?_, ?_⟩
    · intro y0 y1
      unfold burinref01_Plain.l0
      repeat' first
      | (with_reducible exact ih0 _ _)
      | (with_reducible exact ih1 _ _ _ _)
      | (with_reducible exact ih2 _ _ _)
      | (with_reducible exact LeO.refl _)
      | (with_reducible exact LeO.none _)
      | (with_reducible refine LeO.ite ?_ ?_)
      | (with_reducible refine LeO.bind ?_ (fun _ => ?_))
      | exact ih0 _ _
      | exact ih1 _ _ _ _
      | exact ih2 _ _ _
      | exact LeO.none _
      | refine LeO.ite ?_ ?_
      | refine LeO.bind ?_ (fun _ => ?_)
    · intro y0 y1 y2 y3
      unfold burinref01_Plain.l1
      repeat' first
      | (with_reducible exact ih0 _ _)
      | (with_reducible exact ih1 _ _ _ _)
      | (with_reducible exact ih2 _ _ _)
      | (with_reducible exact LeO.refl _)
      | (with_reducible exact LeO.none _)
      | (with_reducible refine LeO.ite ?_ ?_)
      | (with_reducible refine LeO.bind ?_ (fun _ => ?_))
      | exact ih0 _ _
      | exact ih1 _ _ _ _
      | exact ih2 _ _ _
      | exact LeO.none _
      | refine LeO.ite ?_ ?_
      | refine LeO.bind ?_ (fun _ => ?_)
    · intro y0 y1 y2
      unfold burinref01_Plain.j2
      repeat' first
      | (with_reducible exact ih0 _ _)
      | (with_reducible exact ih1 _ _ _ _)
      | (with_reducible exact ih2 _ _ _)
      | (with_reducible exact LeO.refl _)
      | (with_reducible exact LeO.none _)
      | (with_reducible refine LeO.ite ?_ ?_)
      | (with_reducible refine LeO.bind ?_ (fun _ => ?_))
      | exact ih0 _ _
      | exact ih1 _ _ _ _
      | exact ih2 _ _ _
      | exact LeO.none _
      | refine LeO.ite ?_ ?_
      | refine LeO.bind ?_ (fun _ => ?_)
theorem burinref01_Plain.mono : ∀ a0 k, LeO (burinref01_Plain.f k a0) (burinref01_Plain.f (k + 1) a0) := by
  intro a0 k
  obtain ⟨ih0, ih1, ih2⟩ := burinref01_Plain.mono_l k
  unfold burinref01_Plain.f
  repeat' first
      | (with_reducible exact ih0 _ _)
      | (with_reducible exact ih1 _ _ _ _)
      | (with_reducible exact ih2 _ _ _)
      | (with_reducible exact LeO.refl _)
      | (with_reducible exact LeO.none _)
      | (with_reducible refine LeO.ite ?_ ?_)
      | (with_reducible refine LeO.bind ?_ (fun _ => ?_))
      | exact ih0 _ _
      | exact ih1 _ _ _ _
      | exact ih2 _ _ _
      | exact LeO.none _
      | refine LeO.ite ?_ ?_
      | refine LeO.bind ?_ (fun _ => ?_)
set_option maxHeartbeats 8000000 in
set_option maxRecDepth 100000 in
theorem burinref01_Plain.calls (k : Nat) (A0 : Option Addr) (c0 : Nat) (l0 : List (S32)) (r : Bool) (w : World) (hr0 : Kd.C k32 w A0 l0.length l0) (hc0 : l0.length ≤ c0) (h : burinref01_Plain.f k l0 = some r) :
    Calls Try.prog 16 #[.slice A0 l0.length c0] w fun e w' => e = .returned (.bool r) ∧ Drawn0 w w' := by
  have HR0 := Aside0.mk hr0
  have HC0 := Aside0.mk hc0
  clear hr0 hc0
  have H : (burinref01_Plain.l0 k l0 0) = some r := h
  clear h
  have H' := Aside0.mk H
  clear H
  go_enter Try.func16, Try.ntmps16
  go_wp2
  repeat (go_quiet (fail); try go_wp2)
  go_loopg [3] k (fun kq v3 w' => ∃ (x3_1 : Int), v3 = .int .i64 x3_1 ∧ Aside0 (burinref01_Plain.l0 kq l0 x3_1 = some r) ∧ Aside0 (kq ≤ k) ∧ Drawn0 w w')
  case atStart => exact ⟨(0), (by first | rfl | (simp; done) | (simp [*]; done)), H', ⟨Nat.le_refl _⟩, by repeat (first | exact Drawn0.refl _ | apply Drawn0.step)⟩
  case round =>
    clear H'
    try clear c1
    obtain ⟨x3_1, rfl, HA, HK1, ⟨m1, rfl⟩⟩ := hrel
    cases gk with
    | zero => exact absurd HA.out (by simp [burinref01_Plain.l0])
    | succ k1 =>
      have H := HA.out
      clear HA
      simp only [burinref01_Plain.l0] at H
      by_cases c2 : x3_1 < (l0.length : Int)
      · rw [if_pos c2] at H
        have c2b0 : decide (x3_1 < (l0.length : Int)) = true := decide_eq_true c2
        clear c2
        by_cases c3 : 0 ≤ x3_1
        · rw [if_pos c3] at H
          have c3b0 : decide (0 ≤ x3_1) = true := decide_eq_true c3
          clear c3
          have H' := Aside0.mk H
          clear H
          have p115 : 0 ≤ (x3_1 : Int) := of_decide_eq_true (by first | (with_reducible assumption) | assumption)
          have q115 : x3_1 < (l0.length : Int) := of_decide_eq_true (by first | (with_reducible assumption) | assumption)
          obtain ⟨ad115, e115, hx115_0, hx115_1⟩ := at_T32 HR0.out x3_1 p115 q115
          cases e115
          replace p115 := eq_true p115
          replace q115 := eq_true q115
          go_wp2
          repeat (go_quiet (fail); try go_wp2)
          go_loopg [5] k1 (fun kq v5 w' => ∃ (x5_2 : Int), v5 = .int .i64 x5_2 ∧ Aside0 (burinref01_Plain.l1 kq l0 x3_1 ((rd_T32 l0 x3_1).f1) x5_2 = some r) ∧ Aside0 (kq ≤ k1) ∧ Drawn0 w w')
          case atStart => exact ⟨(0), (by first | rfl | (simp; done) | (simp [*]; done)), H', ⟨Nat.le_refl _⟩, by repeat (first | exact Drawn0.refl _ | apply Drawn0.step)⟩
          case round =>
            clear H'
            try clear c1
            try clear p1
            try clear q1
            try clear hx1
            try clear c2
            try clear c2b0
            try clear p2
            try clear c3
            try clear c3b0
            try clear hx115_0
            try clear hx115_1
            try clear p115
            try clear q115
            obtain ⟨x5_2, rfl, HA, HK2, ⟨m2, rfl⟩⟩ := hrel
            cases gk with
            | zero => exact absurd HA.out (by simp [burinref01_Plain.l1])
            | succ k2 =>
              have H := HA.out
              clear HA
              simp only [burinref01_Plain.l1] at H
              by_cases c4 : x5_2 < (((rd_T32 l0 x3_1).f1).size : Int)
              · rw [if_pos c4] at H
                have c4b0 : decide (x5_2 < (((rd_T32 l0 x3_1).f1).size : Int)) = true := decide_eq_true c4
                clear c4
                by_cases c5 : 0 ≤ x5_2
                · rw [if_pos c5] at H
                  have c5b0 : decide (0 ≤ x5_2) = true := decide_eq_true c5
                  clear c5
                  by_cases c7 : (bt ((rd_T32 l0 x3_1).f1) x5_2) = 13
                  · rw [if_pos c7] at H
                    have c7b0 : ((bt ((rd_T32 l0 x3_1).f1) x5_2) == 13) = true := beq_iff_eq.mpr c7
                    have c7b1 : ((bt ((rd_T32 l0 x3_1).f1) x5_2) != 13) = false := bne_eq_false_iff_eq.mpr c7
                    clear c7
                    obtain rfl := Option.some.inj H
                    have p6 : 0 ≤ (x5_2 : Int) := of_decide_eq_true (by first | (with_reducible assumption) | assumption)
                    have q6 : x5_2 < (((rd_T32 l0 x3_1).f1).size : Int) := of_decide_eq_true (by first | (with_reducible assumption) | assumption)
                    have hx6 := bt_at ((rd_T32 l0 x3_1).f1) x5_2
                    replace p6 := eq_true p6
                    replace q6 := eq_true q6
                    go_wp2
                    repeat (go_quiet (fail); try go_wp2)
                    go_ret
                    exact ⟨by first | rfl | (simp; done) | (simp [*]; done), by repeat (first | exact Drawn0.refl _ | apply Drawn0.step)⟩
                  · rw [if_neg c7] at H
                    have c7b0 : ((bt ((rd_T32 l0 x3_1).f1) x5_2) == 13) = false := beq_eq_false_iff_ne.mpr c7
                    have c7b1 : ((bt ((rd_T32 l0 x3_1).f1) x5_2) != 13) = true := bne_iff_ne.mpr c7
                    by_cases c9 : (bt ((rd_T32 l0 x3_1).f1) x5_2) = 10
                    · rw [if_pos c9] at H
                      have c9b0 : ((bt ((rd_T32 l0 x3_1).f1) x5_2) == 10) = true := beq_iff_eq.mpr c9
                      have c9b1 : ((bt ((rd_T32 l0 x3_1).f1) x5_2) != 10) = false := bne_eq_false_iff_eq.mpr c9
                      clear c9
                      obtain rfl := Option.some.inj H
                      have p6 : 0 ≤ (x5_2 : Int) := of_decide_eq_true (by first | (with_reducible assumption) | assumption)
                      have q6 : x5_2 < (((rd_T32 l0 x3_1).f1).size : Int) := of_decide_eq_true (by first | (with_reducible assumption) | assumption)
                      have hx6 := bt_at ((rd_T32 l0 x3_1).f1) x5_2
                      replace p6 := eq_true p6
                      replace q6 := eq_true q6
                      have p8 : 0 ≤ (x5_2 : Int) := of_decide_eq_true (by first | (with_reducible assumption) | assumption)
                      have q8 : x5_2 < (((rd_T32 l0 x3_1).f1).size : Int) := of_decide_eq_true (by first | (with_reducible assumption) | assumption)
                      have hx8 := bt_at ((rd_T32 l0 x3_1).f1) x5_2
                      replace p8 := eq_true p8
                      replace q8 := eq_true q8
                      go_wp2
                      repeat (go_quiet (fail); try go_wp2)
                      go_ret
                      exact ⟨by first | rfl | (simp; done) | (simp [*]; done), by repeat (first | exact Drawn0.refl _ | apply Drawn0.step)⟩
                    · rw [if_neg c9] at H
                      have c9b0 : ((bt ((rd_T32 l0 x3_1).f1) x5_2) == 10) = false := beq_eq_false_iff_ne.mpr c9
                      have c9b1 : ((bt ((rd_T32 l0 x3_1).f1) x5_2) != 10) = true := bne_iff_ne.mpr c9
                      have H' := Aside0.mk H
                      clear H
                      have p6 : 0 ≤ (x5_2 : Int) := of_decide_eq_true (by first | (with_reducible assumption) | assumption)
                      have q6 : x5_2 < (((rd_T32 l0 x3_1).f1).size : Int) := of_decide_eq_true (by first | (with_reducible assumption) | assumption)
                      have hx6 := bt_at ((rd_T32 l0 x3_1).f1) x5_2
                      replace p6 := eq_true p6
                      replace q6 := eq_true q6
                      have p8 : 0 ≤ (x5_2 : Int) := of_decide_eq_true (by first | (with_reducible assumption) | assumption)
                      have q8 : x5_2 < (((rd_T32 l0 x3_1).f1).size : Int) := of_decide_eq_true (by first | (with_reducible assumption) | assumption)
                      have hx8 := bt_at ((rd_T32 l0 x3_1).f1) x5_2
                      replace p8 := eq_true p8
                      replace q8 := eq_true q8
                      go_wp2
                      repeat (go_quiet (fail); try go_wp2)
                      go_roundg k2
                      case measure => have := HK1.out; have := HK2.out; omega
                      case rel => exact ⟨(wrap64 (x5_2 + 1)), (by first | rfl | (simp; done) | (simp [*]; done)), H', ⟨by have := HK1.out; have := HK2.out; omega⟩, by repeat (first | exact Drawn0.refl _ | apply Drawn0.step)⟩
                · rw [if_neg c5] at H
                  exact absurd H (by simp)
              · rw [if_neg c4] at H
                have c4b0 : decide (x5_2 < (((rd_T32 l0 x3_1).f1).size : Int)) = false := decide_eq_false c4
                clear c4
                have HC10 := Aside0.mk H
                clear H
                go_upto_region 11 with (fail)
                repeat (go_quiet (fail); go_upto_region 11 with (fail))
                go_cut [69] (fun v69 wc => ∃ (kq : Nat) (x69_9 : Bool), v69 = .bool x69_9 ∧ Aside0 (burinref01_Plain.j2 kq l0 x3_1 x69_9 = some r) ∧ Aside0 (kq ≤ k2) ∧ Drawn0 w wc)
                case first =>
                  have H := HC10.out
                  clear HC10
                  by_cases c11 : (((rd_T32 l0 x3_1).f1).size : Int) > 0
                  · rw [if_pos c11] at H
                    have c11b0 : decide (0 < (((rd_T32 l0 x3_1).f1).size : Int)) = true := decide_eq_true c11
                    have c11b1 : decide (0 < ((rd_T32 l0 x3_1).f1).size) = true := decide_eq_true (by omega)
                    clear c11
                    (first | rw [c11b0] | (simp only [i64_w, i32_w]; rw [c11b0]) | skip)
                    obtain ⟨ji12, hji12⟩ : ∃ j_ : Int, (wrap64 ((((rd_T32 l0 x3_1).f1).size : Int) - 1)) = j_ := ⟨_, rfl⟩
                    replace H : (if 0 ≤ (ji12) then (if (ji12) < (((rd_T32 l0 x3_1).f1).size : Int) then (if (bt ((rd_T32 l0 x3_1).f1) (ji12)) = 92 then (if (x3_1 = (wrap64 ((l0.length : Int) - 1))) then (burinref01_Plain.j2 k2 l0 x3_1 (x3_1 == (wrap64 ((l0.length : Int) - 1)))) else (burinref01_Plain.j2 k2 l0 x3_1 true)) else (burinref01_Plain.j2 k2 l0 x3_1 false)) else (none)) else (none)) = some r := by first | (rw [hji12] at H; exact H) | (simp only [hji12] at H ⊢; exact H)
                    have hji12w : (IntKind.i64.wrap ((((rd_T32 l0 x3_1).f1).size : Int) - 1)) = ji12 := (i64_w _).trans hji12
                    by_cases c13 : 0 ≤ (ji12)
                    · rw [if_pos c13] at H
                      have c13b0 : decide (0 ≤ (ji12)) = true := decide_eq_true c13
                      clear c13
                      by_cases c14 : (ji12) < (((rd_T32 l0 x3_1).f1).size : Int)
                      · rw [if_pos c14] at H
                        have c14b0 : decide ((ji12) < (((rd_T32 l0 x3_1).f1).size : Int)) = true := decide_eq_true c14
                        clear c14
                        by_cases c16 : (bt ((rd_T32 l0 x3_1).f1) (ji12)) = 92
                        · rw [if_pos c16] at H
                          have c16b0 : ((bt ((rd_T32 l0 x3_1).f1) (ji12)) == 92) = true := beq_iff_eq.mpr c16
                          have c16b1 : ((bt ((rd_T32 l0 x3_1).f1) (ji12)) != 92) = false := bne_eq_false_iff_eq.mpr c16
                          clear c16
                          by_cases c17 : (x3_1 = (wrap64 ((l0.length : Int) - 1)))
                          · rw [if_pos c17] at H
                            have c17b0 : (x3_1 == (wrap64 ((l0.length : Int) - 1))) = true := beq_iff_eq.mpr c17
                            have c17b1 : (x3_1 != (wrap64 ((l0.length : Int) - 1))) = false := bne_eq_false_iff_eq.mpr c17
                            clear c17
                            have H' := Aside0.mk H
                            clear H
                            have p15 : 0 ≤ ((ji12) : Int) := of_decide_eq_true (by first | (with_reducible assumption) | assumption)
                            have q15 : (ji12) < (((rd_T32 l0 x3_1).f1).size : Int) := of_decide_eq_true (by first | (with_reducible assumption) | assumption)
                            have hx15 := bt_at ((rd_T32 l0 x3_1).f1) (ji12)
                            replace p15 := eq_true p15
                            replace q15 := eq_true q15
                            have p18 : 0 ≤ ((ji12) : Int) := of_decide_eq_true (by first | (with_reducible assumption) | assumption)
                            have q18 : (ji12) < (((rd_T32 l0 x3_1).f1).size : Int) := of_decide_eq_true (by first | (with_reducible assumption) | assumption)
                            have hx18 := bt_at ((rd_T32 l0 x3_1).f1) (ji12)
                            replace p18 := eq_true p18
                            replace q18 := eq_true q18
                            go_wp2
                            repeat (go_quiet (fail); try go_wp2)
                            go_meet
                            case rel => exact ⟨_, ((x3_1 == (wrap64 ((l0.length : Int) - 1)))), (by first | rfl | (simp; done) | (simp [*]; done)), H', ⟨by have := HK1.out; have := HK2.out; first | omega | exact Nat.le_refl _⟩, by repeat (first | exact Drawn0.refl _ | apply Drawn0.step)⟩
                          · rw [if_neg c17] at H
                            have c17b0 : (x3_1 == (wrap64 ((l0.length : Int) - 1))) = false := beq_eq_false_iff_ne.mpr c17
                            have c17b1 : (x3_1 != (wrap64 ((l0.length : Int) - 1))) = true := bne_iff_ne.mpr c17
                            have H' := Aside0.mk H
                            clear H
                            have p15 : 0 ≤ ((ji12) : Int) := of_decide_eq_true (by first | (with_reducible assumption) | assumption)
                            have q15 : (ji12) < (((rd_T32 l0 x3_1).f1).size : Int) := of_decide_eq_true (by first | (with_reducible assumption) | assumption)
                            have hx15 := bt_at ((rd_T32 l0 x3_1).f1) (ji12)
                            replace p15 := eq_true p15
                            replace q15 := eq_true q15
                            go_wp2
                            repeat (go_quiet (fail); try go_wp2)
                            go_meet
                            case rel => exact ⟨_, (true), (by first | rfl | (simp; done) | (simp [*]; done)), H', ⟨by have := HK1.out; have := HK2.out; first | omega | exact Nat.le_refl _⟩, by repeat (first | exact Drawn0.refl _ | apply Drawn0.step)⟩
                        · rw [if_neg c16] at H
                          have c16b0 : ((bt ((rd_T32 l0 x3_1).f1) (ji12)) == 92) = false := beq_eq_false_iff_ne.mpr c16
                          have c16b1 : ((bt ((rd_T32 l0 x3_1).f1) (ji12)) != 92) = true := bne_iff_ne.mpr c16
                          have H' := Aside0.mk H
                          clear H
                          have p15 : 0 ≤ ((ji12) : Int) := of_decide_eq_true (by first | (with_reducible assumption) | assumption)
                          have q15 : (ji12) < (((rd_T32 l0 x3_1).f1).size : Int) := of_decide_eq_true (by first | (with_reducible assumption) | assumption)
                          have hx15 := bt_at ((rd_T32 l0 x3_1).f1) (ji12)
                          replace p15 := eq_true p15
                          replace q15 := eq_true q15
                          have p19 : 0 ≤ ((ji12) : Int) := of_decide_eq_true (by first | (with_reducible assumption) | assumption)
                          have q19 : (ji12) < (((rd_T32 l0 x3_1).f1).size : Int) := of_decide_eq_true (by first | (with_reducible assumption) | assumption)
                          have hx19 := bt_at ((rd_T32 l0 x3_1).f1) (ji12)
                          replace p19 := eq_true p19
                          replace q19 := eq_true q19
                          go_wp2
                          repeat (go_quiet (fail); try go_wp2)
                          go_meet
                          case rel => exact ⟨_, (false), (by first | rfl | (simp; done) | (simp [*]; done)), H', ⟨by have := HK1.out; have := HK2.out; first | omega | exact Nat.le_refl _⟩, by repeat (first | exact Drawn0.refl _ | apply Drawn0.step)⟩
                      · rw [if_neg c14] at H
                        exact absurd H (by simp)
                    · rw [if_neg c13] at H
                      exact absurd H (by simp)
                  · rw [if_neg c11] at H
                    have c11b0 : decide (0 < (((rd_T32 l0 x3_1).f1).size : Int)) = false := decide_eq_false c11
                    have c11b1 : decide (0 < ((rd_T32 l0 x3_1).f1).size) = false := decide_eq_false (by omega)
                    clear c11
                    (first | rw [c11b0] | (simp only [i64_w, i32_w]; rw [c11b0]) | skip)
                    have H' := Aside0.mk H
                    clear H
                    go_wp2
                    repeat (go_quiet (fail); try go_wp2)
                    go_meet
                    case rel => exact ⟨_, (false), (by first | rfl | (simp; done) | (simp [*]; done)), H', ⟨by have := HK1.out; have := HK2.out; first | omega | exact Nat.le_refl _⟩, by repeat (first | exact Drawn0.refl _ | apply Drawn0.step)⟩
                case rest =>
                  clear HC10
                  try clear c1
                  try clear p1
                  try clear q1
                  try clear hx1
                  try clear c2
                  try clear c2b0
                  try clear p2
                  try clear c3
                  try clear c3b0
                  try clear c4
                  try clear c4b0
                  try clear c5
                  try clear c5b0
                  try clear p6
                  try clear q6
                  try clear hx6
                  try clear c7
                  try clear c7b0
                  try clear c7b1
                  try clear p8
                  try clear q8
                  try clear hx8
                  try clear c9
                  try clear c9b0
                  try clear c9b1
                  try clear c11
                  try clear c11b0
                  try clear c11b1
                  try clear p11
                  try clear q11
                  try clear hx11
                  try clear c13
                  try clear c13b0
                  try clear c14
                  try clear c14b0
                  try clear p15
                  try clear q15
                  try clear hx15
                  try clear c16
                  try clear c16b0
                  try clear c16b1
                  try clear c17
                  try clear c17b0
                  try clear c17b1
                  try clear p18
                  try clear q18
                  try clear hx18
                  try clear p19
                  try clear q19
                  try clear hx19
                  try clear hx115_0
                  try clear hx115_1
                  try clear p1
                  try clear p115
                  try clear p15
                  try clear p18
                  try clear p19
                  try clear p2
                  try clear p6
                  try clear p8
                  try clear q1
                  try clear q115
                  try clear q15
                  try clear q18
                  try clear q19
                  try clear q6
                  try clear q8
                  obtain ⟨kq, x69_9, rfl, HA, HJ9, ⟨mc9, rfl⟩⟩ := hcut
                  cases kq with
                  | zero => exact absurd HA.out (by simp [burinref01_Plain.j2])
                  | succ kj9 =>
                    have H := HA.out
                    clear HA
                    simp only [burinref01_Plain.j2] at H
                    by_cases c20 : x69_9 = true
                    · subst c20
                      have H1 : (some false) = some r := by rw [if_pos rfl] at H; exact H
                      clear H
                      have H := H1
                      clear H1
                      obtain rfl := Option.some.inj H
                      go_wp2
                      repeat (go_quiet (fail); try go_wp2)
                      go_ret
                      exact ⟨by first | rfl | (simp; done) | (simp [*]; done), by repeat (first | exact Drawn0.refl _ | apply Drawn0.step)⟩
                    · replace c20 := Bool.eq_false_iff.mpr c20
                      subst c20
                      have H1 : (if x3_1 = 0 then (if 0 ≤ x3_1 then (if x3_1 < (l0.length : Int) then (if ((rd_T32 l0 x3_1).f0) = 1 then (if x3_1 > 0 then (if 0 ≤ (wrap64 (x3_1 - 1)) then (if (wrap64 (x3_1 - 1)) < (l0.length : Int) then (if ((rd_T32 l0 x3_1).f0) ≤ ((rd_T32 l0 (wrap64 (x3_1 - 1))).f0) then (some false) else (if ((rd_T32 l0 x3_1).f0) > 1000000 then (some false) else (burinref01_Plain.l0 kj9 l0 (wrap64 (x3_1 + 1))))) else (none)) else (none)) else (burinref01_Plain.l0 kj9 l0 (wrap64 (x3_1 + 1)))) else (some false)) else (none)) else (none)) else (if x3_1 > 0 then (if 0 ≤ x3_1 then (if x3_1 < (l0.length : Int) then (if 0 ≤ (wrap64 (x3_1 - 1)) then (if (wrap64 (x3_1 - 1)) < (l0.length : Int) then (if ((rd_T32 l0 x3_1).f0) ≤ ((rd_T32 l0 (wrap64 (x3_1 - 1))).f0) then (some false) else (if ((rd_T32 l0 x3_1).f0) > 1000000 then (some false) else (burinref01_Plain.l0 kj9 l0 (wrap64 (x3_1 + 1))))) else (none)) else (none)) else (none)) else (none)) else (burinref01_Plain.l0 kj9 l0 (wrap64 (x3_1 + 1))))) = some r := by rw [if_neg (show ¬ (false = true) by decide)] at H; exact H
                      clear H
                      have H := H1
                      clear H1
                      by_cases c21 : x3_1 = 0
                      · rw [if_pos c21] at H
                        have c21b0 : (x3_1 == 0) = true := beq_iff_eq.mpr c21
                        have c21b1 : (x3_1 != 0) = false := bne_eq_false_iff_eq.mpr c21
                        clear c21
                        by_cases c22 : 0 ≤ x3_1
                        · rw [if_pos c22] at H
                          have c22b0 : decide (0 ≤ x3_1) = true := decide_eq_true c22
                          clear c22
                          by_cases c23 : x3_1 < (l0.length : Int)
                          · rw [if_pos c23] at H
                            have c23b0 : decide (x3_1 < (l0.length : Int)) = true := decide_eq_true c23
                            clear c23
                            by_cases c24 : ((rd_T32 l0 x3_1).f0) = 1
                            · rw [if_pos c24] at H
                              have c24b0 : (((rd_T32 l0 x3_1).f0) == 1) = true := beq_iff_eq.mpr c24
                              have c24b1 : (((rd_T32 l0 x3_1).f0) != 1) = false := bne_eq_false_iff_eq.mpr c24
                              clear c24
                              by_cases c25 : x3_1 > 0
                              · rw [if_pos c25] at H
                                have c25b0 : decide (0 < x3_1) = true := decide_eq_true c25
                                clear c25
                                obtain ⟨ji26, hji26⟩ : ∃ j_ : Int, (wrap64 (x3_1 - 1)) = j_ := ⟨_, rfl⟩
                                replace H : (if 0 ≤ (ji26) then (if (ji26) < (l0.length : Int) then (if ((rd_T32 l0 x3_1).f0) ≤ ((rd_T32 l0 (ji26)).f0) then (some false) else (if ((rd_T32 l0 x3_1).f0) > 1000000 then (some false) else (burinref01_Plain.l0 kj9 l0 (wrap64 (x3_1 + 1))))) else (none)) else (none)) = some r := by first | (rw [hji26] at H; exact H) | (simp only [hji26] at H ⊢; exact H)
                                have hji26w : (IntKind.i64.wrap (x3_1 - 1)) = ji26 := (i64_w _).trans hji26
                                by_cases c27 : 0 ≤ (ji26)
                                · rw [if_pos c27] at H
                                  have c27b0 : decide (0 ≤ (ji26)) = true := decide_eq_true c27
                                  clear c27
                                  by_cases c28 : (ji26) < (l0.length : Int)
                                  · rw [if_pos c28] at H
                                    have c28b0 : decide ((ji26) < (l0.length : Int)) = true := decide_eq_true c28
                                    clear c28
                                    by_cases c29 : ((rd_T32 l0 x3_1).f0) ≤ ((rd_T32 l0 (ji26)).f0)
                                    · rw [if_pos c29] at H
                                      have c29b0 : decide (((rd_T32 l0 x3_1).f0) ≤ ((rd_T32 l0 (ji26)).f0)) = true := decide_eq_true c29
                                      clear c29
                                      obtain rfl := Option.some.inj H
                                      have p116 : 0 ≤ (x3_1 : Int) := of_decide_eq_true (by first | (with_reducible assumption) | assumption)
                                      have q116 : x3_1 < (l0.length : Int) := of_decide_eq_true (by first | (with_reducible assumption) | assumption)
                                      obtain ⟨ad116, e116, hx116_0, hx116_1⟩ := at_T32 HR0.out x3_1 p116 q116
                                      obtain rfl : ad115 = ad116 := (by injection e116)
                                      replace p116 := eq_true p116
                                      replace q116 := eq_true q116
                                      have p117 : 0 ≤ (x3_1 : Int) := of_decide_eq_true (by first | (with_reducible assumption) | assumption)
                                      have q117 : x3_1 < (l0.length : Int) := of_decide_eq_true (by first | (with_reducible assumption) | assumption)
                                      obtain ⟨ad117, e117, hx117_0, hx117_1⟩ := at_T32 HR0.out x3_1 p117 q117
                                      obtain rfl : ad115 = ad117 := (by injection e117)
                                      replace p117 := eq_true p117
                                      replace q117 := eq_true q117
                                      have p118 : 0 ≤ ((ji26) : Int) := of_decide_eq_true (by first | (with_reducible assumption) | assumption)
                                      have q118 : (ji26) < (l0.length : Int) := of_decide_eq_true (by first | (with_reducible assumption) | assumption)
                                      obtain ⟨ad118, e118, hx118_0, hx118_1⟩ := at_T32 HR0.out (ji26) p118 q118
                                      obtain rfl : ad115 = ad118 := (by injection e118)
                                      replace p118 := eq_true p118
                                      replace q118 := eq_true q118
                                      go_wp2
                                      repeat (go_quiet (fail); try go_wp2)
                                      go_ret
                                      exact ⟨by first | rfl | (simp; done) | (simp only [← hji26] <;> (first | rfl | simp)) | (simp [*]; done), by repeat (first | exact Drawn0.refl _ | apply Drawn0.step)⟩
                                    · rw [if_neg c29] at H
                                      have c29b0 : decide (((rd_T32 l0 x3_1).f0) ≤ ((rd_T32 l0 (ji26)).f0)) = false := decide_eq_false c29
                                      clear c29
                                      by_cases c30 : ((rd_T32 l0 x3_1).f0) > 1000000
                                      · rw [if_pos c30] at H
                                        have c30b0 : decide (1000000 < ((rd_T32 l0 x3_1).f0)) = true := decide_eq_true c30
                                        clear c30
                                        obtain rfl := Option.some.inj H
                                        have p116 : 0 ≤ (x3_1 : Int) := of_decide_eq_true (by first | (with_reducible assumption) | assumption)
                                        have q116 : x3_1 < (l0.length : Int) := of_decide_eq_true (by first | (with_reducible assumption) | assumption)
                                        obtain ⟨ad116, e116, hx116_0, hx116_1⟩ := at_T32 HR0.out x3_1 p116 q116
                                        obtain rfl : ad115 = ad116 := (by injection e116)
                                        replace p116 := eq_true p116
                                        replace q116 := eq_true q116
                                        have p117 : 0 ≤ (x3_1 : Int) := of_decide_eq_true (by first | (with_reducible assumption) | assumption)
                                        have q117 : x3_1 < (l0.length : Int) := of_decide_eq_true (by first | (with_reducible assumption) | assumption)
                                        obtain ⟨ad117, e117, hx117_0, hx117_1⟩ := at_T32 HR0.out x3_1 p117 q117
                                        obtain rfl : ad115 = ad117 := (by injection e117)
                                        replace p117 := eq_true p117
                                        replace q117 := eq_true q117
                                        have p118 : 0 ≤ ((ji26) : Int) := of_decide_eq_true (by first | (with_reducible assumption) | assumption)
                                        have q118 : (ji26) < (l0.length : Int) := of_decide_eq_true (by first | (with_reducible assumption) | assumption)
                                        obtain ⟨ad118, e118, hx118_0, hx118_1⟩ := at_T32 HR0.out (ji26) p118 q118
                                        obtain rfl : ad115 = ad118 := (by injection e118)
                                        replace p118 := eq_true p118
                                        replace q118 := eq_true q118
                                        have p119 : 0 ≤ (x3_1 : Int) := of_decide_eq_true (by first | (with_reducible assumption) | assumption)
                                        have q119 : x3_1 < (l0.length : Int) := of_decide_eq_true (by first | (with_reducible assumption) | assumption)
                                        obtain ⟨ad119, e119, hx119_0, hx119_1⟩ := at_T32 HR0.out x3_1 p119 q119
                                        obtain rfl : ad115 = ad119 := (by injection e119)
                                        replace p119 := eq_true p119
                                        replace q119 := eq_true q119
                                        go_wp2
                                        repeat (go_quiet (fail); try go_wp2)
                                        go_ret
                                        exact ⟨by first | rfl | (simp; done) | (simp only [← hji26] <;> (first | rfl | simp)) | (simp [*]; done), by repeat (first | exact Drawn0.refl _ | apply Drawn0.step)⟩
                                      · rw [if_neg c30] at H
                                        have c30b0 : decide (1000000 < ((rd_T32 l0 x3_1).f0)) = false := decide_eq_false c30
                                        clear c30
                                        have H' := Aside0.mk H
                                        clear H
                                        have p116 : 0 ≤ (x3_1 : Int) := of_decide_eq_true (by first | (with_reducible assumption) | assumption)
                                        have q116 : x3_1 < (l0.length : Int) := of_decide_eq_true (by first | (with_reducible assumption) | assumption)
                                        obtain ⟨ad116, e116, hx116_0, hx116_1⟩ := at_T32 HR0.out x3_1 p116 q116
                                        obtain rfl : ad115 = ad116 := (by injection e116)
                                        replace p116 := eq_true p116
                                        replace q116 := eq_true q116
                                        have p117 : 0 ≤ (x3_1 : Int) := of_decide_eq_true (by first | (with_reducible assumption) | assumption)
                                        have q117 : x3_1 < (l0.length : Int) := of_decide_eq_true (by first | (with_reducible assumption) | assumption)
                                        obtain ⟨ad117, e117, hx117_0, hx117_1⟩ := at_T32 HR0.out x3_1 p117 q117
                                        obtain rfl : ad115 = ad117 := (by injection e117)
                                        replace p117 := eq_true p117
                                        replace q117 := eq_true q117
                                        have p118 : 0 ≤ ((ji26) : Int) := of_decide_eq_true (by first | (with_reducible assumption) | assumption)
                                        have q118 : (ji26) < (l0.length : Int) := of_decide_eq_true (by first | (with_reducible assumption) | assumption)
                                        obtain ⟨ad118, e118, hx118_0, hx118_1⟩ := at_T32 HR0.out (ji26) p118 q118
                                        obtain rfl : ad115 = ad118 := (by injection e118)
                                        replace p118 := eq_true p118
                                        replace q118 := eq_true q118
                                        have p119 : 0 ≤ (x3_1 : Int) := of_decide_eq_true (by first | (with_reducible assumption) | assumption)
                                        have q119 : x3_1 < (l0.length : Int) := of_decide_eq_true (by first | (with_reducible assumption) | assumption)
                                        obtain ⟨ad119, e119, hx119_0, hx119_1⟩ := at_T32 HR0.out x3_1 p119 q119
                                        obtain rfl : ad115 = ad119 := (by injection e119)
                                        replace p119 := eq_true p119
                                        replace q119 := eq_true q119
                                        go_wp2
                                        repeat (go_quiet (fail); try go_wp2)
                                        go_roundg kj9
                                        case measure => have := HK1.out; have := HK2.out; have := HJ9.out; omega
                                        case rel => exact ⟨(wrap64 (x3_1 + 1)), (by first | rfl | (simp; done) | (simp [*]; done)), H', ⟨by have := HK1.out; have := HK2.out; have := HJ9.out; omega⟩, by repeat (first | exact Drawn0.refl _ | apply Drawn0.step)⟩
                                  · rw [if_neg c28] at H
                                    exact absurd H (by simp)
                                · rw [if_neg c27] at H
                                  exact absurd H (by simp)
                              · rw [if_neg c25] at H
                                have c25b0 : decide (0 < x3_1) = false := decide_eq_false c25
                                clear c25
                                have H' := Aside0.mk H
                                clear H
                                have p116 : 0 ≤ (x3_1 : Int) := of_decide_eq_true (by first | (with_reducible assumption) | assumption)
                                have q116 : x3_1 < (l0.length : Int) := of_decide_eq_true (by first | (with_reducible assumption) | assumption)
                                obtain ⟨ad116, e116, hx116_0, hx116_1⟩ := at_T32 HR0.out x3_1 p116 q116
                                obtain rfl : ad115 = ad116 := (by injection e116)
                                replace p116 := eq_true p116
                                replace q116 := eq_true q116
                                go_wp2
                                repeat (go_quiet (fail); try go_wp2)
                                go_roundg kj9
                                case measure => have := HK1.out; have := HK2.out; have := HJ9.out; omega
                                case rel => exact ⟨(wrap64 (x3_1 + 1)), (by first | rfl | (simp; done) | (simp [*]; done)), H', ⟨by have := HK1.out; have := HK2.out; have := HJ9.out; omega⟩, by repeat (first | exact Drawn0.refl _ | apply Drawn0.step)⟩
                            · rw [if_neg c24] at H
                              have c24b0 : (((rd_T32 l0 x3_1).f0) == 1) = false := beq_eq_false_iff_ne.mpr c24
                              have c24b1 : (((rd_T32 l0 x3_1).f0) != 1) = true := bne_iff_ne.mpr c24
                              obtain rfl := Option.some.inj H
                              have p116 : 0 ≤ (x3_1 : Int) := of_decide_eq_true (by first | (with_reducible assumption) | assumption)
                              have q116 : x3_1 < (l0.length : Int) := of_decide_eq_true (by first | (with_reducible assumption) | assumption)
                              obtain ⟨ad116, e116, hx116_0, hx116_1⟩ := at_T32 HR0.out x3_1 p116 q116
                              obtain rfl : ad115 = ad116 := (by injection e116)
                              replace p116 := eq_true p116
                              replace q116 := eq_true q116
                              go_wp2
                              repeat (go_quiet (fail); try go_wp2)
                              go_ret
                              exact ⟨by first | rfl | (simp; done) | (simp [*]; done), by repeat (first | exact Drawn0.refl _ | apply Drawn0.step)⟩
                          · rw [if_neg c23] at H
                            exact absurd H (by simp)
                        · rw [if_neg c22] at H
                          exact absurd H (by simp)
                      · rw [if_neg c21] at H
                        have c21b0 : (x3_1 == 0) = false := beq_eq_false_iff_ne.mpr c21
                        have c21b1 : (x3_1 != 0) = true := bne_iff_ne.mpr c21
                        by_cases c31 : x3_1 > 0
                        · rw [if_pos c31] at H
                          have c31b0 : decide (0 < x3_1) = true := decide_eq_true c31
                          clear c31
                          by_cases c32 : 0 ≤ x3_1
                          · rw [if_pos c32] at H
                            have c32b0 : decide (0 ≤ x3_1) = true := decide_eq_true c32
                            clear c32
                            by_cases c33 : x3_1 < (l0.length : Int)
                            · rw [if_pos c33] at H
                              have c33b0 : decide (x3_1 < (l0.length : Int)) = true := decide_eq_true c33
                              clear c33
                              obtain ⟨ji34, hji34⟩ : ∃ j_ : Int, (wrap64 (x3_1 - 1)) = j_ := ⟨_, rfl⟩
                              replace H : (if 0 ≤ (ji34) then (if (ji34) < (l0.length : Int) then (if ((rd_T32 l0 x3_1).f0) ≤ ((rd_T32 l0 (ji34)).f0) then (some false) else (if ((rd_T32 l0 x3_1).f0) > 1000000 then (some false) else (burinref01_Plain.l0 kj9 l0 (wrap64 (x3_1 + 1))))) else (none)) else (none)) = some r := by first | (rw [hji34] at H; exact H) | (simp only [hji34] at H ⊢; exact H)
                              have hji34w : (IntKind.i64.wrap (x3_1 - 1)) = ji34 := (i64_w _).trans hji34
                              by_cases c35 : 0 ≤ (ji34)
                              · rw [if_pos c35] at H
                                have c35b0 : decide (0 ≤ (ji34)) = true := decide_eq_true c35
                                clear c35
                                by_cases c36 : (ji34) < (l0.length : Int)
                                · rw [if_pos c36] at H
                                  have c36b0 : decide ((ji34) < (l0.length : Int)) = true := decide_eq_true c36
                                  clear c36
                                  by_cases c37 : ((rd_T32 l0 x3_1).f0) ≤ ((rd_T32 l0 (ji34)).f0)
                                  · rw [if_pos c37] at H
                                    have c37b0 : decide (((rd_T32 l0 x3_1).f0) ≤ ((rd_T32 l0 (ji34)).f0)) = true := decide_eq_true c37
                                    clear c37
                                    obtain rfl := Option.some.inj H
                                    have p120 : 0 ≤ (x3_1 : Int) := of_decide_eq_true (by first | (with_reducible assumption) | assumption)
                                    have q120 : x3_1 < (l0.length : Int) := of_decide_eq_true (by first | (with_reducible assumption) | assumption)
                                    obtain ⟨ad120, e120, hx120_0, hx120_1⟩ := at_T32 HR0.out x3_1 p120 q120
                                    obtain rfl : ad115 = ad120 := (by injection e120)
                                    replace p120 := eq_true p120
                                    replace q120 := eq_true q120
                                    have p121 : 0 ≤ ((ji34) : Int) := of_decide_eq_true (by first | (with_reducible assumption) | assumption)
                                    have q121 : (ji34) < (l0.length : Int) := of_decide_eq_true (by first | (with_reducible assumption) | assumption)
                                    obtain ⟨ad121, e121, hx121_0, hx121_1⟩ := at_T32 HR0.out (ji34) p121 q121
                                    obtain rfl : ad115 = ad121 := (by injection e121)
                                    replace p121 := eq_true p121
                                    replace q121 := eq_true q121
                                    go_wp2
                                    repeat (go_quiet (fail); try go_wp2)
                                    go_ret
                                    exact ⟨by first | rfl | (simp; done) | (simp only [← hji34] <;> (first | rfl | simp)) | (simp [*]; done), by repeat (first | exact Drawn0.refl _ | apply Drawn0.step)⟩
                                  · rw [if_neg c37] at H
                                    have c37b0 : decide (((rd_T32 l0 x3_1).f0) ≤ ((rd_T32 l0 (ji34)).f0)) = false := decide_eq_false c37
                                    clear c37
                                    by_cases c38 : ((rd_T32 l0 x3_1).f0) > 1000000
                                    · rw [if_pos c38] at H
                                      have c38b0 : decide (1000000 < ((rd_T32 l0 x3_1).f0)) = true := decide_eq_true c38
                                      clear c38
                                      obtain rfl := Option.some.inj H
                                      have p120 : 0 ≤ (x3_1 : Int) := of_decide_eq_true (by first | (with_reducible assumption) | assumption)
                                      have q120 : x3_1 < (l0.length : Int) := of_decide_eq_true (by first | (with_reducible assumption) | assumption)
                                      obtain ⟨ad120, e120, hx120_0, hx120_1⟩ := at_T32 HR0.out x3_1 p120 q120
                                      obtain rfl : ad115 = ad120 := (by injection e120)
                                      replace p120 := eq_true p120
                                      replace q120 := eq_true q120
                                      have p121 : 0 ≤ ((ji34) : Int) := of_decide_eq_true (by first | (with_reducible assumption) | assumption)
                                      have q121 : (ji34) < (l0.length : Int) := of_decide_eq_true (by first | (with_reducible assumption) | assumption)
                                      obtain ⟨ad121, e121, hx121_0, hx121_1⟩ := at_T32 HR0.out (ji34) p121 q121
                                      obtain rfl : ad115 = ad121 := (by injection e121)
                                      replace p121 := eq_true p121
                                      replace q121 := eq_true q121
                                      have p122 : 0 ≤ (x3_1 : Int) := of_decide_eq_true (by first | (with_reducible assumption) | assumption)
                                      have q122 : x3_1 < (l0.length : Int) := of_decide_eq_true (by first | (with_reducible assumption) | assumption)
                                      obtain ⟨ad122, e122, hx122_0, hx122_1⟩ := at_T32 HR0.out x3_1 p122 q122
                                      obtain rfl : ad115 = ad122 := (by injection e122)
                                      replace p122 := eq_true p122
                                      replace q122 := eq_true q122
                                      go_wp2
                                      repeat (go_quiet (fail); try go_wp2)
                                      go_ret
                                      exact ⟨by first | rfl | (simp; done) | (simp only [← hji34] <;> (first | rfl | simp)) | (simp [*]; done), by repeat (first | exact Drawn0.refl _ | apply Drawn0.step)⟩
                                    · rw [if_neg c38] at H
                                      have c38b0 : decide (1000000 < ((rd_T32 l0 x3_1).f0)) = false := decide_eq_false c38
                                      clear c38
                                      have H' := Aside0.mk H
                                      clear H
                                      have p120 : 0 ≤ (x3_1 : Int) := of_decide_eq_true (by first | (with_reducible assumption) | assumption)
                                      have q120 : x3_1 < (l0.length : Int) := of_decide_eq_true (by first | (with_reducible assumption) | assumption)
                                      obtain ⟨ad120, e120, hx120_0, hx120_1⟩ := at_T32 HR0.out x3_1 p120 q120
                                      obtain rfl : ad115 = ad120 := (by injection e120)
                                      replace p120 := eq_true p120
                                      replace q120 := eq_true q120
                                      have p121 : 0 ≤ ((ji34) : Int) := of_decide_eq_true (by first | (with_reducible assumption) | assumption)
                                      have q121 : (ji34) < (l0.length : Int) := of_decide_eq_true (by first | (with_reducible assumption) | assumption)
                                      obtain ⟨ad121, e121, hx121_0, hx121_1⟩ := at_T32 HR0.out (ji34) p121 q121
                                      obtain rfl : ad115 = ad121 := (by injection e121)
                                      replace p121 := eq_true p121
                                      replace q121 := eq_true q121
                                      have p122 : 0 ≤ (x3_1 : Int) := of_decide_eq_true (by first | (with_reducible assumption) | assumption)
                                      have q122 : x3_1 < (l0.length : Int) := of_decide_eq_true (by first | (with_reducible assumption) | assumption)
                                      obtain ⟨ad122, e122, hx122_0, hx122_1⟩ := at_T32 HR0.out x3_1 p122 q122
                                      obtain rfl : ad115 = ad122 := (by injection e122)
                                      replace p122 := eq_true p122
                                      replace q122 := eq_true q122
                                      go_wp2
                                      repeat (go_quiet (fail); try go_wp2)
                                      go_roundg kj9
                                      case measure => have := HK1.out; have := HK2.out; have := HJ9.out; omega
                                      case rel => exact ⟨(wrap64 (x3_1 + 1)), (by first | rfl | (simp; done) | (simp [*]; done)), H', ⟨by have := HK1.out; have := HK2.out; have := HJ9.out; omega⟩, by repeat (first | exact Drawn0.refl _ | apply Drawn0.step)⟩
                                · rw [if_neg c36] at H
                                  exact absurd H (by simp)
                              · rw [if_neg c35] at H
                                exact absurd H (by simp)
                            · rw [if_neg c33] at H
                              exact absurd H (by simp)
                          · rw [if_neg c32] at H
                            exact absurd H (by simp)
                        · rw [if_neg c31] at H
                          have c31b0 : decide (0 < x3_1) = false := decide_eq_false c31
                          clear c31
                          have H' := Aside0.mk H
                          clear H
                          go_wp2
                          repeat (go_quiet (fail); try go_wp2)
                          go_roundg kj9
                          case measure => have := HK1.out; have := HK2.out; have := HJ9.out; omega
                          case rel => exact ⟨(wrap64 (x3_1 + 1)), (by first | rfl | (simp; done) | (simp [*]; done)), H', ⟨by have := HK1.out; have := HK2.out; have := HJ9.out; omega⟩, by repeat (first | exact Drawn0.refl _ | apply Drawn0.step)⟩
        · rw [if_neg c3] at H
          exact absurd H (by simp)
      · rw [if_neg c2] at H
        have c2b0 : decide (x3_1 < (l0.length : Int)) = false := decide_eq_false c2
        clear c2
        obtain rfl := Option.some.inj H
        go_wp2
        repeat (go_quiet (fail); try go_wp2)
        go_ret
        exact ⟨by first | rfl | (simp; done) | (simp [*]; done), by repeat (first | exact Drawn0.refl _ | apply Drawn0.step)⟩

-- NOT PRINTED: function 36 (abi_NoEscape)

-- NOT PRINTED: function 30 (strings_Builder_copyCheck)

-- NOT PRINTED: function 22 (strings_Builder_WriteString)

-- NOT PRINTED: function 23 (strings_Builder_Len)

-- NOT PRINTED: function 24 (strings_Builder_String)

end Go.Proofs.Ytgipfcdmhdljgaa.PB
