-- Printed by a program of this repo's wip/tools (a variant of the kit's print): Lean checks it.
import Derived.Test.YtbbepiechehojaaDoorPAx0
namespace Go.Proofs.YtbbepiechehojaaDoor.PA
open Go.RowKit Go.Proofs.YtbbepiechehojaaDoorX Go.Proofs.YtbbepiechehojaaDoorW.PrintWords Go.Proofs.YtbbepiechehojaaDoorW.PrintLast Go.Proofs.YtbbepiechehojaaDoorW.PrintMore
attribute [local go_sem] max2_int min2_int max_two min_two max_three min_three max_four min_four   -- for this text's walks alone
set_option linter.unusedVariables false
set_option linter.unusedSimpArgs false

/-! ### burinref09_Sign: function 10 -/
def burinref09_Sign.j0 : Nat → Int → Bool → Option (ByteArray)
  | 0, _, _ => none
  | k + 1, x3, x6 => if x6 = true then (some (⟨#[45]⟩ : ByteArray)) else (if x3 = 3 then (some (⟨#[42]⟩ : ByteArray)) else (if x3 = 4 then (some (⟨#[47]⟩ : ByteArray)) else (if x3 = 5 then (some (⟨#[37]⟩ : ByteArray)) else (if x3 = 6 then (some (⟨#[60, 60]⟩ : ByteArray)) else (if x3 = 7 then (some (⟨#[62, 62]⟩ : ByteArray)) else (if x3 = 8 then (some (⟨#[38]⟩ : ByteArray)) else (if x3 = 9 then (some (⟨#[94]⟩ : ByteArray)) else (if x3 = 10 then (some (⟨#[124]⟩ : ByteArray)) else (if x3 = 11 then (some (⟨#[60]⟩ : ByteArray)) else (if x3 = 12 then (some (⟨#[60, 61]⟩ : ByteArray)) else (if x3 = 13 then (some (⟨#[61, 61]⟩ : ByteArray)) else (if x3 = 14 then (some (⟨#[33, 61]⟩ : ByteArray)) else (if x3 = 16 then (some (⟨#[126]⟩ : ByteArray)) else (if x3 = 17 then (some (⟨#[33]⟩ : ByteArray)) else (some (⟨#[]⟩ : ByteArray))))))))))))))))
def burinref09_Sign.f (k : Nat) (a0 : Int) : Option (ByteArray) := if a0 = 1 then (some (⟨#[43]⟩ : ByteArray)) else (if a0 = 2 then (burinref09_Sign.j0 k a0 (a0 == 2)) else (burinref09_Sign.j0 k a0 (a0 == 15)))
theorem burinref09_Sign.mono_l : ∀ k, (∀ y0 y1, LeO (burinref09_Sign.j0 k y0 y1) (burinref09_Sign.j0 (k + 1) y0 y1))
  | 0 => fun _ _ r h => by simp [burinref09_Sign.j0] at h
  | k + 1 => by
    have ih0 := burinref09_Sign.mono_l k
    · intro y0 y1
      unfold burinref09_Sign.j0
      repeat' first
      | (with_reducible exact ih0 _ _)
      | (with_reducible exact LeO.refl _)
      | (with_reducible exact LeO.none _)
      | (with_reducible refine LeO.ite ?_ ?_)
      | (with_reducible refine LeO.bind ?_ (fun _ => ?_))
      | exact ih0 _ _
      | exact LeO.none _
      | refine LeO.ite ?_ ?_
      | refine LeO.bind ?_ (fun _ => ?_)
theorem burinref09_Sign.mono : ∀ a0 k, LeO (burinref09_Sign.f k a0) (burinref09_Sign.f (k + 1) a0) := by
  intro a0 k
  have ih0 := burinref09_Sign.mono_l k
  unfold burinref09_Sign.f
  repeat' first
      | (with_reducible exact ih0 _ _)
      | (with_reducible exact LeO.refl _)
      | (with_reducible exact LeO.none _)
      | (with_reducible refine LeO.ite ?_ ?_)
      | (with_reducible refine LeO.bind ?_ (fun _ => ?_))
      | exact ih0 _ _
      | exact LeO.none _
      | refine LeO.ite ?_ ?_
      | refine LeO.bind ?_ (fun _ => ?_)
set_option maxHeartbeats 8000000 in
set_option maxRecDepth 100000 in
theorem burinref09_Sign.calls (k : Nat) (a0 : Int) (r : ByteArray) (w : World) (h : burinref09_Sign.f k a0 = some r) :
    Calls Tryd.prog 10 #[.int .i64 a0] w fun e w' => e = .returned (.string r) ∧ Drawn0 w w' := by
  have H : (if a0 = 1 then (some (⟨#[43]⟩ : ByteArray)) else (if a0 = 2 then (burinref09_Sign.j0 k a0 (a0 == 2)) else (burinref09_Sign.j0 k a0 (a0 == 15)))) = some r := h
  clear h
  by_cases c2 : a0 = 1
  · rw [if_pos c2] at H
    have c2b0 : (a0 == 1) = true := beq_iff_eq.mpr c2
    have c2b1 : (a0 != 1) = false := bne_eq_false_iff_eq.mpr c2
    clear c2
    obtain rfl := Option.some.inj H
    go_enter Tryd.func10, Tryd.ntmps10
    go_wp2
    go_ret
    exact ⟨by first | rfl | (simp; done) | (simp [*]; done), by repeat (first | exact Drawn0.refl _ | apply Drawn0.step)⟩
  · rw [if_neg c2] at H
    have c2b0 : (a0 == 1) = false := beq_eq_false_iff_ne.mpr c2
    have c2b1 : (a0 != 1) = true := bne_iff_ne.mpr c2
    have HC3 := Aside0.mk H
    clear H
    go_enter Tryd.func10, Tryd.ntmps10
    go_upto_if 6 with (fail)
    go_cut [6] (fun v6 wc => ∃ (kq : Nat) (x6_2 : Bool), v6 = .bool x6_2 ∧ Aside0 (burinref09_Sign.j0 kq a0 x6_2 = some r) ∧ Aside0 (kq ≤ k) ∧ Drawn0 w wc)
    case first =>
      have H := HC3.out
      clear HC3
      by_cases c4 : a0 = 2
      · rw [if_pos c4] at H
        have c4b0 : (a0 == 2) = true := beq_iff_eq.mpr c4
        have c4b1 : (a0 != 2) = false := bne_eq_false_iff_eq.mpr c4
        clear c4
        (first | rw [c4b0] | (simp only [i64_w, i32_w]; rw [c4b0]) | skip)
        have H' := Aside0.mk H
        clear H
        go_wp2
        go_meet
        case rel => exact ⟨_, ((a0 == 2)), (by first | rfl | (simp; done) | (simp [*]; done)), H', ⟨by first | omega | exact Nat.le_refl _⟩, by repeat (first | exact Drawn0.refl _ | apply Drawn0.step)⟩
      · rw [if_neg c4] at H
        have c4b0 : (a0 == 2) = false := beq_eq_false_iff_ne.mpr c4
        have c4b1 : (a0 != 2) = true := bne_iff_ne.mpr c4
        (first | rw [c4b0] | (simp only [i64_w, i32_w]; rw [c4b0]) | skip)
        have H' := Aside0.mk H
        clear H
        go_wp2
        go_meet
        case rel => exact ⟨_, ((a0 == 15)), (by first | rfl | (simp; done) | (simp [*]; done)), H', ⟨by first | omega | exact Nat.le_refl _⟩, by repeat (first | exact Drawn0.refl _ | apply Drawn0.step)⟩
    case rest =>
      clear HC3
      try clear c1
      try clear c2
      try clear c2b0
      try clear c2b1
      try clear p2
      try clear c4
      try clear c4b0
      try clear c4b1
      obtain ⟨kq, x6_2, rfl, HA, HJ2, ⟨mc2, rfl⟩⟩ := hcut
      cases kq with
      | zero => exact absurd HA.out (by simp [burinref09_Sign.j0])
      | succ kj2 =>
        have H := HA.out
        clear HA
        simp only [burinref09_Sign.j0] at H
        by_cases c5 : x6_2 = true
        · subst c5
          have H1 : (some (⟨#[45]⟩ : ByteArray)) = some r := by rw [if_pos rfl] at H; exact H
          clear H
          have H := H1
          clear H1
          obtain rfl := Option.some.inj H
          go_wp2
          go_ret
          exact ⟨by first | rfl | (simp; done) | (simp [*]; done), by repeat (first | exact Drawn0.refl _ | apply Drawn0.step)⟩
        · replace c5 := Bool.eq_false_iff.mpr c5
          subst c5
          have H1 : (if a0 = 3 then (some (⟨#[42]⟩ : ByteArray)) else (if a0 = 4 then (some (⟨#[47]⟩ : ByteArray)) else (if a0 = 5 then (some (⟨#[37]⟩ : ByteArray)) else (if a0 = 6 then (some (⟨#[60, 60]⟩ : ByteArray)) else (if a0 = 7 then (some (⟨#[62, 62]⟩ : ByteArray)) else (if a0 = 8 then (some (⟨#[38]⟩ : ByteArray)) else (if a0 = 9 then (some (⟨#[94]⟩ : ByteArray)) else (if a0 = 10 then (some (⟨#[124]⟩ : ByteArray)) else (if a0 = 11 then (some (⟨#[60]⟩ : ByteArray)) else (if a0 = 12 then (some (⟨#[60, 61]⟩ : ByteArray)) else (if a0 = 13 then (some (⟨#[61, 61]⟩ : ByteArray)) else (if a0 = 14 then (some (⟨#[33, 61]⟩ : ByteArray)) else (if a0 = 16 then (some (⟨#[126]⟩ : ByteArray)) else (if a0 = 17 then (some (⟨#[33]⟩ : ByteArray)) else (some (⟨#[]⟩ : ByteArray)))))))))))))))) = some r := by rw [if_neg (show ¬ (false = true) by decide)] at H; exact H
          clear H
          have H := H1
          clear H1
          by_cases c6 : a0 = 3
          · rw [if_pos c6] at H
            have c6b0 : (a0 == 3) = true := beq_iff_eq.mpr c6
            have c6b1 : (a0 != 3) = false := bne_eq_false_iff_eq.mpr c6
            clear c6
            obtain rfl := Option.some.inj H
            go_wp2
            go_ret
            exact ⟨by first | rfl | (simp; done) | (simp [*]; done), by repeat (first | exact Drawn0.refl _ | apply Drawn0.step)⟩
          · rw [if_neg c6] at H
            have c6b0 : (a0 == 3) = false := beq_eq_false_iff_ne.mpr c6
            have c6b1 : (a0 != 3) = true := bne_iff_ne.mpr c6
            by_cases c7 : a0 = 4
            · rw [if_pos c7] at H
              have c7b0 : (a0 == 4) = true := beq_iff_eq.mpr c7
              have c7b1 : (a0 != 4) = false := bne_eq_false_iff_eq.mpr c7
              clear c7
              obtain rfl := Option.some.inj H
              go_wp2
              go_ret
              exact ⟨by first | rfl | (simp; done) | (simp [*]; done), by repeat (first | exact Drawn0.refl _ | apply Drawn0.step)⟩
            · rw [if_neg c7] at H
              have c7b0 : (a0 == 4) = false := beq_eq_false_iff_ne.mpr c7
              have c7b1 : (a0 != 4) = true := bne_iff_ne.mpr c7
              by_cases c8 : a0 = 5
              · rw [if_pos c8] at H
                have c8b0 : (a0 == 5) = true := beq_iff_eq.mpr c8
                have c8b1 : (a0 != 5) = false := bne_eq_false_iff_eq.mpr c8
                clear c8
                obtain rfl := Option.some.inj H
                go_wp2
                go_ret
                exact ⟨by first | rfl | (simp; done) | (simp [*]; done), by repeat (first | exact Drawn0.refl _ | apply Drawn0.step)⟩
              · rw [if_neg c8] at H
                have c8b0 : (a0 == 5) = false := beq_eq_false_iff_ne.mpr c8
                have c8b1 : (a0 != 5) = true := bne_iff_ne.mpr c8
                by_cases c9 : a0 = 6
                · rw [if_pos c9] at H
                  have c9b0 : (a0 == 6) = true := beq_iff_eq.mpr c9
                  have c9b1 : (a0 != 6) = false := bne_eq_false_iff_eq.mpr c9
                  clear c9
                  obtain rfl := Option.some.inj H
                  go_wp2
                  go_ret
                  exact ⟨by first | rfl | (simp; done) | (simp [*]; done), by repeat (first | exact Drawn0.refl _ | apply Drawn0.step)⟩
                · rw [if_neg c9] at H
                  have c9b0 : (a0 == 6) = false := beq_eq_false_iff_ne.mpr c9
                  have c9b1 : (a0 != 6) = true := bne_iff_ne.mpr c9
                  by_cases c10 : a0 = 7
                  · rw [if_pos c10] at H
                    have c10b0 : (a0 == 7) = true := beq_iff_eq.mpr c10
                    have c10b1 : (a0 != 7) = false := bne_eq_false_iff_eq.mpr c10
                    clear c10
                    obtain rfl := Option.some.inj H
                    go_wp2
                    go_ret
                    exact ⟨by first | rfl | (simp; done) | (simp [*]; done), by repeat (first | exact Drawn0.refl _ | apply Drawn0.step)⟩
                  · rw [if_neg c10] at H
                    have c10b0 : (a0 == 7) = false := beq_eq_false_iff_ne.mpr c10
                    have c10b1 : (a0 != 7) = true := bne_iff_ne.mpr c10
                    by_cases c11 : a0 = 8
                    · rw [if_pos c11] at H
                      have c11b0 : (a0 == 8) = true := beq_iff_eq.mpr c11
                      have c11b1 : (a0 != 8) = false := bne_eq_false_iff_eq.mpr c11
                      clear c11
                      obtain rfl := Option.some.inj H
                      go_wp2
                      go_ret
                      exact ⟨by first | rfl | (simp; done) | (simp [*]; done), by repeat (first | exact Drawn0.refl _ | apply Drawn0.step)⟩
                    · rw [if_neg c11] at H
                      have c11b0 : (a0 == 8) = false := beq_eq_false_iff_ne.mpr c11
                      have c11b1 : (a0 != 8) = true := bne_iff_ne.mpr c11
                      by_cases c12 : a0 = 9
                      · rw [if_pos c12] at H
                        have c12b0 : (a0 == 9) = true := beq_iff_eq.mpr c12
                        have c12b1 : (a0 != 9) = false := bne_eq_false_iff_eq.mpr c12
                        clear c12
                        obtain rfl := Option.some.inj H
                        go_wp2
                        go_ret
                        exact ⟨by first | rfl | (simp; done) | (simp [*]; done), by repeat (first | exact Drawn0.refl _ | apply Drawn0.step)⟩
                      · rw [if_neg c12] at H
                        have c12b0 : (a0 == 9) = false := beq_eq_false_iff_ne.mpr c12
                        have c12b1 : (a0 != 9) = true := bne_iff_ne.mpr c12
                        by_cases c13 : a0 = 10
                        · rw [if_pos c13] at H
                          have c13b0 : (a0 == 10) = true := beq_iff_eq.mpr c13
                          have c13b1 : (a0 != 10) = false := bne_eq_false_iff_eq.mpr c13
                          clear c13
                          obtain rfl := Option.some.inj H
                          go_wp2
                          go_ret
                          exact ⟨by first | rfl | (simp; done) | (simp [*]; done), by repeat (first | exact Drawn0.refl _ | apply Drawn0.step)⟩
                        · rw [if_neg c13] at H
                          have c13b0 : (a0 == 10) = false := beq_eq_false_iff_ne.mpr c13
                          have c13b1 : (a0 != 10) = true := bne_iff_ne.mpr c13
                          by_cases c14 : a0 = 11
                          · rw [if_pos c14] at H
                            have c14b0 : (a0 == 11) = true := beq_iff_eq.mpr c14
                            have c14b1 : (a0 != 11) = false := bne_eq_false_iff_eq.mpr c14
                            clear c14
                            obtain rfl := Option.some.inj H
                            go_wp2
                            go_ret
                            exact ⟨by first | rfl | (simp; done) | (simp [*]; done), by repeat (first | exact Drawn0.refl _ | apply Drawn0.step)⟩
                          · rw [if_neg c14] at H
                            have c14b0 : (a0 == 11) = false := beq_eq_false_iff_ne.mpr c14
                            have c14b1 : (a0 != 11) = true := bne_iff_ne.mpr c14
                            by_cases c15 : a0 = 12
                            · rw [if_pos c15] at H
                              have c15b0 : (a0 == 12) = true := beq_iff_eq.mpr c15
                              have c15b1 : (a0 != 12) = false := bne_eq_false_iff_eq.mpr c15
                              clear c15
                              obtain rfl := Option.some.inj H
                              go_wp2
                              go_ret
                              exact ⟨by first | rfl | (simp; done) | (simp [*]; done), by repeat (first | exact Drawn0.refl _ | apply Drawn0.step)⟩
                            · rw [if_neg c15] at H
                              have c15b0 : (a0 == 12) = false := beq_eq_false_iff_ne.mpr c15
                              have c15b1 : (a0 != 12) = true := bne_iff_ne.mpr c15
                              by_cases c16 : a0 = 13
                              · rw [if_pos c16] at H
                                have c16b0 : (a0 == 13) = true := beq_iff_eq.mpr c16
                                have c16b1 : (a0 != 13) = false := bne_eq_false_iff_eq.mpr c16
                                clear c16
                                obtain rfl := Option.some.inj H
                                go_wp2
                                go_ret
                                exact ⟨by first | rfl | (simp; done) | (simp [*]; done), by repeat (first | exact Drawn0.refl _ | apply Drawn0.step)⟩
                              · rw [if_neg c16] at H
                                have c16b0 : (a0 == 13) = false := beq_eq_false_iff_ne.mpr c16
                                have c16b1 : (a0 != 13) = true := bne_iff_ne.mpr c16
                                by_cases c17 : a0 = 14
                                · rw [if_pos c17] at H
                                  have c17b0 : (a0 == 14) = true := beq_iff_eq.mpr c17
                                  have c17b1 : (a0 != 14) = false := bne_eq_false_iff_eq.mpr c17
                                  clear c17
                                  obtain rfl := Option.some.inj H
                                  go_wp2
                                  go_ret
                                  exact ⟨by first | rfl | (simp; done) | (simp [*]; done), by repeat (first | exact Drawn0.refl _ | apply Drawn0.step)⟩
                                · rw [if_neg c17] at H
                                  have c17b0 : (a0 == 14) = false := beq_eq_false_iff_ne.mpr c17
                                  have c17b1 : (a0 != 14) = true := bne_iff_ne.mpr c17
                                  by_cases c18 : a0 = 16
                                  · rw [if_pos c18] at H
                                    have c18b0 : (a0 == 16) = true := beq_iff_eq.mpr c18
                                    have c18b1 : (a0 != 16) = false := bne_eq_false_iff_eq.mpr c18
                                    clear c18
                                    obtain rfl := Option.some.inj H
                                    go_wp2
                                    go_ret
                                    exact ⟨by first | rfl | (simp; done) | (simp [*]; done), by repeat (first | exact Drawn0.refl _ | apply Drawn0.step)⟩
                                  · rw [if_neg c18] at H
                                    have c18b0 : (a0 == 16) = false := beq_eq_false_iff_ne.mpr c18
                                    have c18b1 : (a0 != 16) = true := bne_iff_ne.mpr c18
                                    by_cases c19 : a0 = 17
                                    · rw [if_pos c19] at H
                                      have c19b0 : (a0 == 17) = true := beq_iff_eq.mpr c19
                                      have c19b1 : (a0 != 17) = false := bne_eq_false_iff_eq.mpr c19
                                      clear c19
                                      obtain rfl := Option.some.inj H
                                      go_wp2
                                      go_ret
                                      exact ⟨by first | rfl | (simp; done) | (simp [*]; done), by repeat (first | exact Drawn0.refl _ | apply Drawn0.step)⟩
                                    · rw [if_neg c19] at H
                                      have c19b0 : (a0 == 17) = false := beq_eq_false_iff_ne.mpr c19
                                      have c19b1 : (a0 != 17) = true := bne_iff_ne.mpr c19
                                      obtain rfl := Option.some.inj H
                                      go_wp2
                                      go_ret
                                      exact ⟨by first | rfl | (simp; done) | (simp [*]; done), by repeat (first | exact Drawn0.refl _ | apply Drawn0.step)⟩

end Go.Proofs.YtbbepiechehojaaDoor.PA
