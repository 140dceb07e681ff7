-- Printed by a program of this repo's wip/tools (a variant of the kit's print): Lean checks it.
import Derived.Test.YtbbepiechehojaaPAx0
import Derived.Test.YtbbepiechehojaaPAx14
namespace Go.Proofs.Ytbbepiechehojaa.PA
open Go.RowKit Go.Proofs.YtbbepiechehojaaX Go.Proofs.YtbbepiechehojaaW.PrintWords Go.Proofs.YtbbepiechehojaaW.PrintLast Go.Proofs.YtbbepiechehojaaW.PrintMore
attribute [local go_sem] max2_int min2_int max_two min_two max_three min_three max_four min_four   -- for this text's walks alone
set_option linter.unusedVariables false
set_option linter.unusedSimpArgs false

/-! ### burinref09_plain: function 41 -/
def burinref09_plain.f (a0 : Int) (a1 : Int) (a2 : Int) : Option (Int × Bool) := if a0 = 1 then (if ((decide (a1 < 0)) != (decide (a2 < 0))) = true then (some (wrap64 (a1 + a2), true)) else (some (wrap64 (a1 + a2), ((decide ((wrap64 (a1 + a2)) < 0)) == (decide (a1 < 0)))))) else (if a0 = 2 then (if ((decide (a1 < 0)) == (decide (a2 < 0))) = true then (some (wrap64 (a1 - a2), true)) else (some (wrap64 (a1 - a2), ((decide ((wrap64 (a1 - a2)) < 0)) == (decide (a1 < 0)))))) else (if a0 = 3 then ((burinref09_product.f a1 a2).bind fun t269 => (some (wrap64 (a1 * a2), t269))) else (if a0 = 8 then (some (Go.bits .and .i64 a1 a2, true)) else (if a0 = 9 then (some (Go.bits .xor .i64 a1 a2, true)) else (some (Go.bits .or .i64 a1 a2, true))))))
set_option maxHeartbeats 8000000 in
set_option maxRecDepth 100000 in
theorem burinref09_plain.calls (a0 : Int) (a1 : Int) (a2 : Int) (r1 : Int) (r2 : Bool) (w : World) (h : burinref09_plain.f a0 a1 a2 = some (r1, r2)) :
    Calls Try.prog 41 #[.int .i64 a0, .int .i64 a1, .int .i64 a2] w fun e w' => e = .returned (.tuple #[.int .i64 r1, .bool r2]) ∧ Drawn0 w w' := by
  have H : (if a0 = 1 then (if ((decide (a1 < 0)) != (decide (a2 < 0))) = true then (some (wrap64 (a1 + a2), true)) else (some (wrap64 (a1 + a2), ((decide ((wrap64 (a1 + a2)) < 0)) == (decide (a1 < 0)))))) else (if a0 = 2 then (if ((decide (a1 < 0)) == (decide (a2 < 0))) = true then (some (wrap64 (a1 - a2), true)) else (some (wrap64 (a1 - a2), ((decide ((wrap64 (a1 - a2)) < 0)) == (decide (a1 < 0)))))) else (if a0 = 3 then ((burinref09_product.f a1 a2).bind fun t269 => (some (wrap64 (a1 * a2), t269))) else (if a0 = 8 then (some (Go.bits .and .i64 a1 a2, true)) else (if a0 = 9 then (some (Go.bits .xor .i64 a1 a2, true)) else (some (Go.bits .or .i64 a1 a2, true))))))) = some (r1, r2) := h
  clear h
  by_cases c4 : a0 = 1
  · rw [if_pos c4] at H
    have c4b0 : (a0 == 1) = true := beq_iff_eq.mpr c4
    have c4b1 : (a0 != 1) = false := bne_eq_false_iff_eq.mpr c4
    clear c4
    by_cases c5 : ((decide (a1 < 0)) != (decide (a2 < 0))) = true
    · rw [if_pos c5] at H
      have c5b0 : ((decide (a1 < 0)) != (decide (a2 < 0))) = true := c5
      (try (have c5b1 : decide ((decide (a1 < 0)) = (decide (a2 < 0))) = false := by simpa using c5))
      (try (have c5b2 : ((decide (a1 < 0)) == (decide (a2 < 0))) = false := by simpa using c5))
      (try (have c5b3 : ¬ ((decide (a1 < 0)) = (decide (a2 < 0))) := by simpa using c5))
      clear c5
      simp only [Option.some.injEq, Prod.mk.injEq] at H
      obtain ⟨rfl, rfl⟩ := H
      go_enter Try.func41, Try.ntmps41
      go_wp2
      go_ret2
      exact ⟨by first | rfl | (simp; done) | (simp [*]; done), by repeat (first | exact Drawn0.refl _ | apply Drawn0.step)⟩
    · rw [if_neg c5] at H
      have c5b0 : ((decide (a1 < 0)) != (decide (a2 < 0))) = false := by simpa using c5
      (try (have c5b1 : decide ((decide (a1 < 0)) = (decide (a2 < 0))) = true := by simpa using c5))
      (try (have c5b2 : ((decide (a1 < 0)) == (decide (a2 < 0))) = true := by simpa using c5))
      clear c5
      simp only [Option.some.injEq, Prod.mk.injEq] at H
      obtain ⟨rfl, rfl⟩ := H
      go_enter Try.func41, Try.ntmps41
      go_wp2
      go_ret2
      exact ⟨by first | rfl | (simp; done) | (simp [*]; done), by repeat (first | exact Drawn0.refl _ | apply Drawn0.step)⟩
  · rw [if_neg c4] at H
    have c4b0 : (a0 == 1) = false := beq_eq_false_iff_ne.mpr c4
    have c4b1 : (a0 != 1) = true := bne_iff_ne.mpr c4
    by_cases c6 : a0 = 2
    · rw [if_pos c6] at H
      have c6b0 : (a0 == 2) = true := beq_iff_eq.mpr c6
      have c6b1 : (a0 != 2) = false := bne_eq_false_iff_eq.mpr c6
      clear c6
      by_cases c7 : ((decide (a1 < 0)) == (decide (a2 < 0))) = true
      · rw [if_pos c7] at H
        have c7b0 : ((decide (a1 < 0)) == (decide (a2 < 0))) = true := c7
        (try (have c7b1 : decide ((decide (a1 < 0)) = (decide (a2 < 0))) = true := by simpa using c7))
        (try (have c7b2 : ((decide (a1 < 0)) == (decide (a2 < 0))) = true := by simpa using c7))
        clear c7
        simp only [Option.some.injEq, Prod.mk.injEq] at H
        obtain ⟨rfl, rfl⟩ := H
        go_enter Try.func41, Try.ntmps41
        go_wp2
        go_ret2
        exact ⟨by first | rfl | (simp; done) | (simp [*]; done), by repeat (first | exact Drawn0.refl _ | apply Drawn0.step)⟩
      · rw [if_neg c7] at H
        have c7b0 : ((decide (a1 < 0)) == (decide (a2 < 0))) = false := by simpa using c7
        (try (have c7b1 : decide ((decide (a1 < 0)) = (decide (a2 < 0))) = false := by simpa using c7))
        (try (have c7b2 : ((decide (a1 < 0)) == (decide (a2 < 0))) = false := by simpa using c7))
        (try (have c7b3 : ¬ ((decide (a1 < 0)) = (decide (a2 < 0))) := by simpa using c7))
        clear c7
        simp only [Option.some.injEq, Prod.mk.injEq] at H
        obtain ⟨rfl, rfl⟩ := H
        go_enter Try.func41, Try.ntmps41
        go_wp2
        go_ret2
        exact ⟨by first | rfl | (simp; done) | (simp [*]; done), by repeat (first | exact Drawn0.refl _ | apply Drawn0.step)⟩
    · rw [if_neg c6] at H
      have c6b0 : (a0 == 2) = false := beq_eq_false_iff_ne.mpr c6
      have c6b1 : (a0 != 2) = true := bne_iff_ne.mpr c6
      by_cases c8 : a0 = 3
      · rw [if_pos c8] at H
        have c8b0 : (a0 == 3) = true := beq_iff_eq.mpr c8
        have c8b1 : (a0 != 3) = false := bne_eq_false_iff_eq.mpr c8
        clear c8
        replace H := Option.bind_eq_some_iff.mp H
        obtain ⟨t269, A90, H⟩ := H
        replace H : (some (wrap64 (a1 * a2), t269)) = some (r1, r2) := H
        have A9 := Aside0.mk A90
        clear A90
        simp only [Option.some.injEq, Prod.mk.injEq] at H
        obtain ⟨rfl, rfl⟩ := H
        go_enter Try.func41, Try.ntmps41
        go_wp2_with (first | ((with_reducible refine gate_callee (f := 57) rfl ?_); refine goesL_ (some 54) rfl rfl Try.func57 (by kernel_rfl) rfl #[.int .i64 a1, .int .i64 a2] rfl (by (try simp only [List.map_toArray, List.map_cons, List.map_nil]); first | done | rfl | (simp only [List.length_drop, List.length_take]; rfl)) ?_; (with_reducible refine (burinref09_product.calls a1 a2 t269 _ A9.out).mono ?_); rintro e w' ⟨rfl, ⟨nd, rfl⟩⟩; refine ⟨_, rfl, ?_⟩))
        go_ret2
        exact ⟨by first | rfl | (simp; done) | (simp [*]; done), by repeat (first | exact Drawn0.refl _ | apply Drawn0.step)⟩
      · rw [if_neg c8] at H
        have c8b0 : (a0 == 3) = false := beq_eq_false_iff_ne.mpr c8
        have c8b1 : (a0 != 3) = true := bne_iff_ne.mpr c8
        by_cases c10 : a0 = 8
        · rw [if_pos c10] at H
          have c10b0 : (a0 == 8) = true := beq_iff_eq.mpr c10
          have c10b1 : (a0 != 8) = false := bne_eq_false_iff_eq.mpr c10
          clear c10
          simp only [Option.some.injEq, Prod.mk.injEq] at H
          obtain ⟨rfl, rfl⟩ := H
          go_enter Try.func41, Try.ntmps41
          go_wp2
          go_ret2
          exact ⟨by first | rfl | (simp; done) | (simp [*]; done), by repeat (first | exact Drawn0.refl _ | apply Drawn0.step)⟩
        · rw [if_neg c10] at H
          have c10b0 : (a0 == 8) = false := beq_eq_false_iff_ne.mpr c10
          have c10b1 : (a0 != 8) = true := bne_iff_ne.mpr c10
          by_cases c11 : a0 = 9
          · rw [if_pos c11] at H
            have c11b0 : (a0 == 9) = true := beq_iff_eq.mpr c11
            have c11b1 : (a0 != 9) = false := bne_eq_false_iff_eq.mpr c11
            clear c11
            simp only [Option.some.injEq, Prod.mk.injEq] at H
            obtain ⟨rfl, rfl⟩ := H
            go_enter Try.func41, Try.ntmps41
            go_wp2
            go_ret2
            exact ⟨by first | rfl | (simp; done) | (simp [*]; done), by repeat (first | exact Drawn0.refl _ | apply Drawn0.step)⟩
          · rw [if_neg c11] at H
            have c11b0 : (a0 == 9) = false := beq_eq_false_iff_ne.mpr c11
            have c11b1 : (a0 != 9) = true := bne_iff_ne.mpr c11
            simp only [Option.some.injEq, Prod.mk.injEq] at H
            obtain ⟨rfl, rfl⟩ := H
            go_enter Try.func41, Try.ntmps41
            go_wp2
            go_ret2
            exact ⟨by first | rfl | (simp; done) | (simp [*]; done), by repeat (first | exact Drawn0.refl _ | apply Drawn0.step)⟩

end Go.Proofs.Ytbbepiechehojaa.PA
