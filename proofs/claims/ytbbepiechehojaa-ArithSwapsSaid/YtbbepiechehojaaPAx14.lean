-- Printed by a program of this repo's wip/tools (a variant of the kit's print): Lean checks it.
import Derived.Test.YtbbepiechehojaaPAx0
import Derived.Test.YtbbepiechehojaaPAx13
namespace Go.Proofs.Ytbbepiechehojaa.PA
open Go.RowKit Go.Proofs.YtbbepiechehojaaX Go.Proofs.YtbbepiechehojaaW.PrintWords Go.Proofs.YtbbepiechehojaaW.PrintLast Go.Proofs.YtbbepiechehojaaW.PrintMore
attribute [local go_sem] max2_int min2_int max_two min_two max_three min_three max_four min_four   -- for this text's walks alone
set_option linter.unusedVariables false
set_option linter.unusedSimpArgs false

/-! ### burinref09_compared: function 39 -/
def burinref09_compared.f (a0 : Int) (a1 : Int) (a2 : Int) (a3 : Int) : Option (Int) := if a0 = 11 then ((burinref09_less.f a1 a2 a3).bind fun t263 => ((burinref09_truth.f t263).bind fun t264 => (some t264))) else (if a0 = 12 then ((burinref09_less.f a1 a3 a2).bind fun t265 => ((burinref09_truth.f (!t265)).bind fun t266 => (some t266))) else (if a0 = 13 then ((burinref09_truth.f (a2 == a3)).bind fun t267 => (some t267)) else ((burinref09_truth.f (a2 != a3)).bind fun t268 => (some t268))))
set_option maxHeartbeats 8000000 in
set_option maxRecDepth 100000 in
theorem burinref09_compared.calls (a0 : Int) (a1 : Int) (a2 : Int) (a3 : Int) (r : Int) (w : World) (h : burinref09_compared.f a0 a1 a2 a3 = some r) :
    Calls Try.prog 39 #[.int .i64 a0, .int .i64 a1, .int .i64 a2, .int .i64 a3] w fun e w' => e = .returned (.int .i64 r) ∧ Drawn0 w w' := by
  have H : (if a0 = 11 then ((burinref09_less.f a1 a2 a3).bind fun t263 => ((burinref09_truth.f t263).bind fun t264 => (some t264))) else (if a0 = 12 then ((burinref09_less.f a1 a3 a2).bind fun t265 => ((burinref09_truth.f (!t265)).bind fun t266 => (some t266))) else (if a0 = 13 then ((burinref09_truth.f (a2 == a3)).bind fun t267 => (some t267)) else ((burinref09_truth.f (a2 != a3)).bind fun t268 => (some t268))))) = some r := h
  clear h
  by_cases c5 : a0 = 11
  · rw [if_pos c5] at H
    have c5b0 : (a0 == 11) = true := beq_iff_eq.mpr c5
    have c5b1 : (a0 != 11) = false := bne_eq_false_iff_eq.mpr c5
    clear c5
    replace H := Option.bind_eq_some_iff.mp H
    obtain ⟨t263, A60, H⟩ := H
    replace H : ((burinref09_truth.f t263).bind fun t264 => (some t264)) = some r := H
    have A6 := Aside0.mk A60
    clear A60
    replace H := Option.bind_eq_some_iff.mp H
    obtain ⟨t264, A70, H⟩ := H
    replace H : (some t264) = some r := H
    have A7 := Aside0.mk A70
    clear A70
    obtain rfl := Option.some.inj H
    go_enter Try.func39, Try.ntmps39
    go_wp2_with (first | ((with_reducible refine gate_callee (f := 56) rfl ?_); refine goesL_ (some 15) rfl rfl Try.func56 (by kernel_rfl) rfl #[.int .i64 a1, .int .i64 a2, .int .i64 a3] rfl (by (try simp only [List.map_toArray, List.map_cons, List.map_nil]); first | done | rfl | (simp only [List.length_drop, List.length_take]; rfl)) ?_; (with_reducible refine (burinref09_less.calls a1 a2 a3 t263 _ A6.out).mono ?_); rintro e w' ⟨rfl, ⟨nd, rfl⟩⟩; refine ⟨_, rfl, ?_⟩) | ((with_reducible refine gate_callee (f := 48) rfl ?_); refine goesL_ (some 16) rfl rfl Try.func48 (by kernel_rfl) rfl #[.bool t263] rfl (by (try simp only [List.map_toArray, List.map_cons, List.map_nil]); first | done | rfl | (simp only [List.length_drop, List.length_take]; rfl)) ?_; (with_reducible refine (burinref09_truth.calls t263 t264 _ A7.out).mono ?_); rintro e w' ⟨rfl, ⟨nd, rfl⟩⟩; refine ⟨_, rfl, ?_⟩))
    go_ret
    exact ⟨by first | rfl | (simp; done) | (simp [*]; done), by repeat (first | exact Drawn0.refl _ | apply Drawn0.step)⟩
  · rw [if_neg c5] at H
    have c5b0 : (a0 == 11) = false := beq_eq_false_iff_ne.mpr c5
    have c5b1 : (a0 != 11) = true := bne_iff_ne.mpr c5
    by_cases c8 : a0 = 12
    · rw [if_pos c8] at H
      have c8b0 : (a0 == 12) = true := beq_iff_eq.mpr c8
      have c8b1 : (a0 != 12) = false := bne_eq_false_iff_eq.mpr c8
      clear c8
      replace H := Option.bind_eq_some_iff.mp H
      obtain ⟨t265, A90, H⟩ := H
      replace H : ((burinref09_truth.f (!t265)).bind fun t266 => (some t266)) = some r := H
      have A9 := Aside0.mk A90
      clear A90
      replace H := Option.bind_eq_some_iff.mp H
      obtain ⟨t266, A100, H⟩ := H
      replace H : (some t266) = some r := H
      have A10 := Aside0.mk A100
      clear A100
      obtain rfl := Option.some.inj H
      go_enter Try.func39, Try.ntmps39
      go_wp2_with (first | ((with_reducible refine gate_callee (f := 56) rfl ?_); refine goesL_ (some 22) rfl rfl Try.func56 (by kernel_rfl) rfl #[.int .i64 a1, .int .i64 a3, .int .i64 a2] rfl (by (try simp only [List.map_toArray, List.map_cons, List.map_nil]); first | done | rfl | (simp only [List.length_drop, List.length_take]; rfl)) ?_; (with_reducible refine (burinref09_less.calls a1 a3 a2 t265 _ A9.out).mono ?_); rintro e w' ⟨rfl, ⟨nd, rfl⟩⟩; refine ⟨_, rfl, ?_⟩) | ((with_reducible refine gate_callee (f := 48) rfl ?_); refine goesL_ (some 24) rfl rfl Try.func48 (by kernel_rfl) rfl #[.bool (!t265)] rfl (by (try simp only [List.map_toArray, List.map_cons, List.map_nil]); first | done | rfl | (simp only [List.length_drop, List.length_take]; rfl)) ?_; (with_reducible refine (burinref09_truth.calls (!t265) t266 _ A10.out).mono ?_); rintro e w' ⟨rfl, ⟨nd, rfl⟩⟩; refine ⟨_, rfl, ?_⟩))
      go_ret
      exact ⟨by first | rfl | (simp; done) | (simp [*]; done), by repeat (first | exact Drawn0.refl _ | apply Drawn0.step)⟩
    · rw [if_neg c8] at H
      have c8b0 : (a0 == 12) = false := beq_eq_false_iff_ne.mpr c8
      have c8b1 : (a0 != 12) = true := bne_iff_ne.mpr c8
      by_cases c11 : a0 = 13
      · rw [if_pos c11] at H
        have c11b0 : (a0 == 13) = true := beq_iff_eq.mpr c11
        have c11b1 : (a0 != 13) = false := bne_eq_false_iff_eq.mpr c11
        clear c11
        replace H := Option.bind_eq_some_iff.mp H
        obtain ⟨t267, A120, H⟩ := H
        replace H : (some t267) = some r := H
        have A12 := Aside0.mk A120
        clear A120
        obtain rfl := Option.some.inj H
        go_enter Try.func39, Try.ntmps39
        go_wp2_with (first | ((with_reducible refine gate_callee (f := 48) rfl ?_); refine goesL_ (some 30) rfl rfl Try.func48 (by kernel_rfl) rfl #[.bool (a2 == a3)] rfl (by (try simp only [List.map_toArray, List.map_cons, List.map_nil]); first | done | rfl | (simp only [List.length_drop, List.length_take]; rfl)) ?_; (with_reducible refine (burinref09_truth.calls (a2 == a3) t267 _ A12.out).mono ?_); rintro e w' ⟨rfl, ⟨nd, rfl⟩⟩; refine ⟨_, rfl, ?_⟩))
        go_ret
        exact ⟨by first | rfl | (simp; done) | (simp [*]; done), by repeat (first | exact Drawn0.refl _ | apply Drawn0.step)⟩
      · rw [if_neg c11] at H
        have c11b0 : (a0 == 13) = false := beq_eq_false_iff_ne.mpr c11
        have c11b1 : (a0 != 13) = true := bne_iff_ne.mpr c11
        replace H := Option.bind_eq_some_iff.mp H
        obtain ⟨t268, A130, H⟩ := H
        replace H : (some t268) = some r := H
        have A13 := Aside0.mk A130
        clear A130
        obtain rfl := Option.some.inj H
        go_enter Try.func39, Try.ntmps39
        go_wp2_with (first | ((with_reducible refine gate_callee (f := 48) rfl ?_); refine goesL_ (some 34) rfl rfl Try.func48 (by kernel_rfl) rfl #[.bool (a2 != a3)] rfl (by (try simp only [List.map_toArray, List.map_cons, List.map_nil]); first | done | rfl | (simp only [List.length_drop, List.length_take]; rfl)) ?_; (with_reducible refine (burinref09_truth.calls (a2 != a3) t268 _ A13.out).mono ?_); rintro e w' ⟨rfl, ⟨nd, rfl⟩⟩; refine ⟨_, rfl, ?_⟩))
        go_ret
        exact ⟨by first | rfl | (simp; done) | (simp [*]; done), by repeat (first | exact Drawn0.refl _ | apply Drawn0.step)⟩

/-! ### burinref09_Divided: function 40 -/
def burinref09_Divided.f (a0 : Int) (a1 : Int) (a2 : Int) (a3 : Int) : Option (Int) := if a1 = 8 then (if a0 = 4 then (if (IntKind.u64.wrap (a3)) = 0 then (none) else (some (wrap64 (IntKind.u64.wrap (Int.tdiv (IntKind.u64.wrap (a2)) (IntKind.u64.wrap (a3))))))) else (if (IntKind.u64.wrap (a3)) = 0 then (none) else (some (wrap64 (Int.tmod (IntKind.u64.wrap (a2)) (IntKind.u64.wrap (a3))))))) else (if a3 = (-1) then (if a0 = 4 then (some (wrap64 (-a2))) else (some 0)) else (if a0 = 4 then (if a3 = 0 then (none) else (some (wrap64 (Int.tdiv a2 a3)))) else (if a3 = 0 then (none) else (some (Int.tmod a2 a3)))))
set_option maxHeartbeats 8000000 in
set_option maxRecDepth 100000 in
theorem burinref09_Divided.calls (a0 : Int) (a1 : Int) (a2 : Int) (a3 : Int) (r : Int) (w : World) (h : burinref09_Divided.f a0 a1 a2 a3 = some r) :
    Calls Try.prog 40 #[.int .i64 a0, .int .i64 a1, .int .i64 a2, .int .i64 a3] w fun e w' => e = .returned (.int .i64 r) ∧ Drawn0 w w' := by
  have H : (if a1 = 8 then (if a0 = 4 then (if (IntKind.u64.wrap (a3)) = 0 then (none) else (some (wrap64 (IntKind.u64.wrap (Int.tdiv (IntKind.u64.wrap (a2)) (IntKind.u64.wrap (a3))))))) else (if (IntKind.u64.wrap (a3)) = 0 then (none) else (some (wrap64 (Int.tmod (IntKind.u64.wrap (a2)) (IntKind.u64.wrap (a3))))))) else (if a3 = (-1) then (if a0 = 4 then (some (wrap64 (-a2))) else (some 0)) else (if a0 = 4 then (if a3 = 0 then (none) else (some (wrap64 (Int.tdiv a2 a3)))) else (if a3 = 0 then (none) else (some (Int.tmod a2 a3)))))) = some r := h
  clear h
  by_cases c5 : a1 = 8
  · rw [if_pos c5] at H
    have c5b0 : (a1 == 8) = true := beq_iff_eq.mpr c5
    have c5b1 : (a1 != 8) = false := bne_eq_false_iff_eq.mpr c5
    clear c5
    by_cases c6 : a0 = 4
    · rw [if_pos c6] at H
      have c6b0 : (a0 == 4) = true := beq_iff_eq.mpr c6
      have c6b1 : (a0 != 4) = false := bne_eq_false_iff_eq.mpr c6
      clear c6
      by_cases c7 : (IntKind.u64.wrap (a3)) = 0
      · rw [if_pos c7] at H
        exact absurd H (by simp)
      · rw [if_neg c7] at H
        have c7b0 : ((IntKind.u64.wrap (a3)) == 0) = false := beq_eq_false_iff_ne.mpr c7
        have c7b1 : ((IntKind.u64.wrap (a3)) != 0) = true := bne_iff_ne.mpr c7
        obtain rfl := Option.some.inj H
        go_enter Try.func40, Try.ntmps40
        go_wp2
        go_ret
        exact ⟨by first | rfl | (simp; done) | (simp [*]; done), by repeat (first | exact Drawn0.refl _ | apply Drawn0.step)⟩
    · rw [if_neg c6] at H
      have c6b0 : (a0 == 4) = false := beq_eq_false_iff_ne.mpr c6
      have c6b1 : (a0 != 4) = true := bne_iff_ne.mpr c6
      by_cases c8 : (IntKind.u64.wrap (a3)) = 0
      · rw [if_pos c8] at H
        exact absurd H (by simp)
      · rw [if_neg c8] at H
        have c8b0 : ((IntKind.u64.wrap (a3)) == 0) = false := beq_eq_false_iff_ne.mpr c8
        have c8b1 : ((IntKind.u64.wrap (a3)) != 0) = true := bne_iff_ne.mpr c8
        obtain rfl := Option.some.inj H
        go_enter Try.func40, Try.ntmps40
        go_wp2
        go_ret
        exact ⟨by first | rfl | (simp; done) | (simp [*]; done), by repeat (first | exact Drawn0.refl _ | apply Drawn0.step)⟩
  · rw [if_neg c5] at H
    have c5b0 : (a1 == 8) = false := beq_eq_false_iff_ne.mpr c5
    have c5b1 : (a1 != 8) = true := bne_iff_ne.mpr c5
    by_cases c9 : a3 = (-1)
    · rw [if_pos c9] at H
      have c9b0 : (a3 == (-1)) = true := beq_iff_eq.mpr c9
      have c9b1 : (a3 != (-1)) = false := bne_eq_false_iff_eq.mpr c9
      clear c9
      by_cases c10 : a0 = 4
      · rw [if_pos c10] at H
        have c10b0 : (a0 == 4) = true := beq_iff_eq.mpr c10
        have c10b1 : (a0 != 4) = false := bne_eq_false_iff_eq.mpr c10
        clear c10
        obtain rfl := Option.some.inj H
        go_enter Try.func40, Try.ntmps40
        go_wp2
        go_ret
        exact ⟨by first | rfl | (simp; done) | (simp [*]; done), by repeat (first | exact Drawn0.refl _ | apply Drawn0.step)⟩
      · rw [if_neg c10] at H
        have c10b0 : (a0 == 4) = false := beq_eq_false_iff_ne.mpr c10
        have c10b1 : (a0 != 4) = true := bne_iff_ne.mpr c10
        obtain rfl := Option.some.inj H
        go_enter Try.func40, Try.ntmps40
        go_wp2
        go_ret
        exact ⟨by first | rfl | (simp; done) | (simp [*]; done), by repeat (first | exact Drawn0.refl _ | apply Drawn0.step)⟩
    · rw [if_neg c9] at H
      have c9b0 : (a3 == (-1)) = false := beq_eq_false_iff_ne.mpr c9
      have c9b1 : (a3 != (-1)) = true := bne_iff_ne.mpr c9
      by_cases c11 : a0 = 4
      · rw [if_pos c11] at H
        have c11b0 : (a0 == 4) = true := beq_iff_eq.mpr c11
        have c11b1 : (a0 != 4) = false := bne_eq_false_iff_eq.mpr c11
        clear c11
        by_cases c12 : a3 = 0
        · rw [if_pos c12] at H
          exact absurd H (by simp)
        · rw [if_neg c12] at H
          have c12b0 : (a3 == 0) = false := beq_eq_false_iff_ne.mpr c12
          have c12b1 : (a3 != 0) = true := bne_iff_ne.mpr c12
          obtain rfl := Option.some.inj H
          go_enter Try.func40, Try.ntmps40
          go_wp2
          go_ret
          exact ⟨by first | rfl | (simp; done) | (simp [*]; done), by repeat (first | exact Drawn0.refl _ | apply Drawn0.step)⟩
      · rw [if_neg c11] at H
        have c11b0 : (a0 == 4) = false := beq_eq_false_iff_ne.mpr c11
        have c11b1 : (a0 != 4) = true := bne_iff_ne.mpr c11
        by_cases c13 : a3 = 0
        · rw [if_pos c13] at H
          exact absurd H (by simp)
        · rw [if_neg c13] at H
          have c13b0 : (a3 == 0) = false := beq_eq_false_iff_ne.mpr c13
          have c13b1 : (a3 != 0) = true := bne_iff_ne.mpr c13
          obtain rfl := Option.some.inj H
          go_enter Try.func40, Try.ntmps40
          go_wp2
          go_ret
          exact ⟨by first | rfl | (simp; done) | (simp [*]; done), by repeat (first | exact Drawn0.refl _ | apply Drawn0.step)⟩

/-! ### burinref09_product: function 57 -/
def burinref09_product.f (a0 : Int) (a1 : Int) : Option (Bool) := if a0 = 0 then (some true) else (if a1 = 0 then (some true) else (if (wrap64 (Int.tdiv (wrap64 (a0 * a1)) a1)) = a0 then (if a0 = (-9223372036854775808) then (if (a1 = (-1)) then (some false) else (if a1 = (-9223372036854775808) then (some (!(a0 == (-1)))) else (some (!false)))) else (if a1 = (-9223372036854775808) then (some (!(a0 == (-1)))) else (some (!false)))) else (some false)))
set_option maxHeartbeats 8000000 in
set_option maxRecDepth 100000 in
theorem burinref09_product.calls (a0 : Int) (a1 : Int) (r : Bool) (w : World) (h : burinref09_product.f a0 a1 = some r) :
    Calls Try.prog 57 #[.int .i64 a0, .int .i64 a1] w fun e w' => e = .returned (.bool r) ∧ Drawn0 w w' := by
  have H : (if a0 = 0 then (some true) else (if a1 = 0 then (some true) else (if (wrap64 (Int.tdiv (wrap64 (a0 * a1)) a1)) = a0 then (if a0 = (-9223372036854775808) then (if (a1 = (-1)) then (some false) else (if a1 = (-9223372036854775808) then (some (!(a0 == (-1)))) else (some (!false)))) else (if a1 = (-9223372036854775808) then (some (!(a0 == (-1)))) else (some (!false)))) else (some false)))) = some r := h
  clear h
  by_cases c3 : a0 = 0
  · rw [if_pos c3] at H
    have c3b0 : (a0 == 0) = true := beq_iff_eq.mpr c3
    have c3b1 : (a0 != 0) = false := bne_eq_false_iff_eq.mpr c3
    clear c3
    obtain rfl := Option.some.inj H
    go_enter Try.func57, Try.ntmps57
    go_wp2
    go_ret
    exact ⟨by first | rfl | (simp; done) | (simp [*]; done), by repeat (first | exact Drawn0.refl _ | apply Drawn0.step)⟩
  · rw [if_neg c3] at H
    have c3b0 : (a0 == 0) = false := beq_eq_false_iff_ne.mpr c3
    have c3b1 : (a0 != 0) = true := bne_iff_ne.mpr c3
    by_cases c4 : a1 = 0
    · rw [if_pos c4] at H
      have c4b0 : (a1 == 0) = true := beq_iff_eq.mpr c4
      have c4b1 : (a1 != 0) = false := bne_eq_false_iff_eq.mpr c4
      clear c4
      obtain rfl := Option.some.inj H
      go_enter Try.func57, Try.ntmps57
      go_wp2
      go_ret
      exact ⟨by first | rfl | (simp; done) | (simp [*]; done), by repeat (first | exact Drawn0.refl _ | apply Drawn0.step)⟩
    · rw [if_neg c4] at H
      have c4b0 : (a1 == 0) = false := beq_eq_false_iff_ne.mpr c4
      have c4b1 : (a1 != 0) = true := bne_iff_ne.mpr c4
      by_cases c5 : (wrap64 (Int.tdiv (wrap64 (a0 * a1)) a1)) = a0
      · rw [if_pos c5] at H
        have c5b0 : ((wrap64 (Int.tdiv (wrap64 (a0 * a1)) a1)) == a0) = true := beq_iff_eq.mpr c5
        have c5b1 : ((wrap64 (Int.tdiv (wrap64 (a0 * a1)) a1)) != a0) = false := bne_eq_false_iff_eq.mpr c5
        clear c5
        by_cases c6 : a0 = (-9223372036854775808)
        · rw [if_pos c6] at H
          have c6b0 : (a0 == (-9223372036854775808)) = true := beq_iff_eq.mpr c6
          have c6b1 : (a0 != (-9223372036854775808)) = false := bne_eq_false_iff_eq.mpr c6
          clear c6
          by_cases c7 : (a1 = (-1))
          · rw [if_pos c7] at H
            have c7b0 : (a1 == (-1)) = true := beq_iff_eq.mpr c7
            have c7b1 : (a1 != (-1)) = false := bne_eq_false_iff_eq.mpr c7
            clear c7
            obtain rfl := Option.some.inj H
            go_enter Try.func57, Try.ntmps57
            go_wp2
            go_ret
            exact ⟨by first | rfl | (simp; done) | (simp [*]; done), by repeat (first | exact Drawn0.refl _ | apply Drawn0.step)⟩
          · rw [if_neg c7] at H
            have c7b0 : (a1 == (-1)) = false := beq_eq_false_iff_ne.mpr c7
            have c7b1 : (a1 != (-1)) = true := bne_iff_ne.mpr c7
            by_cases c8 : a1 = (-9223372036854775808)
            · rw [if_pos c8] at H
              have c8b0 : (a1 == (-9223372036854775808)) = true := beq_iff_eq.mpr c8
              have c8b1 : (a1 != (-9223372036854775808)) = false := bne_eq_false_iff_eq.mpr c8
              clear c8
              obtain rfl := Option.some.inj H
              go_enter Try.func57, Try.ntmps57
              go_wp2
              go_ret
              exact ⟨by first | rfl | (simp; done) | (simp [*]; done), by repeat (first | exact Drawn0.refl _ | apply Drawn0.step)⟩
            · rw [if_neg c8] at H
              have c8b0 : (a1 == (-9223372036854775808)) = false := beq_eq_false_iff_ne.mpr c8
              have c8b1 : (a1 != (-9223372036854775808)) = true := bne_iff_ne.mpr c8
              obtain rfl := Option.some.inj H
              go_enter Try.func57, Try.ntmps57
              go_wp2
              go_ret
              exact ⟨by first | rfl | (simp; done) | (simp [*]; done), by repeat (first | exact Drawn0.refl _ | apply Drawn0.step)⟩
        · rw [if_neg c6] at H
          have c6b0 : (a0 == (-9223372036854775808)) = false := beq_eq_false_iff_ne.mpr c6
          have c6b1 : (a0 != (-9223372036854775808)) = true := bne_iff_ne.mpr c6
          by_cases c9 : a1 = (-9223372036854775808)
          · rw [if_pos c9] at H
            have c9b0 : (a1 == (-9223372036854775808)) = true := beq_iff_eq.mpr c9
            have c9b1 : (a1 != (-9223372036854775808)) = false := bne_eq_false_iff_eq.mpr c9
            clear c9
            obtain rfl := Option.some.inj H
            go_enter Try.func57, Try.ntmps57
            go_wp2
            go_ret
            exact ⟨by first | rfl | (simp; done) | (simp [*]; done), by repeat (first | exact Drawn0.refl _ | apply Drawn0.step)⟩
          · rw [if_neg c9] at H
            have c9b0 : (a1 == (-9223372036854775808)) = false := beq_eq_false_iff_ne.mpr c9
            have c9b1 : (a1 != (-9223372036854775808)) = true := bne_iff_ne.mpr c9
            obtain rfl := Option.some.inj H
            go_enter Try.func57, Try.ntmps57
            go_wp2
            go_ret
            exact ⟨by first | rfl | (simp; done) | (simp [*]; done), by repeat (first | exact Drawn0.refl _ | apply Drawn0.step)⟩
      · rw [if_neg c5] at H
        have c5b0 : ((wrap64 (Int.tdiv (wrap64 (a0 * a1)) a1)) == a0) = false := beq_eq_false_iff_ne.mpr c5
        have c5b1 : ((wrap64 (Int.tdiv (wrap64 (a0 * a1)) a1)) != a0) = true := bne_iff_ne.mpr c5
        obtain rfl := Option.some.inj H
        go_enter Try.func57, Try.ntmps57
        go_wp2
        go_ret
        exact ⟨by first | rfl | (simp; done) | (simp [*]; done), by repeat (first | exact Drawn0.refl _ | apply Drawn0.step)⟩

end Go.Proofs.Ytbbepiechehojaa.PA
