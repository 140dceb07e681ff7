-- Printed by a program of this repo's wip/tools (a variant of the kit's print): Lean checks it.
import Derived.Test.YtbbepiechehojaaDoorPAx0
import Derived.Test.YtbbepiechehojaaDoorPAx10
namespace Go.Proofs.YtbbepiechehojaaDoor.PA
open Go.RowKit Go.Proofs.YtbbepiechehojaaDoorX Go.Proofs.YtbbepiechehojaaDoorW.PrintWords Go.Proofs.YtbbepiechehojaaDoorW.PrintLast Go.Proofs.YtbbepiechehojaaDoorW.PrintMore
attribute [local go_sem] max2_int min2_int max_two min_two max_three min_three max_four min_four   -- for this text's walks alone
set_option linter.unusedVariables false
set_option linter.unusedSimpArgs false

/-! ### burinref08_Unsigned: function 41 -/
def burinref08_Unsigned.f (a0 : Int) : Option (Bool) := if a0 = 2 then (some true) else (if a0 = 4 then (some true) else (if a0 = 6 then (some true) else (some (a0 == 8))))
set_option maxHeartbeats 8000000 in
set_option maxRecDepth 100000 in
theorem burinref08_Unsigned.calls (a0 : Int) (r : Bool) (w : World) (h : burinref08_Unsigned.f a0 = some r) :
    Calls Tryd.prog 41 #[.int .i64 a0] w fun e w' => e = .returned (.bool r) ∧ Drawn0 w w' := by
  have H : (if a0 = 2 then (some true) else (if a0 = 4 then (some true) else (if a0 = 6 then (some true) else (some (a0 == 8))))) = some r := h
  clear h
  by_cases c2 : a0 = 2
  · rw [if_pos c2] at H
    have c2b0 : (a0 == 2) = true := beq_iff_eq.mpr c2
    have c2b1 : (a0 != 2) = false := bne_eq_false_iff_eq.mpr c2
    clear c2
    obtain rfl := Option.some.inj H
    go_enter Tryd.func41, Tryd.ntmps41
    go_wp2
    go_ret
    exact ⟨by first | rfl | (simp; done) | (simp [*]; done), by repeat (first | exact Drawn0.refl _ | apply Drawn0.step)⟩
  · rw [if_neg c2] at H
    have c2b0 : (a0 == 2) = false := beq_eq_false_iff_ne.mpr c2
    have c2b1 : (a0 != 2) = true := bne_iff_ne.mpr c2
    by_cases c3 : a0 = 4
    · rw [if_pos c3] at H
      have c3b0 : (a0 == 4) = true := beq_iff_eq.mpr c3
      have c3b1 : (a0 != 4) = false := bne_eq_false_iff_eq.mpr c3
      clear c3
      obtain rfl := Option.some.inj H
      go_enter Tryd.func41, Tryd.ntmps41
      go_wp2
      go_ret
      exact ⟨by first | rfl | (simp; done) | (simp [*]; done), by repeat (first | exact Drawn0.refl _ | apply Drawn0.step)⟩
    · rw [if_neg c3] at H
      have c3b0 : (a0 == 4) = false := beq_eq_false_iff_ne.mpr c3
      have c3b1 : (a0 != 4) = true := bne_iff_ne.mpr c3
      by_cases c4 : a0 = 6
      · rw [if_pos c4] at H
        have c4b0 : (a0 == 6) = true := beq_iff_eq.mpr c4
        have c4b1 : (a0 != 6) = false := bne_eq_false_iff_eq.mpr c4
        clear c4
        obtain rfl := Option.some.inj H
        go_enter Tryd.func41, Tryd.ntmps41
        go_wp2
        go_ret
        exact ⟨by first | rfl | (simp; done) | (simp [*]; done), by repeat (first | exact Drawn0.refl _ | apply Drawn0.step)⟩
      · rw [if_neg c4] at H
        have c4b0 : (a0 == 6) = false := beq_eq_false_iff_ne.mpr c4
        have c4b1 : (a0 != 6) = true := bne_iff_ne.mpr c4
        obtain rfl := Option.some.inj H
        go_enter Tryd.func41, Tryd.ntmps41
        go_wp2
        go_ret
        exact ⟨by first | rfl | (simp; done) | (simp [*]; done), by repeat (first | exact Drawn0.refl _ | apply Drawn0.step)⟩

/-! ### burinref08_Usual: function 30 -/
mutual
def burinref08_Usual.j0 : Nat → Int → Int → Bool → Option (Int × Int)
  | 0, _, _, _ => none
  | k + 1, x6, x8, x26 => if x26 = true then (some (0, 80)) else ((burinref08_Unsigned.f x6).bind fun t250 => ((burinref08_Unsigned.f x8).bind fun t251 => (if (t250 == t251) = true then ((burinref08_Size.f k x6).bind fun t252 => ((burinref08_Size.f k x8).bind fun t253 => (if t252 ≥ t253 then (some (x6, 0)) else (some (x8, 0))))) else ((burinref08_Unsigned.f x8).bind fun t254 => (if t254 = true then (burinref08_Usual.j1 k x8 x6) else (burinref08_Usual.j1 k x6 x8))))))
def burinref08_Usual.j1 : Nat → Int → Int → Option (Int × Int)
  | 0, _, _ => none
  | k + 1, x6, x8 => (burinref08_Size.f k x6).bind fun t255 => ((burinref08_Size.f k x8).bind fun t256 => (if t255 ≥ t256 then (some (x6, 0)) else (some (x8, 0))))
end
def burinref08_Usual.f (k : Nat) (a0 : Int) (a1 : Int) : Option (Int × Int) := (burinref08_Promoted.f k a0).bind fun bt246 => ((burinref08_Promoted.f k a1).bind fun bt248 => (if bt246.2 = 0 then (burinref08_Usual.j0 k bt246.1 bt248.1 (bt248.2 != 0)) else (burinref08_Usual.j0 k bt246.1 bt248.1 true)))
theorem burinref08_Usual.mono_l : ∀ k, (∀ y0 y1 y2, LeO (burinref08_Usual.j0 k y0 y1 y2) (burinref08_Usual.j0 (k + 1) y0 y1 y2)) ∧ (∀ y0 y1, LeO (burinref08_Usual.j1 k y0 y1) (burinref08_Usual.j1 (k + 1) y0 y1))
  | 0 => ⟨fun _ _ _ r h => by simp [burinref08_Usual.j0] at h, fun _ _ r h => by simp [burinref08_Usual.j1] at h⟩
  | k + 1 => by
    obtain ⟨ih0, ih1⟩ := burinref08_Usual.mono_l k
    refine ⟨?_, ?_⟩
    · intro y0 y1 y2
      unfold burinref08_Usual.j0
      repeat' first
      | (with_reducible exact ih0 _ _ _)
      | (with_reducible exact ih1 _ _)
      | (with_reducible exact burinref08_Promoted.mono _ _)
      | (with_reducible exact burinref08_Size.mono _ _)
      | (with_reducible exact LeO.refl _)
      | (with_reducible exact LeO.none _)
      | (with_reducible refine LeO.ite ?_ ?_)
      | (with_reducible refine LeO.bind ?_ (fun _ => ?_))
      | exact ih0 _ _ _
      | exact ih1 _ _
      | exact burinref08_Promoted.mono _ _
      | exact burinref08_Size.mono _ _
      | exact LeO.none _
      | refine LeO.ite ?_ ?_
      | refine LeO.bind ?_ (fun _ => ?_)
    · intro y0 y1
      unfold burinref08_Usual.j1
      repeat' first
      | (with_reducible exact ih0 _ _ _)
      | (with_reducible exact ih1 _ _)
      | (with_reducible exact burinref08_Promoted.mono _ _)
      | (with_reducible exact burinref08_Size.mono _ _)
      | (with_reducible exact LeO.refl _)
      | (with_reducible exact LeO.none _)
      | (with_reducible refine LeO.ite ?_ ?_)
      | (with_reducible refine LeO.bind ?_ (fun _ => ?_))
      | exact ih0 _ _ _
      | exact ih1 _ _
      | exact burinref08_Promoted.mono _ _
      | exact burinref08_Size.mono _ _
      | exact LeO.none _
      | refine LeO.ite ?_ ?_
      | refine LeO.bind ?_ (fun _ => ?_)
theorem burinref08_Usual.mono : ∀ a0 a1 k, LeO (burinref08_Usual.f k a0 a1) (burinref08_Usual.f (k + 1) a0 a1) := by
  intro a0 a1 k
  obtain ⟨ih0, ih1⟩ := burinref08_Usual.mono_l k
  unfold burinref08_Usual.f
  repeat' first
      | (with_reducible exact ih0 _ _ _)
      | (with_reducible exact ih1 _ _)
      | (with_reducible exact burinref08_Promoted.mono _ _)
      | (with_reducible exact burinref08_Size.mono _ _)
      | (with_reducible exact LeO.refl _)
      | (with_reducible exact LeO.none _)
      | (with_reducible refine LeO.ite ?_ ?_)
      | (with_reducible refine LeO.bind ?_ (fun _ => ?_))
      | exact ih0 _ _ _
      | exact ih1 _ _
      | exact burinref08_Promoted.mono _ _
      | exact burinref08_Size.mono _ _
      | exact LeO.none _
      | refine LeO.ite ?_ ?_
      | refine LeO.bind ?_ (fun _ => ?_)
set_option maxHeartbeats 8000000 in
set_option maxRecDepth 100000 in
theorem burinref08_Usual.calls (k : Nat) (a0 : Int) (a1 : Int) (r1 : Int) (r2 : Int) (w : World) (h : burinref08_Usual.f k a0 a1 = some (r1, r2)) :
    Calls Tryd.prog 30 #[.int .i64 a0, .int .i64 a1] w fun e w' => e = .returned (.tuple #[.int .i64 r1, .int .i64 r2]) ∧ Drawn0 w w' := by
  have H : ((burinref08_Promoted.f k a0).bind fun bt246 => ((burinref08_Promoted.f k a1).bind fun bt248 => (if bt246.2 = 0 then (burinref08_Usual.j0 k bt246.1 bt248.1 (bt248.2 != 0)) else (burinref08_Usual.j0 k bt246.1 bt248.1 true)))) = some (r1, r2) := h
  clear h
  replace H := Option.bind_eq_some_iff.mp H
  obtain ⟨⟨t246, t247⟩, A30, H⟩ := H
  replace H : ((burinref08_Promoted.f k a1).bind fun bt248 => (if t247 = 0 then (burinref08_Usual.j0 k t246 bt248.1 (bt248.2 != 0)) else (burinref08_Usual.j0 k t246 bt248.1 true))) = some (r1, r2) := H
  have A3 := Aside0.mk A30
  clear A30
  replace H := Option.bind_eq_some_iff.mp H
  obtain ⟨⟨t248, t249⟩, A40, H⟩ := H
  replace H : (if t247 = 0 then (burinref08_Usual.j0 k t246 t248 (t249 != 0)) else (burinref08_Usual.j0 k t246 t248 true)) = some (r1, r2) := H
  have A4 := Aside0.mk A40
  clear A40
  have HC5 := Aside0.mk H
  clear H
  go_enter Tryd.func30, Tryd.ntmps30
  go_upto_region 3 with (first | ((with_reducible refine gate_callee (f := 29) rfl ?_); refine goesL_ (some 13) rfl rfl Tryd.func29 (by kernel_rfl) rfl #[.int .i64 a0] rfl (by (try simp only [List.map_toArray, List.map_cons, List.map_nil]); first | done | rfl | (simp only [List.length_drop, List.length_take]; rfl)) ?_; (with_reducible refine (burinref08_Promoted.calls k a0 t246 t247 _ A3.out).mono ?_); rintro e w' ⟨rfl, ⟨nd, rfl⟩⟩; refine ⟨_, rfl, ?_⟩) | ((with_reducible refine gate_callee (f := 29) rfl ?_); refine goesL_ (some 18) rfl rfl Tryd.func29 (by kernel_rfl) rfl #[.int .i64 a1] rfl (by (try simp only [List.map_toArray, List.map_cons, List.map_nil]); first | done | rfl | (simp only [List.length_drop, List.length_take]; rfl)) ?_; (with_reducible refine (burinref08_Promoted.calls k a1 t248 t249 _ A4.out).mono ?_); rintro e w' ⟨rfl, ⟨nd, rfl⟩⟩; refine ⟨_, rfl, ?_⟩))
  (try simp only [Act.put, List.setIfInBounds_toArray, List.set_cons_zero, List.set_cons_succ])
  go_cut [26] (fun v26 wc => ∃ (kq : Nat) (x26_4 : Bool), v26 = .bool x26_4 ∧ Aside0 (burinref08_Usual.j0 kq t246 t248 x26_4 = some (r1, r2)) ∧ Aside0 (kq ≤ k) ∧ Drawn0 w wc)
  case first =>
    have H := HC5.out
    clear HC5
    by_cases c6 : t247 = 0
    · rw [if_pos c6] at H
      have c6b0 : (t247 == 0) = true := beq_iff_eq.mpr c6
      have c6b1 : (t247 != 0) = false := bne_eq_false_iff_eq.mpr c6
      clear c6
      (first | rw [c6b0] | (simp only [i64_w, i32_w]; rw [c6b0]) | skip)
      have H' := Aside0.mk H
      clear H
      go_wp2
      go_meet
      case rel => exact ⟨_, ((t249 != 0)), (by first | rfl | (simp; done) | (simp [*]; done)), H', ⟨by first | omega | exact Nat.le_refl _⟩, by repeat (first | exact Drawn0.refl _ | apply Drawn0.step)⟩
    · rw [if_neg c6] at H
      have c6b0 : (t247 == 0) = false := beq_eq_false_iff_ne.mpr c6
      have c6b1 : (t247 != 0) = true := bne_iff_ne.mpr c6
      (first | rw [c6b0] | (simp only [i64_w, i32_w]; rw [c6b0]) | skip)
      have H' := Aside0.mk H
      clear H
      go_wp2
      go_meet
      case rel => exact ⟨_, (true), (by first | rfl | (simp; done) | (simp [*]; done)), H', ⟨by first | omega | exact Nat.le_refl _⟩, by repeat (first | exact Drawn0.refl _ | apply Drawn0.step)⟩
  case rest =>
    clear HC5
    try clear c2
    try clear p2
    try clear c3
    try clear c6
    try clear c6b0
    try clear c6b1
    obtain ⟨kq, x26_4, rfl, HA, HJ4, ⟨mc4, rfl⟩⟩ := hcut
    cases kq with
    | zero => exact absurd HA.out (by simp [burinref08_Usual.j0])
    | succ kj4 =>
      have H := HA.out
      clear HA
      simp only [burinref08_Usual.j0] at H
      by_cases c7 : x26_4 = true
      · subst c7
        have H1 : (some (0, 80)) = some (r1, r2) := by rw [if_pos rfl] at H; exact H
        clear H
        have H := H1
        clear H1
        simp only [Option.some.injEq, Prod.mk.injEq] at H
        obtain ⟨rfl, rfl⟩ := H
        go_wp2
        go_ret2
        exact ⟨by first | rfl | (simp; done) | (simp [*]; done), by repeat (first | exact Drawn0.refl _ | apply Drawn0.step)⟩
      · replace c7 := Bool.eq_false_iff.mpr c7
        subst c7
        have H1 : ((burinref08_Unsigned.f t246).bind fun t250 => ((burinref08_Unsigned.f t248).bind fun t251 => (if (t250 == t251) = true then ((burinref08_Size.f kj4 t246).bind fun t252 => ((burinref08_Size.f kj4 t248).bind fun t253 => (if t252 ≥ t253 then (some (t246, 0)) else (some (t248, 0))))) else ((burinref08_Unsigned.f t248).bind fun t254 => (if t254 = true then (burinref08_Usual.j1 kj4 t248 t246) else (burinref08_Usual.j1 kj4 t246 t248)))))) = some (r1, r2) := by rw [if_neg (show ¬ (false = true) by decide)] at H; exact H
        clear H
        have H := H1
        clear H1
        replace H := Option.bind_eq_some_iff.mp H
        obtain ⟨t250, A80, H⟩ := H
        replace H : ((burinref08_Unsigned.f t248).bind fun t251 => (if (t250 == t251) = true then ((burinref08_Size.f kj4 t246).bind fun t252 => ((burinref08_Size.f kj4 t248).bind fun t253 => (if t252 ≥ t253 then (some (t246, 0)) else (some (t248, 0))))) else ((burinref08_Unsigned.f t248).bind fun t254 => (if t254 = true then (burinref08_Usual.j1 kj4 t248 t246) else (burinref08_Usual.j1 kj4 t246 t248))))) = some (r1, r2) := H
        have A8 := Aside0.mk A80
        clear A80
        replace H := Option.bind_eq_some_iff.mp H
        obtain ⟨t251, A90, H⟩ := H
        replace H : (if (t250 == t251) = true then ((burinref08_Size.f kj4 t246).bind fun t252 => ((burinref08_Size.f kj4 t248).bind fun t253 => (if t252 ≥ t253 then (some (t246, 0)) else (some (t248, 0))))) else ((burinref08_Unsigned.f t248).bind fun t254 => (if t254 = true then (burinref08_Usual.j1 kj4 t248 t246) else (burinref08_Usual.j1 kj4 t246 t248)))) = some (r1, r2) := H
        have A9 := Aside0.mk A90
        clear A90
        by_cases c10 : (t250 == t251) = true
        · rw [if_pos c10] at H
          have c10b0 : (t250 == t251) = true := c10
          (try (have c10b1 : decide (t250 = t251) = true := by simpa using c10))
          (try (have c10b2 : (t250 == t251) = true := by simpa using c10))
          clear c10
          replace H := Option.bind_eq_some_iff.mp H
          obtain ⟨t252, A110, H⟩ := H
          replace H : ((burinref08_Size.f kj4 t248).bind fun t253 => (if t252 ≥ t253 then (some (t246, 0)) else (some (t248, 0)))) = some (r1, r2) := H
          have A11 := Aside0.mk A110
          clear A110
          replace H := Option.bind_eq_some_iff.mp H
          obtain ⟨t253, A120, H⟩ := H
          replace H : (if t252 ≥ t253 then (some (t246, 0)) else (some (t248, 0))) = some (r1, r2) := H
          have A12 := Aside0.mk A120
          clear A120
          by_cases c13 : t252 ≥ t253
          · rw [if_pos c13] at H
            have c13b0 : decide (t253 ≤ t252) = true := decide_eq_true c13
            clear c13
            simp only [Option.some.injEq, Prod.mk.injEq] at H
            obtain ⟨rfl, rfl⟩ := H
            go_wp2_with (first | ((with_reducible refine gate_callee (f := 41) rfl ?_); refine goesL_ (some 28) rfl rfl Tryd.func41 (by kernel_rfl) rfl #[.int .i64 t246] rfl (by (try simp only [List.map_toArray, List.map_cons, List.map_nil]); first | done | rfl | (simp only [List.length_drop, List.length_take]; rfl)) ?_; (with_reducible refine (burinref08_Unsigned.calls t246 t250 _ A8.out).mono ?_); rintro e w' ⟨rfl, ⟨nd, rfl⟩⟩; refine ⟨_, rfl, ?_⟩) | ((with_reducible refine gate_callee (f := 41) rfl ?_); refine goesL_ (some 30) rfl rfl Tryd.func41 (by kernel_rfl) rfl #[.int .i64 t248] rfl (by (try simp only [List.map_toArray, List.map_cons, List.map_nil]); first | done | rfl | (simp only [List.length_drop, List.length_take]; rfl)) ?_; (with_reducible refine (burinref08_Unsigned.calls t248 t251 _ A9.out).mono ?_); rintro e w' ⟨rfl, ⟨nd, rfl⟩⟩; refine ⟨_, rfl, ?_⟩) | ((with_reducible refine gate_callee (f := 40) rfl ?_); refine goesL_ (some 33) rfl rfl Tryd.func40 (by kernel_rfl) rfl #[.int .i64 t246] rfl (by (try simp only [List.map_toArray, List.map_cons, List.map_nil]); first | done | rfl | (simp only [List.length_drop, List.length_take]; rfl)) ?_; (with_reducible refine (burinref08_Size.calls kj4 t246 t252 _ A11.out).mono ?_); rintro e w' ⟨rfl, ⟨nd, rfl⟩⟩; refine ⟨_, rfl, ?_⟩) | ((with_reducible refine gate_callee (f := 40) rfl ?_); refine goesL_ (some 35) rfl rfl Tryd.func40 (by kernel_rfl) rfl #[.int .i64 t248] rfl (by (try simp only [List.map_toArray, List.map_cons, List.map_nil]); first | done | rfl | (simp only [List.length_drop, List.length_take]; rfl)) ?_; (with_reducible refine (burinref08_Size.calls kj4 t248 t253 _ A12.out).mono ?_); rintro e w' ⟨rfl, ⟨nd, rfl⟩⟩; refine ⟨_, rfl, ?_⟩))
            go_ret2
            exact ⟨by first | rfl | (simp; done) | (simp [*]; done), by repeat (first | exact Drawn0.refl _ | apply Drawn0.step)⟩
          · rw [if_neg c13] at H
            have c13b0 : decide (t253 ≤ t252) = false := decide_eq_false c13
            clear c13
            simp only [Option.some.injEq, Prod.mk.injEq] at H
            obtain ⟨rfl, rfl⟩ := H
            go_wp2_with (first | ((with_reducible refine gate_callee (f := 41) rfl ?_); refine goesL_ (some 28) rfl rfl Tryd.func41 (by kernel_rfl) rfl #[.int .i64 t246] rfl (by (try simp only [List.map_toArray, List.map_cons, List.map_nil]); first | done | rfl | (simp only [List.length_drop, List.length_take]; rfl)) ?_; (with_reducible refine (burinref08_Unsigned.calls t246 t250 _ A8.out).mono ?_); rintro e w' ⟨rfl, ⟨nd, rfl⟩⟩; refine ⟨_, rfl, ?_⟩) | ((with_reducible refine gate_callee (f := 41) rfl ?_); refine goesL_ (some 30) rfl rfl Tryd.func41 (by kernel_rfl) rfl #[.int .i64 t248] rfl (by (try simp only [List.map_toArray, List.map_cons, List.map_nil]); first | done | rfl | (simp only [List.length_drop, List.length_take]; rfl)) ?_; (with_reducible refine (burinref08_Unsigned.calls t248 t251 _ A9.out).mono ?_); rintro e w' ⟨rfl, ⟨nd, rfl⟩⟩; refine ⟨_, rfl, ?_⟩) | ((with_reducible refine gate_callee (f := 40) rfl ?_); refine goesL_ (some 33) rfl rfl Tryd.func40 (by kernel_rfl) rfl #[.int .i64 t246] rfl (by (try simp only [List.map_toArray, List.map_cons, List.map_nil]); first | done | rfl | (simp only [List.length_drop, List.length_take]; rfl)) ?_; (with_reducible refine (burinref08_Size.calls kj4 t246 t252 _ A11.out).mono ?_); rintro e w' ⟨rfl, ⟨nd, rfl⟩⟩; refine ⟨_, rfl, ?_⟩) | ((with_reducible refine gate_callee (f := 40) rfl ?_); refine goesL_ (some 35) rfl rfl Tryd.func40 (by kernel_rfl) rfl #[.int .i64 t248] rfl (by (try simp only [List.map_toArray, List.map_cons, List.map_nil]); first | done | rfl | (simp only [List.length_drop, List.length_take]; rfl)) ?_; (with_reducible refine (burinref08_Size.calls kj4 t248 t253 _ A12.out).mono ?_); rintro e w' ⟨rfl, ⟨nd, rfl⟩⟩; refine ⟨_, rfl, ?_⟩))
            go_ret2
            exact ⟨by first | rfl | (simp; done) | (simp [*]; done), by repeat (first | exact Drawn0.refl _ | apply Drawn0.step)⟩
        · rw [if_neg c10] at H
          have c10b0 : (t250 == t251) = false := by simpa using c10
          (try (have c10b1 : decide (t250 = t251) = false := by simpa using c10))
          (try (have c10b2 : (t250 == t251) = false := by simpa using c10))
          (try (have c10b3 : ¬ (t250 = t251) := by simpa using c10))
          clear c10
          replace H := Option.bind_eq_some_iff.mp H
          obtain ⟨t254, A140, H⟩ := H
          replace H : (if t254 = true then (burinref08_Usual.j1 kj4 t248 t246) else (burinref08_Usual.j1 kj4 t246 t248)) = some (r1, r2) := H
          have A14 := Aside0.mk A140
          clear A140
          have HC15 := Aside0.mk H
          clear H
          go_upto_if 40 with (first | ((with_reducible refine gate_callee (f := 41) rfl ?_); refine goesL_ (some 28) rfl rfl Tryd.func41 (by kernel_rfl) rfl #[.int .i64 t246] rfl (by (try simp only [List.map_toArray, List.map_cons, List.map_nil]); first | done | rfl | (simp only [List.length_drop, List.length_take]; rfl)) ?_; (with_reducible refine (burinref08_Unsigned.calls t246 t250 _ A8.out).mono ?_); rintro e w' ⟨rfl, ⟨nd, rfl⟩⟩; refine ⟨_, rfl, ?_⟩) | ((with_reducible refine gate_callee (f := 41) rfl ?_); refine goesL_ (some 30) rfl rfl Tryd.func41 (by kernel_rfl) rfl #[.int .i64 t248] rfl (by (try simp only [List.map_toArray, List.map_cons, List.map_nil]); first | done | rfl | (simp only [List.length_drop, List.length_take]; rfl)) ?_; (with_reducible refine (burinref08_Unsigned.calls t248 t251 _ A9.out).mono ?_); rintro e w' ⟨rfl, ⟨nd, rfl⟩⟩; refine ⟨_, rfl, ?_⟩) | ((with_reducible refine gate_callee (f := 41) rfl ?_); refine goesL_ (some 40) rfl rfl Tryd.func41 (by kernel_rfl) rfl #[.int .i64 t248] rfl (by (try simp only [List.map_toArray, List.map_cons, List.map_nil]); first | done | rfl | (simp only [List.length_drop, List.length_take]; rfl)) ?_; (with_reducible refine (burinref08_Unsigned.calls t248 t254 _ A14.out).mono ?_); rintro e w' ⟨rfl, ⟨nd, rfl⟩⟩; refine ⟨_, rfl, ?_⟩))
          (try simp only [Act.put, List.setIfInBounds_toArray, List.set_cons_zero, List.set_cons_succ])
          go_cut [6, 8] (fun v6 v8 wc => ∃ (kq : Nat) (x6_14 : Int) (x8_14 : Int), v6 = .int .i64 x6_14 ∧ v8 = .int .i64 x8_14 ∧ Aside0 (burinref08_Usual.j1 kq x6_14 x8_14 = some (r1, r2)) ∧ Aside0 (kq ≤ kj4) ∧ Drawn0 w wc)
          case first =>
            have H := HC15.out
            clear HC15
            by_cases c16 : t254 = true
            · subst c16
              have H1 : (burinref08_Usual.j1 kj4 t248 t246) = some (r1, r2) := by rw [if_pos rfl] at H; exact H
              clear H
              have H := H1
              clear H1
              have H' := Aside0.mk H
              clear H
              go_wp2
              go_meet
              case rel => exact ⟨_, (t248), (t246), (by first | rfl | (simp; done) | (simp [*]; done)), (by first | rfl | (simp; done) | (simp [*]; done)), H', ⟨by have := HJ4.out; first | omega | exact Nat.le_refl _⟩, by repeat (first | exact Drawn0.refl _ | apply Drawn0.step)⟩
            · replace c16 := Bool.eq_false_iff.mpr c16
              subst c16
              have H1 : (burinref08_Usual.j1 kj4 t246 t248) = some (r1, r2) := by rw [if_neg (show ¬ (false = true) by decide)] at H; exact H
              clear H
              have H := H1
              clear H1
              have H' := Aside0.mk H
              clear H
              go_wp2
              go_meet
              case rel => exact ⟨_, (t246), (t248), (by first | rfl | (simp; done) | (simp [*]; done)), (by first | rfl | (simp; done) | (simp [*]; done)), H', ⟨by have := HJ4.out; first | omega | exact Nat.le_refl _⟩, by repeat (first | exact Drawn0.refl _ | apply Drawn0.step)⟩
          case rest =>
            clear HC15
            try clear c1
            try clear c2
            try clear p2
            try clear c3
            try clear c4
            try clear c6
            try clear c6b0
            try clear c6b1
            try clear c7
            try clear c10
            try clear c10b0
            try clear c10b1
            try clear c10b2
            try clear c13
            try clear c13b0
            try clear c16
            try clear p2
            obtain ⟨kq, x6_14, x8_14, rfl, rfl, HA, HJ14, ⟨mc14, rfl⟩⟩ := hcut
            cases kq with
            | zero => exact absurd HA.out (by simp [burinref08_Usual.j1])
            | succ kj14 =>
              have H := HA.out
              clear HA
              simp only [burinref08_Usual.j1] at H
              replace H := Option.bind_eq_some_iff.mp H
              obtain ⟨t255, A170, H⟩ := H
              replace H : ((burinref08_Size.f kj14 x8_14).bind fun t256 => (if t255 ≥ t256 then (some (x6_14, 0)) else (some (x8_14, 0)))) = some (r1, r2) := H
              have A17 := Aside0.mk A170
              clear A170
              replace H := Option.bind_eq_some_iff.mp H
              obtain ⟨t256, A180, H⟩ := H
              replace H : (if t255 ≥ t256 then (some (x6_14, 0)) else (some (x8_14, 0))) = some (r1, r2) := H
              have A18 := Aside0.mk A180
              clear A180
              by_cases c19 : t255 ≥ t256
              · rw [if_pos c19] at H
                have c19b0 : decide (t256 ≤ t255) = true := decide_eq_true c19
                clear c19
                simp only [Option.some.injEq, Prod.mk.injEq] at H
                obtain ⟨rfl, rfl⟩ := H
                go_wp2_with (first | ((with_reducible refine gate_callee (f := 40) rfl ?_); refine goesL_ (some 45) rfl rfl Tryd.func40 (by kernel_rfl) rfl #[.int .i64 x6_14] rfl (by (try simp only [List.map_toArray, List.map_cons, List.map_nil]); first | done | rfl | (simp only [List.length_drop, List.length_take]; rfl)) ?_; (with_reducible refine (burinref08_Size.calls kj14 x6_14 t255 _ A17.out).mono ?_); rintro e w' ⟨rfl, ⟨nd, rfl⟩⟩; refine ⟨_, rfl, ?_⟩) | ((with_reducible refine gate_callee (f := 40) rfl ?_); refine goesL_ (some 47) rfl rfl Tryd.func40 (by kernel_rfl) rfl #[.int .i64 x8_14] rfl (by (try simp only [List.map_toArray, List.map_cons, List.map_nil]); first | done | rfl | (simp only [List.length_drop, List.length_take]; rfl)) ?_; (with_reducible refine (burinref08_Size.calls kj14 x8_14 t256 _ A18.out).mono ?_); rintro e w' ⟨rfl, ⟨nd, rfl⟩⟩; refine ⟨_, rfl, ?_⟩))
                go_ret2
                exact ⟨by first | rfl | (simp; done) | (simp [*]; done), by repeat (first | exact Drawn0.refl _ | apply Drawn0.step)⟩
              · rw [if_neg c19] at H
                have c19b0 : decide (t256 ≤ t255) = false := decide_eq_false c19
                clear c19
                simp only [Option.some.injEq, Prod.mk.injEq] at H
                obtain ⟨rfl, rfl⟩ := H
                go_wp2_with (first | ((with_reducible refine gate_callee (f := 40) rfl ?_); refine goesL_ (some 45) rfl rfl Tryd.func40 (by kernel_rfl) rfl #[.int .i64 x6_14] rfl (by (try simp only [List.map_toArray, List.map_cons, List.map_nil]); first | done | rfl | (simp only [List.length_drop, List.length_take]; rfl)) ?_; (with_reducible refine (burinref08_Size.calls kj14 x6_14 t255 _ A17.out).mono ?_); rintro e w' ⟨rfl, ⟨nd, rfl⟩⟩; refine ⟨_, rfl, ?_⟩) | ((with_reducible refine gate_callee (f := 40) rfl ?_); refine goesL_ (some 47) rfl rfl Tryd.func40 (by kernel_rfl) rfl #[.int .i64 x8_14] rfl (by (try simp only [List.map_toArray, List.map_cons, List.map_nil]); first | done | rfl | (simp only [List.length_drop, List.length_take]; rfl)) ?_; (with_reducible refine (burinref08_Size.calls kj14 x8_14 t256 _ A18.out).mono ?_); rintro e w' ⟨rfl, ⟨nd, rfl⟩⟩; refine ⟨_, rfl, ?_⟩))
                go_ret2
                exact ⟨by first | rfl | (simp; done) | (simp [*]; done), by repeat (first | exact Drawn0.refl _ | apply Drawn0.step)⟩

end Go.Proofs.YtbbepiechehojaaDoor.PA
