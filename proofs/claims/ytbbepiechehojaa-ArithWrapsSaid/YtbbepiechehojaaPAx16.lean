-- Printed by a program of this repo's wip/tools (a variant of the kit's print): Lean checks it.
import Derived.Test.YtbbepiechehojaaPAx0
import Derived.Test.YtbbepiechehojaaPAx10
import Derived.Test.YtbbepiechehojaaPAx11
import Derived.Test.YtbbepiechehojaaPAx12
import Derived.Test.YtbbepiechehojaaPAx13
import Derived.Test.YtbbepiechehojaaPAx14
import Derived.Test.YtbbepiechehojaaPAx15
namespace Go.Proofs.Ytbbepiechehojaa.PA
open Go.RowKit Go.Proofs.YtbbepiechehojaaX Go.Proofs.YtbbepiechehojaaW.PrintWords Go.Proofs.YtbbepiechehojaaW.PrintLast Go.Proofs.YtbbepiechehojaaW.PrintMore
attribute [local go_sem] max2_int min2_int max_two min_two max_three min_three max_four min_four   -- for this text's walks alone
set_option linter.unusedVariables false
set_option linter.unusedSimpArgs false

/-! ### burinref09_Two: function 11 -/
mutual
def burinref09_Two.j0 : Nat → Int → Int → Int → Int → Int → Bool → Option (Int × Int × Int)
  | 0, _, _, _, _, _, _ => none
  | k + 1, x0, x1, x2, x3, x4, x38 => if x38 = true then (some (0, 0, 80)) else ((burinref09_In.f k x0 x2 x4).bind fun bt273 => (if x0 = 6 then (burinref09_Two.j1 k x0 x1 x3 bt273.1 true) else (burinref09_Two.j1 k x0 x1 x3 bt273.1 (x0 == 7))))
def burinref09_Two.j1 : Nat → Int → Int → Int → Int → Bool → Option (Int × Int × Int)
  | 0, _, _, _, _, _ => none
  | k + 1, x0, x1, x3, x15, x51 => if x51 = true then (if x3 < 0 then (burinref09_Two.j2 k x0 x1 x3 x15 true) else ((burinref08_Size.f k x15).bind fun t275 => (burinref09_Two.j2 k x0 x1 x3 x15 (decide (x3 ≥ (wrap64 (8 * t275))))))) else ((burinref08_To.f x1 x15).bind fun bt278 => ((burinref08_To.f x3 x15).bind fun bt280 => ((burinref09_isTruth.f x0).bind fun t282 => (if t282 = true then ((burinref09_compared.f x0 x15 bt278.1 bt280.1).bind fun t283 => (some (t283, 5, 0))) else (if x0 = 4 then (burinref09_Two.j3 k x0 bt278.1 bt280.1 x15 true) else (burinref09_Two.j3 k x0 bt278.1 bt280.1 x15 (x0 == 5)))))))
def burinref09_Two.j2 : Nat → Int → Int → Int → Int → Bool → Option (Int × Int × Int)
  | 0, _, _, _, _, _ => none
  | k + 1, x0, x1, x3, x15, x60 => if x60 = true then (some (0, 0, 90)) else ((burinref09_shifted.f x0 x15 x1 x3).bind fun bt276 => (if bt276.2 = true then (some (bt276.1, x15, 0)) else (some (0, 0, 90))))
def burinref09_Two.j3 : Nat → Int → Int → Int → Int → Bool → Option (Int × Int × Int)
  | 0, _, _, _, _, _ => none
  | k + 1, x0, x1, x3, x15, x97 => if x97 = true then (if x3 = 0 then (some (0, 0, 90)) else ((burinref09_Divided.f x0 x15 x1 x3).bind fun t284 => ((burinref09_Divided.f 4 x15 x1 x3).bind fun t285 => ((burinref08_Lies.f t285 x15).bind fun t286 => (if t286 = true then (if x15 = 7 then (if x1 = (-9223372036854775808) then (burinref09_Two.j4 k x15 t284 (!(x3 == (-1)))) else (burinref09_Two.j4 k x15 t284 (!false))) else (burinref09_Two.j4 k x15 t284 (!false))) else (burinref09_Two.j4 k x15 t284 false)))))) else ((burinref09_plain.f x0 x1 x3).bind fun bt287 => (burinref09_Two.j4 k x15 bt287.1 bt287.2))
def burinref09_Two.j4 : Nat → Int → Int → Bool → Option (Int × Int × Int)
  | 0, _, _, _ => none
  | k + 1, x15, x19, x20 => (burinref08_To.f x19 x15).bind fun bt289 => ((burinref08_Unsigned.f x15).bind fun t291 => (if t291 = true then (some (bt289.1, x15, 0)) else (if x20 = true then (if bt289.1 = x19 then (some (bt289.1, x15, 0)) else (some (0, 0, 90))) else (some (0, 0, 90)))))
end
def burinref09_Two.f (k : Nat) (a0 : Int) (a1 : Int) (a2 : Int) (a3 : Int) (a4 : Int) : Option (Int × Int × Int) := (burinref09_Binary.f a0).bind fun t270 => (if t270 = true then ((burinref08_Lies.f a1 a2).bind fun t271 => ((burinref08_Lies.f a3 a4).bind fun t272 => (if t271 = true then (burinref09_Two.j0 k a0 a1 a2 a3 a4 (!t272)) else (burinref09_Two.j0 k a0 a1 a2 a3 a4 true)))) else (some (0, 0, 2)))
theorem burinref09_Two.mono_l : ∀ k, (∀ y0 y1 y2 y3 y4 y5, LeO (burinref09_Two.j0 k y0 y1 y2 y3 y4 y5) (burinref09_Two.j0 (k + 1) y0 y1 y2 y3 y4 y5)) ∧ (∀ y0 y1 y2 y3 y4, LeO (burinref09_Two.j1 k y0 y1 y2 y3 y4) (burinref09_Two.j1 (k + 1) y0 y1 y2 y3 y4)) ∧ (∀ y0 y1 y2 y3 y4, LeO (burinref09_Two.j2 k y0 y1 y2 y3 y4) (burinref09_Two.j2 (k + 1) y0 y1 y2 y3 y4)) ∧ (∀ y0 y1 y2 y3 y4, LeO (burinref09_Two.j3 k y0 y1 y2 y3 y4) (burinref09_Two.j3 (k + 1) y0 y1 y2 y3 y4)) ∧ (∀ y0 y1 y2, LeO (burinref09_Two.j4 k y0 y1 y2) (burinref09_Two.j4 (k + 1) y0 y1 y2))
  | 0 => ⟨fun _ _ _ _ _ _ r h => by simp [burinref09_Two.j0] at h, fun _ _ _ _ _ r h => by simp [burinref09_Two.j1] at h, fun _ _ _ _ _ r h => by simp [burinref09_Two.j2] at h, fun _ _ _ _ _ r h => by simp [burinref09_Two.j3] at h, fun _ _ _ r h => by simp [burinref09_Two.j4] at h⟩
  | k + 1 => by
    obtain ⟨ih0, ih1, ih2, ih3, ih4⟩ := burinref09_Two.mono_l k
    refine ⟨?_, ?_, ?_, ?_, ?_⟩
    · intro y0 y1 y2 y3 y4 y5
      unfold burinref09_Two.j0
      repeat' first
      | (with_reducible exact ih0 _ _ _ _ _ _)
      | (with_reducible exact ih1 _ _ _ _ _)
      | (with_reducible exact ih2 _ _ _ _ _)
      | (with_reducible exact ih3 _ _ _ _ _)
      | (with_reducible exact ih4 _ _ _)
      | (with_reducible exact burinref08_Size.mono _ _)
      | (with_reducible exact burinref09_In.mono _ _ _ _)
      | (with_reducible exact LeO.refl _)
      | (with_reducible exact LeO.none _)
      | (with_reducible refine LeO.ite ?_ ?_)
      | (with_reducible refine LeO.bind ?_ (fun _ => ?_))
      | exact ih0 _ _ _ _ _ _
      | exact ih1 _ _ _ _ _
      | exact ih2 _ _ _ _ _
      | exact ih3 _ _ _ _ _
      | exact ih4 _ _ _
      | exact burinref08_Size.mono _ _
      | exact burinref09_In.mono _ _ _ _
      | exact LeO.none _
      | refine LeO.ite ?_ ?_
      | refine LeO.bind ?_ (fun _ => ?_)
    · intro y0 y1 y2 y3 y4
      unfold burinref09_Two.j1
      repeat' first
      | (with_reducible exact ih0 _ _ _ _ _ _)
      | (with_reducible exact ih1 _ _ _ _ _)
      | (with_reducible exact ih2 _ _ _ _ _)
      | (with_reducible exact ih3 _ _ _ _ _)
      | (with_reducible exact ih4 _ _ _)
      | (with_reducible exact burinref08_Size.mono _ _)
      | (with_reducible exact burinref09_In.mono _ _ _ _)
      | (with_reducible exact LeO.refl _)
      | (with_reducible exact LeO.none _)
      | (with_reducible refine LeO.ite ?_ ?_)
      | (with_reducible refine LeO.bind ?_ (fun _ => ?_))
      | exact ih0 _ _ _ _ _ _
      | exact ih1 _ _ _ _ _
      | exact ih2 _ _ _ _ _
      | exact ih3 _ _ _ _ _
      | exact ih4 _ _ _
      | exact burinref08_Size.mono _ _
      | exact burinref09_In.mono _ _ _ _
      | exact LeO.none _
      | refine LeO.ite ?_ ?_
      | refine LeO.bind ?_ (fun _ => ?_)
    · intro y0 y1 y2 y3 y4
      unfold burinref09_Two.j2
      repeat' first
      | (with_reducible exact ih0 _ _ _ _ _ _)
      | (with_reducible exact ih1 _ _ _ _ _)
      | (with_reducible exact ih2 _ _ _ _ _)
      | (with_reducible exact ih3 _ _ _ _ _)
      | (with_reducible exact ih4 _ _ _)
      | (with_reducible exact burinref08_Size.mono _ _)
      | (with_reducible exact burinref09_In.mono _ _ _ _)
      | (with_reducible exact LeO.refl _)
      | (with_reducible exact LeO.none _)
      | (with_reducible refine LeO.ite ?_ ?_)
      | (with_reducible refine LeO.bind ?_ (fun _ => ?_))
      | exact ih0 _ _ _ _ _ _
      | exact ih1 _ _ _ _ _
      | exact ih2 _ _ _ _ _
      | exact ih3 _ _ _ _ _
      | exact ih4 _ _ _
      | exact burinref08_Size.mono _ _
      | exact burinref09_In.mono _ _ _ _
      | exact LeO.none _
      | refine LeO.ite ?_ ?_
      | refine LeO.bind ?_ (fun _ => ?_)
    · intro y0 y1 y2 y3 y4
      unfold burinref09_Two.j3
      repeat' first
      | (with_reducible exact ih0 _ _ _ _ _ _)
      | (with_reducible exact ih1 _ _ _ _ _)
      | (with_reducible exact ih2 _ _ _ _ _)
      | (with_reducible exact ih3 _ _ _ _ _)
      | (with_reducible exact ih4 _ _ _)
      | (with_reducible exact burinref08_Size.mono _ _)
      | (with_reducible exact burinref09_In.mono _ _ _ _)
      | (with_reducible exact LeO.refl _)
      | (with_reducible exact LeO.none _)
      | (with_reducible refine LeO.ite ?_ ?_)
      | (with_reducible refine LeO.bind ?_ (fun _ => ?_))
      | exact ih0 _ _ _ _ _ _
      | exact ih1 _ _ _ _ _
      | exact ih2 _ _ _ _ _
      | exact ih3 _ _ _ _ _
      | exact ih4 _ _ _
      | exact burinref08_Size.mono _ _
      | exact burinref09_In.mono _ _ _ _
      | exact LeO.none _
      | refine LeO.ite ?_ ?_
      | refine LeO.bind ?_ (fun _ => ?_)
    · intro y0 y1 y2
      unfold burinref09_Two.j4
      repeat' first
      | (with_reducible exact ih0 _ _ _ _ _ _)
      | (with_reducible exact ih1 _ _ _ _ _)
      | (with_reducible exact ih2 _ _ _ _ _)
      | (with_reducible exact ih3 _ _ _ _ _)
      | (with_reducible exact ih4 _ _ _)
      | (with_reducible exact burinref08_Size.mono _ _)
      | (with_reducible exact burinref09_In.mono _ _ _ _)
      | (with_reducible exact LeO.refl _)
      | (with_reducible exact LeO.none _)
      | (with_reducible refine LeO.ite ?_ ?_)
      | (with_reducible refine LeO.bind ?_ (fun _ => ?_))
      | exact ih0 _ _ _ _ _ _
      | exact ih1 _ _ _ _ _
      | exact ih2 _ _ _ _ _
      | exact ih3 _ _ _ _ _
      | exact ih4 _ _ _
      | exact burinref08_Size.mono _ _
      | exact burinref09_In.mono _ _ _ _
      | exact LeO.none _
      | refine LeO.ite ?_ ?_
      | refine LeO.bind ?_ (fun _ => ?_)
theorem burinref09_Two.mono : ∀ a0 a1 a2 a3 a4 k, LeO (burinref09_Two.f k a0 a1 a2 a3 a4) (burinref09_Two.f (k + 1) a0 a1 a2 a3 a4) := by
  intro a0 a1 a2 a3 a4 k
  obtain ⟨ih0, ih1, ih2, ih3, ih4⟩ := burinref09_Two.mono_l k
  unfold burinref09_Two.f
  repeat' first
      | (with_reducible exact ih0 _ _ _ _ _ _)
      | (with_reducible exact ih1 _ _ _ _ _)
      | (with_reducible exact ih2 _ _ _ _ _)
      | (with_reducible exact ih3 _ _ _ _ _)
      | (with_reducible exact ih4 _ _ _)
      | (with_reducible exact burinref08_Size.mono _ _)
      | (with_reducible exact burinref09_In.mono _ _ _ _)
      | (with_reducible exact LeO.refl _)
      | (with_reducible exact LeO.none _)
      | (with_reducible refine LeO.ite ?_ ?_)
      | (with_reducible refine LeO.bind ?_ (fun _ => ?_))
      | exact ih0 _ _ _ _ _ _
      | exact ih1 _ _ _ _ _
      | exact ih2 _ _ _ _ _
      | exact ih3 _ _ _ _ _
      | exact ih4 _ _ _
      | exact burinref08_Size.mono _ _
      | exact burinref09_In.mono _ _ _ _
      | exact LeO.none _
      | refine LeO.ite ?_ ?_
      | refine LeO.bind ?_ (fun _ => ?_)
set_option maxHeartbeats 8000000 in
set_option maxRecDepth 100000 in
theorem burinref09_Two.calls (k : Nat) (a0 : Int) (a1 : Int) (a2 : Int) (a3 : Int) (a4 : Int) (r1 : Int) (r2 : Int) (r3 : Int) (w : World) (h : burinref09_Two.f k a0 a1 a2 a3 a4 = some (r1, r2, r3)) :
    Calls Try.prog 11 #[.int .i64 a0, .int .i64 a1, .int .i64 a2, .int .i64 a3, .int .i64 a4] w fun e w' => e = .returned (.tuple #[.int .i64 r1, .int .i64 r2, .int .i64 r3]) ∧ Drawn0 w w' := by
  have H : ((burinref09_Binary.f a0).bind fun t270 => (if t270 = true then ((burinref08_Lies.f a1 a2).bind fun t271 => ((burinref08_Lies.f a3 a4).bind fun t272 => (if t271 = true then (burinref09_Two.j0 k a0 a1 a2 a3 a4 (!t272)) else (burinref09_Two.j0 k a0 a1 a2 a3 a4 true)))) else (some (0, 0, 2)))) = some (r1, r2, r3) := h
  clear h
  replace H := Option.bind_eq_some_iff.mp H
  obtain ⟨t270, A60, H⟩ := H
  replace H : (if t270 = true then ((burinref08_Lies.f a1 a2).bind fun t271 => ((burinref08_Lies.f a3 a4).bind fun t272 => (if t271 = true then (burinref09_Two.j0 k a0 a1 a2 a3 a4 (!t272)) else (burinref09_Two.j0 k a0 a1 a2 a3 a4 true)))) else (some (0, 0, 2))) = some (r1, r2, r3) := H
  have A6 := Aside0.mk A60
  clear A60
  by_cases c7 : t270 = true
  · subst c7
    have H1 : ((burinref08_Lies.f a1 a2).bind fun t271 => ((burinref08_Lies.f a3 a4).bind fun t272 => (if t271 = true then (burinref09_Two.j0 k a0 a1 a2 a3 a4 (!t272)) else (burinref09_Two.j0 k a0 a1 a2 a3 a4 true)))) = some (r1, r2, r3) := by rw [if_pos rfl] at H; exact H
    clear H
    have H := H1
    clear H1
    replace H := Option.bind_eq_some_iff.mp H
    obtain ⟨t271, A80, H⟩ := H
    replace H : ((burinref08_Lies.f a3 a4).bind fun t272 => (if t271 = true then (burinref09_Two.j0 k a0 a1 a2 a3 a4 (!t272)) else (burinref09_Two.j0 k a0 a1 a2 a3 a4 true))) = some (r1, r2, r3) := H
    have A8 := Aside0.mk A80
    clear A80
    replace H := Option.bind_eq_some_iff.mp H
    obtain ⟨t272, A90, H⟩ := H
    replace H : (if t271 = true then (burinref09_Two.j0 k a0 a1 a2 a3 a4 (!t272)) else (burinref09_Two.j0 k a0 a1 a2 a3 a4 true)) = some (r1, r2, r3) := H
    have A9 := Aside0.mk A90
    clear A90
    have HC10 := Aside0.mk H
    clear H
    go_enter Try.func11, Try.ntmps11
    go_upto_region 5 with (first | ((with_reducible refine gate_callee (f := 32) rfl ?_); refine goesL_ (some 25) rfl rfl Try.func32 (by kernel_rfl) rfl #[.int .i64 a0] rfl (by (try simp only [List.map_toArray, List.map_cons, List.map_nil]); first | done | rfl | (simp only [List.length_drop, List.length_take]; rfl)) ?_; (with_reducible refine (burinref09_Binary.calls a0 true _ A6.out).mono ?_); rintro e w' ⟨rfl, ⟨nd, rfl⟩⟩; refine ⟨_, rfl, ?_⟩) | ((with_reducible refine gate_callee (f := 33) rfl ?_); refine goesL_ (some 29) rfl rfl Try.func33 (by kernel_rfl) rfl #[.int .i64 a1, .int .i64 a2] rfl (by (try simp only [List.map_toArray, List.map_cons, List.map_nil]); first | done | rfl | (simp only [List.length_drop, List.length_take]; rfl)) ?_; (with_reducible refine (burinref08_Lies.calls a1 a2 t271 _ A8.out).mono ?_); rintro e w' ⟨rfl, ⟨nd, rfl⟩⟩; refine ⟨_, rfl, ?_⟩) | ((with_reducible refine gate_callee (f := 33) rfl ?_); refine goesL_ (some 32) rfl rfl Try.func33 (by kernel_rfl) rfl #[.int .i64 a3, .int .i64 a4] rfl (by (try simp only [List.map_toArray, List.map_cons, List.map_nil]); first | done | rfl | (simp only [List.length_drop, List.length_take]; rfl)) ?_; (with_reducible refine (burinref08_Lies.calls a3 a4 t272 _ A9.out).mono ?_); rintro e w' ⟨rfl, ⟨nd, rfl⟩⟩; refine ⟨_, rfl, ?_⟩))
    (try simp only [Act.put, List.setIfInBounds_toArray, List.set_cons_zero, List.set_cons_succ])
    go_cut [38] (fun v38 wc => ∃ (kq : Nat) (x38_9 : Bool), v38 = .bool x38_9 ∧ Aside0 (burinref09_Two.j0 kq a0 a1 a2 a3 a4 x38_9 = some (r1, r2, r3)) ∧ Aside0 (kq ≤ k) ∧ Drawn0 w wc)
    case first =>
      have H := HC10.out
      clear HC10
      by_cases c11 : t271 = true
      · subst c11
        have H1 : (burinref09_Two.j0 k a0 a1 a2 a3 a4 (!t272)) = some (r1, r2, r3) := by rw [if_pos rfl] at H; exact H
        clear H
        have H := H1
        clear H1
        have H' := Aside0.mk H
        clear H
        go_wp2
        go_meet
        case rel => exact ⟨_, (!t272), (by first | rfl | (simp; done) | (simp [*]; done)), H', ⟨by first | omega | exact Nat.le_refl _⟩, by repeat (first | exact Drawn0.refl _ | apply Drawn0.step)⟩
      · replace c11 := Bool.eq_false_iff.mpr c11
        subst c11
        have H1 : (burinref09_Two.j0 k a0 a1 a2 a3 a4 true) = some (r1, r2, r3) := by rw [if_neg (show ¬ (false = true) by decide)] at H; exact H
        clear H
        have H := H1
        clear H1
        have H' := Aside0.mk H
        clear H
        go_wp2
        go_meet
        case rel => exact ⟨_, (true), (by first | rfl | (simp; done) | (simp [*]; done)), H', ⟨by first | omega | exact Nat.le_refl _⟩, by repeat (first | exact Drawn0.refl _ | apply Drawn0.step)⟩
    case rest =>
      clear HC10
      try clear c1
      try clear p2
      try clear c3
      try clear c7
      try clear c11
      obtain ⟨kq, x38_9, rfl, HA, HJ9, ⟨mc9, rfl⟩⟩ := hcut
      cases kq with
      | zero => exact absurd HA.out (by simp [burinref09_Two.j0])
      | succ kj9 =>
        have H := HA.out
        clear HA
        simp only [burinref09_Two.j0] at H
        by_cases c12 : x38_9 = true
        · subst c12
          have H1 : (some (0, 0, 80)) = some (r1, r2, r3) := by rw [if_pos rfl] at H; exact H
          clear H
          have H := H1
          clear H1
          simp only [Option.some.injEq, Prod.mk.injEq] at H
          obtain ⟨rfl, rfl, rfl⟩ := H
          go_wp2
          go_ret3
          exact ⟨by first | rfl | (simp; done) | (simp [*]; done), by repeat (first | exact Drawn0.refl _ | apply Drawn0.step)⟩
        · replace c12 := Bool.eq_false_iff.mpr c12
          subst c12
          have H1 : ((burinref09_In.f kj9 a0 a2 a4).bind fun bt273 => (if a0 = 6 then (burinref09_Two.j1 kj9 a0 a1 a3 bt273.1 true) else (burinref09_Two.j1 kj9 a0 a1 a3 bt273.1 (a0 == 7)))) = some (r1, r2, r3) := by rw [if_neg (show ¬ (false = true) by decide)] at H; exact H
          clear H
          have H := H1
          clear H1
          replace H := Option.bind_eq_some_iff.mp H
          obtain ⟨⟨t273, t274⟩, A130, H⟩ := H
          replace H : (if a0 = 6 then (burinref09_Two.j1 kj9 a0 a1 a3 t273 true) else (burinref09_Two.j1 kj9 a0 a1 a3 t273 (a0 == 7))) = some (r1, r2, r3) := H
          have A13 := Aside0.mk A130
          clear A130
          have HC14 := Aside0.mk H
          clear H
          go_upto_region 8 with (first | ((with_reducible refine gate_callee (f := 34) rfl ?_); refine goesL_ (some 43) rfl rfl Try.func34 (by kernel_rfl) rfl #[.int .i64 a0, .int .i64 a2, .int .i64 a4] rfl (by (try simp only [List.map_toArray, List.map_cons, List.map_nil]); first | done | rfl | (simp only [List.length_drop, List.length_take]; rfl)) ?_; (with_reducible refine (burinref09_In.calls kj9 a0 a2 a4 t273 t274 _ A13.out).mono ?_); rintro e w' ⟨rfl, ⟨nd, rfl⟩⟩; refine ⟨_, rfl, ?_⟩))
          (try simp only [Act.put, List.setIfInBounds_toArray, List.set_cons_zero, List.set_cons_succ])
          go_cut [51] (fun v51 wc => ∃ (kq : Nat) (x51_13 : Bool), v51 = .bool x51_13 ∧ Aside0 (burinref09_Two.j1 kq a0 a1 a3 t273 x51_13 = some (r1, r2, r3)) ∧ Aside0 (kq ≤ kj9) ∧ Drawn0 w wc)
          case first =>
            have H := HC14.out
            clear HC14
            by_cases c15 : a0 = 6
            · rw [if_pos c15] at H
              have c15b0 : (a0 == 6) = true := beq_iff_eq.mpr c15
              have c15b1 : (a0 != 6) = false := bne_eq_false_iff_eq.mpr c15
              clear c15
              (first | rw [c15b0] | (simp only [i64_w, i32_w]; rw [c15b0]) | skip)
              have H' := Aside0.mk H
              clear H
              go_wp2
              go_meet
              case rel => exact ⟨_, (true), (by first | rfl | (simp; done) | (simp [*]; done)), H', ⟨by have := HJ9.out; first | omega | exact Nat.le_refl _⟩, by repeat (first | exact Drawn0.refl _ | apply Drawn0.step)⟩
            · rw [if_neg c15] at H
              have c15b0 : (a0 == 6) = false := beq_eq_false_iff_ne.mpr c15
              have c15b1 : (a0 != 6) = true := bne_iff_ne.mpr c15
              (first | rw [c15b0] | (simp only [i64_w, i32_w]; rw [c15b0]) | skip)
              have H' := Aside0.mk H
              clear H
              go_wp2
              go_meet
              case rel => exact ⟨_, ((a0 == 7)), (by first | rfl | (simp; done) | (simp [*]; done)), H', ⟨by have := HJ9.out; first | omega | exact Nat.le_refl _⟩, by repeat (first | exact Drawn0.refl _ | apply Drawn0.step)⟩
          case rest =>
            clear HC14
            try clear c1
            try clear p2
            try clear c3
            try clear c7
            try clear c9
            try clear c11
            try clear c12
            try clear c15
            try clear c15b0
            try clear c15b1
            try clear p2
            obtain ⟨kq, x51_13, rfl, HA, HJ13, ⟨mc13, rfl⟩⟩ := hcut
            cases kq with
            | zero => exact absurd HA.out (by simp [burinref09_Two.j1])
            | succ kj13 =>
              have H := HA.out
              clear HA
              simp only [burinref09_Two.j1] at H
              by_cases c16 : x51_13 = true
              · subst c16
                have H1 : (if a3 < 0 then (burinref09_Two.j2 kj13 a0 a1 a3 t273 true) else ((burinref08_Size.f kj13 t273).bind fun t275 => (burinref09_Two.j2 kj13 a0 a1 a3 t273 (decide (a3 ≥ (wrap64 (8 * t275))))))) = some (r1, r2, r3) := by rw [if_pos rfl] at H; exact H
                clear H
                have H := H1
                clear H1
                have HC17 := Aside0.mk H
                clear H
                go_upto_region 9 with (fail)
                go_cut [60] (fun v60 wc => ∃ (kq : Nat) (x60_16 : Bool), v60 = .bool x60_16 ∧ Aside0 (burinref09_Two.j2 kq a0 a1 a3 t273 x60_16 = some (r1, r2, r3)) ∧ Aside0 (kq ≤ kj13) ∧ Drawn0 w wc)
                case first =>
                  have H := HC17.out
                  clear HC17
                  by_cases c18 : a3 < 0
                  · rw [if_pos c18] at H
                    have c18b0 : decide (a3 < 0) = true := decide_eq_true c18
                    clear c18
                    (first | rw [c18b0] | (simp only [i64_w, i32_w]; rw [c18b0]) | skip)
                    have H' := Aside0.mk H
                    clear H
                    go_wp2
                    go_meet
                    case rel => exact ⟨_, (true), (by first | rfl | (simp; done) | (simp [*]; done)), H', ⟨by have := HJ9.out; have := HJ13.out; first | omega | exact Nat.le_refl _⟩, by repeat (first | exact Drawn0.refl _ | apply Drawn0.step)⟩
                  · rw [if_neg c18] at H
                    have c18b0 : decide (a3 < 0) = false := decide_eq_false c18
                    clear c18
                    (first | rw [c18b0] | (simp only [i64_w, i32_w]; rw [c18b0]) | skip)
                    replace H := Option.bind_eq_some_iff.mp H
                    obtain ⟨t275, A190, H⟩ := H
                    replace H : (burinref09_Two.j2 kj13 a0 a1 a3 t273 (decide (a3 ≥ (wrap64 (8 * t275))))) = some (r1, r2, r3) := H
                    have A19 := Aside0.mk A190
                    clear A190
                    have H' := Aside0.mk H
                    clear H
                    go_wp2_with (first | (go_at_call 35; (with_reducible refine (burinref08_Size.calls kj13 t273 t275 _ A19.out).mono ?_); rintro e w' ⟨rfl, ⟨nd, rfl⟩⟩))
                    go_meet
                    case rel => exact ⟨_, (decide (a3 ≥ (wrap64 (8 * t275)))), (by first | rfl | (simp; done) | (simp [*]; done)), H', ⟨by have := HJ9.out; have := HJ13.out; first | omega | exact Nat.le_refl _⟩, by repeat (first | exact Drawn0.refl _ | apply Drawn0.step)⟩
                case rest =>
                  clear HC17
                  try clear c1
                  try clear p2
                  try clear c3
                  try clear p6
                  try clear c7
                  try clear c9
                  try clear c11
                  try clear c12
                  try clear c13
                  try clear c15
                  try clear c15b0
                  try clear c15b1
                  try clear c16
                  try clear c18
                  try clear c18b0
                  try clear p2
                  obtain ⟨kq, x60_16, rfl, HA, HJ16, ⟨mc16, rfl⟩⟩ := hcut
                  cases kq with
                  | zero => exact absurd HA.out (by simp [burinref09_Two.j2])
                  | succ kj16 =>
                    have H := HA.out
                    clear HA
                    simp only [burinref09_Two.j2] at H
                    by_cases c20 : x60_16 = true
                    · subst c20
                      have H1 : (some (0, 0, 90)) = some (r1, r2, r3) := by rw [if_pos rfl] at H; exact H
                      clear H
                      have H := H1
                      clear H1
                      simp only [Option.some.injEq, Prod.mk.injEq] at H
                      obtain ⟨rfl, rfl, rfl⟩ := H
                      go_wp2
                      go_ret3
                      exact ⟨by first | rfl | (simp; done) | (simp [*]; done), by repeat (first | exact Drawn0.refl _ | apply Drawn0.step)⟩
                    · replace c20 := Bool.eq_false_iff.mpr c20
                      subst c20
                      have H1 : ((burinref09_shifted.f a0 t273 a1 a3).bind fun bt276 => (if bt276.2 = true then (some (bt276.1, t273, 0)) else (some (0, 0, 90)))) = some (r1, r2, r3) := by rw [if_neg (show ¬ (false = true) by decide)] at H; exact H
                      clear H
                      have H := H1
                      clear H1
                      replace H := Option.bind_eq_some_iff.mp H
                      obtain ⟨⟨t276, t277⟩, A210, H⟩ := H
                      replace H : (if t277 = true then (some (t276, t273, 0)) else (some (0, 0, 90))) = some (r1, r2, r3) := H
                      have A21 := Aside0.mk A210
                      clear A210
                      by_cases c22 : t277 = true
                      · subst c22
                        have H1 : (some (t276, t273, 0)) = some (r1, r2, r3) := by rw [if_pos rfl] at H; exact H
                        clear H
                        have H := H1
                        clear H1
                        simp only [Option.some.injEq, Prod.mk.injEq] at H
                        obtain ⟨rfl, rfl, rfl⟩ := H
                        go_wp2_with (first | ((with_reducible refine gate_callee (f := 36) rfl ?_); refine goesL_ (some 66) rfl rfl Try.func36 (by kernel_rfl) rfl #[.int .i64 a0, .int .i64 t273, .int .i64 a1, .int .i64 a3] rfl (by (try simp only [List.map_toArray, List.map_cons, List.map_nil]); first | done | rfl | (simp only [List.length_drop, List.length_take]; rfl)) ?_; (with_reducible refine (burinref09_shifted.calls a0 t273 a1 a3 t276 true _ A21.out).mono ?_); rintro e w' ⟨rfl, ⟨nd, rfl⟩⟩; refine ⟨_, rfl, ?_⟩))
                        go_ret3
                        exact ⟨by first | rfl | (simp; done) | (simp [*]; done), by repeat (first | exact Drawn0.refl _ | apply Drawn0.step)⟩
                      · replace c22 := Bool.eq_false_iff.mpr c22
                        subst c22
                        have H1 : (some (0, 0, 90)) = some (r1, r2, r3) := by rw [if_neg (show ¬ (false = true) by decide)] at H; exact H
                        clear H
                        have H := H1
                        clear H1
                        simp only [Option.some.injEq, Prod.mk.injEq] at H
                        obtain ⟨rfl, rfl, rfl⟩ := H
                        go_wp2_with (first | ((with_reducible refine gate_callee (f := 36) rfl ?_); refine goesL_ (some 66) rfl rfl Try.func36 (by kernel_rfl) rfl #[.int .i64 a0, .int .i64 t273, .int .i64 a1, .int .i64 a3] rfl (by (try simp only [List.map_toArray, List.map_cons, List.map_nil]); first | done | rfl | (simp only [List.length_drop, List.length_take]; rfl)) ?_; (with_reducible refine (burinref09_shifted.calls a0 t273 a1 a3 t276 false _ A21.out).mono ?_); rintro e w' ⟨rfl, ⟨nd, rfl⟩⟩; refine ⟨_, rfl, ?_⟩))
                        go_ret3
                        exact ⟨by first | rfl | (simp; done) | (simp [*]; done), by repeat (first | exact Drawn0.refl _ | apply Drawn0.step)⟩
              · replace c16 := Bool.eq_false_iff.mpr c16
                subst c16
                have H1 : ((burinref08_To.f a1 t273).bind fun bt278 => ((burinref08_To.f a3 t273).bind fun bt280 => ((burinref09_isTruth.f a0).bind fun t282 => (if t282 = true then ((burinref09_compared.f a0 t273 bt278.1 bt280.1).bind fun t283 => (some (t283, 5, 0))) else (if a0 = 4 then (burinref09_Two.j3 kj13 a0 bt278.1 bt280.1 t273 true) else (burinref09_Two.j3 kj13 a0 bt278.1 bt280.1 t273 (a0 == 5))))))) = some (r1, r2, r3) := by rw [if_neg (show ¬ (false = true) by decide)] at H; exact H
                clear H
                have H := H1
                clear H1
                replace H := Option.bind_eq_some_iff.mp H
                obtain ⟨⟨t278, t279⟩, A230, H⟩ := H
                replace H : ((burinref08_To.f a3 t273).bind fun bt280 => ((burinref09_isTruth.f a0).bind fun t282 => (if t282 = true then ((burinref09_compared.f a0 t273 t278 bt280.1).bind fun t283 => (some (t283, 5, 0))) else (if a0 = 4 then (burinref09_Two.j3 kj13 a0 t278 bt280.1 t273 true) else (burinref09_Two.j3 kj13 a0 t278 bt280.1 t273 (a0 == 5)))))) = some (r1, r2, r3) := H
                have A23 := Aside0.mk A230
                clear A230
                replace H := Option.bind_eq_some_iff.mp H
                obtain ⟨⟨t280, t281⟩, A240, H⟩ := H
                replace H : ((burinref09_isTruth.f a0).bind fun t282 => (if t282 = true then ((burinref09_compared.f a0 t273 t278 t280).bind fun t283 => (some (t283, 5, 0))) else (if a0 = 4 then (burinref09_Two.j3 kj13 a0 t278 t280 t273 true) else (burinref09_Two.j3 kj13 a0 t278 t280 t273 (a0 == 5))))) = some (r1, r2, r3) := H
                have A24 := Aside0.mk A240
                clear A240
                replace H := Option.bind_eq_some_iff.mp H
                obtain ⟨t282, A250, H⟩ := H
                replace H : (if t282 = true then ((burinref09_compared.f a0 t273 t278 t280).bind fun t283 => (some (t283, 5, 0))) else (if a0 = 4 then (burinref09_Two.j3 kj13 a0 t278 t280 t273 true) else (burinref09_Two.j3 kj13 a0 t278 t280 t273 (a0 == 5)))) = some (r1, r2, r3) := H
                have A25 := Aside0.mk A250
                clear A250
                by_cases c26 : t282 = true
                · subst c26
                  have H1 : ((burinref09_compared.f a0 t273 t278 t280).bind fun t283 => (some (t283, 5, 0))) = some (r1, r2, r3) := by rw [if_pos rfl] at H; exact H
                  clear H
                  have H := H1
                  clear H1
                  replace H := Option.bind_eq_some_iff.mp H
                  obtain ⟨t283, A270, H⟩ := H
                  replace H : (some (t283, 5, 0)) = some (r1, r2, r3) := H
                  have A27 := Aside0.mk A270
                  clear A270
                  simp only [Option.some.injEq, Prod.mk.injEq] at H
                  obtain ⟨rfl, rfl, rfl⟩ := H
                  go_wp2_with (first | ((with_reducible refine gate_callee (f := 37) rfl ?_); refine goesL_ (some 76) rfl rfl Try.func37 (by kernel_rfl) rfl #[.int .i64 a1, .int .i64 t273] rfl (by (try simp only [List.map_toArray, List.map_cons, List.map_nil]); first | done | rfl | (simp only [List.length_drop, List.length_take]; rfl)) ?_; (with_reducible refine (burinref08_To.calls a1 t273 t278 t279 _ A23.out).mono ?_); rintro e w' ⟨rfl, ⟨nd, rfl⟩⟩; refine ⟨_, rfl, ?_⟩) | ((with_reducible refine gate_callee (f := 37) rfl ?_); refine goesL_ (some 82) rfl rfl Try.func37 (by kernel_rfl) rfl #[.int .i64 a3, .int .i64 t273] rfl (by (try simp only [List.map_toArray, List.map_cons, List.map_nil]); first | done | rfl | (simp only [List.length_drop, List.length_take]; rfl)) ?_; (with_reducible refine (burinref08_To.calls a3 t273 t280 t281 _ A24.out).mono ?_); rintro e w' ⟨rfl, ⟨nd, rfl⟩⟩; refine ⟨_, rfl, ?_⟩) | ((with_reducible refine gate_callee (f := 38) rfl ?_); refine goesL_ (some 86) rfl rfl Try.func38 (by kernel_rfl) rfl #[.int .i64 a0] rfl (by (try simp only [List.map_toArray, List.map_cons, List.map_nil]); first | done | rfl | (simp only [List.length_drop, List.length_take]; rfl)) ?_; (with_reducible refine (burinref09_isTruth.calls a0 true _ A25.out).mono ?_); rintro e w' ⟨rfl, ⟨nd, rfl⟩⟩; refine ⟨_, rfl, ?_⟩) | ((with_reducible refine gate_callee (f := 39) rfl ?_); refine goesL_ (some 91) rfl rfl Try.func39 (by kernel_rfl) rfl #[.int .i64 a0, .int .i64 t273, .int .i64 t278, .int .i64 t280] rfl (by (try simp only [List.map_toArray, List.map_cons, List.map_nil]); first | done | rfl | (simp only [List.length_drop, List.length_take]; rfl)) ?_; (with_reducible refine (burinref09_compared.calls a0 t273 t278 t280 t283 _ A27.out).mono ?_); rintro e w' ⟨rfl, ⟨nd, rfl⟩⟩; refine ⟨_, rfl, ?_⟩))
                  go_ret3
                  exact ⟨by first | rfl | (simp; done) | (simp [*]; done), by repeat (first | exact Drawn0.refl _ | apply Drawn0.step)⟩
                · replace c26 := Bool.eq_false_iff.mpr c26
                  subst c26
                  have H1 : (if a0 = 4 then (burinref09_Two.j3 kj13 a0 t278 t280 t273 true) else (burinref09_Two.j3 kj13 a0 t278 t280 t273 (a0 == 5))) = some (r1, r2, r3) := by rw [if_neg (show ¬ (false = true) by decide)] at H; exact H
                  clear H
                  have H := H1
                  clear H1
                  have HC28 := Aside0.mk H
                  clear H
                  go_upto_region 21 with (first | ((with_reducible refine gate_callee (f := 37) rfl ?_); refine goesL_ (some 76) rfl rfl Try.func37 (by kernel_rfl) rfl #[.int .i64 a1, .int .i64 t273] rfl (by (try simp only [List.map_toArray, List.map_cons, List.map_nil]); first | done | rfl | (simp only [List.length_drop, List.length_take]; rfl)) ?_; (with_reducible refine (burinref08_To.calls a1 t273 t278 t279 _ A23.out).mono ?_); rintro e w' ⟨rfl, ⟨nd, rfl⟩⟩; refine ⟨_, rfl, ?_⟩) | ((with_reducible refine gate_callee (f := 37) rfl ?_); refine goesL_ (some 82) rfl rfl Try.func37 (by kernel_rfl) rfl #[.int .i64 a3, .int .i64 t273] rfl (by (try simp only [List.map_toArray, List.map_cons, List.map_nil]); first | done | rfl | (simp only [List.length_drop, List.length_take]; rfl)) ?_; (with_reducible refine (burinref08_To.calls a3 t273 t280 t281 _ A24.out).mono ?_); rintro e w' ⟨rfl, ⟨nd, rfl⟩⟩; refine ⟨_, rfl, ?_⟩) | ((with_reducible refine gate_callee (f := 38) rfl ?_); refine goesL_ (some 86) rfl rfl Try.func38 (by kernel_rfl) rfl #[.int .i64 a0] rfl (by (try simp only [List.map_toArray, List.map_cons, List.map_nil]); first | done | rfl | (simp only [List.length_drop, List.length_take]; rfl)) ?_; (with_reducible refine (burinref09_isTruth.calls a0 false _ A25.out).mono ?_); rintro e w' ⟨rfl, ⟨nd, rfl⟩⟩; refine ⟨_, rfl, ?_⟩))
                  (try simp only [Act.put, List.setIfInBounds_toArray, List.set_cons_zero, List.set_cons_succ])
                  go_cut [97] (fun v97 wc => ∃ (kq : Nat) (x97_27 : Bool), v97 = .bool x97_27 ∧ Aside0 (burinref09_Two.j3 kq a0 t278 t280 t273 x97_27 = some (r1, r2, r3)) ∧ Aside0 (kq ≤ kj13) ∧ Drawn0 w wc)
                  case first =>
                    have H := HC28.out
                    clear HC28
                    by_cases c29 : a0 = 4
                    · rw [if_pos c29] at H
                      have c29b0 : (a0 == 4) = true := beq_iff_eq.mpr c29
                      have c29b1 : (a0 != 4) = false := bne_eq_false_iff_eq.mpr c29
                      clear c29
                      (first | rw [c29b0] | (simp only [i64_w, i32_w]; rw [c29b0]) | skip)
                      have H' := Aside0.mk H
                      clear H
                      go_wp2
                      go_meet
                      case rel => exact ⟨_, (true), (by first | rfl | (simp; done) | (simp [*]; done)), H', ⟨by have := HJ9.out; have := HJ13.out; first | omega | exact Nat.le_refl _⟩, by repeat (first | exact Drawn0.refl _ | apply Drawn0.step)⟩
                    · rw [if_neg c29] at H
                      have c29b0 : (a0 == 4) = false := beq_eq_false_iff_ne.mpr c29
                      have c29b1 : (a0 != 4) = true := bne_iff_ne.mpr c29
                      (first | rw [c29b0] | (simp only [i64_w, i32_w]; rw [c29b0]) | skip)
                      have H' := Aside0.mk H
                      clear H
                      go_wp2
                      go_meet
                      case rel => exact ⟨_, ((a0 == 5)), (by first | rfl | (simp; done) | (simp [*]; done)), H', ⟨by have := HJ9.out; have := HJ13.out; first | omega | exact Nat.le_refl _⟩, by repeat (first | exact Drawn0.refl _ | apply Drawn0.step)⟩
                  case rest =>
                    clear HC28
                    try clear c1
                    try clear c2
                    try clear p2
                    try clear c3
                    try clear p6
                    try clear c7
                    try clear c9
                    try clear c11
                    try clear c12
                    try clear c13
                    try clear c15
                    try clear c15b0
                    try clear c15b1
                    try clear c16
                    try clear c18
                    try clear c18b0
                    try clear c20
                    try clear c22
                    try clear c26
                    try clear c29
                    try clear c29b0
                    try clear c29b1
                    try clear p2
                    try clear p6
                    obtain ⟨kq, x97_27, rfl, HA, HJ27, ⟨mc27, rfl⟩⟩ := hcut
                    cases kq with
                    | zero => exact absurd HA.out (by simp [burinref09_Two.j3])
                    | succ kj27 =>
                      have H := HA.out
                      clear HA
                      simp only [burinref09_Two.j3] at H
                      have HC30 := Aside0.mk H
                      clear H
                      go_upto_if 97 with (fail)
                      go_cut [19, 20] (fun v19 v20 wc => ∃ (kq : Nat) (x19_29 : Int) (x20_29 : Bool), v19 = .int .i64 x19_29 ∧ v20 = .bool x20_29 ∧ Aside0 (burinref09_Two.j4 kq t273 x19_29 x20_29 = some (r1, r2, r3)) ∧ Aside0 (kq ≤ kj27) ∧ Drawn0 w wc)
                      case first =>
                        have H := HC30.out
                        clear HC30
                        by_cases c31 : x97_27 = true
                        · subst c31
                          have H1 : (if t280 = 0 then (some (0, 0, 90)) else ((burinref09_Divided.f a0 t273 t278 t280).bind fun t284 => ((burinref09_Divided.f 4 t273 t278 t280).bind fun t285 => ((burinref08_Lies.f t285 t273).bind fun t286 => (if t286 = true then (if t273 = 7 then (if t278 = (-9223372036854775808) then (burinref09_Two.j4 kj27 t273 t284 (!(t280 == (-1)))) else (burinref09_Two.j4 kj27 t273 t284 (!false))) else (burinref09_Two.j4 kj27 t273 t284 (!false))) else (burinref09_Two.j4 kj27 t273 t284 false)))))) = some (r1, r2, r3) := by rw [if_pos rfl] at H; exact H
                          clear H
                          have H := H1
                          clear H1
                          by_cases c32 : t280 = 0
                          · rw [if_pos c32] at H
                            have c32b0 : (t280 == 0) = true := beq_iff_eq.mpr c32
                            have c32b1 : (t280 != 0) = false := bne_eq_false_iff_eq.mpr c32
                            clear c32
                            (first | rw [c32b0] | (simp only [i64_w, i32_w]; rw [c32b0]) | skip)
                            simp only [Option.some.injEq, Prod.mk.injEq] at H
                            obtain ⟨rfl, rfl, rfl⟩ := H
                            go_wp2
                            go_ret3
                            exact ⟨by first | rfl | (simp; done) | (simp [*]; done), by repeat (first | exact Drawn0.refl _ | apply Drawn0.step)⟩
                          · rw [if_neg c32] at H
                            have c32b0 : (t280 == 0) = false := beq_eq_false_iff_ne.mpr c32
                            have c32b1 : (t280 != 0) = true := bne_iff_ne.mpr c32
                            (first | rw [c32b0] | (simp only [i64_w, i32_w]; rw [c32b0]) | skip)
                            replace H := Option.bind_eq_some_iff.mp H
                            obtain ⟨t284, A330, H⟩ := H
                            replace H : ((burinref09_Divided.f 4 t273 t278 t280).bind fun t285 => ((burinref08_Lies.f t285 t273).bind fun t286 => (if t286 = true then (if t273 = 7 then (if t278 = (-9223372036854775808) then (burinref09_Two.j4 kj27 t273 t284 (!(t280 == (-1)))) else (burinref09_Two.j4 kj27 t273 t284 (!false))) else (burinref09_Two.j4 kj27 t273 t284 (!false))) else (burinref09_Two.j4 kj27 t273 t284 false)))) = some (r1, r2, r3) := H
                            have A33 := Aside0.mk A330
                            clear A330
                            replace H := Option.bind_eq_some_iff.mp H
                            obtain ⟨t285, A340, H⟩ := H
                            replace H : ((burinref08_Lies.f t285 t273).bind fun t286 => (if t286 = true then (if t273 = 7 then (if t278 = (-9223372036854775808) then (burinref09_Two.j4 kj27 t273 t284 (!(t280 == (-1)))) else (burinref09_Two.j4 kj27 t273 t284 (!false))) else (burinref09_Two.j4 kj27 t273 t284 (!false))) else (burinref09_Two.j4 kj27 t273 t284 false))) = some (r1, r2, r3) := H
                            have A34 := Aside0.mk A340
                            clear A340
                            replace H := Option.bind_eq_some_iff.mp H
                            obtain ⟨t286, A350, H⟩ := H
                            replace H : (if t286 = true then (if t273 = 7 then (if t278 = (-9223372036854775808) then (burinref09_Two.j4 kj27 t273 t284 (!(t280 == (-1)))) else (burinref09_Two.j4 kj27 t273 t284 (!false))) else (burinref09_Two.j4 kj27 t273 t284 (!false))) else (burinref09_Two.j4 kj27 t273 t284 false)) = some (r1, r2, r3) := H
                            have A35 := Aside0.mk A350
                            clear A350
                            by_cases c36 : t286 = true
                            · subst c36
                              have H1 : (if t273 = 7 then (if t278 = (-9223372036854775808) then (burinref09_Two.j4 kj27 t273 t284 (!(t280 == (-1)))) else (burinref09_Two.j4 kj27 t273 t284 (!false))) else (burinref09_Two.j4 kj27 t273 t284 (!false))) = some (r1, r2, r3) := by rw [if_pos rfl] at H; exact H
                              clear H
                              have H := H1
                              clear H1
                              by_cases c37 : t273 = 7
                              · rw [if_pos c37] at H
                                have c37b0 : (t273 == 7) = true := beq_iff_eq.mpr c37
                                have c37b1 : (t273 != 7) = false := bne_eq_false_iff_eq.mpr c37
                                clear c37
                                by_cases c38 : t278 = (-9223372036854775808)
                                · rw [if_pos c38] at H
                                  have c38b0 : (t278 == (-9223372036854775808)) = true := beq_iff_eq.mpr c38
                                  have c38b1 : (t278 != (-9223372036854775808)) = false := bne_eq_false_iff_eq.mpr c38
                                  clear c38
                                  have H' := Aside0.mk H
                                  clear H
                                  go_wp2_with (first | ((with_reducible refine gate_callee (f := 40) rfl ?_); refine goesL_ (some 104) rfl rfl Try.func40 (by kernel_rfl) rfl #[.int .i64 a0, .int .i64 t273, .int .i64 t278, .int .i64 t280] rfl (by (try simp only [List.map_toArray, List.map_cons, List.map_nil]); first | done | rfl | (simp only [List.length_drop, List.length_take]; rfl)) ?_; (with_reducible refine (burinref09_Divided.calls a0 t273 t278 t280 t284 _ A33.out).mono ?_); rintro e w' ⟨rfl, ⟨nd, rfl⟩⟩; refine ⟨_, rfl, ?_⟩) | ((with_reducible refine gate_callee (f := 40) rfl ?_); refine goesL_ (some 108) rfl rfl Try.func40 (by kernel_rfl) rfl #[.int .i64 4, .int .i64 t273, .int .i64 t278, .int .i64 t280] rfl (by (try simp only [List.map_toArray, List.map_cons, List.map_nil]); first | done | rfl | (simp only [List.length_drop, List.length_take]; rfl)) ?_; (with_reducible refine (burinref09_Divided.calls 4 t273 t278 t280 t285 _ A34.out).mono ?_); rintro e w' ⟨rfl, ⟨nd, rfl⟩⟩; refine ⟨_, rfl, ?_⟩) | ((with_reducible refine gate_callee (f := 33) rfl ?_); refine goesL_ (some 111) rfl rfl Try.func33 (by kernel_rfl) rfl #[.int .i64 t285, .int .i64 t273] rfl (by (try simp only [List.map_toArray, List.map_cons, List.map_nil]); first | done | rfl | (simp only [List.length_drop, List.length_take]; rfl)) ?_; (with_reducible refine (burinref08_Lies.calls t285 t273 true _ A35.out).mono ?_); rintro e w' ⟨rfl, ⟨nd, rfl⟩⟩; refine ⟨_, rfl, ?_⟩))
                                  go_meet
                                  case rel => exact ⟨_, (t284), (!(t280 == (-1))), (by first | rfl | (simp; done) | (simp [*]; done)), (by first | rfl | (simp; done) | (simp [*]; done)), H', ⟨by have := HJ9.out; have := HJ13.out; have := HJ27.out; first | omega | exact Nat.le_refl _⟩, by repeat (first | exact Drawn0.refl _ | apply Drawn0.step)⟩
                                · rw [if_neg c38] at H
                                  have c38b0 : (t278 == (-9223372036854775808)) = false := beq_eq_false_iff_ne.mpr c38
                                  have c38b1 : (t278 != (-9223372036854775808)) = true := bne_iff_ne.mpr c38
                                  have H' := Aside0.mk H
                                  clear H
                                  go_wp2_with (first | ((with_reducible refine gate_callee (f := 40) rfl ?_); refine goesL_ (some 104) rfl rfl Try.func40 (by kernel_rfl) rfl #[.int .i64 a0, .int .i64 t273, .int .i64 t278, .int .i64 t280] rfl (by (try simp only [List.map_toArray, List.map_cons, List.map_nil]); first | done | rfl | (simp only [List.length_drop, List.length_take]; rfl)) ?_; (with_reducible refine (burinref09_Divided.calls a0 t273 t278 t280 t284 _ A33.out).mono ?_); rintro e w' ⟨rfl, ⟨nd, rfl⟩⟩; refine ⟨_, rfl, ?_⟩) | ((with_reducible refine gate_callee (f := 40) rfl ?_); refine goesL_ (some 108) rfl rfl Try.func40 (by kernel_rfl) rfl #[.int .i64 4, .int .i64 t273, .int .i64 t278, .int .i64 t280] rfl (by (try simp only [List.map_toArray, List.map_cons, List.map_nil]); first | done | rfl | (simp only [List.length_drop, List.length_take]; rfl)) ?_; (with_reducible refine (burinref09_Divided.calls 4 t273 t278 t280 t285 _ A34.out).mono ?_); rintro e w' ⟨rfl, ⟨nd, rfl⟩⟩; refine ⟨_, rfl, ?_⟩) | ((with_reducible refine gate_callee (f := 33) rfl ?_); refine goesL_ (some 111) rfl rfl Try.func33 (by kernel_rfl) rfl #[.int .i64 t285, .int .i64 t273] rfl (by (try simp only [List.map_toArray, List.map_cons, List.map_nil]); first | done | rfl | (simp only [List.length_drop, List.length_take]; rfl)) ?_; (with_reducible refine (burinref08_Lies.calls t285 t273 true _ A35.out).mono ?_); rintro e w' ⟨rfl, ⟨nd, rfl⟩⟩; refine ⟨_, rfl, ?_⟩))
                                  go_meet
                                  case rel => exact ⟨_, (t284), (!false), (by first | rfl | (simp; done) | (simp [*]; done)), (by first | rfl | (simp; done) | (simp [*]; done)), H', ⟨by have := HJ9.out; have := HJ13.out; have := HJ27.out; first | omega | exact Nat.le_refl _⟩, by repeat (first | exact Drawn0.refl _ | apply Drawn0.step)⟩
                              · rw [if_neg c37] at H
                                have c37b0 : (t273 == 7) = false := beq_eq_false_iff_ne.mpr c37
                                have c37b1 : (t273 != 7) = true := bne_iff_ne.mpr c37
                                have H' := Aside0.mk H
                                clear H
                                go_wp2_with (first | ((with_reducible refine gate_callee (f := 40) rfl ?_); refine goesL_ (some 104) rfl rfl Try.func40 (by kernel_rfl) rfl #[.int .i64 a0, .int .i64 t273, .int .i64 t278, .int .i64 t280] rfl (by (try simp only [List.map_toArray, List.map_cons, List.map_nil]); first | done | rfl | (simp only [List.length_drop, List.length_take]; rfl)) ?_; (with_reducible refine (burinref09_Divided.calls a0 t273 t278 t280 t284 _ A33.out).mono ?_); rintro e w' ⟨rfl, ⟨nd, rfl⟩⟩; refine ⟨_, rfl, ?_⟩) | ((with_reducible refine gate_callee (f := 40) rfl ?_); refine goesL_ (some 108) rfl rfl Try.func40 (by kernel_rfl) rfl #[.int .i64 4, .int .i64 t273, .int .i64 t278, .int .i64 t280] rfl (by (try simp only [List.map_toArray, List.map_cons, List.map_nil]); first | done | rfl | (simp only [List.length_drop, List.length_take]; rfl)) ?_; (with_reducible refine (burinref09_Divided.calls 4 t273 t278 t280 t285 _ A34.out).mono ?_); rintro e w' ⟨rfl, ⟨nd, rfl⟩⟩; refine ⟨_, rfl, ?_⟩) | ((with_reducible refine gate_callee (f := 33) rfl ?_); refine goesL_ (some 111) rfl rfl Try.func33 (by kernel_rfl) rfl #[.int .i64 t285, .int .i64 t273] rfl (by (try simp only [List.map_toArray, List.map_cons, List.map_nil]); first | done | rfl | (simp only [List.length_drop, List.length_take]; rfl)) ?_; (with_reducible refine (burinref08_Lies.calls t285 t273 true _ A35.out).mono ?_); rintro e w' ⟨rfl, ⟨nd, rfl⟩⟩; refine ⟨_, rfl, ?_⟩))
                                go_meet
                                case rel => exact ⟨_, (t284), (!false), (by first | rfl | (simp; done) | (simp [*]; done)), (by first | rfl | (simp; done) | (simp [*]; done)), H', ⟨by have := HJ9.out; have := HJ13.out; have := HJ27.out; first | omega | exact Nat.le_refl _⟩, by repeat (first | exact Drawn0.refl _ | apply Drawn0.step)⟩
                            · replace c36 := Bool.eq_false_iff.mpr c36
                              subst c36
                              have H1 : (burinref09_Two.j4 kj27 t273 t284 false) = some (r1, r2, r3) := by rw [if_neg (show ¬ (false = true) by decide)] at H; exact H
                              clear H
                              have H := H1
                              clear H1
                              have H' := Aside0.mk H
                              clear H
                              go_wp2_with (first | ((with_reducible refine gate_callee (f := 40) rfl ?_); refine goesL_ (some 104) rfl rfl Try.func40 (by kernel_rfl) rfl #[.int .i64 a0, .int .i64 t273, .int .i64 t278, .int .i64 t280] rfl (by (try simp only [List.map_toArray, List.map_cons, List.map_nil]); first | done | rfl | (simp only [List.length_drop, List.length_take]; rfl)) ?_; (with_reducible refine (burinref09_Divided.calls a0 t273 t278 t280 t284 _ A33.out).mono ?_); rintro e w' ⟨rfl, ⟨nd, rfl⟩⟩; refine ⟨_, rfl, ?_⟩) | ((with_reducible refine gate_callee (f := 40) rfl ?_); refine goesL_ (some 108) rfl rfl Try.func40 (by kernel_rfl) rfl #[.int .i64 4, .int .i64 t273, .int .i64 t278, .int .i64 t280] rfl (by (try simp only [List.map_toArray, List.map_cons, List.map_nil]); first | done | rfl | (simp only [List.length_drop, List.length_take]; rfl)) ?_; (with_reducible refine (burinref09_Divided.calls 4 t273 t278 t280 t285 _ A34.out).mono ?_); rintro e w' ⟨rfl, ⟨nd, rfl⟩⟩; refine ⟨_, rfl, ?_⟩) | ((with_reducible refine gate_callee (f := 33) rfl ?_); refine goesL_ (some 111) rfl rfl Try.func33 (by kernel_rfl) rfl #[.int .i64 t285, .int .i64 t273] rfl (by (try simp only [List.map_toArray, List.map_cons, List.map_nil]); first | done | rfl | (simp only [List.length_drop, List.length_take]; rfl)) ?_; (with_reducible refine (burinref08_Lies.calls t285 t273 false _ A35.out).mono ?_); rintro e w' ⟨rfl, ⟨nd, rfl⟩⟩; refine ⟨_, rfl, ?_⟩))
                              go_meet
                              case rel => exact ⟨_, (t284), (false), (by first | rfl | (simp; done) | (simp [*]; done)), (by first | rfl | (simp; done) | (simp [*]; done)), H', ⟨by have := HJ9.out; have := HJ13.out; have := HJ27.out; first | omega | exact Nat.le_refl _⟩, by repeat (first | exact Drawn0.refl _ | apply Drawn0.step)⟩
                        · replace c31 := Bool.eq_false_iff.mpr c31
                          subst c31
                          have H1 : ((burinref09_plain.f a0 t278 t280).bind fun bt287 => (burinref09_Two.j4 kj27 t273 bt287.1 bt287.2)) = some (r1, r2, r3) := by rw [if_neg (show ¬ (false = true) by decide)] at H; exact H
                          clear H
                          have H := H1
                          clear H1
                          replace H := Option.bind_eq_some_iff.mp H
                          obtain ⟨⟨t287, t288⟩, A390, H⟩ := H
                          replace H : (burinref09_Two.j4 kj27 t273 t287 t288) = some (r1, r2, r3) := H
                          have A39 := Aside0.mk A390
                          clear A390
                          have H' := Aside0.mk H
                          clear H
                          go_wp2_with (first | ((with_reducible refine gate_callee (f := 41) rfl ?_); refine goesL_ (some 129) rfl rfl Try.func41 (by kernel_rfl) rfl #[.int .i64 a0, .int .i64 t278, .int .i64 t280] rfl (by (try simp only [List.map_toArray, List.map_cons, List.map_nil]); first | done | rfl | (simp only [List.length_drop, List.length_take]; rfl)) ?_; (with_reducible refine (burinref09_plain.calls a0 t278 t280 t287 t288 _ A39.out).mono ?_); rintro e w' ⟨rfl, ⟨nd, rfl⟩⟩; refine ⟨_, rfl, ?_⟩))
                          go_meet
                          case rel => exact ⟨_, (t287), (t288), (by first | rfl | (simp; done) | (simp [*]; done)), (by first | rfl | (simp; done) | (simp [*]; done)), H', ⟨by have := HJ9.out; have := HJ13.out; have := HJ27.out; first | omega | exact Nat.le_refl _⟩, by repeat (first | exact Drawn0.refl _ | apply Drawn0.step)⟩
                      case rest =>
                        clear HC30
                        try clear c1
                        try clear c2
                        try clear p2
                        try clear c3
                        try clear c4
                        try clear p6
                        try clear c7
                        try clear c9
                        try clear c11
                        try clear c12
                        try clear c13
                        try clear c15
                        try clear c15b0
                        try clear c15b1
                        try clear c16
                        try clear c18
                        try clear c18b0
                        try clear c20
                        try clear c22
                        try clear c26
                        try clear c27
                        try clear c29
                        try clear c29b0
                        try clear c29b1
                        try clear c31
                        try clear c32
                        try clear c32b0
                        try clear c32b1
                        try clear c33
                        try clear c34
                        try clear c36
                        try clear c37
                        try clear c37b0
                        try clear c37b1
                        try clear c38
                        try clear c38b0
                        try clear c38b1
                        try clear c39
                        try clear p2
                        try clear p6
                        obtain ⟨kq, x19_29, x20_29, rfl, rfl, HA, HJ29, ⟨mc29, rfl⟩⟩ := hcut
                        cases kq with
                        | zero => exact absurd HA.out (by simp [burinref09_Two.j4])
                        | succ kj29 =>
                          have H := HA.out
                          clear HA
                          simp only [burinref09_Two.j4] at H
                          replace H := Option.bind_eq_some_iff.mp H
                          obtain ⟨⟨t289, t290⟩, A400, H⟩ := H
                          replace H : ((burinref08_Unsigned.f t273).bind fun t291 => (if t291 = true then (some (t289, t273, 0)) else (if x20_29 = true then (if t289 = x19_29 then (some (t289, t273, 0)) else (some (0, 0, 90))) else (some (0, 0, 90))))) = some (r1, r2, r3) := H
                          have A40 := Aside0.mk A400
                          clear A400
                          replace H := Option.bind_eq_some_iff.mp H
                          obtain ⟨t291, A410, H⟩ := H
                          replace H : (if t291 = true then (some (t289, t273, 0)) else (if x20_29 = true then (if t289 = x19_29 then (some (t289, t273, 0)) else (some (0, 0, 90))) else (some (0, 0, 90)))) = some (r1, r2, r3) := H
                          have A41 := Aside0.mk A410
                          clear A410
                          by_cases c42 : t291 = true
                          · subst c42
                            have H1 : (some (t289, t273, 0)) = some (r1, r2, r3) := by rw [if_pos rfl] at H; exact H
                            clear H
                            have H := H1
                            clear H1
                            simp only [Option.some.injEq, Prod.mk.injEq] at H
                            obtain ⟨rfl, rfl, rfl⟩ := H
                            go_wp2_with (first | ((with_reducible refine gate_callee (f := 37) rfl ?_); refine goesL_ (some 135) rfl rfl Try.func37 (by kernel_rfl) rfl #[.int .i64 x19_29, .int .i64 t273] rfl (by (try simp only [List.map_toArray, List.map_cons, List.map_nil]); first | done | rfl | (simp only [List.length_drop, List.length_take]; rfl)) ?_; (with_reducible refine (burinref08_To.calls x19_29 t273 t289 t290 _ A40.out).mono ?_); rintro e w' ⟨rfl, ⟨nd, rfl⟩⟩; refine ⟨_, rfl, ?_⟩) | ((with_reducible refine gate_callee (f := 42) rfl ?_); refine goesL_ (some 139) rfl rfl Try.func42 (by kernel_rfl) rfl #[.int .i64 t273] rfl (by (try simp only [List.map_toArray, List.map_cons, List.map_nil]); first | done | rfl | (simp only [List.length_drop, List.length_take]; rfl)) ?_; (with_reducible refine (burinref08_Unsigned.calls t273 true _ A41.out).mono ?_); rintro e w' ⟨rfl, ⟨nd, rfl⟩⟩; refine ⟨_, rfl, ?_⟩))
                            go_ret3
                            exact ⟨by first | rfl | (simp; done) | (simp [*]; done), by repeat (first | exact Drawn0.refl _ | apply Drawn0.step)⟩
                          · replace c42 := Bool.eq_false_iff.mpr c42
                            subst c42
                            have H1 : (if x20_29 = true then (if t289 = x19_29 then (some (t289, t273, 0)) else (some (0, 0, 90))) else (some (0, 0, 90))) = some (r1, r2, r3) := by rw [if_neg (show ¬ (false = true) by decide)] at H; exact H
                            clear H
                            have H := H1
                            clear H1
                            by_cases c43 : x20_29 = true
                            · subst c43
                              have H1 : (if t289 = x19_29 then (some (t289, t273, 0)) else (some (0, 0, 90))) = some (r1, r2, r3) := by rw [if_pos rfl] at H; exact H
                              clear H
                              have H := H1
                              clear H1
                              by_cases c44 : t289 = x19_29
                              · rw [if_pos c44] at H
                                have c44b0 : (t289 == x19_29) = true := beq_iff_eq.mpr c44
                                have c44b1 : (t289 != x19_29) = false := bne_eq_false_iff_eq.mpr c44
                                clear c44
                                simp only [Option.some.injEq, Prod.mk.injEq] at H
                                obtain ⟨rfl, rfl, rfl⟩ := H
                                go_wp2_with (first | ((with_reducible refine gate_callee (f := 37) rfl ?_); refine goesL_ (some 135) rfl rfl Try.func37 (by kernel_rfl) rfl #[.int .i64 x19_29, .int .i64 t273] rfl (by (try simp only [List.map_toArray, List.map_cons, List.map_nil]); first | done | rfl | (simp only [List.length_drop, List.length_take]; rfl)) ?_; (with_reducible refine (burinref08_To.calls x19_29 t273 t289 t290 _ A40.out).mono ?_); rintro e w' ⟨rfl, ⟨nd, rfl⟩⟩; refine ⟨_, rfl, ?_⟩) | ((with_reducible refine gate_callee (f := 42) rfl ?_); refine goesL_ (some 139) rfl rfl Try.func42 (by kernel_rfl) rfl #[.int .i64 t273] rfl (by (try simp only [List.map_toArray, List.map_cons, List.map_nil]); first | done | rfl | (simp only [List.length_drop, List.length_take]; rfl)) ?_; (with_reducible refine (burinref08_Unsigned.calls t273 false _ A41.out).mono ?_); rintro e w' ⟨rfl, ⟨nd, rfl⟩⟩; refine ⟨_, rfl, ?_⟩))
                                go_ret3
                                exact ⟨by first | rfl | (simp; done) | (simp [*]; done), by repeat (first | exact Drawn0.refl _ | apply Drawn0.step)⟩
                              · rw [if_neg c44] at H
                                have c44b0 : (t289 == x19_29) = false := beq_eq_false_iff_ne.mpr c44
                                have c44b1 : (t289 != x19_29) = true := bne_iff_ne.mpr c44
                                simp only [Option.some.injEq, Prod.mk.injEq] at H
                                obtain ⟨rfl, rfl, rfl⟩ := H
                                go_wp2_with (first | ((with_reducible refine gate_callee (f := 37) rfl ?_); refine goesL_ (some 135) rfl rfl Try.func37 (by kernel_rfl) rfl #[.int .i64 x19_29, .int .i64 t273] rfl (by (try simp only [List.map_toArray, List.map_cons, List.map_nil]); first | done | rfl | (simp only [List.length_drop, List.length_take]; rfl)) ?_; (with_reducible refine (burinref08_To.calls x19_29 t273 t289 t290 _ A40.out).mono ?_); rintro e w' ⟨rfl, ⟨nd, rfl⟩⟩; refine ⟨_, rfl, ?_⟩) | ((with_reducible refine gate_callee (f := 42) rfl ?_); refine goesL_ (some 139) rfl rfl Try.func42 (by kernel_rfl) rfl #[.int .i64 t273] rfl (by (try simp only [List.map_toArray, List.map_cons, List.map_nil]); first | done | rfl | (simp only [List.length_drop, List.length_take]; rfl)) ?_; (with_reducible refine (burinref08_Unsigned.calls t273 false _ A41.out).mono ?_); rintro e w' ⟨rfl, ⟨nd, rfl⟩⟩; refine ⟨_, rfl, ?_⟩))
                                go_ret3
                                exact ⟨by first | rfl | (simp; done) | (simp [*]; done), by repeat (first | exact Drawn0.refl _ | apply Drawn0.step)⟩
                            · replace c43 := Bool.eq_false_iff.mpr c43
                              subst c43
                              have H1 : (some (0, 0, 90)) = some (r1, r2, r3) := by rw [if_neg (show ¬ (false = true) by decide)] at H; exact H
                              clear H
                              have H := H1
                              clear H1
                              simp only [Option.some.injEq, Prod.mk.injEq] at H
                              obtain ⟨rfl, rfl, rfl⟩ := H
                              go_wp2_with (first | ((with_reducible refine gate_callee (f := 37) rfl ?_); refine goesL_ (some 135) rfl rfl Try.func37 (by kernel_rfl) rfl #[.int .i64 x19_29, .int .i64 t273] rfl (by (try simp only [List.map_toArray, List.map_cons, List.map_nil]); first | done | rfl | (simp only [List.length_drop, List.length_take]; rfl)) ?_; (with_reducible refine (burinref08_To.calls x19_29 t273 t289 t290 _ A40.out).mono ?_); rintro e w' ⟨rfl, ⟨nd, rfl⟩⟩; refine ⟨_, rfl, ?_⟩) | ((with_reducible refine gate_callee (f := 42) rfl ?_); refine goesL_ (some 139) rfl rfl Try.func42 (by kernel_rfl) rfl #[.int .i64 t273] rfl (by (try simp only [List.map_toArray, List.map_cons, List.map_nil]); first | done | rfl | (simp only [List.length_drop, List.length_take]; rfl)) ?_; (with_reducible refine (burinref08_Unsigned.calls t273 false _ A41.out).mono ?_); rintro e w' ⟨rfl, ⟨nd, rfl⟩⟩; refine ⟨_, rfl, ?_⟩))
                              go_ret3
                              exact ⟨by first | rfl | (simp; done) | (simp [*]; done), by repeat (first | exact Drawn0.refl _ | apply Drawn0.step)⟩
  · replace c7 := Bool.eq_false_iff.mpr c7
    subst c7
    have H1 : (some (0, 0, 2)) = some (r1, r2, r3) := by rw [if_neg (show ¬ (false = true) by decide)] at H; exact H
    clear H
    have H := H1
    clear H1
    simp only [Option.some.injEq, Prod.mk.injEq] at H
    obtain ⟨rfl, rfl, rfl⟩ := H
    go_enter Try.func11, Try.ntmps11
    go_wp2_with (first | ((with_reducible refine gate_callee (f := 32) rfl ?_); refine goesL_ (some 25) rfl rfl Try.func32 (by kernel_rfl) rfl #[.int .i64 a0] rfl (by (try simp only [List.map_toArray, List.map_cons, List.map_nil]); first | done | rfl | (simp only [List.length_drop, List.length_take]; rfl)) ?_; (with_reducible refine (burinref09_Binary.calls a0 false _ A6.out).mono ?_); rintro e w' ⟨rfl, ⟨nd, rfl⟩⟩; refine ⟨_, rfl, ?_⟩))
    go_ret3
    exact ⟨by first | rfl | (simp; done) | (simp [*]; done), by repeat (first | exact Drawn0.refl _ | apply Drawn0.step)⟩

end Go.Proofs.Ytbbepiechehojaa.PA
