-- Printed by a program of this repo's wip/tools (a variant of the kit's print): Lean checks it.
import Derived.Test.YtbbepiechehojaaPAx0
import Derived.Test.YtbbepiechehojaaPAx10
import Derived.Test.YtbbepiechehojaaPAx11
import Derived.Test.YtbbepiechehojaaPAx13
import Derived.Test.YtbbepiechehojaaPAx14
import Derived.Test.YtbbepiechehojaaPAx15
namespace Go.Proofs.Ytbbepiechehojaa.PA
open Go.RowKit Go.Proofs.YtbbepiechehojaaX Go.Proofs.YtbbepiechehojaaW.PrintWords Go.Proofs.YtbbepiechehojaaW.PrintLast Go.Proofs.YtbbepiechehojaaW.PrintMore
attribute [local go_sem] max2_int min2_int max_two min_two max_three min_three max_four min_four   -- for this text's walks alone
set_option linter.unusedVariables false
set_option linter.unusedSimpArgs false

/-! ### burinref09_Wrap: function 17 -/
mutual
def burinref09_Wrap.j0 : Nat → Int → Int → Int → Int → Bool → Option (Int × Int)
  | 0, _, _, _, _, _ => none
  | k + 1, x0, x1, x2, x3, x20 => if x20 = true then (some (0, 2)) else ((burinref08_Lies.f x2 x1).bind fun t382 => ((burinref08_Lies.f x3 x1).bind fun t383 => (if t382 = true then (burinref09_Wrap.j1 k x0 x1 x2 x3 (!t383)) else (burinref09_Wrap.j1 k x0 x1 x2 x3 true))))
def burinref09_Wrap.j1 : Nat → Int → Int → Int → Int → Bool → Option (Int × Int)
  | 0, _, _, _, _, _ => none
  | k + 1, x0, x1, x2, x3, x32 => if x32 = true then (some (0, 80)) else (if x0 = 17 then ((burinref09_truth.f (x2 == 0)).bind fun t384 => (some (t384, 0))) else ((burinref09_isTruth.f x0).bind fun t385 => (if t385 = true then ((burinref09_compared.f x0 x1 x2 x3).bind fun t386 => (some (t386, 0))) else (if x0 = 6 then (burinref09_Wrap.j2 k x0 x1 x2 x3 0 x0 (x0 == 6)) else (burinref09_Wrap.j2 k x0 x1 x2 x3 0 x0 (x0 == 7))))))
def burinref09_Wrap.j2 : Nat → Int → Int → Int → Int → Int → Int → Bool → Option (Int × Int)
  | 0, _, _, _, _, _, _, _ => none
  | k + 1, x0, x1, x2, x3, x12, x45, x53 => if x53 = true then ((burinref08_Size.f k x1).bind fun t387 => (if (IntKind.u64.wrap (wrap64 (8 * t387))) = 0 then (none) else ((burinref09_shifted.f x0 x1 x2 (wrap64 (Int.tmod (IntKind.u64.wrap (x3)) (IntKind.u64.wrap (wrap64 (8 * t387)))))).bind fun bt388 => ((burinref08_To.f bt388.1 x1).bind fun bt390 => (some (bt390.1, bt390.2)))))) else (if x45 = 4 then (burinref09_Wrap.j3 k x0 x1 x2 x3 x12 x45 (x45 == 4)) else (burinref09_Wrap.j3 k x0 x1 x2 x3 x12 x45 (x45 == 5)))
def burinref09_Wrap.j3 : Nat → Int → Int → Int → Int → Int → Int → Bool → Option (Int × Int)
  | 0, _, _, _, _, _, _, _ => none
  | k + 1, x0, x1, x2, x3, x12, x45, x71 => if x71 = true then (if x3 = 0 then (burinref09_Wrap.j4 k x0 x1 x2 x3 x12 (x0 == 5)) else (burinref09_Wrap.j4 k x0 x1 x2 x3 x12 false)) else (if x45 = 15 then ((burinref08_To.f (wrap64 (-x2)) x1).bind fun bt397 => (some (bt397.1, bt397.2))) else (if x45 = 16 then ((burinref08_To.f (Go.bits .xor .i64 (-1) x2) x1).bind fun bt399 => (some (bt399.1, bt399.2))) else ((burinref09_plain.f x0 x2 x3).bind fun bt401 => ((burinref08_To.f bt401.1 x1).bind fun bt403 => (some (bt403.1, bt403.2))))))
def burinref09_Wrap.j4 : Nat → Int → Int → Int → Int → Int → Bool → Option (Int × Int)
  | 0, _, _, _, _, _, _ => none
  | k + 1, x0, x1, x2, x3, x12, x79 => if x79 = true then (burinref09_Wrap.j5 k x0 x1 x2 x3 x2) else (burinref09_Wrap.j5 k x0 x1 x2 x3 x12)
def burinref09_Wrap.j5 : Nat → Int → Int → Int → Int → Int → Option (Int × Int)
  | 0, _, _, _, _, _ => none
  | k + 1, x0, x1, x2, x3, x12 => if x3 = 0 then ((burinref08_To.f x12 x1).bind fun bt392 => (some (bt392.1, bt392.2))) else ((burinref09_Divided.f x0 x1 x2 x3).bind fun t394 => ((burinref08_To.f t394 x1).bind fun bt395 => (some (bt395.1, bt395.2))))
end
def burinref09_Wrap.f (k : Nat) (a0 : Int) (a1 : Int) (a2 : Int) (a3 : Int) : Option (Int × Int) := (burinref09_Binary.f a0).bind fun t380 => (if t380 = true then (burinref09_Wrap.j0 k a0 a1 a2 a3 false) else ((burinref09_isOne.f a0).bind fun t381 => (burinref09_Wrap.j0 k a0 a1 a2 a3 (!t381))))
theorem burinref09_Wrap.mono_l : ∀ k, (∀ y0 y1 y2 y3 y4, LeO (burinref09_Wrap.j0 k y0 y1 y2 y3 y4) (burinref09_Wrap.j0 (k + 1) y0 y1 y2 y3 y4)) ∧ (∀ y0 y1 y2 y3 y4, LeO (burinref09_Wrap.j1 k y0 y1 y2 y3 y4) (burinref09_Wrap.j1 (k + 1) y0 y1 y2 y3 y4)) ∧ (∀ y0 y1 y2 y3 y4 y5 y6, LeO (burinref09_Wrap.j2 k y0 y1 y2 y3 y4 y5 y6) (burinref09_Wrap.j2 (k + 1) y0 y1 y2 y3 y4 y5 y6)) ∧ (∀ y0 y1 y2 y3 y4 y5 y6, LeO (burinref09_Wrap.j3 k y0 y1 y2 y3 y4 y5 y6) (burinref09_Wrap.j3 (k + 1) y0 y1 y2 y3 y4 y5 y6)) ∧ (∀ y0 y1 y2 y3 y4 y5, LeO (burinref09_Wrap.j4 k y0 y1 y2 y3 y4 y5) (burinref09_Wrap.j4 (k + 1) y0 y1 y2 y3 y4 y5)) ∧ (∀ y0 y1 y2 y3 y4, LeO (burinref09_Wrap.j5 k y0 y1 y2 y3 y4) (burinref09_Wrap.j5 (k + 1) y0 y1 y2 y3 y4))
  | 0 => ⟨fun _ _ _ _ _ r h => by simp [burinref09_Wrap.j0] at h, fun _ _ _ _ _ r h => by simp [burinref09_Wrap.j1] at h, fun _ _ _ _ _ _ _ r h => by simp [burinref09_Wrap.j2] at h, fun _ _ _ _ _ _ _ r h => by simp [burinref09_Wrap.j3] at h, fun _ _ _ _ _ _ r h => by simp [burinref09_Wrap.j4] at h, fun _ _ _ _ _ r h => by simp [burinref09_Wrap.j5] at h⟩
  | k + 1 => by
    obtain ⟨ih0, ih1, ih2, ih3, ih4, ih5⟩ := burinref09_Wrap.mono_l k
    refine ⟨?_, ?_, ?_, ?_, ?_, ?_⟩
    · intro y0 y1 y2 y3 y4
      unfold burinref09_Wrap.j0
      repeat' first
      | (with_reducible exact ih0 _ _ _ _ _)
      | (with_reducible exact ih1 _ _ _ _ _)
      | (with_reducible exact ih2 _ _ _ _ _ _ _)
      | (with_reducible exact ih3 _ _ _ _ _ _ _)
      | (with_reducible exact ih4 _ _ _ _ _ _)
      | (with_reducible exact ih5 _ _ _ _ _)
      | (with_reducible exact burinref08_Size.mono _ _)
      | (with_reducible exact LeO.refl _)
      | (with_reducible exact LeO.none _)
      | (with_reducible refine LeO.ite ?_ ?_)
      | (with_reducible refine LeO.bind ?_ (fun _ => ?_))
      | exact ih0 _ _ _ _ _
      | exact ih1 _ _ _ _ _
      | exact ih2 _ _ _ _ _ _ _
      | exact ih3 _ _ _ _ _ _ _
      | exact ih4 _ _ _ _ _ _
      | exact ih5 _ _ _ _ _
      | exact burinref08_Size.mono _ _
      | exact LeO.none _
      | refine LeO.ite ?_ ?_
      | refine LeO.bind ?_ (fun _ => ?_)
    · intro y0 y1 y2 y3 y4
      unfold burinref09_Wrap.j1
      repeat' first
      | (with_reducible exact ih0 _ _ _ _ _)
      | (with_reducible exact ih1 _ _ _ _ _)
      | (with_reducible exact ih2 _ _ _ _ _ _ _)
      | (with_reducible exact ih3 _ _ _ _ _ _ _)
      | (with_reducible exact ih4 _ _ _ _ _ _)
      | (with_reducible exact ih5 _ _ _ _ _)
      | (with_reducible exact burinref08_Size.mono _ _)
      | (with_reducible exact LeO.refl _)
      | (with_reducible exact LeO.none _)
      | (with_reducible refine LeO.ite ?_ ?_)
      | (with_reducible refine LeO.bind ?_ (fun _ => ?_))
      | exact ih0 _ _ _ _ _
      | exact ih1 _ _ _ _ _
      | exact ih2 _ _ _ _ _ _ _
      | exact ih3 _ _ _ _ _ _ _
      | exact ih4 _ _ _ _ _ _
      | exact ih5 _ _ _ _ _
      | exact burinref08_Size.mono _ _
      | exact LeO.none _
      | refine LeO.ite ?_ ?_
      | refine LeO.bind ?_ (fun _ => ?_)
    · intro y0 y1 y2 y3 y4 y5 y6
      unfold burinref09_Wrap.j2
      repeat' first
      | (with_reducible exact ih0 _ _ _ _ _)
      | (with_reducible exact ih1 _ _ _ _ _)
      | (with_reducible exact ih2 _ _ _ _ _ _ _)
      | (with_reducible exact ih3 _ _ _ _ _ _ _)
      | (with_reducible exact ih4 _ _ _ _ _ _)
      | (with_reducible exact ih5 _ _ _ _ _)
      | (with_reducible exact burinref08_Size.mono _ _)
      | (with_reducible exact LeO.refl _)
      | (with_reducible exact LeO.none _)
      | (with_reducible refine LeO.ite ?_ ?_)
      | (with_reducible refine LeO.bind ?_ (fun _ => ?_))
      | exact ih0 _ _ _ _ _
      | exact ih1 _ _ _ _ _
      | exact ih2 _ _ _ _ _ _ _
      | exact ih3 _ _ _ _ _ _ _
      | exact ih4 _ _ _ _ _ _
      | exact ih5 _ _ _ _ _
      | exact burinref08_Size.mono _ _
      | exact LeO.none _
      | refine LeO.ite ?_ ?_
      | refine LeO.bind ?_ (fun _ => ?_)
    · intro y0 y1 y2 y3 y4 y5 y6
      unfold burinref09_Wrap.j3
      repeat' first
      | (with_reducible exact ih0 _ _ _ _ _)
      | (with_reducible exact ih1 _ _ _ _ _)
      | (with_reducible exact ih2 _ _ _ _ _ _ _)
      | (with_reducible exact ih3 _ _ _ _ _ _ _)
      | (with_reducible exact ih4 _ _ _ _ _ _)
      | (with_reducible exact ih5 _ _ _ _ _)
      | (with_reducible exact burinref08_Size.mono _ _)
      | (with_reducible exact LeO.refl _)
      | (with_reducible exact LeO.none _)
      | (with_reducible refine LeO.ite ?_ ?_)
      | (with_reducible refine LeO.bind ?_ (fun _ => ?_))
      | exact ih0 _ _ _ _ _
      | exact ih1 _ _ _ _ _
      | exact ih2 _ _ _ _ _ _ _
      | exact ih3 _ _ _ _ _ _ _
      | exact ih4 _ _ _ _ _ _
      | exact ih5 _ _ _ _ _
      | exact burinref08_Size.mono _ _
      | exact LeO.none _
      | refine LeO.ite ?_ ?_
      | refine LeO.bind ?_ (fun _ => ?_)
    · intro y0 y1 y2 y3 y4 y5
      unfold burinref09_Wrap.j4
      repeat' first
      | (with_reducible exact ih0 _ _ _ _ _)
      | (with_reducible exact ih1 _ _ _ _ _)
      | (with_reducible exact ih2 _ _ _ _ _ _ _)
      | (with_reducible exact ih3 _ _ _ _ _ _ _)
      | (with_reducible exact ih4 _ _ _ _ _ _)
      | (with_reducible exact ih5 _ _ _ _ _)
      | (with_reducible exact burinref08_Size.mono _ _)
      | (with_reducible exact LeO.refl _)
      | (with_reducible exact LeO.none _)
      | (with_reducible refine LeO.ite ?_ ?_)
      | (with_reducible refine LeO.bind ?_ (fun _ => ?_))
      | exact ih0 _ _ _ _ _
      | exact ih1 _ _ _ _ _
      | exact ih2 _ _ _ _ _ _ _
      | exact ih3 _ _ _ _ _ _ _
      | exact ih4 _ _ _ _ _ _
      | exact ih5 _ _ _ _ _
      | exact burinref08_Size.mono _ _
      | exact LeO.none _
      | refine LeO.ite ?_ ?_
      | refine LeO.bind ?_ (fun _ => ?_)
    · intro y0 y1 y2 y3 y4
      unfold burinref09_Wrap.j5
      repeat' first
      | (with_reducible exact ih0 _ _ _ _ _)
      | (with_reducible exact ih1 _ _ _ _ _)
      | (with_reducible exact ih2 _ _ _ _ _ _ _)
      | (with_reducible exact ih3 _ _ _ _ _ _ _)
      | (with_reducible exact ih4 _ _ _ _ _ _)
      | (with_reducible exact ih5 _ _ _ _ _)
      | (with_reducible exact burinref08_Size.mono _ _)
      | (with_reducible exact LeO.refl _)
      | (with_reducible exact LeO.none _)
      | (with_reducible refine LeO.ite ?_ ?_)
      | (with_reducible refine LeO.bind ?_ (fun _ => ?_))
      | exact ih0 _ _ _ _ _
      | exact ih1 _ _ _ _ _
      | exact ih2 _ _ _ _ _ _ _
      | exact ih3 _ _ _ _ _ _ _
      | exact ih4 _ _ _ _ _ _
      | exact ih5 _ _ _ _ _
      | exact burinref08_Size.mono _ _
      | exact LeO.none _
      | refine LeO.ite ?_ ?_
      | refine LeO.bind ?_ (fun _ => ?_)
theorem burinref09_Wrap.mono : ∀ a0 a1 a2 a3 k, LeO (burinref09_Wrap.f k a0 a1 a2 a3) (burinref09_Wrap.f (k + 1) a0 a1 a2 a3) := by
  intro a0 a1 a2 a3 k
  obtain ⟨ih0, ih1, ih2, ih3, ih4, ih5⟩ := burinref09_Wrap.mono_l k
  unfold burinref09_Wrap.f
  repeat' first
      | (with_reducible exact ih0 _ _ _ _ _)
      | (with_reducible exact ih1 _ _ _ _ _)
      | (with_reducible exact ih2 _ _ _ _ _ _ _)
      | (with_reducible exact ih3 _ _ _ _ _ _ _)
      | (with_reducible exact ih4 _ _ _ _ _ _)
      | (with_reducible exact ih5 _ _ _ _ _)
      | (with_reducible exact burinref08_Size.mono _ _)
      | (with_reducible exact LeO.refl _)
      | (with_reducible exact LeO.none _)
      | (with_reducible refine LeO.ite ?_ ?_)
      | (with_reducible refine LeO.bind ?_ (fun _ => ?_))
      | exact ih0 _ _ _ _ _
      | exact ih1 _ _ _ _ _
      | exact ih2 _ _ _ _ _ _ _
      | exact ih3 _ _ _ _ _ _ _
      | exact ih4 _ _ _ _ _ _
      | exact ih5 _ _ _ _ _
      | exact burinref08_Size.mono _ _
      | exact LeO.none _
      | refine LeO.ite ?_ ?_
      | refine LeO.bind ?_ (fun _ => ?_)
set_option maxHeartbeats 8000000 in
set_option maxRecDepth 100000 in
theorem burinref09_Wrap.calls (k : Nat) (a0 : Int) (a1 : Int) (a2 : Int) (a3 : Int) (r1 : Int) (r2 : Int) (w : World) (h : burinref09_Wrap.f k a0 a1 a2 a3 = some (r1, r2)) :
    Calls Try.prog 17 #[.int .i64 a0, .int .i64 a1, .int .i64 a2, .int .i64 a3] w fun e w' => e = .returned (.tuple #[.int .i64 r1, .int .i64 r2]) ∧ Drawn0 w w' := by
  have H : ((burinref09_Binary.f a0).bind fun t380 => (if t380 = true then (burinref09_Wrap.j0 k a0 a1 a2 a3 false) else ((burinref09_isOne.f a0).bind fun t381 => (burinref09_Wrap.j0 k a0 a1 a2 a3 (!t381))))) = some (r1, r2) := h
  clear h
  have HC5 := Aside0.mk H
  clear H
  go_enter Try.func17, Try.ntmps17
  go_upto_region 1 with (fail)
  go_cut [20] (fun v20 wc => ∃ (kq : Nat) (x20_4 : Bool), v20 = .bool x20_4 ∧ Aside0 (burinref09_Wrap.j0 kq a0 a1 a2 a3 x20_4 = some (r1, r2)) ∧ Aside0 (kq ≤ k) ∧ Drawn0 w wc)
  case first =>
    have H := HC5.out
    clear HC5
    replace H := Option.bind_eq_some_iff.mp H
    obtain ⟨t380, A60, H⟩ := H
    replace H : (if t380 = true then (burinref09_Wrap.j0 k a0 a1 a2 a3 false) else ((burinref09_isOne.f a0).bind fun t381 => (burinref09_Wrap.j0 k a0 a1 a2 a3 (!t381)))) = some (r1, r2) := H
    have A6 := Aside0.mk A60
    clear A60
    by_cases c7 : t380 = true
    · subst c7
      have H1 : (burinref09_Wrap.j0 k a0 a1 a2 a3 false) = some (r1, r2) := by rw [if_pos rfl] at H; exact H
      clear H
      have H := H1
      clear H1
      have H' := Aside0.mk H
      clear H
      go_wp2_with (first | ((with_reducible refine gate_callee (f := 32) rfl ?_); refine goesL_ (some 14) rfl rfl Try.func32 (by kernel_rfl) rfl #[.int .i64 a0] rfl (by (try simp only [List.map_toArray, List.map_cons, List.map_nil]); first | done | rfl | (simp only [List.length_drop, List.length_take]; rfl)) ?_; (with_reducible refine (burinref09_Binary.calls a0 true _ A6.out).mono ?_); rintro e w' ⟨rfl, ⟨nd, rfl⟩⟩; refine ⟨_, rfl, ?_⟩))
      go_meet
      case rel => exact ⟨_, (false), (by first | rfl | (simp; done) | (simp [*]; done)), H', ⟨by first | omega | exact Nat.le_refl _⟩, by repeat (first | exact Drawn0.refl _ | apply Drawn0.step)⟩
    · replace c7 := Bool.eq_false_iff.mpr c7
      subst c7
      have H1 : ((burinref09_isOne.f a0).bind fun t381 => (burinref09_Wrap.j0 k a0 a1 a2 a3 (!t381))) = some (r1, r2) := by rw [if_neg (show ¬ (false = true) by decide)] at H; exact H
      clear H
      have H := H1
      clear H1
      replace H := Option.bind_eq_some_iff.mp H
      obtain ⟨t381, A80, H⟩ := H
      replace H : (burinref09_Wrap.j0 k a0 a1 a2 a3 (!t381)) = some (r1, r2) := H
      have A8 := Aside0.mk A80
      clear A80
      have H' := Aside0.mk H
      clear H
      go_wp2_with (first | ((with_reducible refine gate_callee (f := 32) rfl ?_); refine goesL_ (some 14) rfl rfl Try.func32 (by kernel_rfl) rfl #[.int .i64 a0] rfl (by (try simp only [List.map_toArray, List.map_cons, List.map_nil]); first | done | rfl | (simp only [List.length_drop, List.length_take]; rfl)) ?_; (with_reducible refine (burinref09_Binary.calls a0 false _ A6.out).mono ?_); rintro e w' ⟨rfl, ⟨nd, rfl⟩⟩; refine ⟨_, rfl, ?_⟩) | (go_at_call 47; (with_reducible refine (burinref09_isOne.calls a0 t381 _ A8.out).mono ?_); rintro e w' ⟨rfl, ⟨nd, rfl⟩⟩))
      go_meet
      case rel => exact ⟨_, (!t381), (by first | rfl | (simp; done) | (simp [*]; done)), H', ⟨by first | omega | exact Nat.le_refl _⟩, by repeat (first | exact Drawn0.refl _ | apply Drawn0.step)⟩
  case rest =>
    clear HC5
    try clear c1
    try clear p2
    try clear c3
    try clear c7
    obtain ⟨kq, x20_4, rfl, HA, HJ4, ⟨mc4, rfl⟩⟩ := hcut
    cases kq with
    | zero => exact absurd HA.out (by simp [burinref09_Wrap.j0])
    | succ kj4 =>
      have H := HA.out
      clear HA
      simp only [burinref09_Wrap.j0] at H
      by_cases c9 : x20_4 = true
      · subst c9
        have H1 : (some (0, 2)) = some (r1, r2) := by rw [if_pos rfl] at H; exact H
        clear H
        have H := H1
        clear H1
        simp only [Option.some.injEq, Prod.mk.injEq] at H
        obtain ⟨rfl, rfl⟩ := H
        go_wp2
        go_ret2
        exact ⟨by first | rfl | (simp; done) | (simp [*]; done), by repeat (first | exact Drawn0.refl _ | apply Drawn0.step)⟩
      · replace c9 := Bool.eq_false_iff.mpr c9
        subst c9
        have H1 : ((burinref08_Lies.f a2 a1).bind fun t382 => ((burinref08_Lies.f a3 a1).bind fun t383 => (if t382 = true then (burinref09_Wrap.j1 kj4 a0 a1 a2 a3 (!t383)) else (burinref09_Wrap.j1 kj4 a0 a1 a2 a3 true)))) = some (r1, r2) := by rw [if_neg (show ¬ (false = true) by decide)] at H; exact H
        clear H
        have H := H1
        clear H1
        replace H := Option.bind_eq_some_iff.mp H
        obtain ⟨t382, A100, H⟩ := H
        replace H : ((burinref08_Lies.f a3 a1).bind fun t383 => (if t382 = true then (burinref09_Wrap.j1 kj4 a0 a1 a2 a3 (!t383)) else (burinref09_Wrap.j1 kj4 a0 a1 a2 a3 true))) = some (r1, r2) := H
        have A10 := Aside0.mk A100
        clear A100
        replace H := Option.bind_eq_some_iff.mp H
        obtain ⟨t383, A110, H⟩ := H
        replace H : (if t382 = true then (burinref09_Wrap.j1 kj4 a0 a1 a2 a3 (!t383)) else (burinref09_Wrap.j1 kj4 a0 a1 a2 a3 true)) = some (r1, r2) := H
        have A11 := Aside0.mk A110
        clear A110
        have HC12 := Aside0.mk H
        clear H
        go_upto_region 5 with (first | ((with_reducible refine gate_callee (f := 33) rfl ?_); refine goesL_ (some 23) rfl rfl Try.func33 (by kernel_rfl) rfl #[.int .i64 a2, .int .i64 a1] rfl (by (try simp only [List.map_toArray, List.map_cons, List.map_nil]); first | done | rfl | (simp only [List.length_drop, List.length_take]; rfl)) ?_; (with_reducible refine (burinref08_Lies.calls a2 a1 t382 _ A10.out).mono ?_); rintro e w' ⟨rfl, ⟨nd, rfl⟩⟩; refine ⟨_, rfl, ?_⟩) | ((with_reducible refine gate_callee (f := 33) rfl ?_); refine goesL_ (some 26) rfl rfl Try.func33 (by kernel_rfl) rfl #[.int .i64 a3, .int .i64 a1] rfl (by (try simp only [List.map_toArray, List.map_cons, List.map_nil]); first | done | rfl | (simp only [List.length_drop, List.length_take]; rfl)) ?_; (with_reducible refine (burinref08_Lies.calls a3 a1 t383 _ A11.out).mono ?_); rintro e w' ⟨rfl, ⟨nd, rfl⟩⟩; refine ⟨_, rfl, ?_⟩))
        (try simp only [Act.put, List.setIfInBounds_toArray, List.set_cons_zero, List.set_cons_succ])
        go_cut [32] (fun v32 wc => ∃ (kq : Nat) (x32_11 : Bool), v32 = .bool x32_11 ∧ Aside0 (burinref09_Wrap.j1 kq a0 a1 a2 a3 x32_11 = some (r1, r2)) ∧ Aside0 (kq ≤ kj4) ∧ Drawn0 w wc)
        case first =>
          have H := HC12.out
          clear HC12
          by_cases c13 : t382 = true
          · subst c13
            have H1 : (burinref09_Wrap.j1 kj4 a0 a1 a2 a3 (!t383)) = some (r1, r2) := by rw [if_pos rfl] at H; exact H
            clear H
            have H := H1
            clear H1
            have H' := Aside0.mk H
            clear H
            go_wp2
            go_meet
            case rel => exact ⟨_, (!t383), (by first | rfl | (simp; done) | (simp [*]; done)), H', ⟨by have := HJ4.out; first | omega | exact Nat.le_refl _⟩, by repeat (first | exact Drawn0.refl _ | apply Drawn0.step)⟩
          · replace c13 := Bool.eq_false_iff.mpr c13
            subst c13
            have H1 : (burinref09_Wrap.j1 kj4 a0 a1 a2 a3 true) = some (r1, r2) := by rw [if_neg (show ¬ (false = true) by decide)] at H; exact H
            clear H
            have H := H1
            clear H1
            have H' := Aside0.mk H
            clear H
            go_wp2
            go_meet
            case rel => exact ⟨_, (true), (by first | rfl | (simp; done) | (simp [*]; done)), H', ⟨by have := HJ4.out; first | omega | exact Nat.le_refl _⟩, by repeat (first | exact Drawn0.refl _ | apply Drawn0.step)⟩
        case rest =>
          clear HC12
          try clear c1
          try clear p2
          try clear c3
          try clear c4
          try clear c7
          try clear c9
          try clear c13
          try clear p2
          obtain ⟨kq, x32_11, rfl, HA, HJ11, ⟨mc11, rfl⟩⟩ := hcut
          cases kq with
          | zero => exact absurd HA.out (by simp [burinref09_Wrap.j1])
          | succ kj11 =>
            have H := HA.out
            clear HA
            simp only [burinref09_Wrap.j1] at H
            by_cases c14 : x32_11 = true
            · subst c14
              have H1 : (some (0, 80)) = some (r1, r2) := by rw [if_pos rfl] at H; exact H
              clear H
              have H := H1
              clear H1
              simp only [Option.some.injEq, Prod.mk.injEq] at H
              obtain ⟨rfl, rfl⟩ := H
              go_wp2
              go_ret2
              exact ⟨by first | rfl | (simp; done) | (simp [*]; done), by repeat (first | exact Drawn0.refl _ | apply Drawn0.step)⟩
            · replace c14 := Bool.eq_false_iff.mpr c14
              subst c14
              have H1 : (if a0 = 17 then ((burinref09_truth.f (a2 == 0)).bind fun t384 => (some (t384, 0))) else ((burinref09_isTruth.f a0).bind fun t385 => (if t385 = true then ((burinref09_compared.f a0 a1 a2 a3).bind fun t386 => (some (t386, 0))) else (if a0 = 6 then (burinref09_Wrap.j2 kj11 a0 a1 a2 a3 0 a0 (a0 == 6)) else (burinref09_Wrap.j2 kj11 a0 a1 a2 a3 0 a0 (a0 == 7)))))) = some (r1, r2) := by rw [if_neg (show ¬ (false = true) by decide)] at H; exact H
              clear H
              have H := H1
              clear H1
              by_cases c15 : a0 = 17
              · rw [if_pos c15] at H
                have c15b0 : (a0 == 17) = true := beq_iff_eq.mpr c15
                have c15b1 : (a0 != 17) = false := bne_eq_false_iff_eq.mpr c15
                clear c15
                replace H := Option.bind_eq_some_iff.mp H
                obtain ⟨t384, A160, H⟩ := H
                replace H : (some (t384, 0)) = some (r1, r2) := H
                have A16 := Aside0.mk A160
                clear A160
                simp only [Option.some.injEq, Prod.mk.injEq] at H
                obtain ⟨rfl, rfl⟩ := H
                go_wp2_with (first | ((with_reducible refine gate_callee (f := 48) rfl ?_); refine goesL_ (some 37) rfl rfl Try.func48 (by kernel_rfl) rfl #[.bool (a2 == 0)] rfl (by (try simp only [List.map_toArray, List.map_cons, List.map_nil]); first | done | rfl | (simp only [List.length_drop, List.length_take]; rfl)) ?_; (with_reducible refine (burinref09_truth.calls (a2 == 0) t384 _ A16.out).mono ?_); rintro e w' ⟨rfl, ⟨nd, rfl⟩⟩; refine ⟨_, rfl, ?_⟩))
                go_ret2
                exact ⟨by first | rfl | (simp; done) | (simp [*]; done), by repeat (first | exact Drawn0.refl _ | apply Drawn0.step)⟩
              · rw [if_neg c15] at H
                have c15b0 : (a0 == 17) = false := beq_eq_false_iff_ne.mpr c15
                have c15b1 : (a0 != 17) = true := bne_iff_ne.mpr c15
                replace H := Option.bind_eq_some_iff.mp H
                obtain ⟨t385, A170, H⟩ := H
                replace H : (if t385 = true then ((burinref09_compared.f a0 a1 a2 a3).bind fun t386 => (some (t386, 0))) else (if a0 = 6 then (burinref09_Wrap.j2 kj11 a0 a1 a2 a3 0 a0 (a0 == 6)) else (burinref09_Wrap.j2 kj11 a0 a1 a2 a3 0 a0 (a0 == 7)))) = some (r1, r2) := H
                have A17 := Aside0.mk A170
                clear A170
                by_cases c18 : t385 = true
                · subst c18
                  have H1 : ((burinref09_compared.f a0 a1 a2 a3).bind fun t386 => (some (t386, 0))) = some (r1, r2) := by rw [if_pos rfl] at H; exact H
                  clear H
                  have H := H1
                  clear H1
                  replace H := Option.bind_eq_some_iff.mp H
                  obtain ⟨t386, A190, H⟩ := H
                  replace H : (some (t386, 0)) = some (r1, r2) := H
                  have A19 := Aside0.mk A190
                  clear A190
                  simp only [Option.some.injEq, Prod.mk.injEq] at H
                  obtain ⟨rfl, rfl⟩ := H
                  go_wp2_with (first | ((with_reducible refine gate_callee (f := 38) rfl ?_); refine goesL_ (some 39) rfl rfl Try.func38 (by kernel_rfl) rfl #[.int .i64 a0] rfl (by (try simp only [List.map_toArray, List.map_cons, List.map_nil]); first | done | rfl | (simp only [List.length_drop, List.length_take]; rfl)) ?_; (with_reducible refine (burinref09_isTruth.calls a0 true _ A17.out).mono ?_); rintro e w' ⟨rfl, ⟨nd, rfl⟩⟩; refine ⟨_, rfl, ?_⟩) | ((with_reducible refine gate_callee (f := 39) rfl ?_); refine goesL_ (some 44) rfl rfl Try.func39 (by kernel_rfl) rfl #[.int .i64 a0, .int .i64 a1, .int .i64 a2, .int .i64 a3] rfl (by (try simp only [List.map_toArray, List.map_cons, List.map_nil]); first | done | rfl | (simp only [List.length_drop, List.length_take]; rfl)) ?_; (with_reducible refine (burinref09_compared.calls a0 a1 a2 a3 t386 _ A19.out).mono ?_); rintro e w' ⟨rfl, ⟨nd, rfl⟩⟩; refine ⟨_, rfl, ?_⟩))
                  go_ret2
                  exact ⟨by first | rfl | (simp; done) | (simp [*]; done), by repeat (first | exact Drawn0.refl _ | apply Drawn0.step)⟩
                · replace c18 := Bool.eq_false_iff.mpr c18
                  subst c18
                  have H1 : (if a0 = 6 then (burinref09_Wrap.j2 kj11 a0 a1 a2 a3 0 a0 (a0 == 6)) else (burinref09_Wrap.j2 kj11 a0 a1 a2 a3 0 a0 (a0 == 7))) = some (r1, r2) := by rw [if_neg (show ¬ (false = true) by decide)] at H; exact H
                  clear H
                  have H := H1
                  clear H1
                  have HC20 := Aside0.mk H
                  clear H
                  go_upto_if 53 with (first | ((with_reducible refine gate_callee (f := 38) rfl ?_); refine goesL_ (some 39) rfl rfl Try.func38 (by kernel_rfl) rfl #[.int .i64 a0] rfl (by (try simp only [List.map_toArray, List.map_cons, List.map_nil]); first | done | rfl | (simp only [List.length_drop, List.length_take]; rfl)) ?_; (with_reducible refine (burinref09_isTruth.calls a0 false _ A17.out).mono ?_); rintro e w' ⟨rfl, ⟨nd, rfl⟩⟩; refine ⟨_, rfl, ?_⟩))
                  (try simp only [Act.put, List.setIfInBounds_toArray, List.set_cons_zero, List.set_cons_succ])
                  go_cut [53] (fun v53 wc => ∃ (kq : Nat) (x53_19 : Bool), v53 = .bool x53_19 ∧ Aside0 (burinref09_Wrap.j2 kq a0 a1 a2 a3 0 a0 x53_19 = some (r1, r2)) ∧ Aside0 (kq ≤ kj11) ∧ Drawn0 w wc)
                  case first =>
                    have H := HC20.out
                    clear HC20
                    by_cases c21 : a0 = 6
                    · rw [if_pos c21] at H
                      have c21b0 : (a0 == 6) = true := beq_iff_eq.mpr c21
                      have c21b1 : (a0 != 6) = false := bne_eq_false_iff_eq.mpr c21
                      clear c21
                      (first | rw [c21b0] | (simp only [i64_w, i32_w]; rw [c21b0]) | skip)
                      have H' := Aside0.mk H
                      clear H
                      go_wp2
                      go_meet
                      case rel => exact ⟨_, ((a0 == 6)), (by first | rfl | (simp; done) | (simp [*]; done)), H', ⟨by have := HJ4.out; have := HJ11.out; first | omega | exact Nat.le_refl _⟩, by repeat (first | exact Drawn0.refl _ | apply Drawn0.step)⟩
                    · rw [if_neg c21] at H
                      have c21b0 : (a0 == 6) = false := beq_eq_false_iff_ne.mpr c21
                      have c21b1 : (a0 != 6) = true := bne_iff_ne.mpr c21
                      (first | rw [c21b0] | (simp only [i64_w, i32_w]; rw [c21b0]) | skip)
                      have H' := Aside0.mk H
                      clear H
                      go_wp2
                      go_meet
                      case rel => exact ⟨_, ((a0 == 7)), (by first | rfl | (simp; done) | (simp [*]; done)), H', ⟨by have := HJ4.out; have := HJ11.out; first | omega | exact Nat.le_refl _⟩, by repeat (first | exact Drawn0.refl _ | apply Drawn0.step)⟩
                  case rest =>
                    clear HC20
                    try clear c1
                    try clear c2
                    try clear p2
                    try clear c3
                    try clear c4
                    try clear c7
                    try clear c9
                    try clear c11
                    try clear c13
                    try clear c14
                    try clear c15
                    try clear c15b0
                    try clear c15b1
                    try clear c17
                    try clear c18
                    try clear c21
                    try clear c21b0
                    try clear c21b1
                    try clear p2
                    obtain ⟨kq, x53_19, rfl, HA, HJ19, ⟨mc19, rfl⟩⟩ := hcut
                    cases kq with
                    | zero => exact absurd HA.out (by simp [burinref09_Wrap.j2])
                    | succ kj19 =>
                      have H := HA.out
                      clear HA
                      simp only [burinref09_Wrap.j2] at H
                      by_cases c22 : x53_19 = true
                      · subst c22
                        have H1 : ((burinref08_Size.f kj19 a1).bind fun t387 => (if (IntKind.u64.wrap (wrap64 (8 * t387))) = 0 then (none) else ((burinref09_shifted.f a0 a1 a2 (wrap64 (Int.tmod (IntKind.u64.wrap (a3)) (IntKind.u64.wrap (wrap64 (8 * t387)))))).bind fun bt388 => ((burinref08_To.f bt388.1 a1).bind fun bt390 => (some (bt390.1, bt390.2)))))) = some (r1, r2) := by rw [if_pos rfl] at H; exact H
                        clear H
                        have H := H1
                        clear H1
                        replace H := Option.bind_eq_some_iff.mp H
                        obtain ⟨t387, A230, H⟩ := H
                        replace H : (if (IntKind.u64.wrap (wrap64 (8 * t387))) = 0 then (none) else ((burinref09_shifted.f a0 a1 a2 (wrap64 (Int.tmod (IntKind.u64.wrap (a3)) (IntKind.u64.wrap (wrap64 (8 * t387)))))).bind fun bt388 => ((burinref08_To.f bt388.1 a1).bind fun bt390 => (some (bt390.1, bt390.2))))) = some (r1, r2) := H
                        have A23 := Aside0.mk A230
                        clear A230
                        by_cases c24 : (IntKind.u64.wrap (wrap64 (8 * t387))) = 0
                        · rw [if_pos c24] at H
                          exact absurd H (by simp)
                        · rw [if_neg c24] at H
                          have c24b0 : ((IntKind.u64.wrap (wrap64 (8 * t387))) == 0) = false := beq_eq_false_iff_ne.mpr c24
                          have c24b1 : ((IntKind.u64.wrap (wrap64 (8 * t387))) != 0) = true := bne_iff_ne.mpr c24
                          replace H := Option.bind_eq_some_iff.mp H
                          obtain ⟨⟨t388, t389⟩, A250, H⟩ := H
                          replace H : ((burinref08_To.f t388 a1).bind fun bt390 => (some (bt390.1, bt390.2))) = some (r1, r2) := H
                          have A25 := Aside0.mk A250
                          clear A250
                          replace H := Option.bind_eq_some_iff.mp H
                          obtain ⟨⟨t390, t391⟩, A260, H⟩ := H
                          replace H : (some (t390, t391)) = some (r1, r2) := H
                          have A26 := Aside0.mk A260
                          clear A260
                          simp only [Option.some.injEq, Prod.mk.injEq] at H
                          obtain ⟨rfl, rfl⟩ := H
                          go_wp2_with (first | ((with_reducible refine gate_callee (f := 35) rfl ?_); refine goesL_ (some 63) rfl rfl Try.func35 (by kernel_rfl) rfl #[.int .i64 a1] rfl (by (try simp only [List.map_toArray, List.map_cons, List.map_nil]); first | done | rfl | (simp only [List.length_drop, List.length_take]; rfl)) ?_; (with_reducible refine (burinref08_Size.calls kj19 a1 t387 _ A23.out).mono ?_); rintro e w' ⟨rfl, ⟨nd, rfl⟩⟩; refine ⟨_, rfl, ?_⟩) | ((with_reducible refine gate_callee (f := 36) rfl ?_); refine goesL_ (some 68) rfl rfl Try.func36 (by kernel_rfl) rfl #[.int .i64 a0, .int .i64 a1, .int .i64 a2, .int .i64 (wrap64 (Int.tmod (IntKind.u64.wrap (a3)) (IntKind.u64.wrap (wrap64 (8 * t387)))))] rfl (by (try simp only [List.map_toArray, List.map_cons, List.map_nil]); first | done | rfl | (simp only [List.length_drop, List.length_take]; rfl)) ?_; (with_reducible refine (burinref09_shifted.calls a0 a1 a2 (wrap64 (Int.tmod (IntKind.u64.wrap (a3)) (IntKind.u64.wrap (wrap64 (8 * t387))))) t388 t389 _ A25.out).mono ?_); rintro e w' ⟨rfl, ⟨nd, rfl⟩⟩; refine ⟨_, rfl, ?_⟩) | ((with_reducible refine gate_callee (f := 37) rfl ?_); refine goesL_ (some 98) rfl rfl Try.func37 (by kernel_rfl) rfl #[.int .i64 t388, .int .i64 a1] rfl (by (try simp only [List.map_toArray, List.map_cons, List.map_nil]); first | done | rfl | (simp only [List.length_drop, List.length_take]; rfl)) ?_; (with_reducible refine (burinref08_To.calls t388 a1 t390 t391 _ A26.out).mono ?_); rintro e w' ⟨rfl, ⟨nd, rfl⟩⟩; refine ⟨_, rfl, ?_⟩))
                          go_ret2
                          exact ⟨by first | rfl | (simp; done) | (simp [*]; done), by repeat (first | exact Drawn0.refl _ | apply Drawn0.step)⟩
                      · replace c22 := Bool.eq_false_iff.mpr c22
                        subst c22
                        have H1 : (if a0 = 4 then (burinref09_Wrap.j3 kj19 a0 a1 a2 a3 0 a0 (a0 == 4)) else (burinref09_Wrap.j3 kj19 a0 a1 a2 a3 0 a0 (a0 == 5))) = some (r1, r2) := by rw [if_neg (show ¬ (false = true) by decide)] at H; exact H
                        clear H
                        have H := H1
                        clear H1
                        have HC27 := Aside0.mk H
                        clear H
                        go_upto_if 71 with (fail)
                        go_cut [71] (fun v71 wc => ∃ (kq : Nat) (x71_26 : Bool), v71 = .bool x71_26 ∧ Aside0 (burinref09_Wrap.j3 kq a0 a1 a2 a3 0 a0 x71_26 = some (r1, r2)) ∧ Aside0 (kq ≤ kj19) ∧ Drawn0 w wc)
                        case first =>
                          have H := HC27.out
                          clear HC27
                          by_cases c28 : a0 = 4
                          · rw [if_pos c28] at H
                            have c28b0 : (a0 == 4) = true := beq_iff_eq.mpr c28
                            have c28b1 : (a0 != 4) = false := bne_eq_false_iff_eq.mpr c28
                            clear c28
                            (first | rw [c28b0] | (simp only [i64_w, i32_w]; rw [c28b0]) | skip)
                            have H' := Aside0.mk H
                            clear H
                            go_wp2
                            go_meet
                            case rel => exact ⟨_, ((a0 == 4)), (by first | rfl | (simp; done) | (simp [*]; done)), H', ⟨by have := HJ4.out; have := HJ11.out; have := HJ19.out; first | omega | exact Nat.le_refl _⟩, by repeat (first | exact Drawn0.refl _ | apply Drawn0.step)⟩
                          · rw [if_neg c28] at H
                            have c28b0 : (a0 == 4) = false := beq_eq_false_iff_ne.mpr c28
                            have c28b1 : (a0 != 4) = true := bne_iff_ne.mpr c28
                            (first | rw [c28b0] | (simp only [i64_w, i32_w]; rw [c28b0]) | skip)
                            have H' := Aside0.mk H
                            clear H
                            go_wp2
                            go_meet
                            case rel => exact ⟨_, ((a0 == 5)), (by first | rfl | (simp; done) | (simp [*]; done)), H', ⟨by have := HJ4.out; have := HJ11.out; have := HJ19.out; first | omega | exact Nat.le_refl _⟩, by repeat (first | exact Drawn0.refl _ | apply Drawn0.step)⟩
                        case rest =>
                          clear HC27
                          try clear c1
                          try clear c2
                          try clear p2
                          try clear c3
                          try clear c4
                          try clear p6
                          try clear c7
                          try clear c9
                          try clear c11
                          try clear c13
                          try clear c14
                          try clear c15
                          try clear c15b0
                          try clear c15b1
                          try clear c17
                          try clear c18
                          try clear c19
                          try clear c21
                          try clear c21b0
                          try clear c21b1
                          try clear c22
                          try clear c24
                          try clear c24b0
                          try clear c24b1
                          try clear c28
                          try clear c28b0
                          try clear c28b1
                          try clear p2
                          obtain ⟨kq, x71_26, rfl, HA, HJ26, ⟨mc26, rfl⟩⟩ := hcut
                          cases kq with
                          | zero => exact absurd HA.out (by simp [burinref09_Wrap.j3])
                          | succ kj26 =>
                            have H := HA.out
                            clear HA
                            simp only [burinref09_Wrap.j3] at H
                            by_cases c29 : x71_26 = true
                            · subst c29
                              have H1 : (if a3 = 0 then (burinref09_Wrap.j4 kj26 a0 a1 a2 a3 0 (a0 == 5)) else (burinref09_Wrap.j4 kj26 a0 a1 a2 a3 0 false)) = some (r1, r2) := by rw [if_pos rfl] at H; exact H
                              clear H
                              have H := H1
                              clear H1
                              have HC30 := Aside0.mk H
                              clear H
                              go_upto_region 19 with (fail)
                              go_cut [79] (fun v79 wc => ∃ (kq : Nat) (x79_29 : Bool), v79 = .bool x79_29 ∧ Aside0 (burinref09_Wrap.j4 kq a0 a1 a2 a3 0 x79_29 = some (r1, r2)) ∧ Aside0 (kq ≤ kj26) ∧ Drawn0 w wc)
                              case first =>
                                have H := HC30.out
                                clear HC30
                                by_cases c31 : a3 = 0
                                · rw [if_pos c31] at H
                                  have c31b0 : (a3 == 0) = true := beq_iff_eq.mpr c31
                                  have c31b1 : (a3 != 0) = false := bne_eq_false_iff_eq.mpr c31
                                  clear c31
                                  (first | rw [c31b0] | (simp only [i64_w, i32_w]; rw [c31b0]) | skip)
                                  have H' := Aside0.mk H
                                  clear H
                                  go_wp2
                                  go_meet
                                  case rel => exact ⟨_, ((a0 == 5)), (by first | rfl | (simp; done) | (simp [*]; done)), H', ⟨by have := HJ4.out; have := HJ11.out; have := HJ19.out; have := HJ26.out; first | omega | exact Nat.le_refl _⟩, by repeat (first | exact Drawn0.refl _ | apply Drawn0.step)⟩
                                · rw [if_neg c31] at H
                                  have c31b0 : (a3 == 0) = false := beq_eq_false_iff_ne.mpr c31
                                  have c31b1 : (a3 != 0) = true := bne_iff_ne.mpr c31
                                  (first | rw [c31b0] | (simp only [i64_w, i32_w]; rw [c31b0]) | skip)
                                  have H' := Aside0.mk H
                                  clear H
                                  go_wp2
                                  go_meet
                                  case rel => exact ⟨_, (false), (by first | rfl | (simp; done) | (simp [*]; done)), H', ⟨by have := HJ4.out; have := HJ11.out; have := HJ19.out; have := HJ26.out; first | omega | exact Nat.le_refl _⟩, by repeat (first | exact Drawn0.refl _ | apply Drawn0.step)⟩
                              case rest =>
                                clear HC30
                                try clear c1
                                try clear c2
                                try clear p2
                                try clear c3
                                try clear c4
                                try clear p6
                                try clear c7
                                try clear c9
                                try clear c11
                                try clear c13
                                try clear c14
                                try clear c15
                                try clear c15b0
                                try clear c15b1
                                try clear c17
                                try clear c18
                                try clear c19
                                try clear c21
                                try clear c21b0
                                try clear c21b1
                                try clear c22
                                try clear c24
                                try clear c24b0
                                try clear c24b1
                                try clear c26
                                try clear c28
                                try clear c28b0
                                try clear c28b1
                                try clear c29
                                try clear c31
                                try clear c31b0
                                try clear c31b1
                                try clear p2
                                try clear p6
                                obtain ⟨kq, x79_29, rfl, HA, HJ29, ⟨mc29, rfl⟩⟩ := hcut
                                cases kq with
                                | zero => exact absurd HA.out (by simp [burinref09_Wrap.j4])
                                | succ kj29 =>
                                  have H := HA.out
                                  clear HA
                                  simp only [burinref09_Wrap.j4] at H
                                  have HC32 := Aside0.mk H
                                  clear H
                                  go_upto_if 79 with (fail)
                                  go_cut [12] (fun v12 wc => ∃ (kq : Nat) (x12_31 : Int), v12 = .int .i64 x12_31 ∧ Aside0 (burinref09_Wrap.j5 kq a0 a1 a2 a3 x12_31 = some (r1, r2)) ∧ Aside0 (kq ≤ kj29) ∧ Drawn0 w wc)
                                  case first =>
                                    have H := HC32.out
                                    clear HC32
                                    by_cases c33 : x79_29 = true
                                    · subst c33
                                      have H1 : (burinref09_Wrap.j5 kj29 a0 a1 a2 a3 a2) = some (r1, r2) := by rw [if_pos rfl] at H; exact H
                                      clear H
                                      have H := H1
                                      clear H1
                                      have H' := Aside0.mk H
                                      clear H
                                      go_wp2
                                      go_meet
                                      case rel => exact ⟨_, (a2), (by first | rfl | (simp; done) | (simp [*]; done)), H', ⟨by have := HJ4.out; have := HJ11.out; have := HJ19.out; have := HJ26.out; have := HJ29.out; first | omega | exact Nat.le_refl _⟩, by repeat (first | exact Drawn0.refl _ | apply Drawn0.step)⟩
                                    · replace c33 := Bool.eq_false_iff.mpr c33
                                      subst c33
                                      have H1 : (burinref09_Wrap.j5 kj29 a0 a1 a2 a3 0) = some (r1, r2) := by rw [if_neg (show ¬ (false = true) by decide)] at H; exact H
                                      clear H
                                      have H := H1
                                      clear H1
                                      have H' := Aside0.mk H
                                      clear H
                                      go_wp2
                                      go_meet
                                      case rel => exact ⟨_, (0), (by first | rfl | (simp; done) | (simp [*]; done)), H', ⟨by have := HJ4.out; have := HJ11.out; have := HJ19.out; have := HJ26.out; have := HJ29.out; first | omega | exact Nat.le_refl _⟩, by repeat (first | exact Drawn0.refl _ | apply Drawn0.step)⟩
                                  case rest =>
                                    clear HC32
                                    try clear c1
                                    try clear c2
                                    try clear p2
                                    try clear c3
                                    try clear c4
                                    try clear p6
                                    try clear c7
                                    try clear c9
                                    try clear c11
                                    try clear c13
                                    try clear c14
                                    try clear c15
                                    try clear c15b0
                                    try clear c15b1
                                    try clear c17
                                    try clear c18
                                    try clear c19
                                    try clear c21
                                    try clear c21b0
                                    try clear c21b1
                                    try clear c22
                                    try clear c24
                                    try clear c24b0
                                    try clear c24b1
                                    try clear c26
                                    try clear c28
                                    try clear c28b0
                                    try clear c28b1
                                    try clear c29
                                    try clear c31
                                    try clear c31b0
                                    try clear c31b1
                                    try clear c32
                                    try clear c33
                                    try clear p2
                                    try clear p6
                                    obtain ⟨kq, x12_31, rfl, HA, HJ31, ⟨mc31, rfl⟩⟩ := hcut
                                    cases kq with
                                    | zero => exact absurd HA.out (by simp [burinref09_Wrap.j5])
                                    | succ kj31 =>
                                      have H := HA.out
                                      clear HA
                                      simp only [burinref09_Wrap.j5] at H
                                      by_cases c34 : a3 = 0
                                      · rw [if_pos c34] at H
                                        have c34b0 : (a3 == 0) = true := beq_iff_eq.mpr c34
                                        have c34b1 : (a3 != 0) = false := bne_eq_false_iff_eq.mpr c34
                                        clear c34
                                        replace H := Option.bind_eq_some_iff.mp H
                                        obtain ⟨⟨t392, t393⟩, A350, H⟩ := H
                                        replace H : (some (t392, t393)) = some (r1, r2) := H
                                        have A35 := Aside0.mk A350
                                        clear A350
                                        simp only [Option.some.injEq, Prod.mk.injEq] at H
                                        obtain ⟨rfl, rfl⟩ := H
                                        go_wp2_with (first | ((with_reducible refine gate_callee (f := 37) rfl ?_); refine goesL_ (some 98) rfl rfl Try.func37 (by kernel_rfl) rfl #[.int .i64 x12_31, .int .i64 a1] rfl (by (try simp only [List.map_toArray, List.map_cons, List.map_nil]); first | done | rfl | (simp only [List.length_drop, List.length_take]; rfl)) ?_; (with_reducible refine (burinref08_To.calls x12_31 a1 t392 t393 _ A35.out).mono ?_); rintro e w' ⟨rfl, ⟨nd, rfl⟩⟩; refine ⟨_, rfl, ?_⟩))
                                        go_ret2
                                        exact ⟨by first | rfl | (simp; done) | (simp [*]; done), by repeat (first | exact Drawn0.refl _ | apply Drawn0.step)⟩
                                      · rw [if_neg c34] at H
                                        have c34b0 : (a3 == 0) = false := beq_eq_false_iff_ne.mpr c34
                                        have c34b1 : (a3 != 0) = true := bne_iff_ne.mpr c34
                                        replace H := Option.bind_eq_some_iff.mp H
                                        obtain ⟨t394, A360, H⟩ := H
                                        replace H : ((burinref08_To.f t394 a1).bind fun bt395 => (some (bt395.1, bt395.2))) = some (r1, r2) := H
                                        have A36 := Aside0.mk A360
                                        clear A360
                                        replace H := Option.bind_eq_some_iff.mp H
                                        obtain ⟨⟨t395, t396⟩, A370, H⟩ := H
                                        replace H : (some (t395, t396)) = some (r1, r2) := H
                                        have A37 := Aside0.mk A370
                                        clear A370
                                        simp only [Option.some.injEq, Prod.mk.injEq] at H
                                        obtain ⟨rfl, rfl⟩ := H
                                        go_wp2_with (first | ((with_reducible refine gate_callee (f := 40) rfl ?_); refine goesL_ (some 87) rfl rfl Try.func40 (by kernel_rfl) rfl #[.int .i64 a0, .int .i64 a1, .int .i64 a2, .int .i64 a3] rfl (by (try simp only [List.map_toArray, List.map_cons, List.map_nil]); first | done | rfl | (simp only [List.length_drop, List.length_take]; rfl)) ?_; (with_reducible refine (burinref09_Divided.calls a0 a1 a2 a3 t394 _ A36.out).mono ?_); rintro e w' ⟨rfl, ⟨nd, rfl⟩⟩; refine ⟨_, rfl, ?_⟩) | ((with_reducible refine gate_callee (f := 37) rfl ?_); refine goesL_ (some 98) rfl rfl Try.func37 (by kernel_rfl) rfl #[.int .i64 t394, .int .i64 a1] rfl (by (try simp only [List.map_toArray, List.map_cons, List.map_nil]); first | done | rfl | (simp only [List.length_drop, List.length_take]; rfl)) ?_; (with_reducible refine (burinref08_To.calls t394 a1 t395 t396 _ A37.out).mono ?_); rintro e w' ⟨rfl, ⟨nd, rfl⟩⟩; refine ⟨_, rfl, ?_⟩))
                                        go_ret2
                                        exact ⟨by first | rfl | (simp; done) | (simp [*]; done), by repeat (first | exact Drawn0.refl _ | apply Drawn0.step)⟩
                            · replace c29 := Bool.eq_false_iff.mpr c29
                              subst c29
                              have H1 : (if a0 = 15 then ((burinref08_To.f (wrap64 (-a2)) a1).bind fun bt397 => (some (bt397.1, bt397.2))) else (if a0 = 16 then ((burinref08_To.f (Go.bits .xor .i64 (-1) a2) a1).bind fun bt399 => (some (bt399.1, bt399.2))) else ((burinref09_plain.f a0 a2 a3).bind fun bt401 => ((burinref08_To.f bt401.1 a1).bind fun bt403 => (some (bt403.1, bt403.2)))))) = some (r1, r2) := by rw [if_neg (show ¬ (false = true) by decide)] at H; exact H
                              clear H
                              have H := H1
                              clear H1
                              by_cases c38 : a0 = 15
                              · rw [if_pos c38] at H
                                have c38b0 : (a0 == 15) = true := beq_iff_eq.mpr c38
                                have c38b1 : (a0 != 15) = false := bne_eq_false_iff_eq.mpr c38
                                clear c38
                                replace H := Option.bind_eq_some_iff.mp H
                                obtain ⟨⟨t397, t398⟩, A390, H⟩ := H
                                replace H : (some (t397, t398)) = some (r1, r2) := H
                                have A39 := Aside0.mk A390
                                clear A390
                                simp only [Option.some.injEq, Prod.mk.injEq] at H
                                obtain ⟨rfl, rfl⟩ := H
                                go_wp2_with (first | ((with_reducible refine gate_callee (f := 37) rfl ?_); refine goesL_ (some 98) rfl rfl Try.func37 (by kernel_rfl) rfl #[.int .i64 (wrap64 (-a2)), .int .i64 a1] rfl (by (try simp only [List.map_toArray, List.map_cons, List.map_nil]); first | done | rfl | (simp only [List.length_drop, List.length_take]; rfl)) ?_; (with_reducible refine (burinref08_To.calls (wrap64 (-a2)) a1 t397 t398 _ A39.out).mono ?_); rintro e w' ⟨rfl, ⟨nd, rfl⟩⟩; refine ⟨_, rfl, ?_⟩))
                                go_ret2
                                exact ⟨by first | rfl | (simp; done) | (simp [*]; done), by repeat (first | exact Drawn0.refl _ | apply Drawn0.step)⟩
                              · rw [if_neg c38] at H
                                have c38b0 : (a0 == 15) = false := beq_eq_false_iff_ne.mpr c38
                                have c38b1 : (a0 != 15) = true := bne_iff_ne.mpr c38
                                by_cases c40 : a0 = 16
                                · rw [if_pos c40] at H
                                  have c40b0 : (a0 == 16) = true := beq_iff_eq.mpr c40
                                  have c40b1 : (a0 != 16) = false := bne_eq_false_iff_eq.mpr c40
                                  clear c40
                                  replace H := Option.bind_eq_some_iff.mp H
                                  obtain ⟨⟨t399, t400⟩, A410, H⟩ := H
                                  replace H : (some (t399, t400)) = some (r1, r2) := H
                                  have A41 := Aside0.mk A410
                                  clear A410
                                  simp only [Option.some.injEq, Prod.mk.injEq] at H
                                  obtain ⟨rfl, rfl⟩ := H
                                  go_wp2_with (first | ((with_reducible refine gate_callee (f := 37) rfl ?_); refine goesL_ (some 98) rfl rfl Try.func37 (by kernel_rfl) rfl #[.int .i64 (Go.bits .xor .i64 (-1) a2), .int .i64 a1] rfl (by (try simp only [List.map_toArray, List.map_cons, List.map_nil]); first | done | rfl | (simp only [List.length_drop, List.length_take]; rfl)) ?_; (with_reducible refine (burinref08_To.calls (Go.bits .xor .i64 (-1) a2) a1 t399 t400 _ A41.out).mono ?_); rintro e w' ⟨rfl, ⟨nd, rfl⟩⟩; refine ⟨_, rfl, ?_⟩))
                                  go_ret2
                                  exact ⟨by first | rfl | (simp; done) | (simp [*]; done), by repeat (first | exact Drawn0.refl _ | apply Drawn0.step)⟩
                                · rw [if_neg c40] at H
                                  have c40b0 : (a0 == 16) = false := beq_eq_false_iff_ne.mpr c40
                                  have c40b1 : (a0 != 16) = true := bne_iff_ne.mpr c40
                                  replace H := Option.bind_eq_some_iff.mp H
                                  obtain ⟨⟨t401, t402⟩, A420, H⟩ := H
                                  replace H : ((burinref08_To.f t401 a1).bind fun bt403 => (some (bt403.1, bt403.2))) = some (r1, r2) := H
                                  have A42 := Aside0.mk A420
                                  clear A420
                                  replace H := Option.bind_eq_some_iff.mp H
                                  obtain ⟨⟨t403, t404⟩, A430, H⟩ := H
                                  replace H : (some (t403, t404)) = some (r1, r2) := H
                                  have A43 := Aside0.mk A430
                                  clear A430
                                  simp only [Option.some.injEq, Prod.mk.injEq] at H
                                  obtain ⟨rfl, rfl⟩ := H
                                  go_wp2_with (first | ((with_reducible refine gate_callee (f := 41) rfl ?_); refine goesL_ (some 50) rfl rfl Try.func41 (by kernel_rfl) rfl #[.int .i64 a0, .int .i64 a2, .int .i64 a3] rfl (by (try simp only [List.map_toArray, List.map_cons, List.map_nil]); first | done | rfl | (simp only [List.length_drop, List.length_take]; rfl)) ?_; (with_reducible refine (burinref09_plain.calls a0 a2 a3 t401 t402 _ A42.out).mono ?_); rintro e w' ⟨rfl, ⟨nd, rfl⟩⟩; refine ⟨_, rfl, ?_⟩) | ((with_reducible refine gate_callee (f := 37) rfl ?_); refine goesL_ (some 98) rfl rfl Try.func37 (by kernel_rfl) rfl #[.int .i64 t401, .int .i64 a1] rfl (by (try simp only [List.map_toArray, List.map_cons, List.map_nil]); first | done | rfl | (simp only [List.length_drop, List.length_take]; rfl)) ?_; (with_reducible refine (burinref08_To.calls t401 a1 t403 t404 _ A43.out).mono ?_); rintro e w' ⟨rfl, ⟨nd, rfl⟩⟩; refine ⟨_, rfl, ?_⟩))
                                  go_ret2
                                  exact ⟨by first | rfl | (simp; done) | (simp [*]; done), by repeat (first | exact Drawn0.refl _ | apply Drawn0.step)⟩

end Go.Proofs.Ytbbepiechehojaa.PA
