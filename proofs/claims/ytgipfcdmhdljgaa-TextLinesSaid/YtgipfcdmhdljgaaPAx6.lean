-- Printed by a program of this repo's wip/tools (a variant of the kit's print): Lean checks it.
import Derived.Test.YtgipfcdmhdljgaaPAx0
import Derived.Test.YtgipfcdmhdljgaaPAx1
import Derived.Test.YtgipfcdmhdljgaaPAx2
namespace Go.Proofs.Ytgipfcdmhdljgaa.PA
open Go.RowKit Go.Proofs.YtgipfcdmhdljgaaW.PrintWords Go.Proofs.YtgipfcdmhdljgaaW.PrintLast Go.Proofs.YtgipfcdmhdljgaaW.PrintMore
attribute [local go_sem] max2_int min2_int max_two min_two max_three min_three max_four min_four   -- for this text's walks alone
set_option linter.unusedVariables false
set_option linter.unusedSimpArgs false

attribute [local go_sem high] eqA32
/-! ### burinlaw01_TextParts: function 7 -/
mutual
def burinlaw01_TextParts.j0 : Nat → ByteArray → ByteArray → Bool → Bool → Option (Bool)
  | 0, _, _, _, _ => none
  | k + 1, x0, x1, x5, x44 => if x44 = true then (some x5) else (if x0.size + 1 ≤ 9223372036854775807 then ((text_Lines.f (x0 ++ (⟨#[10]⟩ : ByteArray))).bind fun bt209 => ((text_Lines.f x1).bind fun bt213 => (if (x0 ++ (⟨#[10]⟩ : ByteArray)).size + x1.size ≤ 9223372036854775807 then ((text_Lines.f ((x0 ++ (⟨#[10]⟩ : ByteArray)) ++ x1)).bind fun bt217 => (if bt209.2 = 0 then (if bt213.2 = 0 then (if bt217.2 = 0 then (if (bt217.1.length : Int) = (wrap64 ((bt209.1.length : Int) + (bt213.1.length : Int))) then ((text_Physical.f ((x0 ++ (⟨#[10]⟩ : ByteArray)) ++ x1)).bind fun t221 => ((text_Physical.f (x0 ++ (⟨#[10]⟩ : ByteArray))).bind fun t222 => ((text_Physical.f x1).bind fun t223 => (burinlaw01_TextParts.j1 k (x0 ++ (⟨#[10]⟩ : ByteArray)) x5 bt209.1 bt213.1 bt217.1 (t221 != (wrap64 (t222 + t223))))))) else (burinlaw01_TextParts.j1 k (x0 ++ (⟨#[10]⟩ : ByteArray)) x5 bt209.1 bt213.1 bt217.1 true)) else (burinlaw01_TextParts.j1 k (x0 ++ (⟨#[10]⟩ : ByteArray)) x5 bt209.1 bt213.1 bt217.1 true)) else (burinlaw01_TextParts.j1 k (x0 ++ (⟨#[10]⟩ : ByteArray)) x5 bt209.1 bt213.1 bt217.1 true)) else (burinlaw01_TextParts.j1 k (x0 ++ (⟨#[10]⟩ : ByteArray)) x5 bt209.1 bt213.1 bt217.1 true))) else (none)))) else (none))
def burinlaw01_TextParts.j1 : Nat → ByteArray → Bool → List (S32) → List (S32) → List (S32) → Bool → Option (Bool)
  | 0, _, _, _, _, _, _ => none
  | k + 1, x0, x5, x6, x8, x10, x96 => if x96 = true then (some false) else ((text_Physical.f x0).bind fun t224 => (burinlaw01_TextParts.l0 k x5 x6 x8 x10 t224 0))
def burinlaw01_TextParts.l0 : Nat → Bool → List (S32) → List (S32) → List (S32) → Int → Int → Option (Bool)
  | 0, _, _, _, _, _, _ => none
  | k + 1, x5, x6, x8, x10, x12, x13 => if x13 < (x8.length : Int) then (if 0 ≤ x13 then (if 0 ≤ (wrap64 ((x6.length : Int) + x13)) then (if (wrap64 ((x6.length : Int) + x13)) < (x10.length : Int) then (if (!(((rd_T32 x10 (wrap64 ((x6.length : Int) + x13))).f0) == (wrap64 (((rd_T32 x8 x13).f0) + x12))) || (!((((rd_T32 x10 (wrap64 ((x6.length : Int) + x13))).f1).toList) == (((rd_T32 x8 x13).f1).toList)))) = true then (some false) else (burinlaw01_TextParts.l0 k x5 x6 x8 x10 x12 (wrap64 (x13 + 1)))) else (none)) else (none)) else (none)) else (if x5 = true then (if 0 ≤ (x6.length : Int) then (if (x6.length : Int) ≤ (x10.length : Int) then ((burinref01_Same.f k (x10.take ((x6.length : Int) : Int).toNat) x6).bind fun t232 => (some t232)) else (none)) else (none)) else (some false))
end
def burinlaw01_TextParts.f (k : Nat) (a0 : ByteArray) (a1 : ByteArray) : Option (Bool) := (burinlaw01_shown.f k).bind fun t208 => (if (a0.size : Int) > 30000 then (burinlaw01_TextParts.j0 k a0 a1 t208 true) else (if (a1.size : Int) > 30000 then (burinlaw01_TextParts.j0 k a0 a1 t208 true) else (if (a0.size : Int) > 0 then (if 0 ≤ (wrap64 ((a0.size : Int) - 1)) then (if (wrap64 ((a0.size : Int) - 1)) < (a0.size : Int) then (if (bt a0 (wrap64 ((a0.size : Int) - 1))) = 92 then (burinlaw01_TextParts.j0 k a0 a1 t208 true) else (burinlaw01_TextParts.j0 k a0 a1 t208 ((bt a0 (wrap64 ((a0.size : Int) - 1))) == 13))) else (none)) else (none)) else (burinlaw01_TextParts.j0 k a0 a1 t208 false))))
theorem burinlaw01_TextParts.mono_l : ∀ k, (∀ y0 y1 y2 y3, LeO (burinlaw01_TextParts.j0 k y0 y1 y2 y3) (burinlaw01_TextParts.j0 (k + 1) y0 y1 y2 y3)) ∧ (∀ y0 y1 y2 y3 y4 y5, LeO (burinlaw01_TextParts.j1 k y0 y1 y2 y3 y4 y5) (burinlaw01_TextParts.j1 (k + 1) y0 y1 y2 y3 y4 y5)) ∧ (∀ y0 y1 y2 y3 y4 y5, LeO (burinlaw01_TextParts.l0 k y0 y1 y2 y3 y4 y5) (burinlaw01_TextParts.l0 (k + 1) y0 y1 y2 y3 y4 y5))
  | 0 => ⟨fun _ _ _ _ r h => by simp [burinlaw01_TextParts.j0] at h, fun _ _ _ _ _ _ r h => by simp [burinlaw01_TextParts.j1] at h, fun _ _ _ _ _ _ r h => by simp [burinlaw01_TextParts.l0] at h⟩
  | k + 1 => by
    obtain ⟨ih0, ih1, ih2⟩ := burinlaw01_TextParts.mono_l k
    refine ⟨?_, ?_, ?_⟩
    · intro y0 y1 y2 y3
      unfold burinlaw01_TextParts.j0
      repeat' first
      | (with_reducible exact ih0 _ _ _ _)
      | (with_reducible exact ih1 _ _ _ _ _ _)
      | (with_reducible exact ih2 _ _ _ _ _ _)
      | (with_reducible exact burinlaw01_shown.mono _)
      | (with_reducible exact burinref01_Same.mono _ _ _)
      | (with_reducible exact LeO.refl _)
      | (with_reducible exact LeO.none _)
      | (with_reducible refine LeO.ite ?_ ?_)
      | (with_reducible refine LeO.bind ?_ (fun _ => ?_))
      | exact ih0 _ _ _ _
      | exact ih1 _ _ _ _ _ _
      | exact ih2 _ _ _ _ _ _
      | exact burinlaw01_shown.mono _
      | exact burinref01_Same.mono _ _ _
      | exact LeO.none _
      | refine LeO.ite ?_ ?_
      | refine LeO.bind ?_ (fun _ => ?_)
    · intro y0 y1 y2 y3 y4 y5
      unfold burinlaw01_TextParts.j1
      repeat' first
      | (with_reducible exact ih0 _ _ _ _)
      | (with_reducible exact ih1 _ _ _ _ _ _)
      | (with_reducible exact ih2 _ _ _ _ _ _)
      | (with_reducible exact burinlaw01_shown.mono _)
      | (with_reducible exact burinref01_Same.mono _ _ _)
      | (with_reducible exact LeO.refl _)
      | (with_reducible exact LeO.none _)
      | (with_reducible refine LeO.ite ?_ ?_)
      | (with_reducible refine LeO.bind ?_ (fun _ => ?_))
      | exact ih0 _ _ _ _
      | exact ih1 _ _ _ _ _ _
      | exact ih2 _ _ _ _ _ _
      | exact burinlaw01_shown.mono _
      | exact burinref01_Same.mono _ _ _
      | exact LeO.none _
      | refine LeO.ite ?_ ?_
      | refine LeO.bind ?_ (fun _ => ?_)
    · intro y0 y1 y2 y3 y4 y5
      unfold burinlaw01_TextParts.l0
      repeat' first
      | (with_reducible exact ih0 _ _ _ _)
      | (with_reducible exact ih1 _ _ _ _ _ _)
      | (with_reducible exact ih2 _ _ _ _ _ _)
      | (with_reducible exact burinlaw01_shown.mono _)
      | (with_reducible exact burinref01_Same.mono _ _ _)
      | (with_reducible exact LeO.refl _)
      | (with_reducible exact LeO.none _)
      | (with_reducible refine LeO.ite ?_ ?_)
      | (with_reducible refine LeO.bind ?_ (fun _ => ?_))
      | exact ih0 _ _ _ _
      | exact ih1 _ _ _ _ _ _
      | exact ih2 _ _ _ _ _ _
      | exact burinlaw01_shown.mono _
      | exact burinref01_Same.mono _ _ _
      | exact LeO.none _
      | refine LeO.ite ?_ ?_
      | refine LeO.bind ?_ (fun _ => ?_)
theorem burinlaw01_TextParts.mono : ∀ a0 a1 k, LeO (burinlaw01_TextParts.f k a0 a1) (burinlaw01_TextParts.f (k + 1) a0 a1) := by
  intro a0 a1 k
  obtain ⟨ih0, ih1, ih2⟩ := burinlaw01_TextParts.mono_l k
  unfold burinlaw01_TextParts.f
  repeat' first
      | (with_reducible exact ih0 _ _ _ _)
      | (with_reducible exact ih1 _ _ _ _ _ _)
      | (with_reducible exact ih2 _ _ _ _ _ _)
      | (with_reducible exact burinlaw01_shown.mono _)
      | (with_reducible exact burinref01_Same.mono _ _ _)
      | (with_reducible exact LeO.refl _)
      | (with_reducible exact LeO.none _)
      | (with_reducible refine LeO.ite ?_ ?_)
      | (with_reducible refine LeO.bind ?_ (fun _ => ?_))
      | exact ih0 _ _ _ _
      | exact ih1 _ _ _ _ _ _
      | exact ih2 _ _ _ _ _ _
      | exact burinlaw01_shown.mono _
      | exact burinref01_Same.mono _ _ _
      | exact LeO.none _
      | refine LeO.ite ?_ ?_
      | refine LeO.bind ?_ (fun _ => ?_)
set_option maxHeartbeats 8000000 in
set_option maxRecDepth 100000 in
theorem burinlaw01_TextParts.calls (k : Nat) (a0 : ByteArray) (a1 : ByteArray) (r : Bool) (w : World) (h : burinlaw01_TextParts.f k a0 a1 = some r) :
    Calls Try.prog 7 #[.string a0, .string a1] w fun e w' => e = .returned (.bool r) ∧ Below w.heap.size w w' := by
  have hu32 := Try.underlying32
  have HB := Aside0.mk (Below.refl w.heap.size w)
  have H : ((burinlaw01_shown.f k).bind fun t208 => (if (a0.size : Int) > 30000 then (burinlaw01_TextParts.j0 k a0 a1 t208 true) else (if (a1.size : Int) > 30000 then (burinlaw01_TextParts.j0 k a0 a1 t208 true) else (if (a0.size : Int) > 0 then (if 0 ≤ (wrap64 ((a0.size : Int) - 1)) then (if (wrap64 ((a0.size : Int) - 1)) < (a0.size : Int) then (if (bt a0 (wrap64 ((a0.size : Int) - 1))) = 92 then (burinlaw01_TextParts.j0 k a0 a1 t208 true) else (burinlaw01_TextParts.j0 k a0 a1 t208 ((bt a0 (wrap64 ((a0.size : Int) - 1))) == 13))) else (none)) else (none)) else (burinlaw01_TextParts.j0 k a0 a1 t208 false))))) = some r := h
  clear h
  replace H := Option.bind_eq_some_iff.mp H
  obtain ⟨t208, A30, H⟩ := H
  replace H : (if (a0.size : Int) > 30000 then (burinlaw01_TextParts.j0 k a0 a1 t208 true) else (if (a1.size : Int) > 30000 then (burinlaw01_TextParts.j0 k a0 a1 t208 true) else (if (a0.size : Int) > 0 then (if 0 ≤ (wrap64 ((a0.size : Int) - 1)) then (if (wrap64 ((a0.size : Int) - 1)) < (a0.size : Int) then (if (bt a0 (wrap64 ((a0.size : Int) - 1))) = 92 then (burinlaw01_TextParts.j0 k a0 a1 t208 true) else (burinlaw01_TextParts.j0 k a0 a1 t208 ((bt a0 (wrap64 ((a0.size : Int) - 1))) == 13))) else (none)) else (none)) else (burinlaw01_TextParts.j0 k a0 a1 t208 false)))) = some r := H
  have A3 := Aside0.mk A30
  clear A30
  have HC4 := Aside0.mk H
  clear H
  go_enter Try.func7, Try.ntmps7
  go_upto_region 2 with (first | (go_at_call 9; (with_reducible refine (burinlaw01_shown.calls k  t208 _ A3.out).mono ?_); rintro e w5 ⟨rfl, hb⟩; have n0_ := Aside0.mk (below_step (by repeat (first | (with_reducible first | exact HB.out | apply below_alloc | apply pw_below_drewN | apply below_drew1) | exact HB.out)) hb); clear HB; have HB := n0_; clear n0_; (try clear hb); (try clear hb2); (try clear hk); (try clear hi)))
  repeat (go_quiet (first | (go_at_call 9; (with_reducible refine (burinlaw01_shown.calls k  t208 _ A3.out).mono ?_); rintro e w5 ⟨rfl, hb⟩; have n0_ := Aside0.mk (below_step (by repeat (first | (with_reducible first | exact HB.out | apply below_alloc | apply pw_below_drewN | apply below_drew1) | exact HB.out)) hb); clear HB; have HB := n0_; clear n0_; (try clear hb); (try clear hb2); (try clear hk); (try clear hi))); go_upto_region 2 with (first | (go_at_call 9; (with_reducible refine (burinlaw01_shown.calls k  t208 _ A3.out).mono ?_); rintro e w5 ⟨rfl, hb⟩; have n0_ := Aside0.mk (below_step (by repeat (first | (with_reducible first | exact HB.out | apply below_alloc | apply pw_below_drewN | apply below_drew1) | exact HB.out)) hb); clear HB; have HB := n0_; clear n0_; (try clear hb); (try clear hb2); (try clear hk); (try clear hi))))
  (try simp only [Act.put, List.setIfInBounds_toArray, List.set_cons_zero, List.set_cons_succ])
  go_cut [44] (fun v44 wc => ∃ (kq : Nat) (x44_3 : Bool), v44 = .bool x44_3 ∧ Aside0 (burinlaw01_TextParts.j0 kq a0 a1 t208 x44_3 = some r) ∧ Aside0 (kq ≤ k) ∧ Aside0 (Below w.heap.size w wc))
  case first =>
    have H := HC4.out
    clear HC4
    by_cases c6 : (a0.size : Int) > 30000
    · rw [if_pos c6] at H
      have c6b0 : decide (30000 < (a0.size : Int)) = true := decide_eq_true c6
      have c6b1 : decide (30000 < a0.size) = true := decide_eq_true (by omega)
      clear c6
      (first | rw [c6b0] | (simp only [i64_w, i32_w]; rw [c6b0]) | skip)
      have H' := Aside0.mk H
      clear H
      go_wp2
      repeat (go_quiet (fail); try go_wp2)
      go_meet
      case rel => exact ⟨_, (true), (by first | rfl | (simp; done) | (simp [*]; done)), H', ⟨by first | omega | exact Nat.le_refl _⟩, ⟨by repeat (first | (with_reducible first | exact HB.out | apply below_alloc | apply pw_below_drewN | apply below_drew1) | exact HB.out)⟩⟩
    · rw [if_neg c6] at H
      have c6b0 : decide (30000 < (a0.size : Int)) = false := decide_eq_false c6
      have c6b1 : decide (30000 < a0.size) = false := decide_eq_false (by omega)
      clear c6
      (first | rw [c6b0] | (simp only [i64_w, i32_w]; rw [c6b0]) | skip)
      by_cases c7 : (a1.size : Int) > 30000
      · rw [if_pos c7] at H
        have c7b0 : decide (30000 < (a1.size : Int)) = true := decide_eq_true c7
        have c7b1 : decide (30000 < a1.size) = true := decide_eq_true (by omega)
        clear c7
        have H' := Aside0.mk H
        clear H
        go_wp2
        repeat (go_quiet (fail); try go_wp2)
        go_meet
        case rel => exact ⟨_, (true), (by first | rfl | (simp; done) | (simp [*]; done)), H', ⟨by first | omega | exact Nat.le_refl _⟩, ⟨by repeat (first | (with_reducible first | exact HB.out | apply below_alloc | apply pw_below_drewN | apply below_drew1) | exact HB.out)⟩⟩
      · rw [if_neg c7] at H
        have c7b0 : decide (30000 < (a1.size : Int)) = false := decide_eq_false c7
        have c7b1 : decide (30000 < a1.size) = false := decide_eq_false (by omega)
        clear c7
        by_cases c8 : (a0.size : Int) > 0
        · rw [if_pos c8] at H
          have c8b0 : decide (0 < (a0.size : Int)) = true := decide_eq_true c8
          have c8b1 : decide (0 < a0.size) = true := decide_eq_true (by omega)
          clear c8
          obtain ⟨ji9, hji9⟩ : ∃ j_ : Int, (wrap64 ((a0.size : Int) - 1)) = j_ := ⟨_, rfl⟩
          replace H : (if 0 ≤ (ji9) then (if (ji9) < (a0.size : Int) then (if (bt a0 (ji9)) = 92 then (burinlaw01_TextParts.j0 k a0 a1 t208 true) else (burinlaw01_TextParts.j0 k a0 a1 t208 ((bt a0 (ji9)) == 13))) else (none)) else (none)) = some r := by first | (rw [hji9] at H; exact H) | (simp only [hji9] at H ⊢; exact H)
          have hji9w : (IntKind.i64.wrap ((a0.size : Int) - 1)) = ji9 := (i64_w _).trans hji9
          by_cases c10 : 0 ≤ (ji9)
          · rw [if_pos c10] at H
            have c10b0 : decide (0 ≤ (ji9)) = true := decide_eq_true c10
            clear c10
            by_cases c11 : (ji9) < (a0.size : Int)
            · rw [if_pos c11] at H
              have c11b0 : decide ((ji9) < (a0.size : Int)) = true := decide_eq_true c11
              clear c11
              by_cases c13 : (bt a0 (ji9)) = 92
              · rw [if_pos c13] at H
                have c13b0 : ((bt a0 (ji9)) == 92) = true := beq_iff_eq.mpr c13
                have c13b1 : ((bt a0 (ji9)) != 92) = false := bne_eq_false_iff_eq.mpr c13
                clear c13
                have H' := Aside0.mk H
                clear H
                have p12 : 0 ≤ ((ji9) : Int) := of_decide_eq_true (by first | (with_reducible assumption) | assumption)
                have q12 : (ji9) < (a0.size : Int) := of_decide_eq_true (by first | (with_reducible assumption) | assumption)
                have hx12 := bt_at a0 (ji9)
                replace p12 := eq_true p12
                replace q12 := eq_true q12
                go_wp2
                repeat (go_quiet (fail); try go_wp2)
                go_meet
                case rel => exact ⟨_, (true), (by first | rfl | (simp; done) | (simp [*]; done)), H', ⟨by first | omega | exact Nat.le_refl _⟩, ⟨by repeat (first | (with_reducible first | exact HB.out | apply below_alloc | apply pw_below_drewN | apply below_drew1) | exact HB.out)⟩⟩
              · rw [if_neg c13] at H
                have c13b0 : ((bt a0 (ji9)) == 92) = false := beq_eq_false_iff_ne.mpr c13
                have c13b1 : ((bt a0 (ji9)) != 92) = true := bne_iff_ne.mpr c13
                have H' := Aside0.mk H
                clear H
                have p12 : 0 ≤ ((ji9) : Int) := of_decide_eq_true (by first | (with_reducible assumption) | assumption)
                have q12 : (ji9) < (a0.size : Int) := of_decide_eq_true (by first | (with_reducible assumption) | assumption)
                have hx12 := bt_at a0 (ji9)
                replace p12 := eq_true p12
                replace q12 := eq_true q12
                have p14 : 0 ≤ ((ji9) : Int) := of_decide_eq_true (by first | (with_reducible assumption) | assumption)
                have q14 : (ji9) < (a0.size : Int) := of_decide_eq_true (by first | (with_reducible assumption) | assumption)
                have hx14 := bt_at a0 (ji9)
                replace p14 := eq_true p14
                replace q14 := eq_true q14
                go_wp2
                repeat (go_quiet (fail); try go_wp2)
                go_meet
                case rel => exact ⟨_, (((bt a0 (ji9)) == 13)), (by first | rfl | (simp; done) | (simp only [← hji9] <;> (first | rfl | simp)) | (simp [*]; done)), H', ⟨by first | omega | exact Nat.le_refl _⟩, ⟨by repeat (first | (with_reducible first | exact HB.out | apply below_alloc | apply pw_below_drewN | apply below_drew1) | exact HB.out)⟩⟩
            · rw [if_neg c11] at H
              exact absurd H (by simp)
          · rw [if_neg c10] at H
            exact absurd H (by simp)
        · rw [if_neg c8] at H
          have c8b0 : decide (0 < (a0.size : Int)) = false := decide_eq_false c8
          have c8b1 : decide (0 < a0.size) = false := decide_eq_false (by omega)
          clear c8
          have H' := Aside0.mk H
          clear H
          go_wp2
          repeat (go_quiet (fail); try go_wp2)
          go_meet
          case rel => exact ⟨_, (false), (by first | rfl | (simp; done) | (simp [*]; done)), H', ⟨by first | omega | exact Nat.le_refl _⟩, ⟨by repeat (first | (with_reducible first | exact HB.out | apply below_alloc | apply pw_below_drewN | apply below_drew1) | exact HB.out)⟩⟩
  case rest =>
    clear HC4
    try clear c1
    try clear p1
    try clear q1
    try clear hx1
    try clear p2
    try clear c6
    try clear c6b0
    try clear c6b1
    try clear p6
    try clear c7
    try clear c7b0
    try clear c7b1
    try clear c8
    try clear c8b0
    try clear c8b1
    try clear c10
    try clear c10b0
    try clear c11
    try clear c11b0
    try clear p12
    try clear q12
    try clear hx12
    try clear c13
    try clear c13b0
    try clear c13b1
    try clear p14
    try clear q14
    try clear hx14
    try clear p12
    try clear p14
    try clear q12
    try clear q14
    obtain ⟨kq, x44_3, rfl, HA, HJ3, HB⟩ := hcut
    cases kq with
    | zero => exact absurd HA.out (by simp [burinlaw01_TextParts.j0])
    | succ kj3 =>
      have H := HA.out
      clear HA
      simp only [burinlaw01_TextParts.j0] at H
      by_cases c15 : x44_3 = true
      · subst c15
        have H1 : (some t208) = some r := by rw [if_pos rfl] at H; exact H
        clear H
        have H := H1
        clear H1
        obtain rfl := Option.some.inj H
        go_wp2
        repeat (go_quiet (fail); try go_wp2)
        go_ret
        exact ⟨by first | rfl | (simp [errW_none, errW_some] <;> rfl) | (simp [*, errW_none, errW_some] <;> rfl), by repeat (first | (with_reducible first | exact HB.out | apply below_alloc | apply pw_below_drewN | apply below_drew1) | exact HB.out)⟩
      · replace c15 := Bool.eq_false_iff.mpr c15
        subst c15
        have H1 : (if a0.size + 1 ≤ 9223372036854775807 then ((text_Lines.f (a0 ++ (⟨#[10]⟩ : ByteArray))).bind fun bt209 => ((text_Lines.f a1).bind fun bt213 => (if (a0 ++ (⟨#[10]⟩ : ByteArray)).size + a1.size ≤ 9223372036854775807 then ((text_Lines.f ((a0 ++ (⟨#[10]⟩ : ByteArray)) ++ a1)).bind fun bt217 => (if bt209.2 = 0 then (if bt213.2 = 0 then (if bt217.2 = 0 then (if (bt217.1.length : Int) = (wrap64 ((bt209.1.length : Int) + (bt213.1.length : Int))) then ((text_Physical.f ((a0 ++ (⟨#[10]⟩ : ByteArray)) ++ a1)).bind fun t221 => ((text_Physical.f (a0 ++ (⟨#[10]⟩ : ByteArray))).bind fun t222 => ((text_Physical.f a1).bind fun t223 => (burinlaw01_TextParts.j1 kj3 (a0 ++ (⟨#[10]⟩ : ByteArray)) t208 bt209.1 bt213.1 bt217.1 (t221 != (wrap64 (t222 + t223))))))) else (burinlaw01_TextParts.j1 kj3 (a0 ++ (⟨#[10]⟩ : ByteArray)) t208 bt209.1 bt213.1 bt217.1 true)) else (burinlaw01_TextParts.j1 kj3 (a0 ++ (⟨#[10]⟩ : ByteArray)) t208 bt209.1 bt213.1 bt217.1 true)) else (burinlaw01_TextParts.j1 kj3 (a0 ++ (⟨#[10]⟩ : ByteArray)) t208 bt209.1 bt213.1 bt217.1 true)) else (burinlaw01_TextParts.j1 kj3 (a0 ++ (⟨#[10]⟩ : ByteArray)) t208 bt209.1 bt213.1 bt217.1 true))) else (none)))) else (none)) = some r := by rw [if_neg (show ¬ (false = true) by decide)] at H; exact H
        clear H
        have H := H1
        clear H1
        by_cases c16 : a0.size + 1 ≤ 9223372036854775807
        · rw [if_pos c16] at H
          have c16b0 := eq_true c16
          have c16b1 : decide (a0.size + 1 ≤ 9223372036854775807) = true := decide_eq_true c16
          try have c16b2 : (9223372036854775807 < a0.size + 1) = False := eq_false (Nat.not_lt.2 c16)
          replace H := Option.bind_eq_some_iff.mp H
          obtain ⟨⟨t209, t210⟩, A170, H⟩ := H
          replace H : ((text_Lines.f a1).bind fun bt213 => (if (a0 ++ (⟨#[10]⟩ : ByteArray)).size + a1.size ≤ 9223372036854775807 then ((text_Lines.f ((a0 ++ (⟨#[10]⟩ : ByteArray)) ++ a1)).bind fun bt217 => (if t210 = 0 then (if bt213.2 = 0 then (if bt217.2 = 0 then (if (bt217.1.length : Int) = (wrap64 ((t209.length : Int) + (bt213.1.length : Int))) then ((text_Physical.f ((a0 ++ (⟨#[10]⟩ : ByteArray)) ++ a1)).bind fun t221 => ((text_Physical.f (a0 ++ (⟨#[10]⟩ : ByteArray))).bind fun t222 => ((text_Physical.f a1).bind fun t223 => (burinlaw01_TextParts.j1 kj3 (a0 ++ (⟨#[10]⟩ : ByteArray)) t208 t209 bt213.1 bt217.1 (t221 != (wrap64 (t222 + t223))))))) else (burinlaw01_TextParts.j1 kj3 (a0 ++ (⟨#[10]⟩ : ByteArray)) t208 t209 bt213.1 bt217.1 true)) else (burinlaw01_TextParts.j1 kj3 (a0 ++ (⟨#[10]⟩ : ByteArray)) t208 t209 bt213.1 bt217.1 true)) else (burinlaw01_TextParts.j1 kj3 (a0 ++ (⟨#[10]⟩ : ByteArray)) t208 t209 bt213.1 bt217.1 true)) else (burinlaw01_TextParts.j1 kj3 (a0 ++ (⟨#[10]⟩ : ByteArray)) t208 t209 bt213.1 bt217.1 true))) else (none))) = some r := H
          have A17 := Aside0.mk A170
          clear A170
          replace H := Option.bind_eq_some_iff.mp H
          obtain ⟨⟨t213, t214⟩, A180, H⟩ := H
          replace H : (if (a0 ++ (⟨#[10]⟩ : ByteArray)).size + a1.size ≤ 9223372036854775807 then ((text_Lines.f ((a0 ++ (⟨#[10]⟩ : ByteArray)) ++ a1)).bind fun bt217 => (if t210 = 0 then (if t214 = 0 then (if bt217.2 = 0 then (if (bt217.1.length : Int) = (wrap64 ((t209.length : Int) + (t213.length : Int))) then ((text_Physical.f ((a0 ++ (⟨#[10]⟩ : ByteArray)) ++ a1)).bind fun t221 => ((text_Physical.f (a0 ++ (⟨#[10]⟩ : ByteArray))).bind fun t222 => ((text_Physical.f a1).bind fun t223 => (burinlaw01_TextParts.j1 kj3 (a0 ++ (⟨#[10]⟩ : ByteArray)) t208 t209 t213 bt217.1 (t221 != (wrap64 (t222 + t223))))))) else (burinlaw01_TextParts.j1 kj3 (a0 ++ (⟨#[10]⟩ : ByteArray)) t208 t209 t213 bt217.1 true)) else (burinlaw01_TextParts.j1 kj3 (a0 ++ (⟨#[10]⟩ : ByteArray)) t208 t209 t213 bt217.1 true)) else (burinlaw01_TextParts.j1 kj3 (a0 ++ (⟨#[10]⟩ : ByteArray)) t208 t209 t213 bt217.1 true)) else (burinlaw01_TextParts.j1 kj3 (a0 ++ (⟨#[10]⟩ : ByteArray)) t208 t209 t213 bt217.1 true))) else (none)) = some r := H
          have A18 := Aside0.mk A180
          clear A180
          by_cases c19 : (a0 ++ (⟨#[10]⟩ : ByteArray)).size + a1.size ≤ 9223372036854775807
          · rw [if_pos c19] at H
            have c19b0 := eq_true c19
            have c19b1 : decide ((a0 ++ (⟨#[10]⟩ : ByteArray)).size + a1.size ≤ 9223372036854775807) = true := decide_eq_true c19
            try have c19b2 : (9223372036854775807 < (a0 ++ (⟨#[10]⟩ : ByteArray)).size + a1.size) = False := eq_false (Nat.not_lt.2 c19)
            replace H := Option.bind_eq_some_iff.mp H
            obtain ⟨⟨t217, t218⟩, A200, H⟩ := H
            replace H : (if t210 = 0 then (if t214 = 0 then (if t218 = 0 then (if (t217.length : Int) = (wrap64 ((t209.length : Int) + (t213.length : Int))) then ((text_Physical.f ((a0 ++ (⟨#[10]⟩ : ByteArray)) ++ a1)).bind fun t221 => ((text_Physical.f (a0 ++ (⟨#[10]⟩ : ByteArray))).bind fun t222 => ((text_Physical.f a1).bind fun t223 => (burinlaw01_TextParts.j1 kj3 (a0 ++ (⟨#[10]⟩ : ByteArray)) t208 t209 t213 t217 (t221 != (wrap64 (t222 + t223))))))) else (burinlaw01_TextParts.j1 kj3 (a0 ++ (⟨#[10]⟩ : ByteArray)) t208 t209 t213 t217 true)) else (burinlaw01_TextParts.j1 kj3 (a0 ++ (⟨#[10]⟩ : ByteArray)) t208 t209 t213 t217 true)) else (burinlaw01_TextParts.j1 kj3 (a0 ++ (⟨#[10]⟩ : ByteArray)) t208 t209 t213 t217 true)) else (burinlaw01_TextParts.j1 kj3 (a0 ++ (⟨#[10]⟩ : ByteArray)) t208 t209 t213 t217 true)) = some r := H
            have A20 := Aside0.mk A200
            clear A200
            have HC21 := Aside0.mk H
            clear H
            go_upto_region 8 with (first | (go_at_call 10; (with_reducible refine (text_Lines.calls (a0 ++ (⟨#[10]⟩ : ByteArray)) t209 t210 _ A17.out).mono ?_); rintro e w22 ⟨v211, rfl, ho0, hb⟩; have n0_ := Aside0.mk (Kd.R_lower ho0 (below_size (by repeat (first | (with_reducible first | exact HB.out | apply below_alloc | apply pw_below_drewN | apply below_drew1) | exact HB.out)))); have n1_ := Aside0.mk (below_step (by repeat (first | (with_reducible first | exact HB.out | apply below_alloc | apply pw_below_drewN | apply below_drew1) | exact HB.out)) hb); clear HB; have HO212 := n0_; have HB := n1_; clear n0_ n1_; (try clear hb); (try clear hb2); (try clear hk); (try clear hi); (try clear ho0)) | (go_at_call 10; (with_reducible refine (text_Lines.calls a1 t213 t214 _ A18.out).mono ?_); rintro e w23 ⟨v215, rfl, ho0, hb⟩; have n0_ := Aside0.mk (Kd.R_elder' (by (with_reducible repeat (first | apply Kd.R_alloc | apply Kd.R_drewN | apply Kd.R_drew)); exact HO212.out) (Kd.R_base ho0) hb); have n1_ := Aside0.mk (Kd.R_lower (Kd.R_new' ho0 (Kd.R_lt (by (with_reducible repeat (first | apply Kd.R_alloc | apply Kd.R_drewN | apply Kd.R_drew)); exact HO212.out))) (below_size (by repeat (first | (with_reducible first | exact HB.out | apply below_alloc | apply pw_below_drewN | apply below_drew1) | exact HB.out)))); have n2_ := Aside0.mk (below_step (by repeat (first | (with_reducible first | exact HB.out | apply below_alloc | apply pw_below_drewN | apply below_drew1) | exact HB.out)) hb); clear HO212; clear HB; have HO212 := n0_; have HO216 := n1_; have HB := n2_; clear n0_ n1_ n2_; (try clear hb); (try clear hb2); (try clear hk); (try clear hi); (try clear ho0)) | (go_at_call 10; (with_reducible refine (text_Lines.calls ((a0 ++ (⟨#[10]⟩ : ByteArray)) ++ a1) t217 t218 _ A20.out).mono ?_); rintro e w24 ⟨v219, rfl, ho0, hb⟩; have n0_ := Aside0.mk (Kd.R_elder' (by (with_reducible repeat (first | apply Kd.R_alloc | apply Kd.R_drewN | apply Kd.R_drew)); exact HO212.out) (Kd.R_base ho0) hb); have n1_ := Aside0.mk (Kd.R_elder' (by (with_reducible repeat (first | apply Kd.R_alloc | apply Kd.R_drewN | apply Kd.R_drew)); exact HO216.out) (Kd.R_base ho0) hb); have n2_ := Aside0.mk (Kd.R_lower (Kd.R_new' (Kd.R_new' ho0 (Kd.R_lt (by (with_reducible repeat (first | apply Kd.R_alloc | apply Kd.R_drewN | apply Kd.R_drew)); exact HO212.out))) (Kd.R_lt (by (with_reducible repeat (first | apply Kd.R_alloc | apply Kd.R_drewN | apply Kd.R_drew)); exact HO216.out))) (below_size (by repeat (first | (with_reducible first | exact HB.out | apply below_alloc | apply pw_below_drewN | apply below_drew1) | exact HB.out)))); have n3_ := Aside0.mk (below_step (by repeat (first | (with_reducible first | exact HB.out | apply below_alloc | apply pw_below_drewN | apply below_drew1) | exact HB.out)) hb); clear HO212; clear HO216; clear HB; have HO212 := n0_; have HO216 := n1_; have HO220 := n2_; have HB := n3_; clear n0_ n1_ n2_ n3_; (try clear hb); (try clear hb2); (try clear hk); (try clear hi); (try clear ho0)))
            repeat (go_quiet (first | (go_at_call 10; (with_reducible refine (text_Lines.calls (a0 ++ (⟨#[10]⟩ : ByteArray)) t209 t210 _ A17.out).mono ?_); rintro e w22 ⟨v211, rfl, ho0, hb⟩; have n0_ := Aside0.mk (Kd.R_lower ho0 (below_size (by repeat (first | (with_reducible first | exact HB.out | apply below_alloc | apply pw_below_drewN | apply below_drew1) | exact HB.out)))); have n1_ := Aside0.mk (below_step (by repeat (first | (with_reducible first | exact HB.out | apply below_alloc | apply pw_below_drewN | apply below_drew1) | exact HB.out)) hb); clear HB; have HO212 := n0_; have HB := n1_; clear n0_ n1_; (try clear hb); (try clear hb2); (try clear hk); (try clear hi); (try clear ho0)) | (go_at_call 10; (with_reducible refine (text_Lines.calls a1 t213 t214 _ A18.out).mono ?_); rintro e w23 ⟨v215, rfl, ho0, hb⟩; have n0_ := Aside0.mk (Kd.R_elder' (by (with_reducible repeat (first | apply Kd.R_alloc | apply Kd.R_drewN | apply Kd.R_drew)); exact HO212.out) (Kd.R_base ho0) hb); have n1_ := Aside0.mk (Kd.R_lower (Kd.R_new' ho0 (Kd.R_lt (by (with_reducible repeat (first | apply Kd.R_alloc | apply Kd.R_drewN | apply Kd.R_drew)); exact HO212.out))) (below_size (by repeat (first | (with_reducible first | exact HB.out | apply below_alloc | apply pw_below_drewN | apply below_drew1) | exact HB.out)))); have n2_ := Aside0.mk (below_step (by repeat (first | (with_reducible first | exact HB.out | apply below_alloc | apply pw_below_drewN | apply below_drew1) | exact HB.out)) hb); clear HO212; clear HB; have HO212 := n0_; have HO216 := n1_; have HB := n2_; clear n0_ n1_ n2_; (try clear hb); (try clear hb2); (try clear hk); (try clear hi); (try clear ho0)) | (go_at_call 10; (with_reducible refine (text_Lines.calls ((a0 ++ (⟨#[10]⟩ : ByteArray)) ++ a1) t217 t218 _ A20.out).mono ?_); rintro e w24 ⟨v219, rfl, ho0, hb⟩; have n0_ := Aside0.mk (Kd.R_elder' (by (with_reducible repeat (first | apply Kd.R_alloc | apply Kd.R_drewN | apply Kd.R_drew)); exact HO212.out) (Kd.R_base ho0) hb); have n1_ := Aside0.mk (Kd.R_elder' (by (with_reducible repeat (first | apply Kd.R_alloc | apply Kd.R_drewN | apply Kd.R_drew)); exact HO216.out) (Kd.R_base ho0) hb); have n2_ := Aside0.mk (Kd.R_lower (Kd.R_new' (Kd.R_new' ho0 (Kd.R_lt (by (with_reducible repeat (first | apply Kd.R_alloc | apply Kd.R_drewN | apply Kd.R_drew)); exact HO212.out))) (Kd.R_lt (by (with_reducible repeat (first | apply Kd.R_alloc | apply Kd.R_drewN | apply Kd.R_drew)); exact HO216.out))) (below_size (by repeat (first | (with_reducible first | exact HB.out | apply below_alloc | apply pw_below_drewN | apply below_drew1) | exact HB.out)))); have n3_ := Aside0.mk (below_step (by repeat (first | (with_reducible first | exact HB.out | apply below_alloc | apply pw_below_drewN | apply below_drew1) | exact HB.out)) hb); clear HO212; clear HO216; clear HB; have HO212 := n0_; have HO216 := n1_; have HO220 := n2_; have HB := n3_; clear n0_ n1_ n2_ n3_; (try clear hb); (try clear hb2); (try clear hk); (try clear hi); (try clear ho0))); go_upto_region 8 with (first | (go_at_call 10; (with_reducible refine (text_Lines.calls (a0 ++ (⟨#[10]⟩ : ByteArray)) t209 t210 _ A17.out).mono ?_); rintro e w22 ⟨v211, rfl, ho0, hb⟩; have n0_ := Aside0.mk (Kd.R_lower ho0 (below_size (by repeat (first | (with_reducible first | exact HB.out | apply below_alloc | apply pw_below_drewN | apply below_drew1) | exact HB.out)))); have n1_ := Aside0.mk (below_step (by repeat (first | (with_reducible first | exact HB.out | apply below_alloc | apply pw_below_drewN | apply below_drew1) | exact HB.out)) hb); clear HB; have HO212 := n0_; have HB := n1_; clear n0_ n1_; (try clear hb); (try clear hb2); (try clear hk); (try clear hi); (try clear ho0)) | (go_at_call 10; (with_reducible refine (text_Lines.calls a1 t213 t214 _ A18.out).mono ?_); rintro e w23 ⟨v215, rfl, ho0, hb⟩; have n0_ := Aside0.mk (Kd.R_elder' (by (with_reducible repeat (first | apply Kd.R_alloc | apply Kd.R_drewN | apply Kd.R_drew)); exact HO212.out) (Kd.R_base ho0) hb); have n1_ := Aside0.mk (Kd.R_lower (Kd.R_new' ho0 (Kd.R_lt (by (with_reducible repeat (first | apply Kd.R_alloc | apply Kd.R_drewN | apply Kd.R_drew)); exact HO212.out))) (below_size (by repeat (first | (with_reducible first | exact HB.out | apply below_alloc | apply pw_below_drewN | apply below_drew1) | exact HB.out)))); have n2_ := Aside0.mk (below_step (by repeat (first | (with_reducible first | exact HB.out | apply below_alloc | apply pw_below_drewN | apply below_drew1) | exact HB.out)) hb); clear HO212; clear HB; have HO212 := n0_; have HO216 := n1_; have HB := n2_; clear n0_ n1_ n2_; (try clear hb); (try clear hb2); (try clear hk); (try clear hi); (try clear ho0)) | (go_at_call 10; (with_reducible refine (text_Lines.calls ((a0 ++ (⟨#[10]⟩ : ByteArray)) ++ a1) t217 t218 _ A20.out).mono ?_); rintro e w24 ⟨v219, rfl, ho0, hb⟩; have n0_ := Aside0.mk (Kd.R_elder' (by (with_reducible repeat (first | apply Kd.R_alloc | apply Kd.R_drewN | apply Kd.R_drew)); exact HO212.out) (Kd.R_base ho0) hb); have n1_ := Aside0.mk (Kd.R_elder' (by (with_reducible repeat (first | apply Kd.R_alloc | apply Kd.R_drewN | apply Kd.R_drew)); exact HO216.out) (Kd.R_base ho0) hb); have n2_ := Aside0.mk (Kd.R_lower (Kd.R_new' (Kd.R_new' ho0 (Kd.R_lt (by (with_reducible repeat (first | apply Kd.R_alloc | apply Kd.R_drewN | apply Kd.R_drew)); exact HO212.out))) (Kd.R_lt (by (with_reducible repeat (first | apply Kd.R_alloc | apply Kd.R_drewN | apply Kd.R_drew)); exact HO216.out))) (below_size (by repeat (first | (with_reducible first | exact HB.out | apply below_alloc | apply pw_below_drewN | apply below_drew1) | exact HB.out)))); have n3_ := Aside0.mk (below_step (by repeat (first | (with_reducible first | exact HB.out | apply below_alloc | apply pw_below_drewN | apply below_drew1) | exact HB.out)) hb); clear HO212; clear HO216; clear HB; have HO212 := n0_; have HO216 := n1_; have HO220 := n2_; have HB := n3_; clear n0_ n1_ n2_ n3_; (try clear hb); (try clear hb2); (try clear hk); (try clear hi); (try clear ho0))))
            (try simp only [Act.put, List.setIfInBounds_toArray, List.set_cons_zero, List.set_cons_succ])
            go_cut [96] (fun v96 wc => ∃ (kq : Nat) (x96_20 : Bool), v96 = .bool x96_20 ∧ Aside0 (burinlaw01_TextParts.j1 kq (a0 ++ (⟨#[10]⟩ : ByteArray)) t208 t209 t213 t217 x96_20 = some r) ∧ Aside0 (kq ≤ kj3) ∧ Aside0 (Kd.R k32 32 wc w.heap.size (fun k_ => some k_ ≠ (v215 : Value).ownBlock ∧ some k_ ≠ (v219 : Value).ownBlock) v211 t209) ∧ Aside0 (Kd.R k32 32 wc w.heap.size (fun k_ => some k_ ≠ (v211 : Value).ownBlock ∧ some k_ ≠ (v219 : Value).ownBlock) v215 t213) ∧ Aside0 (Kd.R k32 32 wc w.heap.size (fun k_ => some k_ ≠ (v211 : Value).ownBlock ∧ some k_ ≠ (v215 : Value).ownBlock) v219 t217) ∧ Aside0 (Below w.heap.size w wc))
            case first =>
              have H := HC21.out
              clear HC21
              by_cases c25 : t210 = 0
              · rw [if_pos c25] at H
                have c25b0 : (t210 == 0) = true := beq_iff_eq.mpr c25
                have c25b1 : (t210 != 0) = false := bne_eq_false_iff_eq.mpr c25
                clear c25
                (first | rw [c25b0] | (simp only [i64_w, i32_w]; rw [c25b0]) | skip)
                by_cases c26 : t214 = 0
                · rw [if_pos c26] at H
                  have c26b0 : (t214 == 0) = true := beq_iff_eq.mpr c26
                  have c26b1 : (t214 != 0) = false := bne_eq_false_iff_eq.mpr c26
                  clear c26
                  by_cases c27 : t218 = 0
                  · rw [if_pos c27] at H
                    have c27b0 : (t218 == 0) = true := beq_iff_eq.mpr c27
                    have c27b1 : (t218 != 0) = false := bne_eq_false_iff_eq.mpr c27
                    clear c27
                    by_cases c28 : (t217.length : Int) = (wrap64 ((t209.length : Int) + (t213.length : Int)))
                    · rw [if_pos c28] at H
                      have c28b0 : ((t217.length : Int) == (wrap64 ((t209.length : Int) + (t213.length : Int)))) = true := beq_iff_eq.mpr c28
                      have c28b1 : ((t217.length : Int) != (wrap64 ((t209.length : Int) + (t213.length : Int)))) = false := bne_eq_false_iff_eq.mpr c28
                      clear c28
                      replace H := Option.bind_eq_some_iff.mp H
                      obtain ⟨t221, A290, H⟩ := H
                      replace H : ((text_Physical.f (a0 ++ (⟨#[10]⟩ : ByteArray))).bind fun t222 => ((text_Physical.f a1).bind fun t223 => (burinlaw01_TextParts.j1 kj3 (a0 ++ (⟨#[10]⟩ : ByteArray)) t208 t209 t213 t217 (t221 != (wrap64 (t222 + t223)))))) = some r := H
                      have A29 := Aside0.mk A290
                      clear A290
                      replace H := Option.bind_eq_some_iff.mp H
                      obtain ⟨t222, A300, H⟩ := H
                      replace H : ((text_Physical.f a1).bind fun t223 => (burinlaw01_TextParts.j1 kj3 (a0 ++ (⟨#[10]⟩ : ByteArray)) t208 t209 t213 t217 (t221 != (wrap64 (t222 + t223))))) = some r := H
                      have A30 := Aside0.mk A300
                      clear A300
                      replace H := Option.bind_eq_some_iff.mp H
                      obtain ⟨t223, A310, H⟩ := H
                      replace H : (burinlaw01_TextParts.j1 kj3 (a0 ++ (⟨#[10]⟩ : ByteArray)) t208 t209 t213 t217 (t221 != (wrap64 (t222 + t223)))) = some r := H
                      have A31 := Aside0.mk A310
                      clear A310
                      have H' := Aside0.mk H
                      clear H
                      obtain ⟨Ao32, co32, eo32⟩ := Kd.R_slice HO220.out
                      subst eo32
                      obtain ⟨Ao33, co33, eo33⟩ := Kd.R_slice HO212.out
                      subst eo33
                      obtain ⟨Ao34, co34, eo34⟩ := Kd.R_slice HO216.out
                      subst eo34
                      go_wp2_with (first | (go_at_call 13; (with_reducible refine (text_Physical.calls ((a0 ++ (⟨#[10]⟩ : ByteArray)) ++ a1) t221 _ A29.out).mono ?_); rintro e w35 ⟨rfl, hb⟩; have n0_ := Aside0.mk (Kd.R_below (by (with_reducible repeat (first | apply Kd.R_alloc | apply Kd.R_drewN | apply Kd.R_drew)); exact HO212.out) hb); have n1_ := Aside0.mk (Kd.R_below (by (with_reducible repeat (first | apply Kd.R_alloc | apply Kd.R_drewN | apply Kd.R_drew)); exact HO216.out) hb); have n2_ := Aside0.mk (Kd.R_below (by (with_reducible repeat (first | apply Kd.R_alloc | apply Kd.R_drewN | apply Kd.R_drew)); exact HO220.out) hb); have n3_ := Aside0.mk (below_step (by repeat (first | (with_reducible first | exact HB.out | apply below_alloc | apply pw_below_drewN | apply below_drew1) | exact HB.out)) hb); clear HO212; clear HO216; clear HO220; clear HB; have HO212 := n0_; have HO216 := n1_; have HO220 := n2_; have HB := n3_; clear n0_ n1_ n2_ n3_; (try clear hb); (try clear hb2); (try clear hk); (try clear hi)) | (go_at_call 13; (with_reducible refine (text_Physical.calls (a0 ++ (⟨#[10]⟩ : ByteArray)) t222 _ A30.out).mono ?_); rintro e w36 ⟨rfl, hb⟩; have n0_ := Aside0.mk (Kd.R_below (by (with_reducible repeat (first | apply Kd.R_alloc | apply Kd.R_drewN | apply Kd.R_drew)); exact HO212.out) hb); have n1_ := Aside0.mk (Kd.R_below (by (with_reducible repeat (first | apply Kd.R_alloc | apply Kd.R_drewN | apply Kd.R_drew)); exact HO216.out) hb); have n2_ := Aside0.mk (Kd.R_below (by (with_reducible repeat (first | apply Kd.R_alloc | apply Kd.R_drewN | apply Kd.R_drew)); exact HO220.out) hb); have n3_ := Aside0.mk (below_step (by repeat (first | (with_reducible first | exact HB.out | apply below_alloc | apply pw_below_drewN | apply below_drew1) | exact HB.out)) hb); clear HO212; clear HO216; clear HO220; clear HB; have HO212 := n0_; have HO216 := n1_; have HO220 := n2_; have HB := n3_; clear n0_ n1_ n2_ n3_; (try clear hb); (try clear hb2); (try clear hk); (try clear hi)) | (go_at_call 13; (with_reducible refine (text_Physical.calls a1 t223 _ A31.out).mono ?_); rintro e w37 ⟨rfl, hb⟩; have n0_ := Aside0.mk (Kd.R_below (by (with_reducible repeat (first | apply Kd.R_alloc | apply Kd.R_drewN | apply Kd.R_drew)); exact HO212.out) hb); have n1_ := Aside0.mk (Kd.R_below (by (with_reducible repeat (first | apply Kd.R_alloc | apply Kd.R_drewN | apply Kd.R_drew)); exact HO216.out) hb); have n2_ := Aside0.mk (Kd.R_below (by (with_reducible repeat (first | apply Kd.R_alloc | apply Kd.R_drewN | apply Kd.R_drew)); exact HO220.out) hb); have n3_ := Aside0.mk (below_step (by repeat (first | (with_reducible first | exact HB.out | apply below_alloc | apply pw_below_drewN | apply below_drew1) | exact HB.out)) hb); clear HO212; clear HO216; clear HO220; clear HB; have HO212 := n0_; have HO216 := n1_; have HO220 := n2_; have HB := n3_; clear n0_ n1_ n2_ n3_; (try clear hb); (try clear hb2); (try clear hk); (try clear hi)))
                      repeat (go_quiet (first | (go_at_call 13; (with_reducible refine (text_Physical.calls ((a0 ++ (⟨#[10]⟩ : ByteArray)) ++ a1) t221 _ A29.out).mono ?_); rintro e w35 ⟨rfl, hb⟩; have n0_ := Aside0.mk (Kd.R_below (by (with_reducible repeat (first | apply Kd.R_alloc | apply Kd.R_drewN | apply Kd.R_drew)); exact HO212.out) hb); have n1_ := Aside0.mk (Kd.R_below (by (with_reducible repeat (first | apply Kd.R_alloc | apply Kd.R_drewN | apply Kd.R_drew)); exact HO216.out) hb); have n2_ := Aside0.mk (Kd.R_below (by (with_reducible repeat (first | apply Kd.R_alloc | apply Kd.R_drewN | apply Kd.R_drew)); exact HO220.out) hb); have n3_ := Aside0.mk (below_step (by repeat (first | (with_reducible first | exact HB.out | apply below_alloc | apply pw_below_drewN | apply below_drew1) | exact HB.out)) hb); clear HO212; clear HO216; clear HO220; clear HB; have HO212 := n0_; have HO216 := n1_; have HO220 := n2_; have HB := n3_; clear n0_ n1_ n2_ n3_; (try clear hb); (try clear hb2); (try clear hk); (try clear hi)) | (go_at_call 13; (with_reducible refine (text_Physical.calls (a0 ++ (⟨#[10]⟩ : ByteArray)) t222 _ A30.out).mono ?_); rintro e w36 ⟨rfl, hb⟩; have n0_ := Aside0.mk (Kd.R_below (by (with_reducible repeat (first | apply Kd.R_alloc | apply Kd.R_drewN | apply Kd.R_drew)); exact HO212.out) hb); have n1_ := Aside0.mk (Kd.R_below (by (with_reducible repeat (first | apply Kd.R_alloc | apply Kd.R_drewN | apply Kd.R_drew)); exact HO216.out) hb); have n2_ := Aside0.mk (Kd.R_below (by (with_reducible repeat (first | apply Kd.R_alloc | apply Kd.R_drewN | apply Kd.R_drew)); exact HO220.out) hb); have n3_ := Aside0.mk (below_step (by repeat (first | (with_reducible first | exact HB.out | apply below_alloc | apply pw_below_drewN | apply below_drew1) | exact HB.out)) hb); clear HO212; clear HO216; clear HO220; clear HB; have HO212 := n0_; have HO216 := n1_; have HO220 := n2_; have HB := n3_; clear n0_ n1_ n2_ n3_; (try clear hb); (try clear hb2); (try clear hk); (try clear hi)) | (go_at_call 13; (with_reducible refine (text_Physical.calls a1 t223 _ A31.out).mono ?_); rintro e w37 ⟨rfl, hb⟩; have n0_ := Aside0.mk (Kd.R_below (by (with_reducible repeat (first | apply Kd.R_alloc | apply Kd.R_drewN | apply Kd.R_drew)); exact HO212.out) hb); have n1_ := Aside0.mk (Kd.R_below (by (with_reducible repeat (first | apply Kd.R_alloc | apply Kd.R_drewN | apply Kd.R_drew)); exact HO216.out) hb); have n2_ := Aside0.mk (Kd.R_below (by (with_reducible repeat (first | apply Kd.R_alloc | apply Kd.R_drewN | apply Kd.R_drew)); exact HO220.out) hb); have n3_ := Aside0.mk (below_step (by repeat (first | (with_reducible first | exact HB.out | apply below_alloc | apply pw_below_drewN | apply below_drew1) | exact HB.out)) hb); clear HO212; clear HO216; clear HO220; clear HB; have HO212 := n0_; have HO216 := n1_; have HO220 := n2_; have HB := n3_; clear n0_ n1_ n2_ n3_; (try clear hb); (try clear hb2); (try clear hk); (try clear hi))); try go_wp2_with (first | (go_at_call 13; (with_reducible refine (text_Physical.calls ((a0 ++ (⟨#[10]⟩ : ByteArray)) ++ a1) t221 _ A29.out).mono ?_); rintro e w35 ⟨rfl, hb⟩; have n0_ := Aside0.mk (Kd.R_below (by (with_reducible repeat (first | apply Kd.R_alloc | apply Kd.R_drewN | apply Kd.R_drew)); exact HO212.out) hb); have n1_ := Aside0.mk (Kd.R_below (by (with_reducible repeat (first | apply Kd.R_alloc | apply Kd.R_drewN | apply Kd.R_drew)); exact HO216.out) hb); have n2_ := Aside0.mk (Kd.R_below (by (with_reducible repeat (first | apply Kd.R_alloc | apply Kd.R_drewN | apply Kd.R_drew)); exact HO220.out) hb); have n3_ := Aside0.mk (below_step (by repeat (first | (with_reducible first | exact HB.out | apply below_alloc | apply pw_below_drewN | apply below_drew1) | exact HB.out)) hb); clear HO212; clear HO216; clear HO220; clear HB; have HO212 := n0_; have HO216 := n1_; have HO220 := n2_; have HB := n3_; clear n0_ n1_ n2_ n3_; (try clear hb); (try clear hb2); (try clear hk); (try clear hi)) | (go_at_call 13; (with_reducible refine (text_Physical.calls (a0 ++ (⟨#[10]⟩ : ByteArray)) t222 _ A30.out).mono ?_); rintro e w36 ⟨rfl, hb⟩; have n0_ := Aside0.mk (Kd.R_below (by (with_reducible repeat (first | apply Kd.R_alloc | apply Kd.R_drewN | apply Kd.R_drew)); exact HO212.out) hb); have n1_ := Aside0.mk (Kd.R_below (by (with_reducible repeat (first | apply Kd.R_alloc | apply Kd.R_drewN | apply Kd.R_drew)); exact HO216.out) hb); have n2_ := Aside0.mk (Kd.R_below (by (with_reducible repeat (first | apply Kd.R_alloc | apply Kd.R_drewN | apply Kd.R_drew)); exact HO220.out) hb); have n3_ := Aside0.mk (below_step (by repeat (first | (with_reducible first | exact HB.out | apply below_alloc | apply pw_below_drewN | apply below_drew1) | exact HB.out)) hb); clear HO212; clear HO216; clear HO220; clear HB; have HO212 := n0_; have HO216 := n1_; have HO220 := n2_; have HB := n3_; clear n0_ n1_ n2_ n3_; (try clear hb); (try clear hb2); (try clear hk); (try clear hi)) | (go_at_call 13; (with_reducible refine (text_Physical.calls a1 t223 _ A31.out).mono ?_); rintro e w37 ⟨rfl, hb⟩; have n0_ := Aside0.mk (Kd.R_below (by (with_reducible repeat (first | apply Kd.R_alloc | apply Kd.R_drewN | apply Kd.R_drew)); exact HO212.out) hb); have n1_ := Aside0.mk (Kd.R_below (by (with_reducible repeat (first | apply Kd.R_alloc | apply Kd.R_drewN | apply Kd.R_drew)); exact HO216.out) hb); have n2_ := Aside0.mk (Kd.R_below (by (with_reducible repeat (first | apply Kd.R_alloc | apply Kd.R_drewN | apply Kd.R_drew)); exact HO220.out) hb); have n3_ := Aside0.mk (below_step (by repeat (first | (with_reducible first | exact HB.out | apply below_alloc | apply pw_below_drewN | apply below_drew1) | exact HB.out)) hb); clear HO212; clear HO216; clear HO220; clear HB; have HO212 := n0_; have HO216 := n1_; have HO220 := n2_; have HB := n3_; clear n0_ n1_ n2_ n3_; (try clear hb); (try clear hb2); (try clear hk); (try clear hi))))
                      go_meet
                      case rel => exact ⟨_, ((t221 != (wrap64 (t222 + t223)))), (by first | rfl | (simp; done) | (simp [*]; done)), H', ⟨by have := HJ3.out; first | omega | exact Nat.le_refl _⟩, ⟨by (with_reducible repeat (first | apply Kd.R_alloc | apply Kd.R_drewN | apply Kd.R_drew)); exact Kd.R_mono HO212.out (fun _ hk => ⟨hk.1.2, hk.2⟩)⟩, ⟨by (with_reducible repeat (first | apply Kd.R_alloc | apply Kd.R_drewN | apply Kd.R_drew)); exact Kd.R_mono HO216.out (fun _ hk => ⟨hk.1.2, hk.2⟩)⟩, ⟨by (with_reducible repeat (first | apply Kd.R_alloc | apply Kd.R_drewN | apply Kd.R_drew)); exact Kd.R_mono HO220.out (fun _ hk => ⟨hk.1.2, hk.2⟩)⟩, ⟨by repeat (first | (with_reducible first | exact HB.out | apply below_alloc | apply pw_below_drewN | apply below_drew1) | exact HB.out)⟩⟩
                    · rw [if_neg c28] at H
                      have c28b0 : ((t217.length : Int) == (wrap64 ((t209.length : Int) + (t213.length : Int)))) = false := beq_eq_false_iff_ne.mpr c28
                      have c28b1 : ((t217.length : Int) != (wrap64 ((t209.length : Int) + (t213.length : Int)))) = true := bne_iff_ne.mpr c28
                      have H' := Aside0.mk H
                      clear H
                      obtain ⟨Ao38, co38, eo38⟩ := Kd.R_slice HO220.out
                      subst eo38
                      obtain ⟨Ao39, co39, eo39⟩ := Kd.R_slice HO212.out
                      subst eo39
                      obtain ⟨Ao40, co40, eo40⟩ := Kd.R_slice HO216.out
                      subst eo40
                      go_wp2
                      repeat (go_quiet (fail); try go_wp2)
                      go_meet
                      case rel => exact ⟨_, (true), (by first | rfl | (simp; done) | (simp [*]; done)), H', ⟨by have := HJ3.out; first | omega | exact Nat.le_refl _⟩, ⟨by (with_reducible repeat (first | apply Kd.R_alloc | apply Kd.R_drewN | apply Kd.R_drew)); exact Kd.R_mono HO212.out (fun _ hk => ⟨hk.1.2, hk.2⟩)⟩, ⟨by (with_reducible repeat (first | apply Kd.R_alloc | apply Kd.R_drewN | apply Kd.R_drew)); exact Kd.R_mono HO216.out (fun _ hk => ⟨hk.1.2, hk.2⟩)⟩, ⟨by (with_reducible repeat (first | apply Kd.R_alloc | apply Kd.R_drewN | apply Kd.R_drew)); exact Kd.R_mono HO220.out (fun _ hk => ⟨hk.1.2, hk.2⟩)⟩, ⟨by repeat (first | (with_reducible first | exact HB.out | apply below_alloc | apply pw_below_drewN | apply below_drew1) | exact HB.out)⟩⟩
                  · rw [if_neg c27] at H
                    have c27b0 : (t218 == 0) = false := beq_eq_false_iff_ne.mpr c27
                    have c27b1 : (t218 != 0) = true := bne_iff_ne.mpr c27
                    have H' := Aside0.mk H
                    clear H
                    go_wp2
                    repeat (go_quiet (fail); try go_wp2)
                    go_meet
                    case rel => exact ⟨_, (true), (by first | rfl | (simp; done) | (simp [*]; done)), H', ⟨by have := HJ3.out; first | omega | exact Nat.le_refl _⟩, ⟨by (with_reducible repeat (first | apply Kd.R_alloc | apply Kd.R_drewN | apply Kd.R_drew)); exact Kd.R_mono HO212.out (fun _ hk => ⟨hk.1.2, hk.2⟩)⟩, ⟨by (with_reducible repeat (first | apply Kd.R_alloc | apply Kd.R_drewN | apply Kd.R_drew)); exact Kd.R_mono HO216.out (fun _ hk => ⟨hk.1.2, hk.2⟩)⟩, ⟨by (with_reducible repeat (first | apply Kd.R_alloc | apply Kd.R_drewN | apply Kd.R_drew)); exact Kd.R_mono HO220.out (fun _ hk => ⟨hk.1.2, hk.2⟩)⟩, ⟨by repeat (first | (with_reducible first | exact HB.out | apply below_alloc | apply pw_below_drewN | apply below_drew1) | exact HB.out)⟩⟩
                · rw [if_neg c26] at H
                  have c26b0 : (t214 == 0) = false := beq_eq_false_iff_ne.mpr c26
                  have c26b1 : (t214 != 0) = true := bne_iff_ne.mpr c26
                  have H' := Aside0.mk H
                  clear H
                  go_wp2
                  repeat (go_quiet (fail); try go_wp2)
                  go_meet
                  case rel => exact ⟨_, (true), (by first | rfl | (simp; done) | (simp [*]; done)), H', ⟨by have := HJ3.out; first | omega | exact Nat.le_refl _⟩, ⟨by (with_reducible repeat (first | apply Kd.R_alloc | apply Kd.R_drewN | apply Kd.R_drew)); exact Kd.R_mono HO212.out (fun _ hk => ⟨hk.1.2, hk.2⟩)⟩, ⟨by (with_reducible repeat (first | apply Kd.R_alloc | apply Kd.R_drewN | apply Kd.R_drew)); exact Kd.R_mono HO216.out (fun _ hk => ⟨hk.1.2, hk.2⟩)⟩, ⟨by (with_reducible repeat (first | apply Kd.R_alloc | apply Kd.R_drewN | apply Kd.R_drew)); exact Kd.R_mono HO220.out (fun _ hk => ⟨hk.1.2, hk.2⟩)⟩, ⟨by repeat (first | (with_reducible first | exact HB.out | apply below_alloc | apply pw_below_drewN | apply below_drew1) | exact HB.out)⟩⟩
              · rw [if_neg c25] at H
                have c25b0 : (t210 == 0) = false := beq_eq_false_iff_ne.mpr c25
                have c25b1 : (t210 != 0) = true := bne_iff_ne.mpr c25
                (first | rw [c25b0] | (simp only [i64_w, i32_w]; rw [c25b0]) | skip)
                have H' := Aside0.mk H
                clear H
                go_wp2
                repeat (go_quiet (fail); try go_wp2)
                go_meet
                case rel => exact ⟨_, (true), (by first | rfl | (simp; done) | (simp [*]; done)), H', ⟨by have := HJ3.out; first | omega | exact Nat.le_refl _⟩, ⟨by (with_reducible repeat (first | apply Kd.R_alloc | apply Kd.R_drewN | apply Kd.R_drew)); exact Kd.R_mono HO212.out (fun _ hk => ⟨hk.1.2, hk.2⟩)⟩, ⟨by (with_reducible repeat (first | apply Kd.R_alloc | apply Kd.R_drewN | apply Kd.R_drew)); exact Kd.R_mono HO216.out (fun _ hk => ⟨hk.1.2, hk.2⟩)⟩, ⟨by (with_reducible repeat (first | apply Kd.R_alloc | apply Kd.R_drewN | apply Kd.R_drew)); exact Kd.R_mono HO220.out (fun _ hk => ⟨hk.1.2, hk.2⟩)⟩, ⟨by repeat (first | (with_reducible first | exact HB.out | apply below_alloc | apply pw_below_drewN | apply below_drew1) | exact HB.out)⟩⟩
            case rest =>
              clear HC21
              try clear c1
              try clear p1
              try clear q1
              try clear hx1
              try clear c2
              try clear p2
              try clear c6
              try clear c6b0
              try clear c6b1
              try clear p6
              try clear c7
              try clear c7b0
              try clear c7b1
              try clear c8
              try clear c8b0
              try clear c8b1
              try clear c10
              try clear c10b0
              try clear c11
              try clear c11b0
              try clear p12
              try clear q12
              try clear hx12
              try clear c13
              try clear c13b0
              try clear c13b1
              try clear p14
              try clear q14
              try clear hx14
              try clear c15
              try clear c16
              try clear c16b0
              try clear c16b1
              try clear c16b2
              try clear c19
              try clear c19b0
              try clear c19b1
              try clear c19b2
              try clear c25
              try clear c25b0
              try clear c25b1
              try clear c26
              try clear c26b0
              try clear c26b1
              try clear c27
              try clear c27b0
              try clear c27b1
              try clear c28
              try clear c28b0
              try clear c28b1
              try clear p1
              try clear p12
              try clear p14
              try clear p2
              try clear p6
              try clear q1
              try clear q12
              try clear q14
              obtain ⟨kq, x96_20, rfl, HA, HJ20, HO_6, HO_8, HO_10, HB⟩ := hcut
              cases kq with
              | zero => exact absurd HA.out (by simp [burinlaw01_TextParts.j1])
              | succ kj20 =>
                have H := HA.out
                clear HA
                simp only [burinlaw01_TextParts.j1] at H
                by_cases c41 : x96_20 = true
                · subst c41
                  have H1 : (some false) = some r := by rw [if_pos rfl] at H; exact H
                  clear H
                  have H := H1
                  clear H1
                  obtain rfl := Option.some.inj H
                  go_wp2
                  repeat (go_quiet (fail); try go_wp2)
                  go_ret
                  exact ⟨by first | rfl | (simp [errW_none, errW_some] <;> rfl) | (simp [*, errW_none, errW_some] <;> rfl), by repeat (first | (with_reducible first | exact HB.out | apply below_alloc | apply pw_below_drewN | apply below_drew1) | exact HB.out)⟩
                · replace c41 := Bool.eq_false_iff.mpr c41
                  subst c41
                  have H1 : ((text_Physical.f (a0 ++ (⟨#[10]⟩ : ByteArray))).bind fun t224 => (burinlaw01_TextParts.l0 kj20 t208 t209 t213 t217 t224 0)) = some r := by rw [if_neg (show ¬ (false = true) by decide)] at H; exact H
                  clear H
                  have H := H1
                  clear H1
                  replace H := Option.bind_eq_some_iff.mp H
                  obtain ⟨t224, A420, H⟩ := H
                  replace H : (burinlaw01_TextParts.l0 kj20 t208 t209 t213 t217 t224 0) = some r := H
                  have A42 := Aside0.mk A420
                  clear A420
                  have H' := Aside0.mk H
                  clear H
                  go_wp2_with (first | (go_at_call 13; (with_reducible refine (text_Physical.calls (a0 ++ (⟨#[10]⟩ : ByteArray)) t224 _ A42.out).mono ?_); rintro e w43 ⟨rfl, hb⟩; have n0_ := Aside0.mk (Kd.R_below (by (with_reducible repeat (first | apply Kd.R_alloc | apply Kd.R_drewN | apply Kd.R_drew)); exact HO_6.out) hb); have n1_ := Aside0.mk (Kd.R_below (by (with_reducible repeat (first | apply Kd.R_alloc | apply Kd.R_drewN | apply Kd.R_drew)); exact HO_8.out) hb); have n2_ := Aside0.mk (Kd.R_below (by (with_reducible repeat (first | apply Kd.R_alloc | apply Kd.R_drewN | apply Kd.R_drew)); exact HO_10.out) hb); have n3_ := Aside0.mk (below_step (by repeat (first | (with_reducible first | exact HB.out | apply below_alloc | apply pw_below_drewN | apply below_drew1) | exact HB.out)) hb); clear HO_6; clear HO_8; clear HO_10; clear HB; have HO_6 := n0_; have HO_8 := n1_; have HO_10 := n2_; have HB := n3_; clear n0_ n1_ n2_ n3_; (try clear hb); (try clear hb2); (try clear hk); (try clear hi)))
                  repeat (go_quiet (first | (go_at_call 13; (with_reducible refine (text_Physical.calls (a0 ++ (⟨#[10]⟩ : ByteArray)) t224 _ A42.out).mono ?_); rintro e w43 ⟨rfl, hb⟩; have n0_ := Aside0.mk (Kd.R_below (by (with_reducible repeat (first | apply Kd.R_alloc | apply Kd.R_drewN | apply Kd.R_drew)); exact HO_6.out) hb); have n1_ := Aside0.mk (Kd.R_below (by (with_reducible repeat (first | apply Kd.R_alloc | apply Kd.R_drewN | apply Kd.R_drew)); exact HO_8.out) hb); have n2_ := Aside0.mk (Kd.R_below (by (with_reducible repeat (first | apply Kd.R_alloc | apply Kd.R_drewN | apply Kd.R_drew)); exact HO_10.out) hb); have n3_ := Aside0.mk (below_step (by repeat (first | (with_reducible first | exact HB.out | apply below_alloc | apply pw_below_drewN | apply below_drew1) | exact HB.out)) hb); clear HO_6; clear HO_8; clear HO_10; clear HB; have HO_6 := n0_; have HO_8 := n1_; have HO_10 := n2_; have HB := n3_; clear n0_ n1_ n2_ n3_; (try clear hb); (try clear hb2); (try clear hk); (try clear hi))); try go_wp2_with (first | (go_at_call 13; (with_reducible refine (text_Physical.calls (a0 ++ (⟨#[10]⟩ : ByteArray)) t224 _ A42.out).mono ?_); rintro e w43 ⟨rfl, hb⟩; have n0_ := Aside0.mk (Kd.R_below (by (with_reducible repeat (first | apply Kd.R_alloc | apply Kd.R_drewN | apply Kd.R_drew)); exact HO_6.out) hb); have n1_ := Aside0.mk (Kd.R_below (by (with_reducible repeat (first | apply Kd.R_alloc | apply Kd.R_drewN | apply Kd.R_drew)); exact HO_8.out) hb); have n2_ := Aside0.mk (Kd.R_below (by (with_reducible repeat (first | apply Kd.R_alloc | apply Kd.R_drewN | apply Kd.R_drew)); exact HO_10.out) hb); have n3_ := Aside0.mk (below_step (by repeat (first | (with_reducible first | exact HB.out | apply below_alloc | apply pw_below_drewN | apply below_drew1) | exact HB.out)) hb); clear HO_6; clear HO_8; clear HO_10; clear HB; have HO_6 := n0_; have HO_8 := n1_; have HO_10 := n2_; have HB := n3_; clear n0_ n1_ n2_ n3_; (try clear hb); (try clear hb2); (try clear hk); (try clear hi))))
                  go_loopg [13] kj20 (fun kq v13 w' => ∃ (x13_3 : Int), v13 = .int .i64 x13_3 ∧ Aside0 (burinlaw01_TextParts.l0 kq t208 t209 t213 t217 t224 x13_3 = some r) ∧ Aside0 (kq ≤ kj20) ∧ Aside0 (Kd.R k32 32 w' w.heap.size (fun k_ => some k_ ≠ (v215 : Value).ownBlock ∧ some k_ ≠ (v219 : Value).ownBlock) v211 t209) ∧ Aside0 (Kd.R k32 32 w' w.heap.size (fun k_ => some k_ ≠ (v211 : Value).ownBlock ∧ some k_ ≠ (v219 : Value).ownBlock) v215 t213) ∧ Aside0 (Kd.R k32 32 w' w.heap.size (fun k_ => some k_ ≠ (v211 : Value).ownBlock ∧ some k_ ≠ (v215 : Value).ownBlock) v219 t217) ∧ Aside0 (Below w.heap.size w w'))
                  case atStart => exact ⟨(0), (by first | rfl | (simp; done) | (simp [*]; done)), H', ⟨Nat.le_refl _⟩, ⟨by (with_reducible repeat (first | apply Kd.R_alloc | apply Kd.R_drewN | apply Kd.R_drew)); exact HO_6.out⟩, ⟨by (with_reducible repeat (first | apply Kd.R_alloc | apply Kd.R_drewN | apply Kd.R_drew)); exact HO_8.out⟩, ⟨by (with_reducible repeat (first | apply Kd.R_alloc | apply Kd.R_drewN | apply Kd.R_drew)); exact HO_10.out⟩, ⟨by repeat (first | (with_reducible first | exact HB.out | apply below_alloc | apply pw_below_drewN | apply below_drew1) | exact HB.out)⟩⟩
                  case round =>
                    clear H'
                    try clear c1
                    try clear p1
                    try clear q1
                    try clear hx1
                    try clear c2
                    try clear p2
                    try clear c4
                    try clear c6
                    try clear c6b0
                    try clear c6b1
                    try clear p6
                    try clear c7
                    try clear c7b0
                    try clear c7b1
                    try clear c8
                    try clear c8b0
                    try clear c8b1
                    try clear c10
                    try clear c10b0
                    try clear c11
                    try clear c11b0
                    try clear p12
                    try clear q12
                    try clear hx12
                    try clear c13
                    try clear c13b0
                    try clear c13b1
                    try clear p14
                    try clear q14
                    try clear hx14
                    try clear c15
                    try clear c16
                    try clear c16b0
                    try clear c16b1
                    try clear c16b2
                    try clear c19
                    try clear c19b0
                    try clear c19b1
                    try clear c19b2
                    try clear c25
                    try clear c25b0
                    try clear c25b1
                    try clear c26
                    try clear c26b0
                    try clear c26b1
                    try clear c27
                    try clear c27b0
                    try clear c27b1
                    try clear c28
                    try clear c28b0
                    try clear c28b1
                    try clear c41
                    try clear p1
                    try clear p12
                    try clear p14
                    try clear p2
                    try clear p6
                    try clear q1
                    try clear q12
                    try clear q14
                    obtain ⟨x13_3, rfl, HA, HK3, HO_6, HO_8, HO_10, HB⟩ := hrel
                    cases gk with
                    | zero => exact absurd HA.out (by simp [burinlaw01_TextParts.l0])
                    | succ k3 =>
                      have H := HA.out
                      clear HA
                      simp only [burinlaw01_TextParts.l0] at H
                      by_cases c44 : x13_3 < (t213.length : Int)
                      · rw [if_pos c44] at H
                        have c44b0 : decide (x13_3 < (t213.length : Int)) = true := decide_eq_true c44
                        clear c44
                        by_cases c45 : 0 ≤ x13_3
                        · rw [if_pos c45] at H
                          have c45b0 : decide (0 ≤ x13_3) = true := decide_eq_true c45
                          clear c45
                          obtain ⟨ji46, hji46⟩ : ∃ j_ : Int, (wrap64 ((t209.length : Int) + x13_3)) = j_ := ⟨_, rfl⟩
                          replace H : (if 0 ≤ (ji46) then (if (ji46) < (t217.length : Int) then (if (!(((rd_T32 t217 (ji46)).f0) == (wrap64 (((rd_T32 t213 x13_3).f0) + t224))) || (!((((rd_T32 t217 (ji46)).f1).toList) == (((rd_T32 t213 x13_3).f1).toList)))) = true then (some false) else (burinlaw01_TextParts.l0 k3 t208 t209 t213 t217 t224 (wrap64 (x13_3 + 1)))) else (none)) else (none)) = some r := by first | (rw [hji46] at H; exact H) | (simp only [hji46] at H ⊢; exact H)
                          have hji46w : (IntKind.i64.wrap ((t209.length : Int) + x13_3)) = ji46 := (i64_w _).trans hji46
                          by_cases c47 : 0 ≤ (ji46)
                          · rw [if_pos c47] at H
                            have c47b0 : decide (0 ≤ (ji46)) = true := decide_eq_true c47
                            clear c47
                            by_cases c48 : (ji46) < (t217.length : Int)
                            · rw [if_pos c48] at H
                              have c48b0 : decide ((ji46) < (t217.length : Int)) = true := decide_eq_true c48
                              clear c48
                              by_cases c49 : (!(((rd_T32 t217 (ji46)).f0) == (wrap64 (((rd_T32 t213 x13_3).f0) + t224))) || (!((((rd_T32 t217 (ji46)).f1).toList) == (((rd_T32 t213 x13_3).f1).toList)))) = true
                              · rw [if_pos c49] at H
                                have c49b0 : (!(((rd_T32 t217 (ji46)).f0) == (wrap64 (((rd_T32 t213 x13_3).f0) + t224))) || (!((((rd_T32 t217 (ji46)).f1).toList) == (((rd_T32 t213 x13_3).f1).toList)))) = true := c49
                                clear c49
                                obtain rfl := Option.some.inj H
                                obtain ⟨Ao50, co50, eo50⟩ := Kd.R_slice HO_8.out
                                subst eo50
                                have p225 : 0 ≤ (x13_3 : Int) := of_decide_eq_true (by first | (with_reducible assumption) | assumption)
                                have q225 : x13_3 < (t213.length : Int) := of_decide_eq_true (by first | (with_reducible assumption) | assumption)
                                obtain ⟨ad225, e225, hx225_0, hx225_1⟩ := at_T32 (Kd.R_reads' HO_8.out).2.2 x13_3 p225 q225
                                cases e225
                                replace p225 := eq_true p225
                                replace q225 := eq_true q225
                                go_wp2_with (first | ((with_reducible refine gate_dst (N := 14) rfl ?_); (try (refine gate_guard (by rfl) ?_; dsimp only)); refine box_event ?hg (N := 14) ?hd (cs := #[.int .i64 0, .string (⟨#[]⟩ : ByteArray)]) (t := 32) ?hr ?_; (case hd => rfl); (case hg => rfl); (case hr => first | (go_simp; done) | (go_simp; rfl)); intro gb226 hg w51 hbox hb; have n0_ := Aside0.mk (Kd.R_below (Kd.R_elderB (by (with_reducible repeat (first | apply Kd.R_alloc | apply Kd.R_drewN | apply Kd.R_drew)); exact HO_6.out) gb226 (Nat.le_of_eq hg.symm)) hb); have n1_ := Aside0.mk (Kd.R_below (Kd.R_elderB (by (with_reducible repeat (first | apply Kd.R_alloc | apply Kd.R_drewN | apply Kd.R_drew)); exact HO_8.out) gb226 (Nat.le_of_eq hg.symm)) hb); have n2_ := Aside0.mk (Kd.R_below (Kd.R_elderB (by (with_reducible repeat (first | apply Kd.R_alloc | apply Kd.R_drewN | apply Kd.R_drew)); exact HO_10.out) gb226 (Nat.le_of_eq hg.symm)) hb); have n3_ := Aside0.mk (below_step (by repeat (first | (with_reducible first | exact HB.out | apply below_alloc | apply pw_below_drewN | apply below_drew1) | exact HB.out)) hb); have n4_ := Aside0.mk (hbox); have n5_ := Aside0.mk ((by rw [hg]; exact (below_size (by repeat (first | (with_reducible first | exact HB.out | apply below_alloc | apply pw_below_drewN | apply below_drew1) | exact HB.out))) : w.heap.size ≤ gb226)); have n6_ := Aside0.mk ((by rw [hg]; exact (below_size (by repeat (first | (with_reducible first | exact HB.out | apply below_alloc | apply pw_below_drewN | apply below_drew1) | exact HB.out))) : w.heap.size ≤ gb226)); clear HO_6; clear HO_8; clear HO_10; clear HB; have HO_6 := n0_; have HO_8 := n1_; have HO_10 := n2_; have HB := n3_; have BK226 := n4_; have GW226 := n5_; have GE226 := n6_; clear n0_ n1_ n2_ n3_ n4_ n5_ n6_; clear hb hbox hg; have hcz52_0 : w51.cell? ⟨gb226, 0, none⟩ = some (.int .i64 0) := (blk_cell BK226.out 0).trans rfl; have hcz52_1 : w51.cell? ⟨gb226, 1, none⟩ = some (.string (⟨#[]⟩ : ByteArray)) := (blk_cell BK226.out 1).trans rfl; have hfz52_0 := blk_frozen BK226.out 0; have hfz52_1 := blk_frozen BK226.out 1; obtain ⟨Ao53, co53, eo53⟩ := Kd.R_slice HO_6.out; subst eo53; obtain ⟨Ao54, co54, eo54⟩ := Kd.R_slice HO_10.out; subst eo54; have p227 : 0 ≤ ((ji46) : Int) := of_decide_eq_true (by first | (with_reducible assumption) | assumption); have q227 : (ji46) < (t217.length : Int) := of_decide_eq_true (by first | (with_reducible assumption) | assumption); obtain ⟨ad227, e227, hx227_0, hx227_1⟩ := at_T32 (Kd.R_reads' HO_10.out).2.2 (ji46) p227 q227; cases e227; have hn227_0 : ad227.block ≠ gb226 := Kd.own_blk (Kd.R_away HO_10.out (fun k_ hk_ => hk_.2)); have hn227_1 : ad227.block ≠ gb226 := Kd.own_blk (Kd.R_away HO_10.out (fun k_ hk_ => hk_.2)); have hn227_2 : ad227.block ≠ gb226 := Kd.own_blk (Kd.R_away HO_10.out (fun k_ hk_ => hk_.2)); replace hx227_0 := (cell_far (p := ⟨gb226, 0, none⟩) (by first | (rw [add_block]; exact hn227_0) | (show (Addr.add _ _).block ≠ _; rw [add_block]; exact hn227_0) | exact hn227_0) (.int .i64 ((rd_T32 t213 x13_3).f0))).trans hx227_0; replace hx227_1 := (cell_far (p := ⟨gb226, 0, none⟩) (by first | (rw [add_block]; exact hn227_0) | (show (Addr.add _ _).block ≠ _; rw [add_block]; exact hn227_0) | exact hn227_0) (.int .i64 ((rd_T32 t213 x13_3).f0))).trans hx227_1; replace hx227_0 := (cell_far (p := ⟨gb226, 1, none⟩) (by first | (rw [add_block]; exact hn227_1) | (show (Addr.add _ _).block ≠ _; rw [add_block]; exact hn227_1) | exact hn227_1) (.string ((rd_T32 t213 x13_3).f1))).trans hx227_0; replace hx227_1 := (cell_far (p := ⟨gb226, 1, none⟩) (by first | (rw [add_block]; exact hn227_1) | (show (Addr.add _ _).block ≠ _; rw [add_block]; exact hn227_1) | exact hn227_1) (.string ((rd_T32 t213 x13_3).f1))).trans hx227_1; replace hx227_0 := (cell_far (p := ⟨gb226, 0, none⟩) (by first | (rw [add_block]; exact hn227_2) | (show (Addr.add _ _).block ≠ _; rw [add_block]; exact hn227_2) | exact hn227_2) (.int .i64 (wrap64 (((rd_T32 t213 x13_3).f0) + t224)))).trans hx227_0; replace hx227_1 := (cell_far (p := ⟨gb226, 0, none⟩) (by first | (rw [add_block]; exact hn227_2) | (show (Addr.add _ _).block ≠ _; rw [add_block]; exact hn227_2) | exact hn227_2) (.int .i64 (wrap64 (((rd_T32 t213 x13_3).f0) + t224)))).trans hx227_1; (try have hy227_0 := fun (n_ : Nat) => (show (((((w51.drewN n_).setCell ⟨gb226, 0, none⟩ (.int .i64 ((rd_T32 t213 x13_3).f0))).setCell ⟨gb226, 1, none⟩ (.string ((rd_T32 t213 x13_3).f1))).setCell ⟨gb226, 0, none⟩ (.int .i64 (wrap64 (((rd_T32 t213 x13_3).f0) + t224))))).cell? _ = some _ from hx227_0)); (try have hy227_1 := fun (n_ : Nat) => (show (((((w51.drewN n_).setCell ⟨gb226, 0, none⟩ (.int .i64 ((rd_T32 t213 x13_3).f0))).setCell ⟨gb226, 1, none⟩ (.string ((rd_T32 t213 x13_3).f1))).setCell ⟨gb226, 0, none⟩ (.int .i64 (wrap64 (((rd_T32 t213 x13_3).f0) + t224))))).cell? _ = some _ from hx227_1)); clear hn227_0; clear hn227_1; clear hn227_2; replace p227 := eq_true p227; replace q227 := eq_true q227))
                                repeat (go_quiet (first | ((with_reducible refine gate_dst (N := 14) rfl ?_); (try (refine gate_guard (by rfl) ?_; dsimp only)); refine box_event ?hg (N := 14) ?hd (cs := #[.int .i64 0, .string (⟨#[]⟩ : ByteArray)]) (t := 32) ?hr ?_; (case hd => rfl); (case hg => rfl); (case hr => first | (go_simp; done) | (go_simp; rfl)); intro gb226 hg w51 hbox hb; have n0_ := Aside0.mk (Kd.R_below (Kd.R_elderB (by (with_reducible repeat (first | apply Kd.R_alloc | apply Kd.R_drewN | apply Kd.R_drew)); exact HO_6.out) gb226 (Nat.le_of_eq hg.symm)) hb); have n1_ := Aside0.mk (Kd.R_below (Kd.R_elderB (by (with_reducible repeat (first | apply Kd.R_alloc | apply Kd.R_drewN | apply Kd.R_drew)); exact HO_8.out) gb226 (Nat.le_of_eq hg.symm)) hb); have n2_ := Aside0.mk (Kd.R_below (Kd.R_elderB (by (with_reducible repeat (first | apply Kd.R_alloc | apply Kd.R_drewN | apply Kd.R_drew)); exact HO_10.out) gb226 (Nat.le_of_eq hg.symm)) hb); have n3_ := Aside0.mk (below_step (by repeat (first | (with_reducible first | exact HB.out | apply below_alloc | apply pw_below_drewN | apply below_drew1) | exact HB.out)) hb); have n4_ := Aside0.mk (hbox); have n5_ := Aside0.mk ((by rw [hg]; exact (below_size (by repeat (first | (with_reducible first | exact HB.out | apply below_alloc | apply pw_below_drewN | apply below_drew1) | exact HB.out))) : w.heap.size ≤ gb226)); have n6_ := Aside0.mk ((by rw [hg]; exact (below_size (by repeat (first | (with_reducible first | exact HB.out | apply below_alloc | apply pw_below_drewN | apply below_drew1) | exact HB.out))) : w.heap.size ≤ gb226)); clear HO_6; clear HO_8; clear HO_10; clear HB; have HO_6 := n0_; have HO_8 := n1_; have HO_10 := n2_; have HB := n3_; have BK226 := n4_; have GW226 := n5_; have GE226 := n6_; clear n0_ n1_ n2_ n3_ n4_ n5_ n6_; clear hb hbox hg; have hcz52_0 : w51.cell? ⟨gb226, 0, none⟩ = some (.int .i64 0) := (blk_cell BK226.out 0).trans rfl; have hcz52_1 : w51.cell? ⟨gb226, 1, none⟩ = some (.string (⟨#[]⟩ : ByteArray)) := (blk_cell BK226.out 1).trans rfl; have hfz52_0 := blk_frozen BK226.out 0; have hfz52_1 := blk_frozen BK226.out 1; obtain ⟨Ao53, co53, eo53⟩ := Kd.R_slice HO_6.out; subst eo53; obtain ⟨Ao54, co54, eo54⟩ := Kd.R_slice HO_10.out; subst eo54; have p227 : 0 ≤ ((ji46) : Int) := of_decide_eq_true (by first | (with_reducible assumption) | assumption); have q227 : (ji46) < (t217.length : Int) := of_decide_eq_true (by first | (with_reducible assumption) | assumption); obtain ⟨ad227, e227, hx227_0, hx227_1⟩ := at_T32 (Kd.R_reads' HO_10.out).2.2 (ji46) p227 q227; cases e227; have hn227_0 : ad227.block ≠ gb226 := Kd.own_blk (Kd.R_away HO_10.out (fun k_ hk_ => hk_.2)); have hn227_1 : ad227.block ≠ gb226 := Kd.own_blk (Kd.R_away HO_10.out (fun k_ hk_ => hk_.2)); have hn227_2 : ad227.block ≠ gb226 := Kd.own_blk (Kd.R_away HO_10.out (fun k_ hk_ => hk_.2)); replace hx227_0 := (cell_far (p := ⟨gb226, 0, none⟩) (by first | (rw [add_block]; exact hn227_0) | (show (Addr.add _ _).block ≠ _; rw [add_block]; exact hn227_0) | exact hn227_0) (.int .i64 ((rd_T32 t213 x13_3).f0))).trans hx227_0; replace hx227_1 := (cell_far (p := ⟨gb226, 0, none⟩) (by first | (rw [add_block]; exact hn227_0) | (show (Addr.add _ _).block ≠ _; rw [add_block]; exact hn227_0) | exact hn227_0) (.int .i64 ((rd_T32 t213 x13_3).f0))).trans hx227_1; replace hx227_0 := (cell_far (p := ⟨gb226, 1, none⟩) (by first | (rw [add_block]; exact hn227_1) | (show (Addr.add _ _).block ≠ _; rw [add_block]; exact hn227_1) | exact hn227_1) (.string ((rd_T32 t213 x13_3).f1))).trans hx227_0; replace hx227_1 := (cell_far (p := ⟨gb226, 1, none⟩) (by first | (rw [add_block]; exact hn227_1) | (show (Addr.add _ _).block ≠ _; rw [add_block]; exact hn227_1) | exact hn227_1) (.string ((rd_T32 t213 x13_3).f1))).trans hx227_1; replace hx227_0 := (cell_far (p := ⟨gb226, 0, none⟩) (by first | (rw [add_block]; exact hn227_2) | (show (Addr.add _ _).block ≠ _; rw [add_block]; exact hn227_2) | exact hn227_2) (.int .i64 (wrap64 (((rd_T32 t213 x13_3).f0) + t224)))).trans hx227_0; replace hx227_1 := (cell_far (p := ⟨gb226, 0, none⟩) (by first | (rw [add_block]; exact hn227_2) | (show (Addr.add _ _).block ≠ _; rw [add_block]; exact hn227_2) | exact hn227_2) (.int .i64 (wrap64 (((rd_T32 t213 x13_3).f0) + t224)))).trans hx227_1; (try have hy227_0 := fun (n_ : Nat) => (show (((((w51.drewN n_).setCell ⟨gb226, 0, none⟩ (.int .i64 ((rd_T32 t213 x13_3).f0))).setCell ⟨gb226, 1, none⟩ (.string ((rd_T32 t213 x13_3).f1))).setCell ⟨gb226, 0, none⟩ (.int .i64 (wrap64 (((rd_T32 t213 x13_3).f0) + t224))))).cell? _ = some _ from hx227_0)); (try have hy227_1 := fun (n_ : Nat) => (show (((((w51.drewN n_).setCell ⟨gb226, 0, none⟩ (.int .i64 ((rd_T32 t213 x13_3).f0))).setCell ⟨gb226, 1, none⟩ (.string ((rd_T32 t213 x13_3).f1))).setCell ⟨gb226, 0, none⟩ (.int .i64 (wrap64 (((rd_T32 t213 x13_3).f0) + t224))))).cell? _ = some _ from hx227_1)); clear hn227_0; clear hn227_1; clear hn227_2; replace p227 := eq_true p227; replace q227 := eq_true q227)); try go_wp2_with (first | ((with_reducible refine gate_dst (N := 14) rfl ?_); (try (refine gate_guard (by rfl) ?_; dsimp only)); refine box_event ?hg (N := 14) ?hd (cs := #[.int .i64 0, .string (⟨#[]⟩ : ByteArray)]) (t := 32) ?hr ?_; (case hd => rfl); (case hg => rfl); (case hr => first | (go_simp; done) | (go_simp; rfl)); intro gb226 hg w51 hbox hb; have n0_ := Aside0.mk (Kd.R_below (Kd.R_elderB (by (with_reducible repeat (first | apply Kd.R_alloc | apply Kd.R_drewN | apply Kd.R_drew)); exact HO_6.out) gb226 (Nat.le_of_eq hg.symm)) hb); have n1_ := Aside0.mk (Kd.R_below (Kd.R_elderB (by (with_reducible repeat (first | apply Kd.R_alloc | apply Kd.R_drewN | apply Kd.R_drew)); exact HO_8.out) gb226 (Nat.le_of_eq hg.symm)) hb); have n2_ := Aside0.mk (Kd.R_below (Kd.R_elderB (by (with_reducible repeat (first | apply Kd.R_alloc | apply Kd.R_drewN | apply Kd.R_drew)); exact HO_10.out) gb226 (Nat.le_of_eq hg.symm)) hb); have n3_ := Aside0.mk (below_step (by repeat (first | (with_reducible first | exact HB.out | apply below_alloc | apply pw_below_drewN | apply below_drew1) | exact HB.out)) hb); have n4_ := Aside0.mk (hbox); have n5_ := Aside0.mk ((by rw [hg]; exact (below_size (by repeat (first | (with_reducible first | exact HB.out | apply below_alloc | apply pw_below_drewN | apply below_drew1) | exact HB.out))) : w.heap.size ≤ gb226)); have n6_ := Aside0.mk ((by rw [hg]; exact (below_size (by repeat (first | (with_reducible first | exact HB.out | apply below_alloc | apply pw_below_drewN | apply below_drew1) | exact HB.out))) : w.heap.size ≤ gb226)); clear HO_6; clear HO_8; clear HO_10; clear HB; have HO_6 := n0_; have HO_8 := n1_; have HO_10 := n2_; have HB := n3_; have BK226 := n4_; have GW226 := n5_; have GE226 := n6_; clear n0_ n1_ n2_ n3_ n4_ n5_ n6_; clear hb hbox hg; have hcz52_0 : w51.cell? ⟨gb226, 0, none⟩ = some (.int .i64 0) := (blk_cell BK226.out 0).trans rfl; have hcz52_1 : w51.cell? ⟨gb226, 1, none⟩ = some (.string (⟨#[]⟩ : ByteArray)) := (blk_cell BK226.out 1).trans rfl; have hfz52_0 := blk_frozen BK226.out 0; have hfz52_1 := blk_frozen BK226.out 1; obtain ⟨Ao53, co53, eo53⟩ := Kd.R_slice HO_6.out; subst eo53; obtain ⟨Ao54, co54, eo54⟩ := Kd.R_slice HO_10.out; subst eo54; have p227 : 0 ≤ ((ji46) : Int) := of_decide_eq_true (by first | (with_reducible assumption) | assumption); have q227 : (ji46) < (t217.length : Int) := of_decide_eq_true (by first | (with_reducible assumption) | assumption); obtain ⟨ad227, e227, hx227_0, hx227_1⟩ := at_T32 (Kd.R_reads' HO_10.out).2.2 (ji46) p227 q227; cases e227; have hn227_0 : ad227.block ≠ gb226 := Kd.own_blk (Kd.R_away HO_10.out (fun k_ hk_ => hk_.2)); have hn227_1 : ad227.block ≠ gb226 := Kd.own_blk (Kd.R_away HO_10.out (fun k_ hk_ => hk_.2)); have hn227_2 : ad227.block ≠ gb226 := Kd.own_blk (Kd.R_away HO_10.out (fun k_ hk_ => hk_.2)); replace hx227_0 := (cell_far (p := ⟨gb226, 0, none⟩) (by first | (rw [add_block]; exact hn227_0) | (show (Addr.add _ _).block ≠ _; rw [add_block]; exact hn227_0) | exact hn227_0) (.int .i64 ((rd_T32 t213 x13_3).f0))).trans hx227_0; replace hx227_1 := (cell_far (p := ⟨gb226, 0, none⟩) (by first | (rw [add_block]; exact hn227_0) | (show (Addr.add _ _).block ≠ _; rw [add_block]; exact hn227_0) | exact hn227_0) (.int .i64 ((rd_T32 t213 x13_3).f0))).trans hx227_1; replace hx227_0 := (cell_far (p := ⟨gb226, 1, none⟩) (by first | (rw [add_block]; exact hn227_1) | (show (Addr.add _ _).block ≠ _; rw [add_block]; exact hn227_1) | exact hn227_1) (.string ((rd_T32 t213 x13_3).f1))).trans hx227_0; replace hx227_1 := (cell_far (p := ⟨gb226, 1, none⟩) (by first | (rw [add_block]; exact hn227_1) | (show (Addr.add _ _).block ≠ _; rw [add_block]; exact hn227_1) | exact hn227_1) (.string ((rd_T32 t213 x13_3).f1))).trans hx227_1; replace hx227_0 := (cell_far (p := ⟨gb226, 0, none⟩) (by first | (rw [add_block]; exact hn227_2) | (show (Addr.add _ _).block ≠ _; rw [add_block]; exact hn227_2) | exact hn227_2) (.int .i64 (wrap64 (((rd_T32 t213 x13_3).f0) + t224)))).trans hx227_0; replace hx227_1 := (cell_far (p := ⟨gb226, 0, none⟩) (by first | (rw [add_block]; exact hn227_2) | (show (Addr.add _ _).block ≠ _; rw [add_block]; exact hn227_2) | exact hn227_2) (.int .i64 (wrap64 (((rd_T32 t213 x13_3).f0) + t224)))).trans hx227_1; (try have hy227_0 := fun (n_ : Nat) => (show (((((w51.drewN n_).setCell ⟨gb226, 0, none⟩ (.int .i64 ((rd_T32 t213 x13_3).f0))).setCell ⟨gb226, 1, none⟩ (.string ((rd_T32 t213 x13_3).f1))).setCell ⟨gb226, 0, none⟩ (.int .i64 (wrap64 (((rd_T32 t213 x13_3).f0) + t224))))).cell? _ = some _ from hx227_0)); (try have hy227_1 := fun (n_ : Nat) => (show (((((w51.drewN n_).setCell ⟨gb226, 0, none⟩ (.int .i64 ((rd_T32 t213 x13_3).f0))).setCell ⟨gb226, 1, none⟩ (.string ((rd_T32 t213 x13_3).f1))).setCell ⟨gb226, 0, none⟩ (.int .i64 (wrap64 (((rd_T32 t213 x13_3).f0) + t224))))).cell? _ = some _ from hx227_1)); clear hn227_0; clear hn227_1; clear hn227_2; replace p227 := eq_true p227; replace q227 := eq_true q227)))
                                go_ret
                                exact ⟨by first | rfl | (simp [errW_none, errW_some] <;> rfl) | (simp only [← hji46]; first | rfl | (simp [errW_none, errW_some] <;> rfl)) | (simp [*, errW_none, errW_some] <;> rfl), by repeat (first | (with_reducible first | exact HB.out | apply below_alloc | apply pw_below_drewN | apply below_drew1 | refine below_set ?_ GE226.out) | exact HB.out)⟩
                              · rw [if_neg c49] at H
                                have c49b0 : (!(((rd_T32 t217 (ji46)).f0) == (wrap64 (((rd_T32 t213 x13_3).f0) + t224))) || (!((((rd_T32 t217 (ji46)).f1).toList) == (((rd_T32 t213 x13_3).f1).toList)))) = false := by simpa using c49
                                clear c49
                                have H' := Aside0.mk H
                                clear H
                                obtain ⟨Ao55, co55, eo55⟩ := Kd.R_slice HO_8.out
                                subst eo55
                                have p225 : 0 ≤ (x13_3 : Int) := of_decide_eq_true (by first | (with_reducible assumption) | assumption)
                                have q225 : x13_3 < (t213.length : Int) := of_decide_eq_true (by first | (with_reducible assumption) | assumption)
                                obtain ⟨ad225, e225, hx225_0, hx225_1⟩ := at_T32 (Kd.R_reads' HO_8.out).2.2 x13_3 p225 q225
                                cases e225
                                replace p225 := eq_true p225
                                replace q225 := eq_true q225
                                go_wp2_with (first | ((with_reducible refine gate_dst (N := 14) rfl ?_); (try (refine gate_guard (by rfl) ?_; dsimp only)); refine box_event ?hg (N := 14) ?hd (cs := #[.int .i64 0, .string (⟨#[]⟩ : ByteArray)]) (t := 32) ?hr ?_; (case hd => rfl); (case hg => rfl); (case hr => first | (go_simp; done) | (go_simp; rfl)); intro gb226 hg w56 hbox hb; have n0_ := Aside0.mk (Kd.R_below (Kd.R_elderB (by (with_reducible repeat (first | apply Kd.R_alloc | apply Kd.R_drewN | apply Kd.R_drew)); exact HO_6.out) gb226 (Nat.le_of_eq hg.symm)) hb); have n1_ := Aside0.mk (Kd.R_below (Kd.R_elderB (by (with_reducible repeat (first | apply Kd.R_alloc | apply Kd.R_drewN | apply Kd.R_drew)); exact HO_8.out) gb226 (Nat.le_of_eq hg.symm)) hb); have n2_ := Aside0.mk (Kd.R_below (Kd.R_elderB (by (with_reducible repeat (first | apply Kd.R_alloc | apply Kd.R_drewN | apply Kd.R_drew)); exact HO_10.out) gb226 (Nat.le_of_eq hg.symm)) hb); have n3_ := Aside0.mk (below_step (by repeat (first | (with_reducible first | exact HB.out | apply below_alloc | apply pw_below_drewN | apply below_drew1) | exact HB.out)) hb); have n4_ := Aside0.mk (hbox); have n5_ := Aside0.mk ((by rw [hg]; exact (below_size (by repeat (first | (with_reducible first | exact HB.out | apply below_alloc | apply pw_below_drewN | apply below_drew1) | exact HB.out))) : w.heap.size ≤ gb226)); have n6_ := Aside0.mk ((by rw [hg]; exact (below_size (by repeat (first | (with_reducible first | exact HB.out | apply below_alloc | apply pw_below_drewN | apply below_drew1) | exact HB.out))) : w.heap.size ≤ gb226)); clear HO_6; clear HO_8; clear HO_10; clear HB; have HO_6 := n0_; have HO_8 := n1_; have HO_10 := n2_; have HB := n3_; have BK226 := n4_; have GW226 := n5_; have GE226 := n6_; clear n0_ n1_ n2_ n3_ n4_ n5_ n6_; clear hb hbox hg; have hcz57_0 : w56.cell? ⟨gb226, 0, none⟩ = some (.int .i64 0) := (blk_cell BK226.out 0).trans rfl; have hcz57_1 : w56.cell? ⟨gb226, 1, none⟩ = some (.string (⟨#[]⟩ : ByteArray)) := (blk_cell BK226.out 1).trans rfl; have hfz57_0 := blk_frozen BK226.out 0; have hfz57_1 := blk_frozen BK226.out 1; obtain ⟨Ao58, co58, eo58⟩ := Kd.R_slice HO_6.out; subst eo58; obtain ⟨Ao59, co59, eo59⟩ := Kd.R_slice HO_10.out; subst eo59; have p227 : 0 ≤ ((ji46) : Int) := of_decide_eq_true (by first | (with_reducible assumption) | assumption); have q227 : (ji46) < (t217.length : Int) := of_decide_eq_true (by first | (with_reducible assumption) | assumption); obtain ⟨ad227, e227, hx227_0, hx227_1⟩ := at_T32 (Kd.R_reads' HO_10.out).2.2 (ji46) p227 q227; cases e227; have hn227_0 : ad227.block ≠ gb226 := Kd.own_blk (Kd.R_away HO_10.out (fun k_ hk_ => hk_.2)); have hn227_1 : ad227.block ≠ gb226 := Kd.own_blk (Kd.R_away HO_10.out (fun k_ hk_ => hk_.2)); have hn227_2 : ad227.block ≠ gb226 := Kd.own_blk (Kd.R_away HO_10.out (fun k_ hk_ => hk_.2)); replace hx227_0 := (cell_far (p := ⟨gb226, 0, none⟩) (by first | (rw [add_block]; exact hn227_0) | (show (Addr.add _ _).block ≠ _; rw [add_block]; exact hn227_0) | exact hn227_0) (.int .i64 ((rd_T32 t213 x13_3).f0))).trans hx227_0; replace hx227_1 := (cell_far (p := ⟨gb226, 0, none⟩) (by first | (rw [add_block]; exact hn227_0) | (show (Addr.add _ _).block ≠ _; rw [add_block]; exact hn227_0) | exact hn227_0) (.int .i64 ((rd_T32 t213 x13_3).f0))).trans hx227_1; replace hx227_0 := (cell_far (p := ⟨gb226, 1, none⟩) (by first | (rw [add_block]; exact hn227_1) | (show (Addr.add _ _).block ≠ _; rw [add_block]; exact hn227_1) | exact hn227_1) (.string ((rd_T32 t213 x13_3).f1))).trans hx227_0; replace hx227_1 := (cell_far (p := ⟨gb226, 1, none⟩) (by first | (rw [add_block]; exact hn227_1) | (show (Addr.add _ _).block ≠ _; rw [add_block]; exact hn227_1) | exact hn227_1) (.string ((rd_T32 t213 x13_3).f1))).trans hx227_1; replace hx227_0 := (cell_far (p := ⟨gb226, 0, none⟩) (by first | (rw [add_block]; exact hn227_2) | (show (Addr.add _ _).block ≠ _; rw [add_block]; exact hn227_2) | exact hn227_2) (.int .i64 (wrap64 (((rd_T32 t213 x13_3).f0) + t224)))).trans hx227_0; replace hx227_1 := (cell_far (p := ⟨gb226, 0, none⟩) (by first | (rw [add_block]; exact hn227_2) | (show (Addr.add _ _).block ≠ _; rw [add_block]; exact hn227_2) | exact hn227_2) (.int .i64 (wrap64 (((rd_T32 t213 x13_3).f0) + t224)))).trans hx227_1; (try have hy227_0 := fun (n_ : Nat) => (show (((((w56.drewN n_).setCell ⟨gb226, 0, none⟩ (.int .i64 ((rd_T32 t213 x13_3).f0))).setCell ⟨gb226, 1, none⟩ (.string ((rd_T32 t213 x13_3).f1))).setCell ⟨gb226, 0, none⟩ (.int .i64 (wrap64 (((rd_T32 t213 x13_3).f0) + t224))))).cell? _ = some _ from hx227_0)); (try have hy227_1 := fun (n_ : Nat) => (show (((((w56.drewN n_).setCell ⟨gb226, 0, none⟩ (.int .i64 ((rd_T32 t213 x13_3).f0))).setCell ⟨gb226, 1, none⟩ (.string ((rd_T32 t213 x13_3).f1))).setCell ⟨gb226, 0, none⟩ (.int .i64 (wrap64 (((rd_T32 t213 x13_3).f0) + t224))))).cell? _ = some _ from hx227_1)); clear hn227_0; clear hn227_1; clear hn227_2; replace p227 := eq_true p227; replace q227 := eq_true q227))
                                repeat (go_quiet (first | ((with_reducible refine gate_dst (N := 14) rfl ?_); (try (refine gate_guard (by rfl) ?_; dsimp only)); refine box_event ?hg (N := 14) ?hd (cs := #[.int .i64 0, .string (⟨#[]⟩ : ByteArray)]) (t := 32) ?hr ?_; (case hd => rfl); (case hg => rfl); (case hr => first | (go_simp; done) | (go_simp; rfl)); intro gb226 hg w56 hbox hb; have n0_ := Aside0.mk (Kd.R_below (Kd.R_elderB (by (with_reducible repeat (first | apply Kd.R_alloc | apply Kd.R_drewN | apply Kd.R_drew)); exact HO_6.out) gb226 (Nat.le_of_eq hg.symm)) hb); have n1_ := Aside0.mk (Kd.R_below (Kd.R_elderB (by (with_reducible repeat (first | apply Kd.R_alloc | apply Kd.R_drewN | apply Kd.R_drew)); exact HO_8.out) gb226 (Nat.le_of_eq hg.symm)) hb); have n2_ := Aside0.mk (Kd.R_below (Kd.R_elderB (by (with_reducible repeat (first | apply Kd.R_alloc | apply Kd.R_drewN | apply Kd.R_drew)); exact HO_10.out) gb226 (Nat.le_of_eq hg.symm)) hb); have n3_ := Aside0.mk (below_step (by repeat (first | (with_reducible first | exact HB.out | apply below_alloc | apply pw_below_drewN | apply below_drew1) | exact HB.out)) hb); have n4_ := Aside0.mk (hbox); have n5_ := Aside0.mk ((by rw [hg]; exact (below_size (by repeat (first | (with_reducible first | exact HB.out | apply below_alloc | apply pw_below_drewN | apply below_drew1) | exact HB.out))) : w.heap.size ≤ gb226)); have n6_ := Aside0.mk ((by rw [hg]; exact (below_size (by repeat (first | (with_reducible first | exact HB.out | apply below_alloc | apply pw_below_drewN | apply below_drew1) | exact HB.out))) : w.heap.size ≤ gb226)); clear HO_6; clear HO_8; clear HO_10; clear HB; have HO_6 := n0_; have HO_8 := n1_; have HO_10 := n2_; have HB := n3_; have BK226 := n4_; have GW226 := n5_; have GE226 := n6_; clear n0_ n1_ n2_ n3_ n4_ n5_ n6_; clear hb hbox hg; have hcz57_0 : w56.cell? ⟨gb226, 0, none⟩ = some (.int .i64 0) := (blk_cell BK226.out 0).trans rfl; have hcz57_1 : w56.cell? ⟨gb226, 1, none⟩ = some (.string (⟨#[]⟩ : ByteArray)) := (blk_cell BK226.out 1).trans rfl; have hfz57_0 := blk_frozen BK226.out 0; have hfz57_1 := blk_frozen BK226.out 1; obtain ⟨Ao58, co58, eo58⟩ := Kd.R_slice HO_6.out; subst eo58; obtain ⟨Ao59, co59, eo59⟩ := Kd.R_slice HO_10.out; subst eo59; have p227 : 0 ≤ ((ji46) : Int) := of_decide_eq_true (by first | (with_reducible assumption) | assumption); have q227 : (ji46) < (t217.length : Int) := of_decide_eq_true (by first | (with_reducible assumption) | assumption); obtain ⟨ad227, e227, hx227_0, hx227_1⟩ := at_T32 (Kd.R_reads' HO_10.out).2.2 (ji46) p227 q227; cases e227; have hn227_0 : ad227.block ≠ gb226 := Kd.own_blk (Kd.R_away HO_10.out (fun k_ hk_ => hk_.2)); have hn227_1 : ad227.block ≠ gb226 := Kd.own_blk (Kd.R_away HO_10.out (fun k_ hk_ => hk_.2)); have hn227_2 : ad227.block ≠ gb226 := Kd.own_blk (Kd.R_away HO_10.out (fun k_ hk_ => hk_.2)); replace hx227_0 := (cell_far (p := ⟨gb226, 0, none⟩) (by first | (rw [add_block]; exact hn227_0) | (show (Addr.add _ _).block ≠ _; rw [add_block]; exact hn227_0) | exact hn227_0) (.int .i64 ((rd_T32 t213 x13_3).f0))).trans hx227_0; replace hx227_1 := (cell_far (p := ⟨gb226, 0, none⟩) (by first | (rw [add_block]; exact hn227_0) | (show (Addr.add _ _).block ≠ _; rw [add_block]; exact hn227_0) | exact hn227_0) (.int .i64 ((rd_T32 t213 x13_3).f0))).trans hx227_1; replace hx227_0 := (cell_far (p := ⟨gb226, 1, none⟩) (by first | (rw [add_block]; exact hn227_1) | (show (Addr.add _ _).block ≠ _; rw [add_block]; exact hn227_1) | exact hn227_1) (.string ((rd_T32 t213 x13_3).f1))).trans hx227_0; replace hx227_1 := (cell_far (p := ⟨gb226, 1, none⟩) (by first | (rw [add_block]; exact hn227_1) | (show (Addr.add _ _).block ≠ _; rw [add_block]; exact hn227_1) | exact hn227_1) (.string ((rd_T32 t213 x13_3).f1))).trans hx227_1; replace hx227_0 := (cell_far (p := ⟨gb226, 0, none⟩) (by first | (rw [add_block]; exact hn227_2) | (show (Addr.add _ _).block ≠ _; rw [add_block]; exact hn227_2) | exact hn227_2) (.int .i64 (wrap64 (((rd_T32 t213 x13_3).f0) + t224)))).trans hx227_0; replace hx227_1 := (cell_far (p := ⟨gb226, 0, none⟩) (by first | (rw [add_block]; exact hn227_2) | (show (Addr.add _ _).block ≠ _; rw [add_block]; exact hn227_2) | exact hn227_2) (.int .i64 (wrap64 (((rd_T32 t213 x13_3).f0) + t224)))).trans hx227_1; (try have hy227_0 := fun (n_ : Nat) => (show (((((w56.drewN n_).setCell ⟨gb226, 0, none⟩ (.int .i64 ((rd_T32 t213 x13_3).f0))).setCell ⟨gb226, 1, none⟩ (.string ((rd_T32 t213 x13_3).f1))).setCell ⟨gb226, 0, none⟩ (.int .i64 (wrap64 (((rd_T32 t213 x13_3).f0) + t224))))).cell? _ = some _ from hx227_0)); (try have hy227_1 := fun (n_ : Nat) => (show (((((w56.drewN n_).setCell ⟨gb226, 0, none⟩ (.int .i64 ((rd_T32 t213 x13_3).f0))).setCell ⟨gb226, 1, none⟩ (.string ((rd_T32 t213 x13_3).f1))).setCell ⟨gb226, 0, none⟩ (.int .i64 (wrap64 (((rd_T32 t213 x13_3).f0) + t224))))).cell? _ = some _ from hx227_1)); clear hn227_0; clear hn227_1; clear hn227_2; replace p227 := eq_true p227; replace q227 := eq_true q227)); try go_wp2_with (first | ((with_reducible refine gate_dst (N := 14) rfl ?_); (try (refine gate_guard (by rfl) ?_; dsimp only)); refine box_event ?hg (N := 14) ?hd (cs := #[.int .i64 0, .string (⟨#[]⟩ : ByteArray)]) (t := 32) ?hr ?_; (case hd => rfl); (case hg => rfl); (case hr => first | (go_simp; done) | (go_simp; rfl)); intro gb226 hg w56 hbox hb; have n0_ := Aside0.mk (Kd.R_below (Kd.R_elderB (by (with_reducible repeat (first | apply Kd.R_alloc | apply Kd.R_drewN | apply Kd.R_drew)); exact HO_6.out) gb226 (Nat.le_of_eq hg.symm)) hb); have n1_ := Aside0.mk (Kd.R_below (Kd.R_elderB (by (with_reducible repeat (first | apply Kd.R_alloc | apply Kd.R_drewN | apply Kd.R_drew)); exact HO_8.out) gb226 (Nat.le_of_eq hg.symm)) hb); have n2_ := Aside0.mk (Kd.R_below (Kd.R_elderB (by (with_reducible repeat (first | apply Kd.R_alloc | apply Kd.R_drewN | apply Kd.R_drew)); exact HO_10.out) gb226 (Nat.le_of_eq hg.symm)) hb); have n3_ := Aside0.mk (below_step (by repeat (first | (with_reducible first | exact HB.out | apply below_alloc | apply pw_below_drewN | apply below_drew1) | exact HB.out)) hb); have n4_ := Aside0.mk (hbox); have n5_ := Aside0.mk ((by rw [hg]; exact (below_size (by repeat (first | (with_reducible first | exact HB.out | apply below_alloc | apply pw_below_drewN | apply below_drew1) | exact HB.out))) : w.heap.size ≤ gb226)); have n6_ := Aside0.mk ((by rw [hg]; exact (below_size (by repeat (first | (with_reducible first | exact HB.out | apply below_alloc | apply pw_below_drewN | apply below_drew1) | exact HB.out))) : w.heap.size ≤ gb226)); clear HO_6; clear HO_8; clear HO_10; clear HB; have HO_6 := n0_; have HO_8 := n1_; have HO_10 := n2_; have HB := n3_; have BK226 := n4_; have GW226 := n5_; have GE226 := n6_; clear n0_ n1_ n2_ n3_ n4_ n5_ n6_; clear hb hbox hg; have hcz57_0 : w56.cell? ⟨gb226, 0, none⟩ = some (.int .i64 0) := (blk_cell BK226.out 0).trans rfl; have hcz57_1 : w56.cell? ⟨gb226, 1, none⟩ = some (.string (⟨#[]⟩ : ByteArray)) := (blk_cell BK226.out 1).trans rfl; have hfz57_0 := blk_frozen BK226.out 0; have hfz57_1 := blk_frozen BK226.out 1; obtain ⟨Ao58, co58, eo58⟩ := Kd.R_slice HO_6.out; subst eo58; obtain ⟨Ao59, co59, eo59⟩ := Kd.R_slice HO_10.out; subst eo59; have p227 : 0 ≤ ((ji46) : Int) := of_decide_eq_true (by first | (with_reducible assumption) | assumption); have q227 : (ji46) < (t217.length : Int) := of_decide_eq_true (by first | (with_reducible assumption) | assumption); obtain ⟨ad227, e227, hx227_0, hx227_1⟩ := at_T32 (Kd.R_reads' HO_10.out).2.2 (ji46) p227 q227; cases e227; have hn227_0 : ad227.block ≠ gb226 := Kd.own_blk (Kd.R_away HO_10.out (fun k_ hk_ => hk_.2)); have hn227_1 : ad227.block ≠ gb226 := Kd.own_blk (Kd.R_away HO_10.out (fun k_ hk_ => hk_.2)); have hn227_2 : ad227.block ≠ gb226 := Kd.own_blk (Kd.R_away HO_10.out (fun k_ hk_ => hk_.2)); replace hx227_0 := (cell_far (p := ⟨gb226, 0, none⟩) (by first | (rw [add_block]; exact hn227_0) | (show (Addr.add _ _).block ≠ _; rw [add_block]; exact hn227_0) | exact hn227_0) (.int .i64 ((rd_T32 t213 x13_3).f0))).trans hx227_0; replace hx227_1 := (cell_far (p := ⟨gb226, 0, none⟩) (by first | (rw [add_block]; exact hn227_0) | (show (Addr.add _ _).block ≠ _; rw [add_block]; exact hn227_0) | exact hn227_0) (.int .i64 ((rd_T32 t213 x13_3).f0))).trans hx227_1; replace hx227_0 := (cell_far (p := ⟨gb226, 1, none⟩) (by first | (rw [add_block]; exact hn227_1) | (show (Addr.add _ _).block ≠ _; rw [add_block]; exact hn227_1) | exact hn227_1) (.string ((rd_T32 t213 x13_3).f1))).trans hx227_0; replace hx227_1 := (cell_far (p := ⟨gb226, 1, none⟩) (by first | (rw [add_block]; exact hn227_1) | (show (Addr.add _ _).block ≠ _; rw [add_block]; exact hn227_1) | exact hn227_1) (.string ((rd_T32 t213 x13_3).f1))).trans hx227_1; replace hx227_0 := (cell_far (p := ⟨gb226, 0, none⟩) (by first | (rw [add_block]; exact hn227_2) | (show (Addr.add _ _).block ≠ _; rw [add_block]; exact hn227_2) | exact hn227_2) (.int .i64 (wrap64 (((rd_T32 t213 x13_3).f0) + t224)))).trans hx227_0; replace hx227_1 := (cell_far (p := ⟨gb226, 0, none⟩) (by first | (rw [add_block]; exact hn227_2) | (show (Addr.add _ _).block ≠ _; rw [add_block]; exact hn227_2) | exact hn227_2) (.int .i64 (wrap64 (((rd_T32 t213 x13_3).f0) + t224)))).trans hx227_1; (try have hy227_0 := fun (n_ : Nat) => (show (((((w56.drewN n_).setCell ⟨gb226, 0, none⟩ (.int .i64 ((rd_T32 t213 x13_3).f0))).setCell ⟨gb226, 1, none⟩ (.string ((rd_T32 t213 x13_3).f1))).setCell ⟨gb226, 0, none⟩ (.int .i64 (wrap64 (((rd_T32 t213 x13_3).f0) + t224))))).cell? _ = some _ from hx227_0)); (try have hy227_1 := fun (n_ : Nat) => (show (((((w56.drewN n_).setCell ⟨gb226, 0, none⟩ (.int .i64 ((rd_T32 t213 x13_3).f0))).setCell ⟨gb226, 1, none⟩ (.string ((rd_T32 t213 x13_3).f1))).setCell ⟨gb226, 0, none⟩ (.int .i64 (wrap64 (((rd_T32 t213 x13_3).f0) + t224))))).cell? _ = some _ from hx227_1)); clear hn227_0; clear hn227_1; clear hn227_2; replace p227 := eq_true p227; replace q227 := eq_true q227)))
                                go_roundg k3
                                case measure => have := HJ3.out; have := HJ20.out; have := HK3.out; omega
                                case rel => exact ⟨(wrap64 (x13_3 + 1)), (by first | rfl | (simp; done) | (simp [*]; done)), H', ⟨by have := HJ3.out; have := HJ20.out; have := HK3.out; omega⟩, ⟨by (with_reducible repeat (first | apply Kd.R_alloc | apply Kd.R_drewN | apply Kd.R_drew)); exact Kd.R_mono (Kd.R_far (p := ⟨gb226, 0, none⟩) (Kd.R_far (p := ⟨gb226, 1, none⟩) (Kd.R_far (p := ⟨gb226, 0, none⟩) (Kd.R_mono HO_6.out (fun k_ hk => (⟨hk, hk.2⟩ : _ ∧ k_ ≠ gb226))) (fun _ hk => hk.2) (.int .i64 ((rd_T32 t213 x13_3).f0))) (fun _ hk => hk.2) (.string ((rd_T32 t213 x13_3).f1))) (fun _ hk => hk.2) (.int .i64 (wrap64 (((rd_T32 t213 x13_3).f0) + t224)))) (fun _ hk => ⟨hk.1.1.1, hk.1.1.2⟩)⟩, ⟨by (with_reducible repeat (first | apply Kd.R_alloc | apply Kd.R_drewN | apply Kd.R_drew)); exact Kd.R_mono (Kd.R_far (p := ⟨gb226, 0, none⟩) (Kd.R_far (p := ⟨gb226, 1, none⟩) (Kd.R_far (p := ⟨gb226, 0, none⟩) (Kd.R_mono HO_8.out (fun k_ hk => (⟨hk, hk.2⟩ : _ ∧ k_ ≠ gb226))) (fun _ hk => hk.2) (.int .i64 ((rd_T32 t213 x13_3).f0))) (fun _ hk => hk.2) (.string ((rd_T32 t213 x13_3).f1))) (fun _ hk => hk.2) (.int .i64 (wrap64 (((rd_T32 t213 x13_3).f0) + t224)))) (fun _ hk => ⟨hk.1.1.1, hk.1.1.2⟩)⟩, ⟨by (with_reducible repeat (first | apply Kd.R_alloc | apply Kd.R_drewN | apply Kd.R_drew)); exact Kd.R_mono (Kd.R_far (p := ⟨gb226, 0, none⟩) (Kd.R_far (p := ⟨gb226, 1, none⟩) (Kd.R_far (p := ⟨gb226, 0, none⟩) (Kd.R_mono HO_10.out (fun k_ hk => (⟨hk, hk.2⟩ : _ ∧ k_ ≠ gb226))) (fun _ hk => hk.2) (.int .i64 ((rd_T32 t213 x13_3).f0))) (fun _ hk => hk.2) (.string ((rd_T32 t213 x13_3).f1))) (fun _ hk => hk.2) (.int .i64 (wrap64 (((rd_T32 t213 x13_3).f0) + t224)))) (fun _ hk => ⟨hk.1.1.1, hk.1.1.2⟩)⟩, ⟨by repeat (first | (with_reducible first | exact HB.out | apply below_alloc | apply pw_below_drewN | apply below_drew1 | refine below_set ?_ GE226.out) | exact HB.out)⟩⟩
                            · rw [if_neg c48] at H
                              exact absurd H (by simp)
                          · rw [if_neg c47] at H
                            exact absurd H (by simp)
                        · rw [if_neg c45] at H
                          exact absurd H (by simp)
                      · rw [if_neg c44] at H
                        have c44b0 : decide (x13_3 < (t213.length : Int)) = false := decide_eq_false c44
                        clear c44
                        by_cases c60 : t208 = true
                        · subst c60
                          have H1 : (if 0 ≤ (t209.length : Int) then (if (t209.length : Int) ≤ (t217.length : Int) then ((burinref01_Same.f k3 (t217.take ((t209.length : Int) : Int).toNat) t209).bind fun t232 => (some t232)) else (none)) else (none)) = some r := by rw [if_pos rfl] at H; exact H
                          clear H
                          have H := H1
                          clear H1
                          by_cases c61 : 0 ≤ (t209.length : Int)
                          · rw [if_pos c61] at H
                            have c61b0 := eq_true c61
                            have c61b1 : decide (0 ≤ (t209.length : Int)) = true := decide_eq_true c61
                            clear c61
                            by_cases c62 : (t209.length : Int) ≤ (t217.length : Int)
                            · rw [if_pos c62] at H
                              have c62b0 := eq_true c62
                              have c62b1 : decide ((t209.length : Int) ≤ (t217.length : Int)) = true := decide_eq_true c62
                              clear c62
                              obtain ⟨y228, hy228⟩ : ∃ y_ : List (S32), y_ = (t217.take ((t209.length : Int) : Int).toNat) := ⟨_, rfl⟩
                              replace H : ((burinref01_Same.f k3 y228 t209).bind fun t232 => (some t232)) = some r := by first | (rw [hy228]; with_reducible exact H) | (have H2_ := (Option.bind_some _ _).symm.trans H; rw [hy228]; with_reducible exact H2_) | (have H2_ := (Option.bind_some _ _).symm.trans H; with_reducible exact H2_) | with_reducible exact H | (rw [hy228]; exact H) | exact H
                              have Ny228 := Aside0.mk hy228
                              clear hy228
                              replace H := Option.bind_eq_some_iff.mp H
                              obtain ⟨t232, A630, H⟩ := H
                              replace H : (some t232) = some r := H
                              have A63 := Aside0.mk A630
                              clear A630
                              obtain rfl := Option.some.inj H
                              obtain ⟨Ao64, co64, eo64⟩ := Kd.R_slice HO_8.out
                              subst eo64
                              obtain ⟨Ao65, co65, eo65⟩ := Kd.R_slice HO_6.out
                              subst eo65
                              obtain ⟨Ao67, co67, eo67⟩ := Kd.R_slice HO_10.out
                              subst eo67
                              have q66 : ((t209.length : Int) : Int) ≤ ((t217.length : Int) : Int) := of_decide_eq_true (by first | (with_reducible assumption) | assumption)
                              obtain ⟨i066, hi066, _, hsz66, _⟩ := info_parts info32
                              have hroom66 : t217.length ≤ co67 := (Kd.R_reads' HO_10.out).2.1
                              have hC66 : Kd.C k32 _ Ao67 t217.length t217 := (Kd.R_reads' HO_10.out).2.2
                              have hcut66 := cut_to (P := Try.prog) 23 32 .i64 Try.underlying23 hi066 Ao67 t217.length co67 (t209.length : Int) (of_decide_eq_true (by first | (with_reducible assumption) | assumption)) q66 hroom66
                              have hr66 := Kd.C_take (m := ((t209.length : Int) : Int).toNat) hC66 (by omega)
                              have hy66 : y228.length = ((t209.length : Int) : Int).toNat := (by rw [Ny228.out, List.length_take]; omega)
                              rw [← Ny228.out] at hr66
                              rw [← hy66] at hcut66
                              have HR231 := Aside0.mk hr66
                              have HC231 := Aside0.mk (show y228.length ≤ co67 from by omega)
                              clear hr66 hC66 hroom66 hi066 hsz66
                              have KY66 := Aside0.mk hy66
                              clear hy66
                              have KL66 := Aside0.mk (show ((t209.length : Int) : Int).toNat ≤ t217.length from by omega)
                              replace q66 := eq_true q66
                              go_wp2_with (first | (go_at_call 12; (with_reducible refine (burinref01_Same.calls k3 _ _ y228 _ _ t209 t232 _ ?side1 ?side2 ?side3 ?side4 A63.out).mono ?_); (case side1 => repeat (first | exact (by repeat (first | (with_reducible exact HR231.out) | (with_reducible refine Kd.C_alloc ?_ _) | (with_reducible refine Kd.C_drewN ?_ _) | (with_reducible refine Kd.C_drew ?_) | exact HR231.out)) | (with_reducible refine Kd.C_alloc ?_ _) | (with_reducible refine Kd.C_drewN ?_ _) | (with_reducible refine Kd.C_drew ?_))); (case side2 => exact HC231.out); (case side3 => repeat (first | exact (Kd.R_reads' HO_6.out).2.2 | (with_reducible refine Kd.C_alloc ?_ _) | (with_reducible refine Kd.C_drewN ?_ _) | (with_reducible refine Kd.C_drew ?_))); (case side4 => exact (Kd.R_reads' HO_6.out).2.1); rintro e w' ⟨rfl, ⟨nd, rfl⟩⟩; (try first | exact ⟨rfl, _, World.drewN_drewN _ _ _⟩ | exact ⟨rfl, _, Eq.trans (World.drewN_drewN _ _ _) (congrArg (World.drewN _) (Nat.add_assoc _ _ _))⟩)))
                              repeat (go_quiet (first | (go_at_call 12; (with_reducible refine (burinref01_Same.calls k3 _ _ y228 _ _ t209 t232 _ ?side1 ?side2 ?side3 ?side4 A63.out).mono ?_); (case side1 => repeat (first | exact (by repeat (first | (with_reducible exact HR231.out) | (with_reducible refine Kd.C_alloc ?_ _) | (with_reducible refine Kd.C_drewN ?_ _) | (with_reducible refine Kd.C_drew ?_) | exact HR231.out)) | (with_reducible refine Kd.C_alloc ?_ _) | (with_reducible refine Kd.C_drewN ?_ _) | (with_reducible refine Kd.C_drew ?_))); (case side2 => exact HC231.out); (case side3 => repeat (first | exact (Kd.R_reads' HO_6.out).2.2 | (with_reducible refine Kd.C_alloc ?_ _) | (with_reducible refine Kd.C_drewN ?_ _) | (with_reducible refine Kd.C_drew ?_))); (case side4 => exact (Kd.R_reads' HO_6.out).2.1); rintro e w' ⟨rfl, ⟨nd, rfl⟩⟩; (try first | exact ⟨rfl, _, World.drewN_drewN _ _ _⟩ | exact ⟨rfl, _, Eq.trans (World.drewN_drewN _ _ _) (congrArg (World.drewN _) (Nat.add_assoc _ _ _))⟩))); try go_wp2_with (first | (go_at_call 12; (with_reducible refine (burinref01_Same.calls k3 _ _ y228 _ _ t209 t232 _ ?side1 ?side2 ?side3 ?side4 A63.out).mono ?_); (case side1 => repeat (first | exact (by repeat (first | (with_reducible exact HR231.out) | (with_reducible refine Kd.C_alloc ?_ _) | (with_reducible refine Kd.C_drewN ?_ _) | (with_reducible refine Kd.C_drew ?_) | exact HR231.out)) | (with_reducible refine Kd.C_alloc ?_ _) | (with_reducible refine Kd.C_drewN ?_ _) | (with_reducible refine Kd.C_drew ?_))); (case side2 => exact HC231.out); (case side3 => repeat (first | exact (Kd.R_reads' HO_6.out).2.2 | (with_reducible refine Kd.C_alloc ?_ _) | (with_reducible refine Kd.C_drewN ?_ _) | (with_reducible refine Kd.C_drew ?_))); (case side4 => exact (Kd.R_reads' HO_6.out).2.1); rintro e w' ⟨rfl, ⟨nd, rfl⟩⟩; (try first | exact ⟨rfl, _, World.drewN_drewN _ _ _⟩ | exact ⟨rfl, _, Eq.trans (World.drewN_drewN _ _ _) (congrArg (World.drewN _) (Nat.add_assoc _ _ _))⟩))))
                              go_ret
                              exact ⟨by first | rfl | (simp [errW_none, errW_some] <;> rfl) | (simp [*, errW_none, errW_some] <;> rfl), by repeat (first | (with_reducible first | exact HB.out | apply below_alloc | apply pw_below_drewN | apply below_drew1) | exact HB.out)⟩
                            · rw [if_neg c62] at H
                              exact absurd H (by simp)
                          · rw [if_neg c61] at H
                            exact absurd H (by simp)
                        · replace c60 := Bool.eq_false_iff.mpr c60
                          subst c60
                          have H1 : (some false) = some r := by rw [if_neg (show ¬ (false = true) by decide)] at H; exact H
                          clear H
                          have H := H1
                          clear H1
                          obtain rfl := Option.some.inj H
                          obtain ⟨Ao68, co68, eo68⟩ := Kd.R_slice HO_8.out
                          subst eo68
                          go_wp2
                          repeat (go_quiet (fail); try go_wp2)
                          go_ret
                          exact ⟨by first | rfl | (simp [errW_none, errW_some] <;> rfl) | (simp [*, errW_none, errW_some] <;> rfl), by repeat (first | (with_reducible first | exact HB.out | apply below_alloc | apply pw_below_drewN | apply below_drew1) | exact HB.out)⟩
          · rw [if_neg c19] at H
            exact absurd H (by simp)
        · rw [if_neg c16] at H
          exact absurd H (by simp)

/-- THE ONE PURE STATEMENT of burinlaw01_TextParts: yours. -/
def burinlaw01_TextParts.Pure : Prop := ∀ (a0 : ByteArray) (a1 : ByteArray), a0.size ≤ 140737488351232 → a1.size ≤ 140737488351232 → ∃ k, burinlaw01_TextParts.f k a0 a1 = some true
theorem burinlaw01_TextParts.walk (P : burinlaw01_TextParts.Pure) (a0 : ByteArray) (a1 : ByteArray) (w : World) (w0 : a0.size ≤ 140737488351232) (w1 : a1.size ≤ 140737488351232) :
    Calls Try.prog 7 #[.string a0, .string a1] w fun e w' => e = .returned (.bool true) ∧ Below w.heap.size w w' := by
  obtain ⟨k, h⟩ := P a0 a1 w0 w1
  refine (burinlaw01_TextParts.calls k a0 a1 true w h).mono ?_
  rintro e w' ⟨rfl, hd⟩
  exact ⟨rfl, hd⟩

end Go.Proofs.Ytgipfcdmhdljgaa.PA
