import Derived.Test.YtcbfbefpbjmglaaGreatDoorZ
import Derived.Test.YtcbfbefpbjmglaaGreatDoorA0
import Derived.Test.YtcbfbefpbjmglaaGreatDoorA7
import Derived.Test.YtcbfbefpbjmglaaGreatDoorA8
import Derived.Test.YtcbfbefpbjmglaaGreatDoorA9
set_option maxHeartbeats 8000000
set_option maxRecDepth 100000
set_option linter.unusedSimpArgs false
set_option linter.unusedVariables false
namespace Go.Proofs.YtcbfbefpbjmglaaGreatDoor.PA
open Go.RowKit YtcbfbefpbjmglaaGreatDoorT YtcbfbefpbjmglaaGreatDoorW PrintWords PrintLast PrintMore
attribute [local go_sem] max2_int min2_int max_two min_two max_three min_three max_four min_four   -- for this text's walks alone
def burinref02_sign.l0 : Nat → ByteArray → Int → Option (Int)
 | 0, _, _ => none
 | k + 1, x0, x3 => if x3 > 0 then (if 0 ≤ x3 then (if x3 ≤ (x0.size : Int) then ((burinref02_Punct.f k (x0.extract 0 (x3 : Int).toNat)).bind fun t180 => (if t180 = true then (some x3) else (burinref02_sign.l0 k x0 (wrap64 (x3 - 1))))) else (none)) else (none)) else (some 0)
def burinref02_sign.f (k : Nat) (a0 : ByteArray) : Option (Int) := burinref02_sign.l0 k a0 (mn 3 (a0.size : Int))
theorem burinref02_sign.calls (k : Nat) (a0 : ByteArray) (r : Int) (w : World) (h : burinref02_sign.f k a0 = some r) :
  Calls Tryz.prog 115 #[.string a0] w fun e w' => e = .returned (.int .i64 r) ∧ Below w.heap.size w w' := by
 have HB := Az.mk (Below.refl w.heap.size w)
 have H : (burinref02_sign.l0 k a0 (mn 3 (a0.size : Int))) = some r := h
 clear h
 obtain ⟨ji2, hji2⟩ : ∃ j_ : Int, (mn 3 (a0.size : Int)) = j_ := ⟨_, rfl⟩
 replace H : (burinref02_sign.l0 k a0 ji2) = some r := by first | (rw [hji2] at H; exact H) | (simp only [hji2] at H ⊢; exact H)
 (try (have hji2h : ji2 ≤ 3 := by (rw [← hji2]; unfold mn; (repeat' split) <;> omega)))
 (try (have hji2g : ji2 ≤ 64 := by omega))
 (try (have hji2l : 0 ≤ ji2 := by (rw [← hji2]; unfold mn; (repeat' split) <;> omega)))
 (try (have hji2m : 0 ≤ ji2 := by omega))
 have hji2_ : (if (a0.size : Int) < 3 then (a0.size : Int) else 3) = ji2 := hji2
 have H' := Az.mk H
 clear H
 go_enter Tryz.func115, Tryz.ntmps115
 go_wp2
 go_loopg [3] k (fun kq v3 w' => ∃ (x3_1 : Int), v3 = .int .i64 x3_1 ∧ Az (burinref02_sign.l0 kq a0 x3_1 = some r) ∧ Az (kq ≤ k) ∧ Az (Below w.heap.size w w'))
 case atStart => exact ⟨(ji2), (by first | rfl | (simp; done) | (simp only [← hji2] <;> (first | rfl | simp)) | (simp [*]; done)), H', ⟨Nat.le_refl _⟩, ⟨by repeat (with_reducible first | exact HB.out | apply bA | apply bQ | apply bD)⟩⟩
 case round =>
  clear H'
  try clear c1
  try clear p2
  obtain ⟨x3_1, rfl, HA, HK1, HB⟩ := hrel
  cases gk with
  | zero => exact absurd HA.out (by simp [burinref02_sign.l0])
  | succ k1 =>
   have H := HA.out
   clear HA
   simp only [burinref02_sign.l0] at H
   by_cases c3 : x3_1 > 0
   ·rw [if_pos c3] at H
    have c3b0 : decide (0 < x3_1) = true := decide_eq_true c3
    clear c3
    by_cases c4 : 0 ≤ x3_1
    ·rw [if_pos c4] at H
     have c4b0 := eq_true c4
     have c4b1 : decide (0 ≤ x3_1) = true := decide_eq_true c4
     clear c4
     by_cases c5 : x3_1 ≤ (a0.size : Int)
     ·rw [if_pos c5] at H
      have c5b0 := eq_true c5
      have c5b1 : decide (x3_1 ≤ (a0.size : Int)) = true := decide_eq_true c5
      clear c5
      replace H := Option.bind_eq_some_iff.mp H
      obtain ⟨t180, A60, H⟩ := H
      replace H : (if t180 = true then (some x3_1) else (burinref02_sign.l0 k1 a0 (wrap64 (x3_1 - 1)))) = some r := H
      have A6 := Az.mk A60
      clear A60
      by_cases c7 : t180 = true
      ·subst c7
       have H1 : (some x3_1) = some r := by rw [if_pos rfl] at H; exact H
       clear H
       have H := H1
       clear H1
       obtain rfl := Option.some.inj H
       go_wp2_with (first | ((with_reducible refine gC (f := 119) rfl ?_); refine goesL_ (some 15) rfl rfl Tryz.func119 (by kernel_rfl) rfl #[.string (a0.extract 0 (x3_1 : Int).toNat)] rfl (by (try simp only [List.map_toArray, List.map_cons, List.map_nil]); first | done | rfl | (simp only [List.length_drop, List.length_take]; rfl)) ?_; (with_reducible refine (burinref02_Punct.calls k1 (a0.extract 0 (x3_1 : Int).toNat) true _ A6.out).mono ?_); rintro e w' ⟨rfl, ⟨nd, rfl⟩⟩; refine ⟨_, rfl, ?_⟩))
       go_ret
       exact ⟨by first | rfl | (simp [eN, eS] <;> rfl) | (simp only [← hji2]; first | rfl | (simp [eN, eS] <;> rfl)) | (simp [*, eN, eS] <;> rfl), by repeat (with_reducible first | exact HB.out | apply bA | apply bQ | apply bD)⟩
      ·replace c7 := Bool.eq_false_iff.mpr c7
       subst c7
       have H1 : (burinref02_sign.l0 k1 a0 (wrap64 (x3_1 - 1))) = some r := by rw [if_neg (show ¬ (false = true) by decide)] at H; exact H
       clear H
       have H := H1
       clear H1
       have H' := Az.mk H
       clear H
       go_wp2_with (first | ((with_reducible refine gC (f := 119) rfl ?_); refine goesL_ (some 15) rfl rfl Tryz.func119 (by kernel_rfl) rfl #[.string (a0.extract 0 (x3_1 : Int).toNat)] rfl (by (try simp only [List.map_toArray, List.map_cons, List.map_nil]); first | done | rfl | (simp only [List.length_drop, List.length_take]; rfl)) ?_; (with_reducible refine (burinref02_Punct.calls k1 (a0.extract 0 (x3_1 : Int).toNat) false _ A6.out).mono ?_); rintro e w' ⟨rfl, ⟨nd, rfl⟩⟩; refine ⟨_, rfl, ?_⟩))
       go_roundg k1
       case measure => have := HK1.out; omega
       case rel => exact ⟨(wrap64 (x3_1 - 1)), (by first | rfl | (simp; done) | (simp [*]; done)), H', ⟨by have := HK1.out; omega⟩, ⟨by repeat (with_reducible first | exact HB.out | apply bA | apply bQ | apply bD)⟩⟩
     ·rw [if_neg c5] at H
      exact absurd H (by simp)
    ·rw [if_neg c4] at H
     exact absurd H (by simp)
   ·rw [if_neg c3] at H
    have c3b0 : decide (0 < x3_1) = false := decide_eq_false c3
    clear c3
    obtain rfl := Option.some.inj H
    go_wp2
    go_ret
    exact ⟨by first | rfl | (simp [eN, eS] <;> rfl) | (simp only [← hji2]; first | rfl | (simp [eN, eS] <;> rfl)) | (simp [*, eN, eS] <;> rfl), by repeat (with_reducible first | exact HB.out | apply bA | apply bQ | apply bD)⟩
def burinref02_first.j0 : Nat → ByteArray → Bool → Option (Int × Int)
 | 0, _, _ => none
 | k + 1, x0, x22 => if x22 = true then ((burinref02_quote.f k x0).bind fun t183 => (if 0 < (x0.size : Int) then (if (bt x0 0) = 34 then (some (4, t183)) else (if t183 = 2 then (some (3, 0)) else (some (3, t183)))) else (none))) else ((burinref02_sign.f k x0).bind fun t184 => (if t184 > 0 then (some (5, t184)) else (some (6, 1))))
def burinref02_first.f (k : Nat) (a0 : ByteArray) : Option (Int × Int) := (burinref02_name.f k a0).bind fun t181 => (if t181 > 0 then (some (1, t181)) else ((burinref02_number.f k a0).bind fun t182 => (if t182 > 0 then (some (2, t182)) else (if 0 < (a0.size : Int) then (if (bt a0 0) = 39 then (burinref02_first.j0 k a0 true) else (burinref02_first.j0 k a0 ((bt a0 0) == 34))) else (none)))))
theorem burinref02_first.calls (k : Nat) (a0 : ByteArray) (r1 : Int) (r2 : Int) (w : World) (h : burinref02_first.f k a0 = some (r1, r2)) :
  Calls Tryz.prog 107 #[.string a0] w fun e w' => e = .returned (.tuple #[.int .i64 r1, .int .i64 r2]) ∧ Below w.heap.size w w' := by
 have HB := Az.mk (Below.refl w.heap.size w)
 have H : ((burinref02_name.f k a0).bind fun t181 => (if t181 > 0 then (some (1, t181)) else ((burinref02_number.f k a0).bind fun t182 => (if t182 > 0 then (some (2, t182)) else (if 0 < (a0.size : Int) then (if (bt a0 0) = 39 then (burinref02_first.j0 k a0 true) else (burinref02_first.j0 k a0 ((bt a0 0) == 34))) else (none)))))) = some (r1, r2) := h
 clear h
 replace H := Option.bind_eq_some_iff.mp H
 obtain ⟨t181, A20, H⟩ := H
 replace H : (if t181 > 0 then (some (1, t181)) else ((burinref02_number.f k a0).bind fun t182 => (if t182 > 0 then (some (2, t182)) else (if 0 < (a0.size : Int) then (if (bt a0 0) = 39 then (burinref02_first.j0 k a0 true) else (burinref02_first.j0 k a0 ((bt a0 0) == 34))) else (none))))) = some (r1, r2) := H
 have A2 := Az.mk A20
 clear A20
 by_cases c3 : t181 > 0
 ·rw [if_pos c3] at H
  have c3b0 : decide (0 < t181) = true := decide_eq_true c3
  clear c3
  simp only [Option.some.injEq, Prod.mk.injEq] at H
  obtain ⟨rfl, rfl⟩ := H
  go_enter Tryz.func107, Tryz.ntmps107
  go_wp2_with (first | ((with_reducible refine gC (f := 112) rfl ?_); refine goesL_ (some 6) rfl rfl Tryz.func112 (by kernel_rfl) rfl #[.string a0] rfl (by (try simp only [List.map_toArray, List.map_cons, List.map_nil]); first | done | rfl | (simp only [List.length_drop, List.length_take]; rfl)) ?_; (with_reducible refine (burinref02_name.calls k a0 t181 _ A2.out).mono ?_); rintro e w' ⟨rfl, ⟨nd, rfl⟩⟩; refine ⟨_, rfl, ?_⟩))
  go_ret2
  exact ⟨by first | rfl | (simp [eN, eS] <;> rfl) | (simp [*, eN, eS] <;> rfl), by repeat (with_reducible first | exact HB.out | apply bA | apply bQ | apply bD)⟩
 ·rw [if_neg c3] at H
  have c3b0 : decide (0 < t181) = false := decide_eq_false c3
  clear c3
  replace H := Option.bind_eq_some_iff.mp H
  obtain ⟨t182, A40, H⟩ := H
  replace H : (if t182 > 0 then (some (2, t182)) else (if 0 < (a0.size : Int) then (if (bt a0 0) = 39 then (burinref02_first.j0 k a0 true) else (burinref02_first.j0 k a0 ((bt a0 0) == 34))) else (none))) = some (r1, r2) := H
  have A4 := Az.mk A40
  clear A40
  by_cases c5 : t182 > 0
  ·rw [if_pos c5] at H
   have c5b0 : decide (0 < t182) = true := decide_eq_true c5
   clear c5
   simp only [Option.some.injEq, Prod.mk.injEq] at H
   obtain ⟨rfl, rfl⟩ := H
   go_enter Tryz.func107, Tryz.ntmps107
   go_wp2_with (first | ((with_reducible refine gC (f := 112) rfl ?_); refine goesL_ (some 6) rfl rfl Tryz.func112 (by kernel_rfl) rfl #[.string a0] rfl (by (try simp only [List.map_toArray, List.map_cons, List.map_nil]); first | done | rfl | (simp only [List.length_drop, List.length_take]; rfl)) ?_; (with_reducible refine (burinref02_name.calls k a0 t181 _ A2.out).mono ?_); rintro e w' ⟨rfl, ⟨nd, rfl⟩⟩; refine ⟨_, rfl, ?_⟩) | ((with_reducible refine gC (f := 113) rfl ?_); refine goesL_ (some 11) rfl rfl Tryz.func113 (by kernel_rfl) rfl #[.string a0] rfl (by (try simp only [List.map_toArray, List.map_cons, List.map_nil]); first | done | rfl | (simp only [List.length_drop, List.length_take]; rfl)) ?_; (with_reducible refine (burinref02_number.calls k a0 t182 _ A4.out).mono ?_); rintro e w' ⟨rfl, ⟨nd, rfl⟩⟩; refine ⟨_, rfl, ?_⟩))
   go_ret2
   exact ⟨by first | rfl | (simp [eN, eS] <;> rfl) | (simp [*, eN, eS] <;> rfl), by repeat (with_reducible first | exact HB.out | apply bA | apply bQ | apply bD)⟩
  ·rw [if_neg c5] at H
   have c5b0 : decide (0 < t182) = false := decide_eq_false c5
   clear c5
   have HC6 := Az.mk H
   clear H
   go_enter Tryz.func107, Tryz.ntmps107
   go_upto_region 7 with (first | ((with_reducible refine gC (f := 112) rfl ?_); refine goesL_ (some 6) rfl rfl Tryz.func112 (by kernel_rfl) rfl #[.string a0] rfl (by (try simp only [List.map_toArray, List.map_cons, List.map_nil]); first | done | rfl | (simp only [List.length_drop, List.length_take]; rfl)) ?_; (with_reducible refine (burinref02_name.calls k a0 t181 _ A2.out).mono ?_); rintro e w' ⟨rfl, ⟨nd, rfl⟩⟩; refine ⟨_, rfl, ?_⟩) | ((with_reducible refine gC (f := 113) rfl ?_); refine goesL_ (some 11) rfl rfl Tryz.func113 (by kernel_rfl) rfl #[.string a0] rfl (by (try simp only [List.map_toArray, List.map_cons, List.map_nil]); first | done | rfl | (simp only [List.length_drop, List.length_take]; rfl)) ?_; (with_reducible refine (burinref02_number.calls k a0 t182 _ A4.out).mono ?_); rintro e w' ⟨rfl, ⟨nd, rfl⟩⟩; refine ⟨_, rfl, ?_⟩))
   (try simp only [Act.put, List.setIfInBounds_toArray, List.set_cons_zero, List.set_cons_succ])
   go_cut [22] (fun v22 wc => ∃ (kq : Nat) (x22_5 : Bool), v22 = .bool x22_5 ∧ Az (burinref02_first.j0 kq a0 x22_5 = some (r1, r2)) ∧ Az (kq ≤ k) ∧ Az (Below w.heap.size w wc))
   case first =>
    have H := HC6.out
    clear HC6
    by_cases c7 : 0 < (a0.size : Int)
    ·rw [if_pos c7] at H
     have c7b0 : decide (0 < (a0.size : Int)) = true := decide_eq_true c7
     have c7b1 : decide (0 < a0.size) = true := decide_eq_true (by omega)
     clear c7
     (first | rw [c7b0] | (simp only [i64_w, i32_w]; rw [c7b0]) | skip)
     by_cases c9 : (bt a0 0) = 39
     ·rw [if_pos c9] at H
      have c9b0 : ((bt a0 0) == 39) = true := beq_iff_eq.mpr c9
      have c9b1 : ((bt a0 0) != 39) = false := bne_eq_false_iff_eq.mpr c9
      clear c9
      have H' := Az.mk H
      clear H
      have p8 : 0 ≤ (0 : Int) := (by omega)
      have q8 : 0 < a0.size := (by have : (0 : Int) < (a0.size : Int) := od (by assumption); omega)
      have hx8 : ∀ h : 0 < a0.size, ((a0[0]'h).toNat : Int) = bt a0 0 := bt_at a0 0
      clear p8
      have qi8 : (0 < (a0.size : Int)) = True := eq_true (od (by assumption))
      replace q8 := eq_true q8
      go_wp2
      go_meet
      case rel => exact ⟨_, (true), (by first | rfl | (simp; done) | (simp [*]; done)), H', ⟨by first | omega | exact Nat.le_refl _⟩, ⟨by repeat (with_reducible first | exact HB.out | apply bA | apply bQ | apply bD)⟩⟩
     ·rw [if_neg c9] at H
      have c9b0 : ((bt a0 0) == 39) = false := beq_eq_false_iff_ne.mpr c9
      have c9b1 : ((bt a0 0) != 39) = true := bne_iff_ne.mpr c9
      have H' := Az.mk H
      clear H
      have p8 : 0 ≤ (0 : Int) := (by omega)
      have q8 : 0 < a0.size := (by have : (0 : Int) < (a0.size : Int) := od (by assumption); omega)
      have hx8 : ∀ h : 0 < a0.size, ((a0[0]'h).toNat : Int) = bt a0 0 := bt_at a0 0
      clear p8
      have qi8 : (0 < (a0.size : Int)) = True := eq_true (od (by assumption))
      replace q8 := eq_true q8
      have p10 : 0 ≤ (0 : Int) := (by omega)
      have q10 : 0 < a0.size := (by have : (0 : Int) < (a0.size : Int) := od (by assumption); omega)
      have hx10 : ∀ h : 0 < a0.size, ((a0[0]'h).toNat : Int) = bt a0 0 := bt_at a0 0
      clear p10
      have qi10 : (0 < (a0.size : Int)) = True := eq_true (od (by assumption))
      replace q10 := eq_true q10
      go_wp2
      go_meet
      case rel => exact ⟨_, (((bt a0 0) == 34)), (by first | rfl | (simp; done) | (simp [*]; done)), H', ⟨by first | omega | exact Nat.le_refl _⟩, ⟨by repeat (with_reducible first | exact HB.out | apply bA | apply bQ | apply bD)⟩⟩
    ·rw [if_neg c7] at H
     exact absurd H (by simp)
   case rest =>
    clear HC6
    try clear c1
    try clear p1
    try clear q1
    try clear hx1
    try clear qi1
    try clear p2
    try clear c3
    try clear c3b0
    try clear c5
    try clear c5b0
    try clear c7
    try clear c7b0
    try clear c7b1
    try clear p8
    try clear q8
    try clear hx8
    try clear qi8
    try clear c9
    try clear c9b0
    try clear c9b1
    try clear c10
    try clear p10
    try clear q10
    try clear hx10
    try clear qi10
    try clear p10
    try clear p8
    try clear q10
    try clear q8
    obtain ⟨kq, x22_5, rfl, HA, HJ5, HB⟩ := hcut
    cases kq with
    | zero => exact absurd HA.out (by simp [burinref02_first.j0])
    | succ kj5 =>
     have H := HA.out
     clear HA
     simp only [burinref02_first.j0] at H
     by_cases c11 : x22_5 = true
     ·subst c11
      have H1 : ((burinref02_quote.f kj5 a0).bind fun t183 => (if 0 < (a0.size : Int) then (if (bt a0 0) = 34 then (some (4, t183)) else (if t183 = 2 then (some (3, 0)) else (some (3, t183)))) else (none))) = some (r1, r2) := by rw [if_pos rfl] at H; exact H
      clear H
      have H := H1
      clear H1
      replace H := Option.bind_eq_some_iff.mp H
      obtain ⟨t183, A120, H⟩ := H
      replace H : (if 0 < (a0.size : Int) then (if (bt a0 0) = 34 then (some (4, t183)) else (if t183 = 2 then (some (3, 0)) else (some (3, t183)))) else (none)) = some (r1, r2) := H
      have A12 := Az.mk A120
      clear A120
      by_cases c13 : 0 < (a0.size : Int)
      ·rw [if_pos c13] at H
       have c13b0 : decide (0 < (a0.size : Int)) = true := decide_eq_true c13
       have c13b1 : decide (0 < a0.size) = true := decide_eq_true (by omega)
       clear c13
       by_cases c15 : (bt a0 0) = 34
       ·rw [if_pos c15] at H
        have c15b0 : ((bt a0 0) == 34) = true := beq_iff_eq.mpr c15
        have c15b1 : ((bt a0 0) != 34) = false := bne_eq_false_iff_eq.mpr c15
        clear c15
        simp only [Option.some.injEq, Prod.mk.injEq] at H
        obtain ⟨rfl, rfl⟩ := H
        go_wp2_with (first | ((with_reducible refine gC (f := 114) rfl ?_); refine goesL_ (some 24) rfl rfl Tryz.func114 (by kernel_rfl) rfl #[.string a0] rfl (by (try simp only [List.map_toArray, List.map_cons, List.map_nil]); first | done | rfl | (simp only [List.length_drop, List.length_take]; rfl)) ?_; (with_reducible refine (burinref02_quote.calls kj5 a0 t183 _ A12.out).mono ?_); rintro e w' ⟨rfl, ⟨nd, rfl⟩⟩; refine ⟨_, rfl, ?_⟩; have p14 : 0 ≤ (0 : Int) := (by omega); have q14 : 0 < a0.size := (by have : (0 : Int) < (a0.size : Int) := od (by assumption); omega); have hx14 : ∀ h : 0 < a0.size, ((a0[0]'h).toNat : Int) = bt a0 0 := bt_at a0 0; clear p14; have qi14 : (0 < (a0.size : Int)) = True := eq_true (od (by assumption)); replace q14 := eq_true q14))
        go_ret2
        exact ⟨by first | rfl | (simp [eN, eS] <;> rfl) | (simp [*, eN, eS] <;> rfl), by repeat (with_reducible first | exact HB.out | apply bA | apply bQ | apply bD)⟩
       ·rw [if_neg c15] at H
        have c15b0 : ((bt a0 0) == 34) = false := beq_eq_false_iff_ne.mpr c15
        have c15b1 : ((bt a0 0) != 34) = true := bne_iff_ne.mpr c15
        by_cases c16 : t183 = 2
        ·rw [if_pos c16] at H
         have c16b0 : (t183 == 2) = true := beq_iff_eq.mpr c16
         have c16b1 : (t183 != 2) = false := bne_eq_false_iff_eq.mpr c16
         clear c16
         simp only [Option.some.injEq, Prod.mk.injEq] at H
         obtain ⟨rfl, rfl⟩ := H
         go_wp2_with (first | ((with_reducible refine gC (f := 114) rfl ?_); refine goesL_ (some 24) rfl rfl Tryz.func114 (by kernel_rfl) rfl #[.string a0] rfl (by (try simp only [List.map_toArray, List.map_cons, List.map_nil]); first | done | rfl | (simp only [List.length_drop, List.length_take]; rfl)) ?_; (with_reducible refine (burinref02_quote.calls kj5 a0 t183 _ A12.out).mono ?_); rintro e w' ⟨rfl, ⟨nd, rfl⟩⟩; refine ⟨_, rfl, ?_⟩; have p14 : 0 ≤ (0 : Int) := (by omega); have q14 : 0 < a0.size := (by have : (0 : Int) < (a0.size : Int) := od (by assumption); omega); have hx14 : ∀ h : 0 < a0.size, ((a0[0]'h).toNat : Int) = bt a0 0 := bt_at a0 0; clear p14; have qi14 : (0 < (a0.size : Int)) = True := eq_true (od (by assumption)); replace q14 := eq_true q14))
         go_ret2
         exact ⟨by first | rfl | (simp [eN, eS] <;> rfl) | (simp [*, eN, eS] <;> rfl), by repeat (with_reducible first | exact HB.out | apply bA | apply bQ | apply bD)⟩
        ·rw [if_neg c16] at H
         have c16b0 : (t183 == 2) = false := beq_eq_false_iff_ne.mpr c16
         have c16b1 : (t183 != 2) = true := bne_iff_ne.mpr c16
         simp only [Option.some.injEq, Prod.mk.injEq] at H
         obtain ⟨rfl, rfl⟩ := H
         go_wp2_with (first | ((with_reducible refine gC (f := 114) rfl ?_); refine goesL_ (some 24) rfl rfl Tryz.func114 (by kernel_rfl) rfl #[.string a0] rfl (by (try simp only [List.map_toArray, List.map_cons, List.map_nil]); first | done | rfl | (simp only [List.length_drop, List.length_take]; rfl)) ?_; (with_reducible refine (burinref02_quote.calls kj5 a0 t183 _ A12.out).mono ?_); rintro e w' ⟨rfl, ⟨nd, rfl⟩⟩; refine ⟨_, rfl, ?_⟩; have p14 : 0 ≤ (0 : Int) := (by omega); have q14 : 0 < a0.size := (by have : (0 : Int) < (a0.size : Int) := od (by assumption); omega); have hx14 : ∀ h : 0 < a0.size, ((a0[0]'h).toNat : Int) = bt a0 0 := bt_at a0 0; clear p14; have qi14 : (0 < (a0.size : Int)) = True := eq_true (od (by assumption)); replace q14 := eq_true q14))
         go_ret2
         exact ⟨by first | rfl | (simp [eN, eS] <;> rfl) | (simp [*, eN, eS] <;> rfl), by repeat (with_reducible first | exact HB.out | apply bA | apply bQ | apply bD)⟩
      ·rw [if_neg c13] at H
       exact absurd H (by simp)
     ·replace c11 := Bool.eq_false_iff.mpr c11
      subst c11
      have H1 : ((burinref02_sign.f kj5 a0).bind fun t184 => (if t184 > 0 then (some (5, t184)) else (some (6, 1)))) = some (r1, r2) := by rw [if_neg (show ¬ (false = true) by decide)] at H; exact H
      clear H
      have H := H1
      clear H1
      replace H := Option.bind_eq_some_iff.mp H
      obtain ⟨t184, A170, H⟩ := H
      replace H : (if t184 > 0 then (some (5, t184)) else (some (6, 1))) = some (r1, r2) := H
      have A17 := Az.mk A170
      clear A170
      by_cases c18 : t184 > 0
      ·rw [if_pos c18] at H
       have c18b0 : decide (0 < t184) = true := decide_eq_true c18
       clear c18
       simp only [Option.some.injEq, Prod.mk.injEq] at H
       obtain ⟨rfl, rfl⟩ := H
       go_wp2_with (first | ((with_reducible refine gC (f := 115) rfl ?_); refine goesL_ (some 33) rfl rfl Tryz.func115 (by kernel_rfl) rfl #[.string a0] rfl (by (try simp only [List.map_toArray, List.map_cons, List.map_nil]); first | done | rfl | (simp only [List.length_drop, List.length_take]; rfl)) ?_; (with_reducible refine (burinref02_sign.calls kj5 a0 t184 _ A17.out).mono ?_); rintro e w19 ⟨rfl, hb⟩; refine ⟨_, rfl, ?_⟩; have n0_ := Az.mk (bP (by repeat (with_reducible first | exact HB.out | apply bA | apply bQ | apply bD)) hb); clear HB; have HB := n0_; clear n0_; (try clear hb); (try clear hb2); (try clear hk); (try clear hi)))
       go_ret2
       exact ⟨by first | rfl | (simp [eN, eS] <;> rfl) | (simp [*, eN, eS] <;> rfl), by repeat (with_reducible first | exact HB.out | apply bA | apply bQ | apply bD)⟩
      ·rw [if_neg c18] at H
       have c18b0 : decide (0 < t184) = false := decide_eq_false c18
       clear c18
       simp only [Option.some.injEq, Prod.mk.injEq] at H
       obtain ⟨rfl, rfl⟩ := H
       go_wp2_with (first | ((with_reducible refine gC (f := 115) rfl ?_); refine goesL_ (some 33) rfl rfl Tryz.func115 (by kernel_rfl) rfl #[.string a0] rfl (by (try simp only [List.map_toArray, List.map_cons, List.map_nil]); first | done | rfl | (simp only [List.length_drop, List.length_take]; rfl)) ?_; (with_reducible refine (burinref02_sign.calls kj5 a0 t184 _ A17.out).mono ?_); rintro e w20 ⟨rfl, hb⟩; refine ⟨_, rfl, ?_⟩; have n0_ := Az.mk (bP (by repeat (with_reducible first | exact HB.out | apply bA | apply bQ | apply bD)) hb); clear HB; have HB := n0_; clear n0_; (try clear hb); (try clear hb2); (try clear hk); (try clear hi)))
       go_ret2
       exact ⟨by first | rfl | (simp [eN, eS] <;> rfl) | (simp [*, eN, eS] <;> rfl), by repeat (with_reducible first | exact HB.out | apply bA | apply bQ | apply bD)⟩
end Go.Proofs.YtcbfbefpbjmglaaGreatDoor.PA
