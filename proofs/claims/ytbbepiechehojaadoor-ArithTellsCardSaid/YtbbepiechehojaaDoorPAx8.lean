-- Printed by a program of this repo's wip/tools (a variant of the kit's print): Lean checks it.
import Derived.Test.YtbbepiechehojaaDoorPAx0
import Derived.Test.YtbbepiechehojaaDoorPAx2
import Derived.Test.YtbbepiechehojaaDoorPAx3
import Derived.Test.YtbbepiechehojaaDoorPAx5
import Derived.Test.YtbbepiechehojaaDoorPAx6
import Derived.Test.YtbbepiechehojaaDoorPAx7
namespace Go.Proofs.YtbbepiechehojaaDoor.PA
open Go.RowKit Go.Proofs.YtbbepiechehojaaDoorX Go.Proofs.YtbbepiechehojaaDoorW.PrintWords Go.Proofs.YtbbepiechehojaaDoorW.PrintLast Go.Proofs.YtbbepiechehojaaDoorW.PrintMore
attribute [local go_sem] max2_int min2_int max_two min_two max_three min_three max_four min_four   -- for this text's walks alone
set_option linter.unusedVariables false
set_option linter.unusedSimpArgs false

/-! ### arith_Two: function 11 -/
mutual
def arith_Two.j0 : Nat → Int → Int → Int → Int → Int → Int → Option (Int × Int × Int)
  | 0, _, _, _, _, _, _ => none
  | k + 1, x0, x13, x215000, x215001, x216000, x216001 => (arith_undefined.f k x0 x13 x215000 x215001 x216000 x216001).bind fun t221 => (if t221 = true then (some (0, 0, 90)) else ((arith_isTruth.f x0).bind fun t222 => (if t222 = true then ((arith_made.f k x0 x215000 x215001 x216000 x216001).bind fun bt223 => (some (wrap64 (bt223.2), 5, 0))) else ((arith_isShift.f x0).bind fun t226 => (if t226 = true then ((arith_shifted.f x0 x215000 x215001 (wrap64 (x216001))).bind fun bt227 => (arith_Two.j1 k x13 bt227.1 bt227.2)) else ((arith_made.f k x0 x215000 x215001 x216000 x216001).bind fun bt229 => (arith_Two.j1 k x13 bt229.1 bt229.2)))))))
def arith_Two.j1 : Nat → Int → Int → Int → Option (Int × Int × Int)
  | 0, _, _, _ => none
  | k + 1, x13, x226000, x226001 => (arith_narrow.f x226000 x226001 x13).bind fun bt231 => (if bt231.2 = true then (some (bt231.1, x13, 0)) else ((kind_Unsigned.f x13).bind fun t233 => (if t233 = true then (some (bt231.1, x13, 0)) else (some (0, 0, 90)))))
end
def arith_Two.f (k : Nat) (a0 : Int) (a1 : Int) (a2 : Int) (a3 : Int) (a4 : Int) : Option (Int × Int × Int) := (arith_Binary.f a0).bind fun t203 => (if t203 = true then ((kind_Lies.f a1 a2).bind fun t204 => (if t204 = true then ((kind_Lies.f a3 a4).bind fun t205 => (if t205 = true then ((arith_in.f a0 a2 a4).bind fun bt206 => ((kind_To.f a1 bt206.1).bind fun bt208 => ((arith_of.f bt208.1 bt206.1).bind fun bt210 => ((arith_of.f a3 a4).bind fun bt212 => ((arith_isShift.f a0).bind fun t216 => (if t216 = true then (arith_Two.j0 k a0 bt206.1 bt210.1 bt210.2 bt212.1 bt212.2) else ((kind_To.f a3 bt206.1).bind fun bt217 => ((arith_of.f bt217.1 bt206.1).bind fun bt219 => (arith_Two.j0 k a0 bt206.1 bt210.1 bt210.2 bt219.1 bt219.2))))))))) else (some (0, 0, 80)))) else (some (0, 0, 80)))) else (some (0, 0, 2)))
theorem arith_Two.mono_l : ∀ k, (∀ y0 y1 y2 y3 y4 y5, LeO (arith_Two.j0 k y0 y1 y2 y3 y4 y5) (arith_Two.j0 (k + 1) y0 y1 y2 y3 y4 y5)) ∧ (∀ y0 y1 y2, LeO (arith_Two.j1 k y0 y1 y2) (arith_Two.j1 (k + 1) y0 y1 y2))
  | 0 => ⟨fun _ _ _ _ _ _ r h => by simp [arith_Two.j0] at h, fun _ _ _ r h => by simp [arith_Two.j1] at h⟩
  | k + 1 => by
    obtain ⟨ih0, ih1⟩ := arith_Two.mono_l k
    refine ⟨?_, ?_⟩
    · intro y0 y1 y2 y3 y4 y5
      unfold arith_Two.j0
      repeat' first
      | (with_reducible exact ih0 _ _ _ _ _ _)
      | (with_reducible exact ih1 _ _ _)
      | (with_reducible exact arith_made.mono _ _ _ _ _ _)
      | (with_reducible exact arith_undefined.mono _ _ _ _ _ _ _)
      | (with_reducible exact LeO.refl _)
      | (with_reducible exact LeO.none _)
      | (with_reducible refine LeO.ite ?_ ?_)
      | (with_reducible refine LeO.bind ?_ (fun _ => ?_))
      | exact ih0 _ _ _ _ _ _
      | exact ih1 _ _ _
      | exact arith_made.mono _ _ _ _ _ _
      | exact arith_undefined.mono _ _ _ _ _ _ _
      | exact LeO.none _
      | refine LeO.ite ?_ ?_
      | refine LeO.bind ?_ (fun _ => ?_)
    · intro y0 y1 y2
      unfold arith_Two.j1
      repeat' first
      | (with_reducible exact ih0 _ _ _ _ _ _)
      | (with_reducible exact ih1 _ _ _)
      | (with_reducible exact arith_made.mono _ _ _ _ _ _)
      | (with_reducible exact arith_undefined.mono _ _ _ _ _ _ _)
      | (with_reducible exact LeO.refl _)
      | (with_reducible exact LeO.none _)
      | (with_reducible refine LeO.ite ?_ ?_)
      | (with_reducible refine LeO.bind ?_ (fun _ => ?_))
      | exact ih0 _ _ _ _ _ _
      | exact ih1 _ _ _
      | exact arith_made.mono _ _ _ _ _ _
      | exact arith_undefined.mono _ _ _ _ _ _ _
      | exact LeO.none _
      | refine LeO.ite ?_ ?_
      | refine LeO.bind ?_ (fun _ => ?_)
theorem arith_Two.mono : ∀ a0 a1 a2 a3 a4 k, LeO (arith_Two.f k a0 a1 a2 a3 a4) (arith_Two.f (k + 1) a0 a1 a2 a3 a4) := by
  intro a0 a1 a2 a3 a4 k
  obtain ⟨ih0, ih1⟩ := arith_Two.mono_l k
  unfold arith_Two.f
  repeat' first
      | (with_reducible exact ih0 _ _ _ _ _ _)
      | (with_reducible exact ih1 _ _ _)
      | (with_reducible exact arith_made.mono _ _ _ _ _ _)
      | (with_reducible exact arith_undefined.mono _ _ _ _ _ _ _)
      | (with_reducible exact LeO.refl _)
      | (with_reducible exact LeO.none _)
      | (with_reducible refine LeO.ite ?_ ?_)
      | (with_reducible refine LeO.bind ?_ (fun _ => ?_))
      | exact ih0 _ _ _ _ _ _
      | exact ih1 _ _ _
      | exact arith_made.mono _ _ _ _ _ _
      | exact arith_undefined.mono _ _ _ _ _ _ _
      | exact LeO.none _
      | refine LeO.ite ?_ ?_
      | refine LeO.bind ?_ (fun _ => ?_)
set_option maxHeartbeats 8000000 in
set_option maxRecDepth 100000 in
theorem arith_Two.calls (k : Nat) (a0 : Int) (a1 : Int) (a2 : Int) (a3 : Int) (a4 : Int) (r1 : Int) (r2 : Int) (r3 : Int) (w : World) (h : arith_Two.f k a0 a1 a2 a3 a4 = some (r1, r2, r3)) :
    Calls Tryd.prog 11 #[.int .i64 a0, .int .i64 a1, .int .i64 a2, .int .i64 a3, .int .i64 a4] w fun e w' => e = .returned (.tuple #[.int .i64 r1, .int .i64 r2, .int .i64 r3]) ∧ Below w.heap.size w w' := by
  have hu37 := Tryd.underlying37
  have HB := Aside0.mk (Below.refl w.heap.size w)
  have H : ((arith_Binary.f a0).bind fun t203 => (if t203 = true then ((kind_Lies.f a1 a2).bind fun t204 => (if t204 = true then ((kind_Lies.f a3 a4).bind fun t205 => (if t205 = true then ((arith_in.f a0 a2 a4).bind fun bt206 => ((kind_To.f a1 bt206.1).bind fun bt208 => ((arith_of.f bt208.1 bt206.1).bind fun bt210 => ((arith_of.f a3 a4).bind fun bt212 => ((arith_isShift.f a0).bind fun t216 => (if t216 = true then (arith_Two.j0 k a0 bt206.1 bt210.1 bt210.2 bt212.1 bt212.2) else ((kind_To.f a3 bt206.1).bind fun bt217 => ((arith_of.f bt217.1 bt206.1).bind fun bt219 => (arith_Two.j0 k a0 bt206.1 bt210.1 bt210.2 bt219.1 bt219.2))))))))) else (some (0, 0, 80)))) else (some (0, 0, 80)))) else (some (0, 0, 2)))) = some (r1, r2, r3) := h
  clear h
  replace H := Option.bind_eq_some_iff.mp H
  obtain ⟨t203, A60, H⟩ := H
  replace H : (if t203 = true then ((kind_Lies.f a1 a2).bind fun t204 => (if t204 = true then ((kind_Lies.f a3 a4).bind fun t205 => (if t205 = true then ((arith_in.f a0 a2 a4).bind fun bt206 => ((kind_To.f a1 bt206.1).bind fun bt208 => ((arith_of.f bt208.1 bt206.1).bind fun bt210 => ((arith_of.f a3 a4).bind fun bt212 => ((arith_isShift.f a0).bind fun t216 => (if t216 = true then (arith_Two.j0 k a0 bt206.1 bt210.1 bt210.2 bt212.1 bt212.2) else ((kind_To.f a3 bt206.1).bind fun bt217 => ((arith_of.f bt217.1 bt206.1).bind fun bt219 => (arith_Two.j0 k a0 bt206.1 bt210.1 bt210.2 bt219.1 bt219.2))))))))) else (some (0, 0, 80)))) else (some (0, 0, 80)))) else (some (0, 0, 2))) = some (r1, r2, r3) := H
  have A6 := Aside0.mk A60
  clear A60
  by_cases c7 : t203 = true
  · subst c7
    have H1 : ((kind_Lies.f a1 a2).bind fun t204 => (if t204 = true then ((kind_Lies.f a3 a4).bind fun t205 => (if t205 = true then ((arith_in.f a0 a2 a4).bind fun bt206 => ((kind_To.f a1 bt206.1).bind fun bt208 => ((arith_of.f bt208.1 bt206.1).bind fun bt210 => ((arith_of.f a3 a4).bind fun bt212 => ((arith_isShift.f a0).bind fun t216 => (if t216 = true then (arith_Two.j0 k a0 bt206.1 bt210.1 bt210.2 bt212.1 bt212.2) else ((kind_To.f a3 bt206.1).bind fun bt217 => ((arith_of.f bt217.1 bt206.1).bind fun bt219 => (arith_Two.j0 k a0 bt206.1 bt210.1 bt210.2 bt219.1 bt219.2))))))))) else (some (0, 0, 80)))) else (some (0, 0, 80)))) = some (r1, r2, r3) := by rw [if_pos rfl] at H; exact H
    clear H
    have H := H1
    clear H1
    replace H := Option.bind_eq_some_iff.mp H
    obtain ⟨t204, A80, H⟩ := H
    replace H : (if t204 = true then ((kind_Lies.f a3 a4).bind fun t205 => (if t205 = true then ((arith_in.f a0 a2 a4).bind fun bt206 => ((kind_To.f a1 bt206.1).bind fun bt208 => ((arith_of.f bt208.1 bt206.1).bind fun bt210 => ((arith_of.f a3 a4).bind fun bt212 => ((arith_isShift.f a0).bind fun t216 => (if t216 = true then (arith_Two.j0 k a0 bt206.1 bt210.1 bt210.2 bt212.1 bt212.2) else ((kind_To.f a3 bt206.1).bind fun bt217 => ((arith_of.f bt217.1 bt206.1).bind fun bt219 => (arith_Two.j0 k a0 bt206.1 bt210.1 bt210.2 bt219.1 bt219.2))))))))) else (some (0, 0, 80)))) else (some (0, 0, 80))) = some (r1, r2, r3) := H
    have A8 := Aside0.mk A80
    clear A80
    by_cases c9 : t204 = true
    · subst c9
      have H1 : ((kind_Lies.f a3 a4).bind fun t205 => (if t205 = true then ((arith_in.f a0 a2 a4).bind fun bt206 => ((kind_To.f a1 bt206.1).bind fun bt208 => ((arith_of.f bt208.1 bt206.1).bind fun bt210 => ((arith_of.f a3 a4).bind fun bt212 => ((arith_isShift.f a0).bind fun t216 => (if t216 = true then (arith_Two.j0 k a0 bt206.1 bt210.1 bt210.2 bt212.1 bt212.2) else ((kind_To.f a3 bt206.1).bind fun bt217 => ((arith_of.f bt217.1 bt206.1).bind fun bt219 => (arith_Two.j0 k a0 bt206.1 bt210.1 bt210.2 bt219.1 bt219.2))))))))) else (some (0, 0, 80)))) = some (r1, r2, r3) := by rw [if_pos rfl] at H; exact H
      clear H
      have H := H1
      clear H1
      replace H := Option.bind_eq_some_iff.mp H
      obtain ⟨t205, A100, H⟩ := H
      replace H : (if t205 = true then ((arith_in.f a0 a2 a4).bind fun bt206 => ((kind_To.f a1 bt206.1).bind fun bt208 => ((arith_of.f bt208.1 bt206.1).bind fun bt210 => ((arith_of.f a3 a4).bind fun bt212 => ((arith_isShift.f a0).bind fun t216 => (if t216 = true then (arith_Two.j0 k a0 bt206.1 bt210.1 bt210.2 bt212.1 bt212.2) else ((kind_To.f a3 bt206.1).bind fun bt217 => ((arith_of.f bt217.1 bt206.1).bind fun bt219 => (arith_Two.j0 k a0 bt206.1 bt210.1 bt210.2 bt219.1 bt219.2))))))))) else (some (0, 0, 80))) = some (r1, r2, r3) := H
      have A10 := Aside0.mk A100
      clear A100
      by_cases c11 : t205 = true
      · subst c11
        have H1 : ((arith_in.f a0 a2 a4).bind fun bt206 => ((kind_To.f a1 bt206.1).bind fun bt208 => ((arith_of.f bt208.1 bt206.1).bind fun bt210 => ((arith_of.f a3 a4).bind fun bt212 => ((arith_isShift.f a0).bind fun t216 => (if t216 = true then (arith_Two.j0 k a0 bt206.1 bt210.1 bt210.2 bt212.1 bt212.2) else ((kind_To.f a3 bt206.1).bind fun bt217 => ((arith_of.f bt217.1 bt206.1).bind fun bt219 => (arith_Two.j0 k a0 bt206.1 bt210.1 bt210.2 bt219.1 bt219.2))))))))) = some (r1, r2, r3) := by rw [if_pos rfl] at H; exact H
        clear H
        have H := H1
        clear H1
        replace H := Option.bind_eq_some_iff.mp H
        obtain ⟨⟨t206, t207⟩, A120, H⟩ := H
        replace H : ((kind_To.f a1 t206).bind fun bt208 => ((arith_of.f bt208.1 t206).bind fun bt210 => ((arith_of.f a3 a4).bind fun bt212 => ((arith_isShift.f a0).bind fun t216 => (if t216 = true then (arith_Two.j0 k a0 t206 bt210.1 bt210.2 bt212.1 bt212.2) else ((kind_To.f a3 t206).bind fun bt217 => ((arith_of.f bt217.1 t206).bind fun bt219 => (arith_Two.j0 k a0 t206 bt210.1 bt210.2 bt219.1 bt219.2)))))))) = some (r1, r2, r3) := H
        have A12 := Aside0.mk A120
        clear A120
        replace H := Option.bind_eq_some_iff.mp H
        obtain ⟨⟨t208, t209⟩, A130, H⟩ := H
        replace H : ((arith_of.f t208 t206).bind fun bt210 => ((arith_of.f a3 a4).bind fun bt212 => ((arith_isShift.f a0).bind fun t216 => (if t216 = true then (arith_Two.j0 k a0 t206 bt210.1 bt210.2 bt212.1 bt212.2) else ((kind_To.f a3 t206).bind fun bt217 => ((arith_of.f bt217.1 t206).bind fun bt219 => (arith_Two.j0 k a0 t206 bt210.1 bt210.2 bt219.1 bt219.2))))))) = some (r1, r2, r3) := H
        have A13 := Aside0.mk A130
        clear A130
        replace H := Option.bind_eq_some_iff.mp H
        obtain ⟨⟨t210, t211⟩, A140, H⟩ := H
        replace H : ((arith_of.f a3 a4).bind fun bt212 => ((arith_isShift.f a0).bind fun t216 => (if t216 = true then (arith_Two.j0 k a0 t206 t210 t211 bt212.1 bt212.2) else ((kind_To.f a3 t206).bind fun bt217 => ((arith_of.f bt217.1 t206).bind fun bt219 => (arith_Two.j0 k a0 t206 t210 t211 bt219.1 bt219.2)))))) = some (r1, r2, r3) := H
        have A14 := Aside0.mk A140
        clear A140
        replace H := Option.bind_eq_some_iff.mp H
        obtain ⟨⟨t212, t213⟩, A150, H⟩ := H
        replace H : ((arith_isShift.f a0).bind fun t216 => (if t216 = true then (arith_Two.j0 k a0 t206 t210 t211 t212 t213) else ((kind_To.f a3 t206).bind fun bt217 => ((arith_of.f bt217.1 t206).bind fun bt219 => (arith_Two.j0 k a0 t206 t210 t211 bt219.1 bt219.2))))) = some (r1, r2, r3) := H
        have A15 := Aside0.mk A150
        clear A150
        replace H := Option.bind_eq_some_iff.mp H
        obtain ⟨t216, A160, H⟩ := H
        replace H : (if t216 = true then (arith_Two.j0 k a0 t206 t210 t211 t212 t213) else ((kind_To.f a3 t206).bind fun bt217 => ((arith_of.f bt217.1 t206).bind fun bt219 => (arith_Two.j0 k a0 t206 t210 t211 bt219.1 bt219.2)))) = some (r1, r2, r3) := H
        have A16 := Aside0.mk A160
        clear A160
        have HC17 := Aside0.mk H
        clear H
        go_enter Tryd.func11, Tryd.ntmps11
        go_upto_if 56 with (first | ((with_reducible refine gate_callee (f := 7) rfl ?_); refine goesL_ (some 22) rfl rfl Tryd.func7 (by kernel_rfl) rfl #[.int .i64 a0] rfl (by (try simp only [List.map_toArray, List.map_cons, List.map_nil]); first | done | rfl | (simp only [List.length_drop, List.length_take]; rfl)) ?_; (with_reducible refine (arith_Binary.calls a0 true _ A6.out).mono ?_); rintro e w' ⟨rfl, ⟨nd, rfl⟩⟩; refine ⟨_, rfl, ?_⟩) | ((with_reducible refine gate_callee (f := 18) rfl ?_); refine goesL_ (some 27) rfl rfl Tryd.func18 (by kernel_rfl) rfl #[.int .i64 a1, .int .i64 a2] rfl (by (try simp only [List.map_toArray, List.map_cons, List.map_nil]); first | done | rfl | (simp only [List.length_drop, List.length_take]; rfl)) ?_; (with_reducible refine (kind_Lies.calls a1 a2 true _ A8.out).mono ?_); rintro e w' ⟨rfl, ⟨nd, rfl⟩⟩; refine ⟨_, rfl, ?_⟩) | (go_at_call 18; (with_reducible refine (kind_Lies.calls a3 a4 true _ A10.out).mono ?_); rintro e w' ⟨rfl, ⟨nd, rfl⟩⟩) | ((with_reducible refine gate_callee (f := 13) rfl ?_); refine goesL_ (some 39) rfl rfl Tryd.func13 (by kernel_rfl) rfl #[.int .i64 a0, .int .i64 a2, .int .i64 a4] rfl (by (try simp only [List.map_toArray, List.map_cons, List.map_nil]); first | done | rfl | (simp only [List.length_drop, List.length_take]; rfl)) ?_; (with_reducible refine (arith_in.calls a0 a2 a4 t206 t207 _ A12.out).mono ?_); rintro e w18 ⟨rfl, hb⟩; refine ⟨_, rfl, ?_⟩; have n0_ := Aside0.mk (below_step (by repeat (first | (with_reducible first | exact HB.out | apply below_alloc | apply pw_below_drewN | apply below_drew1) | exact HB.out)) hb); clear HB; have HB := n0_; clear n0_; (try clear hb); (try clear hb2); (try clear hk); (try clear hi)) | ((with_reducible refine gate_callee (f := 19) rfl ?_); refine goesL_ (some 45) rfl rfl Tryd.func19 (by kernel_rfl) rfl #[.int .i64 a1, .int .i64 t206] rfl (by (try simp only [List.map_toArray, List.map_cons, List.map_nil]); first | done | rfl | (simp only [List.length_drop, List.length_take]; rfl)) ?_; (with_reducible refine (kind_To.calls a1 t206 t208 t209 _ A13.out).mono ?_); rintro e w' ⟨rfl, ⟨nd, rfl⟩⟩; refine ⟨_, rfl, ?_⟩; (try (rw [drewN_self w18]; generalize hq_ : World.drewN w18 _ = w18; have n0_ : Aside0 (Below w.heap.size w w18) := ⟨by rw [← hq_]; exact (by repeat (first | (with_reducible first | exact HB.out | apply below_alloc | apply pw_below_drewN | apply below_drew1) | exact HB.out))⟩; clear HB hq_; have HB := n0_; clear n0_))) | ((with_reducible refine gate_callee (f := 20) rfl ?_); refine goesL_ (some 50) rfl rfl Tryd.func20 (by kernel_rfl) rfl #[.int .i64 t208, .int .i64 t206] rfl (by (try simp only [List.map_toArray, List.map_cons, List.map_nil]); first | done | rfl | (simp only [List.length_drop, List.length_take]; rfl)) ?_; (with_reducible refine (arith_of.calls t208 t206 t210 t211 _ A14.out).mono ?_); rintro e w19 ⟨rfl, hb⟩; refine ⟨_, rfl, ?_⟩; have n0_ := Aside0.mk (below_step (by repeat (first | (with_reducible first | exact HB.out | apply below_alloc | apply pw_below_drewN | apply below_drew1) | exact HB.out)) hb); clear HB; have HB := n0_; clear n0_; (try clear hb); (try clear hb2); (try clear hk); (try clear hi)) | ((with_reducible refine gate_callee (f := 20) rfl ?_); refine goesL_ (some 53) rfl rfl Tryd.func20 (by kernel_rfl) rfl #[.int .i64 a3, .int .i64 a4] rfl (by (try simp only [List.map_toArray, List.map_cons, List.map_nil]); first | done | rfl | (simp only [List.length_drop, List.length_take]; rfl)) ?_; (with_reducible refine (arith_of.calls a3 a4 t212 t213 _ A15.out).mono ?_); rintro e w20 ⟨rfl, hb⟩; refine ⟨_, rfl, ?_⟩; have n0_ := Aside0.mk (below_step (by repeat (first | (with_reducible first | exact HB.out | apply below_alloc | apply pw_below_drewN | apply below_drew1) | exact HB.out)) hb); clear HB; have HB := n0_; clear n0_; (try clear hb); (try clear hb2); (try clear hk); (try clear hi)) | ((with_reducible refine gate_dst (N := 15) rfl ?_); refine box_event ?hg (N := 15) ?hd (cs := #[.int .i64 0, .int .u64 0]) (t := 37) ?hr ?_; (case hd => rfl); (case hg => rfl); (case hr => first | (go_simp; done) | (go_simp; rfl)); intro gb214 hg w21 hbox hb; have n0_ := Aside0.mk (below_step (by repeat (first | (with_reducible first | exact HB.out | apply below_alloc | apply pw_below_drewN | apply below_drew1) | exact HB.out)) hb); have n1_ := Aside0.mk (hbox); have n2_ := Aside0.mk ((by rw [hg]; exact (below_size (by repeat (first | (with_reducible first | exact HB.out | apply below_alloc | apply pw_below_drewN | apply below_drew1) | exact HB.out))) : w.heap.size ≤ gb214)); have n3_ := Aside0.mk ((by rw [hg]; exact (below_size (by repeat (first | (with_reducible first | exact HB.out | apply below_alloc | apply pw_below_drewN | apply below_drew1) | exact HB.out))) : w.heap.size ≤ gb214)); clear HB; have HB := n0_; have BK214 := n1_; have GW214 := n2_; have GE214 := n3_; clear n0_ n1_ n2_ n3_; clear hb hbox hg) | ((with_reducible refine gate_dst (N := 16) rfl ?_); refine box_event ?hg (N := 16) ?hd (cs := #[.int .i64 0, .int .u64 0]) (t := 37) ?hr ?_; (case hd => rfl); (case hg => rfl); (case hr => first | (go_simp; done) | (go_simp; rfl)); intro gb215 hg w22 hbox hb; have n0_ := Aside0.mk (blk_below (g := gb214) (o := .cells #[.int .i64 0, .int .u64 0] 37 (0, 0)) (by (with_reducible repeat (first | refine blk_drewN ?_ _ | refine blk_drew ?_ | refine blk_alloc ?_ _)); exact BK214.out) hb); have n1_ := Aside0.mk (below_step (by repeat (first | (with_reducible first | exact HB.out | apply below_alloc | apply pw_below_drewN | apply below_drew1 | refine below_set ?_ GE214.out) | exact HB.out)) hb); have n2_ := Aside0.mk (hbox); have n3_ := Aside0.mk ((by rw [hg]; exact (below_size (by repeat (first | (with_reducible first | exact HB.out | apply below_alloc | apply pw_below_drewN | apply below_drew1 | refine below_set ?_ GE214.out) | exact HB.out))) : w.heap.size ≤ gb215)); have n4_ := Aside0.mk ((by rw [hg]; exact (below_size (by repeat (first | (with_reducible first | exact HB.out | apply below_alloc | apply pw_below_drewN | apply below_drew1 | refine below_set ?_ GE214.out) | exact HB.out))) : w.heap.size ≤ gb215)); have n5_ := Aside0.mk ((by rw [hg]; exact Nat.ne_of_lt (blk_lt (g := gb214) (o := .cells #[.int .i64 0, .int .u64 0] 37 (0, 0)) (by (with_reducible repeat (first | refine blk_drewN ?_ _ | refine blk_drew ?_ | refine blk_alloc ?_ _)); exact BK214.out)) : gb214 ≠ gb215)); have n6_ := Aside0.mk ((by rw [hg]; exact Nat.ne_of_gt (blk_lt (g := gb214) (o := .cells #[.int .i64 0, .int .u64 0] 37 (0, 0)) (by (with_reducible repeat (first | refine blk_drewN ?_ _ | refine blk_drew ?_ | refine blk_alloc ?_ _)); exact BK214.out)) : gb215 ≠ gb214)); clear BK214; clear HB; have BK214 := n0_; have HB := n1_; have BK215 := n2_; have GW215 := n3_; have GE215 := n4_; have NB214_215 := n5_; have NB215_214 := n6_; clear n0_ n1_ n2_ n3_ n4_ n5_ n6_; clear hb hbox hg; have hnb23 := NB214_215.out; have hnc23 := NB215_214.out; have hcz24_0 : w22.cell? ⟨gb214, 0, none⟩ = some (.int .i64 0) := (blk_cell BK214.out 0).trans rfl; have hcz24_1 : w22.cell? ⟨gb214, 1, none⟩ = some (.int .u64 0) := (blk_cell BK214.out 1).trans rfl; have hfz24_0 := blk_frozen BK214.out 0; have hfz24_1 := blk_frozen BK214.out 1; have hcz25_0 : w22.cell? ⟨gb215, 0, none⟩ = some (.int .i64 0) := (blk_cell BK215.out 0).trans rfl; have hcz25_1 : w22.cell? ⟨gb215, 1, none⟩ = some (.int .u64 0) := (blk_cell BK215.out 1).trans rfl; have hfz25_0 := blk_frozen BK215.out 0; have hfz25_1 := blk_frozen BK215.out 1) | ((with_reducible refine gate_callee (f := 21) rfl ?_); refine goesL_ (some 55) rfl rfl Tryd.func21 (by kernel_rfl) rfl #[.int .i64 a0] rfl (by (try simp only [List.map_toArray, List.map_cons, List.map_nil]); first | done | rfl | (simp only [List.length_drop, List.length_take]; rfl)) ?_; (with_reducible refine (arith_isShift.calls a0 t216 _ A16.out).mono ?_); rintro e w' ⟨rfl, ⟨nd, rfl⟩⟩; refine ⟨_, rfl, ?_⟩))
        (try simp only [Act.put, List.setIfInBounds_toArray, List.set_cons_zero, List.set_cons_succ])
        go_cut [] (fun wc => ∃ (kq : Nat) (x216000_16 : Int) (x216001_16 : Int), Aside0 (arith_Two.j0 kq a0 t206 t210 t211 x216000_16 x216001_16 = some (r1, r2, r3)) ∧ Aside0 (kq ≤ k) ∧ Aside0 (wc.heap[gb214]? = some (.cells #[.int .i64 t210, .int .u64 t211] 37 (0, 0))) ∧ Aside0 (wc.heap[gb215]? = some (.cells #[.int .i64 x216000_16, .int .u64 x216001_16] 37 (0, 0))) ∧ Aside0 (Below w.heap.size w wc))
        case first =>
          have H := HC17.out
          clear HC17
          by_cases c26 : t216 = true
          · subst c26
            have H1 : (arith_Two.j0 k a0 t206 t210 t211 t212 t213) = some (r1, r2, r3) := by rw [if_pos rfl] at H; exact H
            clear H
            have H := H1
            clear H1
            have H' := Aside0.mk H
            clear H
            go_wp2
            go_meet
            case rel => exact ⟨_, (t212), (t213), H', ⟨by first | omega | exact Nat.le_refl _⟩, ⟨by (with_reducible repeat (first | refine blk_drewN ?_ _ | refine blk_drew ?_ | refine blk_alloc ?_ _)); refine blk_far ?_ NB214_215.out _; (with_reducible repeat (first | refine blk_drewN ?_ _ | refine blk_drew ?_ | refine blk_alloc ?_ _)); refine blk_far ?_ NB214_215.out _; (with_reducible repeat (first | refine blk_drewN ?_ _ | refine blk_drew ?_ | refine blk_alloc ?_ _)); refine blk_put (cs := #[.int .i64 t210, .int .u64 0]) ?_ 1 _ rfl; (with_reducible repeat (first | refine blk_drewN ?_ _ | refine blk_drew ?_ | refine blk_alloc ?_ _)); refine blk_put (cs := #[.int .i64 0, .int .u64 0]) ?_ 0 _ rfl; (with_reducible repeat (first | refine blk_drewN ?_ _ | refine blk_drew ?_ | refine blk_alloc ?_ _)); exact BK214.out⟩, ⟨by (with_reducible repeat (first | refine blk_drewN ?_ _ | refine blk_drew ?_ | refine blk_alloc ?_ _)); refine blk_put (cs := #[.int .i64 t212, .int .u64 0]) ?_ 1 _ rfl; (with_reducible repeat (first | refine blk_drewN ?_ _ | refine blk_drew ?_ | refine blk_alloc ?_ _)); refine blk_put (cs := #[.int .i64 0, .int .u64 0]) ?_ 0 _ rfl; (with_reducible repeat (first | refine blk_drewN ?_ _ | refine blk_drew ?_ | refine blk_alloc ?_ _)); refine blk_far ?_ NB215_214.out _; (with_reducible repeat (first | refine blk_drewN ?_ _ | refine blk_drew ?_ | refine blk_alloc ?_ _)); refine blk_far ?_ NB215_214.out _; (with_reducible repeat (first | refine blk_drewN ?_ _ | refine blk_drew ?_ | refine blk_alloc ?_ _)); exact BK215.out⟩, ⟨by repeat (first | (with_reducible first | exact HB.out | apply below_alloc | apply pw_below_drewN | apply below_drew1 | refine below_set ?_ GE214.out | refine below_set ?_ GE215.out) | exact HB.out)⟩⟩
          · replace c26 := Bool.eq_false_iff.mpr c26
            subst c26
            have H1 : ((kind_To.f a3 t206).bind fun bt217 => ((arith_of.f bt217.1 t206).bind fun bt219 => (arith_Two.j0 k a0 t206 t210 t211 bt219.1 bt219.2))) = some (r1, r2, r3) := by rw [if_neg (show ¬ (false = true) by decide)] at H; exact H
            clear H
            have H := H1
            clear H1
            replace H := Option.bind_eq_some_iff.mp H
            obtain ⟨⟨t217, t218⟩, A270, H⟩ := H
            replace H : ((arith_of.f t217 t206).bind fun bt219 => (arith_Two.j0 k a0 t206 t210 t211 bt219.1 bt219.2)) = some (r1, r2, r3) := H
            have A27 := Aside0.mk A270
            clear A270
            replace H := Option.bind_eq_some_iff.mp H
            obtain ⟨⟨t219, t220⟩, A280, H⟩ := H
            replace H : (arith_Two.j0 k a0 t206 t210 t211 t219 t220) = some (r1, r2, r3) := H
            have A28 := Aside0.mk A280
            clear A280
            have H' := Aside0.mk H
            clear H
            go_wp2_with (first | ((with_reducible refine gate_callee (f := 19) rfl ?_); refine goesL_ (some 60) rfl rfl Tryd.func19 (by kernel_rfl) rfl #[.int .i64 a3, .int .i64 t206] rfl (by (try simp only [List.map_toArray, List.map_cons, List.map_nil]); first | done | rfl | (simp only [List.length_drop, List.length_take]; rfl)) ?_; (with_reducible refine (kind_To.calls a3 t206 t217 t218 _ A27.out).mono ?_); rintro e w' ⟨rfl, ⟨nd, rfl⟩⟩; refine ⟨_, rfl, ?_⟩) | ((with_reducible refine gate_callee (f := 20) rfl ?_); refine goesL_ (some 65) rfl rfl Tryd.func20 (by kernel_rfl) rfl #[.int .i64 t217, .int .i64 t206] rfl (by (try simp only [List.map_toArray, List.map_cons, List.map_nil]); first | done | rfl | (simp only [List.length_drop, List.length_take]; rfl)) ?_; (with_reducible refine (arith_of.calls t217 t206 t219 t220 _ A28.out).mono ?_); rintro e w29 ⟨rfl, hb⟩; refine ⟨_, rfl, ?_⟩; have n0_ := Aside0.mk (blk_below (g := gb214) (o := .cells #[.int .i64 t210, .int .u64 t211] 37 (0, 0)) (by (with_reducible repeat (first | refine blk_drewN ?_ _ | refine blk_drew ?_ | refine blk_alloc ?_ _)); refine blk_far ?_ NB214_215.out _; (with_reducible repeat (first | refine blk_drewN ?_ _ | refine blk_drew ?_ | refine blk_alloc ?_ _)); refine blk_far ?_ NB214_215.out _; (with_reducible repeat (first | refine blk_drewN ?_ _ | refine blk_drew ?_ | refine blk_alloc ?_ _)); refine blk_put (cs := #[.int .i64 t210, .int .u64 0]) ?_ 1 _ rfl; (with_reducible repeat (first | refine blk_drewN ?_ _ | refine blk_drew ?_ | refine blk_alloc ?_ _)); refine blk_put (cs := #[.int .i64 0, .int .u64 0]) ?_ 0 _ rfl; (with_reducible repeat (first | refine blk_drewN ?_ _ | refine blk_drew ?_ | refine blk_alloc ?_ _)); exact BK214.out) hb); have n1_ := Aside0.mk (blk_below (g := gb215) (o := .cells #[.int .i64 t212, .int .u64 t213] 37 (0, 0)) (by (with_reducible repeat (first | refine blk_drewN ?_ _ | refine blk_drew ?_ | refine blk_alloc ?_ _)); refine blk_put (cs := #[.int .i64 t212, .int .u64 0]) ?_ 1 _ rfl; (with_reducible repeat (first | refine blk_drewN ?_ _ | refine blk_drew ?_ | refine blk_alloc ?_ _)); refine blk_put (cs := #[.int .i64 0, .int .u64 0]) ?_ 0 _ rfl; (with_reducible repeat (first | refine blk_drewN ?_ _ | refine blk_drew ?_ | refine blk_alloc ?_ _)); refine blk_far ?_ NB215_214.out _; (with_reducible repeat (first | refine blk_drewN ?_ _ | refine blk_drew ?_ | refine blk_alloc ?_ _)); refine blk_far ?_ NB215_214.out _; (with_reducible repeat (first | refine blk_drewN ?_ _ | refine blk_drew ?_ | refine blk_alloc ?_ _)); exact BK215.out) hb); have n2_ := Aside0.mk (below_step (by repeat (first | (with_reducible first | exact HB.out | apply below_alloc | apply pw_below_drewN | apply below_drew1 | refine below_set ?_ GE214.out | refine below_set ?_ GE215.out) | exact HB.out)) hb); clear BK214; clear BK215; clear HB; have BK214 := n0_; have BK215 := n1_; have HB := n2_; clear n0_ n1_ n2_; (try clear hb); (try clear hb2); (try clear hk); (try clear hi); have hnb30 := NB215_214.out; have hnc30 := NB214_215.out; have hcz31_0 : w29.cell? ⟨gb215, 0, none⟩ = some (.int .i64 t212) := (blk_cell BK215.out 0).trans rfl; have hcz31_1 : w29.cell? ⟨gb215, 1, none⟩ = some (.int .u64 t213) := (blk_cell BK215.out 1).trans rfl; have hfz31_0 := blk_frozen BK215.out 0; have hfz31_1 := blk_frozen BK215.out 1))
            go_meet
            case rel => exact ⟨_, (t219), (t220), H', ⟨by first | omega | exact Nat.le_refl _⟩, ⟨by (with_reducible repeat (first | refine blk_drewN ?_ _ | refine blk_drew ?_ | refine blk_alloc ?_ _)); refine blk_far ?_ NB214_215.out _; (with_reducible repeat (first | refine blk_drewN ?_ _ | refine blk_drew ?_ | refine blk_alloc ?_ _)); refine blk_far ?_ NB214_215.out _; (with_reducible repeat (first | refine blk_drewN ?_ _ | refine blk_drew ?_ | refine blk_alloc ?_ _)); exact BK214.out⟩, ⟨by (with_reducible repeat (first | refine blk_drewN ?_ _ | refine blk_drew ?_ | refine blk_alloc ?_ _)); refine blk_put (cs := #[.int .i64 t219, .int .u64 t213]) ?_ 1 _ rfl; (with_reducible repeat (first | refine blk_drewN ?_ _ | refine blk_drew ?_ | refine blk_alloc ?_ _)); refine blk_put (cs := #[.int .i64 t212, .int .u64 t213]) ?_ 0 _ rfl; (with_reducible repeat (first | refine blk_drewN ?_ _ | refine blk_drew ?_ | refine blk_alloc ?_ _)); exact BK215.out⟩, ⟨by repeat (first | (with_reducible first | exact HB.out | apply below_alloc | apply pw_below_drewN | apply below_drew1 | refine below_set ?_ GE214.out | refine below_set ?_ GE215.out) | exact HB.out)⟩⟩
        case rest =>
          clear HC17
          try clear c1
          try clear c2
          try clear p2
          try clear c3
          try clear c7
          try clear c9
          try clear c11
          try clear c13
          try clear c18
          try clear c19
          try clear c20
          try clear c21
          try clear c23
          try clear c26
          try clear c30
          try clear hcz24_0
          try clear hcz24_1
          try clear hcz25_0
          try clear hcz25_1
          try clear hcz31_0
          try clear hcz31_1
          try clear hfz24_0
          try clear hfz24_1
          try clear hfz25_0
          try clear hfz25_1
          try clear hfz31_0
          try clear hfz31_1
          obtain ⟨kq, x216000_16, x216001_16, HA, HJ16, BK214, BK215, HB⟩ := hcut
          cases kq with
          | zero => exact absurd HA.out (by simp [arith_Two.j0])
          | succ kj16 =>
            have H := HA.out
            clear HA
            simp only [arith_Two.j0] at H
            replace H := Option.bind_eq_some_iff.mp H
            obtain ⟨t221, A320, H⟩ := H
            replace H : (if t221 = true then (some (0, 0, 90)) else ((arith_isTruth.f a0).bind fun t222 => (if t222 = true then ((arith_made.f kj16 a0 t210 t211 x216000_16 x216001_16).bind fun bt223 => (some (wrap64 (bt223.2), 5, 0))) else ((arith_isShift.f a0).bind fun t226 => (if t226 = true then ((arith_shifted.f a0 t210 t211 (wrap64 (x216001_16))).bind fun bt227 => (arith_Two.j1 kj16 t206 bt227.1 bt227.2)) else ((arith_made.f kj16 a0 t210 t211 x216000_16 x216001_16).bind fun bt229 => (arith_Two.j1 kj16 t206 bt229.1 bt229.2))))))) = some (r1, r2, r3) := H
            have A32 := Aside0.mk A320
            clear A320
            by_cases c33 : t221 = true
            · subst c33
              have H1 : (some (0, 0, 90)) = some (r1, r2, r3) := by rw [if_pos rfl] at H; exact H
              clear H
              have H := H1
              clear H1
              simp only [Option.some.injEq, Prod.mk.injEq] at H
              obtain ⟨rfl, rfl, rfl⟩ := H
              have hnb34 := NB214_215.out
              have hnc34 := NB215_214.out
              have hcz35_0 : wc.cell? ⟨gb214, 0, none⟩ = some (.int .i64 t210) := (blk_cell BK214.out 0).trans rfl
              have hcz35_1 : wc.cell? ⟨gb214, 1, none⟩ = some (.int .u64 t211) := (blk_cell BK214.out 1).trans rfl
              have hfz35_0 := blk_frozen BK214.out 0
              have hfz35_1 := blk_frozen BK214.out 1
              have hcz36_0 : wc.cell? ⟨gb215, 0, none⟩ = some (.int .i64 x216000_16) := (blk_cell BK215.out 0).trans rfl
              have hcz36_1 : wc.cell? ⟨gb215, 1, none⟩ = some (.int .u64 x216001_16) := (blk_cell BK215.out 1).trans rfl
              have hfz36_0 := blk_frozen BK215.out 0
              have hfz36_1 := blk_frozen BK215.out 1
              go_wp2_with (first | ((with_reducible refine gate_callee (f := 22) rfl ?_); refine goesL_ (some 70) rfl rfl Tryd.func22 (by kernel_rfl) rfl #[.int .i64 a0, .int .i64 t206, .agg #[.int .i64 t210, .int .u64 t211], .agg #[.int .i64 x216000_16, .int .u64 x216001_16]] rfl (by (try simp only [List.map_toArray, List.map_cons, List.map_nil]); first | done | rfl | (simp only [List.length_drop, List.length_take]; rfl)) ?_; (with_reducible refine (arith_undefined.calls kj16 a0 t206 t210 t211 x216000_16 x216001_16 true _ A32.out).mono ?_); rintro e w37 ⟨rfl, hb⟩; refine ⟨_, rfl, ?_⟩; have n0_ := Aside0.mk (blk_below (g := gb214) (o := .cells #[.int .i64 t210, .int .u64 t211] 37 (0, 0)) (by (with_reducible repeat (first | refine blk_drewN ?_ _ | refine blk_drew ?_ | refine blk_alloc ?_ _)); exact BK214.out) hb); have n1_ := Aside0.mk (blk_below (g := gb215) (o := .cells #[.int .i64 x216000_16, .int .u64 x216001_16] 37 (0, 0)) (by (with_reducible repeat (first | refine blk_drewN ?_ _ | refine blk_drew ?_ | refine blk_alloc ?_ _)); exact BK215.out) hb); have n2_ := Aside0.mk (below_step (by repeat (first | (with_reducible first | exact HB.out | apply below_alloc | apply pw_below_drewN | apply below_drew1 | refine below_set ?_ GE214.out | refine below_set ?_ GE215.out) | exact HB.out)) hb); clear BK214; clear BK215; clear HB; have BK214 := n0_; have BK215 := n1_; have HB := n2_; clear n0_ n1_ n2_; (try clear hb); (try clear hb2); (try clear hk); (try clear hi)))
              go_ret3
              exact ⟨by first | rfl | (simp [errW_none, errW_some] <;> rfl) | (simp [*, errW_none, errW_some] <;> rfl), by repeat (first | (with_reducible first | exact HB.out | apply below_alloc | apply pw_below_drewN | apply below_drew1 | refine below_set ?_ GE214.out | refine below_set ?_ GE215.out) | exact HB.out)⟩
            · replace c33 := Bool.eq_false_iff.mpr c33
              subst c33
              have H1 : ((arith_isTruth.f a0).bind fun t222 => (if t222 = true then ((arith_made.f kj16 a0 t210 t211 x216000_16 x216001_16).bind fun bt223 => (some (wrap64 (bt223.2), 5, 0))) else ((arith_isShift.f a0).bind fun t226 => (if t226 = true then ((arith_shifted.f a0 t210 t211 (wrap64 (x216001_16))).bind fun bt227 => (arith_Two.j1 kj16 t206 bt227.1 bt227.2)) else ((arith_made.f kj16 a0 t210 t211 x216000_16 x216001_16).bind fun bt229 => (arith_Two.j1 kj16 t206 bt229.1 bt229.2)))))) = some (r1, r2, r3) := by rw [if_neg (show ¬ (false = true) by decide)] at H; exact H
              clear H
              have H := H1
              clear H1
              replace H := Option.bind_eq_some_iff.mp H
              obtain ⟨t222, A380, H⟩ := H
              replace H : (if t222 = true then ((arith_made.f kj16 a0 t210 t211 x216000_16 x216001_16).bind fun bt223 => (some (wrap64 (bt223.2), 5, 0))) else ((arith_isShift.f a0).bind fun t226 => (if t226 = true then ((arith_shifted.f a0 t210 t211 (wrap64 (x216001_16))).bind fun bt227 => (arith_Two.j1 kj16 t206 bt227.1 bt227.2)) else ((arith_made.f kj16 a0 t210 t211 x216000_16 x216001_16).bind fun bt229 => (arith_Two.j1 kj16 t206 bt229.1 bt229.2))))) = some (r1, r2, r3) := H
              have A38 := Aside0.mk A380
              clear A380
              by_cases c39 : t222 = true
              · subst c39
                have H1 : ((arith_made.f kj16 a0 t210 t211 x216000_16 x216001_16).bind fun bt223 => (some (wrap64 (bt223.2), 5, 0))) = some (r1, r2, r3) := by rw [if_pos rfl] at H; exact H
                clear H
                have H := H1
                clear H1
                replace H := Option.bind_eq_some_iff.mp H
                obtain ⟨⟨t223, t224⟩, A400, H⟩ := H
                replace H : (some (wrap64 (t224), 5, 0)) = some (r1, r2, r3) := H
                have A40 := Aside0.mk A400
                clear A400
                simp only [Option.some.injEq, Prod.mk.injEq] at H
                obtain ⟨rfl, rfl, rfl⟩ := H
                have hnb41 := NB214_215.out
                have hnc41 := NB215_214.out
                have hcz42_0 : wc.cell? ⟨gb214, 0, none⟩ = some (.int .i64 t210) := (blk_cell BK214.out 0).trans rfl
                have hcz42_1 : wc.cell? ⟨gb214, 1, none⟩ = some (.int .u64 t211) := (blk_cell BK214.out 1).trans rfl
                have hfz42_0 := blk_frozen BK214.out 0
                have hfz42_1 := blk_frozen BK214.out 1
                have hcz43_0 : wc.cell? ⟨gb215, 0, none⟩ = some (.int .i64 x216000_16) := (blk_cell BK215.out 0).trans rfl
                have hcz43_1 : wc.cell? ⟨gb215, 1, none⟩ = some (.int .u64 x216001_16) := (blk_cell BK215.out 1).trans rfl
                have hfz43_0 := blk_frozen BK215.out 0
                have hfz43_1 := blk_frozen BK215.out 1
                go_wp2_with (first | ((with_reducible refine gate_callee (f := 22) rfl ?_); refine goesL_ (some 70) rfl rfl Tryd.func22 (by kernel_rfl) rfl #[.int .i64 a0, .int .i64 t206, .agg #[.int .i64 t210, .int .u64 t211], .agg #[.int .i64 x216000_16, .int .u64 x216001_16]] rfl (by (try simp only [List.map_toArray, List.map_cons, List.map_nil]); first | done | rfl | (simp only [List.length_drop, List.length_take]; rfl)) ?_; (with_reducible refine (arith_undefined.calls kj16 a0 t206 t210 t211 x216000_16 x216001_16 false _ A32.out).mono ?_); rintro e w44 ⟨rfl, hb⟩; refine ⟨_, rfl, ?_⟩; have n0_ := Aside0.mk (blk_below (g := gb214) (o := .cells #[.int .i64 t210, .int .u64 t211] 37 (0, 0)) (by (with_reducible repeat (first | refine blk_drewN ?_ _ | refine blk_drew ?_ | refine blk_alloc ?_ _)); exact BK214.out) hb); have n1_ := Aside0.mk (blk_below (g := gb215) (o := .cells #[.int .i64 x216000_16, .int .u64 x216001_16] 37 (0, 0)) (by (with_reducible repeat (first | refine blk_drewN ?_ _ | refine blk_drew ?_ | refine blk_alloc ?_ _)); exact BK215.out) hb); have n2_ := Aside0.mk (below_step (by repeat (first | (with_reducible first | exact HB.out | apply below_alloc | apply pw_below_drewN | apply below_drew1 | refine below_set ?_ GE214.out | refine below_set ?_ GE215.out) | exact HB.out)) hb); clear BK214; clear BK215; clear HB; have BK214 := n0_; have BK215 := n1_; have HB := n2_; clear n0_ n1_ n2_; (try clear hb); (try clear hb2); (try clear hk); (try clear hi)) | ((with_reducible refine gate_callee (f := 14) rfl ?_); refine goesL_ (some 72) rfl rfl Tryd.func14 (by kernel_rfl) rfl #[.int .i64 a0] rfl (by (try simp only [List.map_toArray, List.map_cons, List.map_nil]); first | done | rfl | (simp only [List.length_drop, List.length_take]; rfl)) ?_; (with_reducible refine (arith_isTruth.calls a0 true _ A38.out).mono ?_); rintro e w' ⟨rfl, ⟨nd, rfl⟩⟩; refine ⟨_, rfl, ?_⟩; have hcz45_0 : w44.cell? ⟨gb214, 0, none⟩ = some (.int .i64 t210) := (blk_cell BK214.out 0).trans rfl; have hcz45_1 : w44.cell? ⟨gb214, 1, none⟩ = some (.int .u64 t211) := (blk_cell BK214.out 1).trans rfl; have hfz45_0 := blk_frozen BK214.out 0; have hfz45_1 := blk_frozen BK214.out 1; have hcz46_0 : w44.cell? ⟨gb215, 0, none⟩ = some (.int .i64 x216000_16) := (blk_cell BK215.out 0).trans rfl; have hcz46_1 : w44.cell? ⟨gb215, 1, none⟩ = some (.int .u64 x216001_16) := (blk_cell BK215.out 1).trans rfl; have hfz46_0 := blk_frozen BK215.out 0; have hfz46_1 := blk_frozen BK215.out 1) | ((with_reducible refine gate_callee (f := 23) rfl ?_); refine goesL_ (some 76) rfl rfl Tryd.func23 (by kernel_rfl) rfl #[.int .i64 a0, .agg #[.int .i64 t210, .int .u64 t211], .agg #[.int .i64 x216000_16, .int .u64 x216001_16]] rfl (by (try simp only [List.map_toArray, List.map_cons, List.map_nil]); first | done | rfl | (simp only [List.length_drop, List.length_take]; rfl)) ?_; (with_reducible refine (arith_made.calls kj16 a0 t210 t211 x216000_16 x216001_16 t223 t224 _ A40.out).mono ?_); rintro e w47 ⟨rfl, hb⟩; refine ⟨_, rfl, ?_⟩; have n0_ := Aside0.mk (blk_below (g := gb214) (o := .cells #[.int .i64 t210, .int .u64 t211] 37 (0, 0)) (by (with_reducible repeat (first | refine blk_drewN ?_ _ | refine blk_drew ?_ | refine blk_alloc ?_ _)); exact BK214.out) hb); have n1_ := Aside0.mk (blk_below (g := gb215) (o := .cells #[.int .i64 x216000_16, .int .u64 x216001_16] 37 (0, 0)) (by (with_reducible repeat (first | refine blk_drewN ?_ _ | refine blk_drew ?_ | refine blk_alloc ?_ _)); exact BK215.out) hb); have n2_ := Aside0.mk (below_step (by repeat (first | (with_reducible first | exact HB.out | apply below_alloc | apply pw_below_drewN | apply below_drew1 | refine below_set ?_ GE214.out | refine below_set ?_ GE215.out) | exact HB.out)) hb); clear BK214; clear BK215; clear HB; have BK214 := n0_; have BK215 := n1_; have HB := n2_; clear n0_ n1_ n2_; (try clear hb); (try clear hb2); (try clear hk); (try clear hi)))
                go_ret3
                exact ⟨by first | rfl | (simp [errW_none, errW_some] <;> rfl) | (simp [*, errW_none, errW_some] <;> rfl), by repeat (first | (with_reducible first | exact HB.out | apply below_alloc | apply pw_below_drewN | apply below_drew1 | refine below_set ?_ GE214.out | refine below_set ?_ GE215.out) | exact HB.out)⟩
              · replace c39 := Bool.eq_false_iff.mpr c39
                subst c39
                have H1 : ((arith_isShift.f a0).bind fun t226 => (if t226 = true then ((arith_shifted.f a0 t210 t211 (wrap64 (x216001_16))).bind fun bt227 => (arith_Two.j1 kj16 t206 bt227.1 bt227.2)) else ((arith_made.f kj16 a0 t210 t211 x216000_16 x216001_16).bind fun bt229 => (arith_Two.j1 kj16 t206 bt229.1 bt229.2)))) = some (r1, r2, r3) := by rw [if_neg (show ¬ (false = true) by decide)] at H; exact H
                clear H
                have H := H1
                clear H1
                replace H := Option.bind_eq_some_iff.mp H
                obtain ⟨t226, A480, H⟩ := H
                replace H : (if t226 = true then ((arith_shifted.f a0 t210 t211 (wrap64 (x216001_16))).bind fun bt227 => (arith_Two.j1 kj16 t206 bt227.1 bt227.2)) else ((arith_made.f kj16 a0 t210 t211 x216000_16 x216001_16).bind fun bt229 => (arith_Two.j1 kj16 t206 bt229.1 bt229.2))) = some (r1, r2, r3) := H
                have A48 := Aside0.mk A480
                clear A480
                have HC49 := Aside0.mk H
                clear H
                have hnb50 := NB214_215.out
                have hnc50 := NB215_214.out
                have hcz51_0 : wc.cell? ⟨gb214, 0, none⟩ = some (.int .i64 t210) := (blk_cell BK214.out 0).trans rfl
                have hcz51_1 : wc.cell? ⟨gb214, 1, none⟩ = some (.int .u64 t211) := (blk_cell BK214.out 1).trans rfl
                have hfz51_0 := blk_frozen BK214.out 0
                have hfz51_1 := blk_frozen BK214.out 1
                have hcz52_0 : wc.cell? ⟨gb215, 0, none⟩ = some (.int .i64 x216000_16) := (blk_cell BK215.out 0).trans rfl
                have hcz52_1 : wc.cell? ⟨gb215, 1, none⟩ = some (.int .u64 x216001_16) := (blk_cell BK215.out 1).trans rfl
                have hfz52_0 := blk_frozen BK215.out 0
                have hfz52_1 := blk_frozen BK215.out 1
                go_upto_if 81 with (first | ((with_reducible refine gate_callee (f := 22) rfl ?_); refine goesL_ (some 70) rfl rfl Tryd.func22 (by kernel_rfl) rfl #[.int .i64 a0, .int .i64 t206, .agg #[.int .i64 t210, .int .u64 t211], .agg #[.int .i64 x216000_16, .int .u64 x216001_16]] rfl (by (try simp only [List.map_toArray, List.map_cons, List.map_nil]); first | done | rfl | (simp only [List.length_drop, List.length_take]; rfl)) ?_; (with_reducible refine (arith_undefined.calls kj16 a0 t206 t210 t211 x216000_16 x216001_16 false _ A32.out).mono ?_); rintro e w53 ⟨rfl, hb⟩; refine ⟨_, rfl, ?_⟩; have n0_ := Aside0.mk (blk_below (g := gb214) (o := .cells #[.int .i64 t210, .int .u64 t211] 37 (0, 0)) (by (with_reducible repeat (first | refine blk_drewN ?_ _ | refine blk_drew ?_ | refine blk_alloc ?_ _)); exact BK214.out) hb); have n1_ := Aside0.mk (blk_below (g := gb215) (o := .cells #[.int .i64 x216000_16, .int .u64 x216001_16] 37 (0, 0)) (by (with_reducible repeat (first | refine blk_drewN ?_ _ | refine blk_drew ?_ | refine blk_alloc ?_ _)); exact BK215.out) hb); have n2_ := Aside0.mk (below_step (by repeat (first | (with_reducible first | exact HB.out | apply below_alloc | apply pw_below_drewN | apply below_drew1 | refine below_set ?_ GE214.out | refine below_set ?_ GE215.out) | exact HB.out)) hb); clear BK214; clear BK215; clear HB; have BK214 := n0_; have BK215 := n1_; have HB := n2_; clear n0_ n1_ n2_; (try clear hb); (try clear hb2); (try clear hk); (try clear hi)) | ((with_reducible refine gate_callee (f := 14) rfl ?_); refine goesL_ (some 72) rfl rfl Tryd.func14 (by kernel_rfl) rfl #[.int .i64 a0] rfl (by (try simp only [List.map_toArray, List.map_cons, List.map_nil]); first | done | rfl | (simp only [List.length_drop, List.length_take]; rfl)) ?_; (with_reducible refine (arith_isTruth.calls a0 false _ A38.out).mono ?_); rintro e w' ⟨rfl, ⟨nd, rfl⟩⟩; refine ⟨_, rfl, ?_⟩; (try (rw [drewN_self w53]; generalize hq_ : World.drewN w53 _ = w53; have n0_ : Aside0 (w53.heap[gb214]? = some (.cells #[.int .i64 t210, .int .u64 t211] 37 (0, 0))) := ⟨by rw [← hq_]; exact (by (with_reducible repeat (first | refine blk_drewN ?_ _ | refine blk_drew ?_ | refine blk_alloc ?_ _)); exact BK214.out)⟩; have n1_ : Aside0 (w53.heap[gb215]? = some (.cells #[.int .i64 x216000_16, .int .u64 x216001_16] 37 (0, 0))) := ⟨by rw [← hq_]; exact (by (with_reducible repeat (first | refine blk_drewN ?_ _ | refine blk_drew ?_ | refine blk_alloc ?_ _)); exact BK215.out)⟩; have n2_ : Aside0 (Below w.heap.size w w53) := ⟨by rw [← hq_]; exact (by repeat (first | (with_reducible first | exact HB.out | apply below_alloc | apply pw_below_drewN | apply below_drew1 | refine below_set ?_ GE214.out | refine below_set ?_ GE215.out) | exact HB.out))⟩; clear BK214 BK215 HB hq_; have BK214 := n0_; have BK215 := n1_; have HB := n2_; clear n0_ n1_ n2_))) | ((with_reducible refine gate_dst (N := 17) rfl ?_); refine box_event ?hg (N := 17) ?hd (cs := #[.int .i64 0, .int .u64 0]) (t := 37) ?hr ?_; (case hd => rfl); (case hg => rfl); (case hr => first | (go_simp; done) | (go_simp; rfl)); intro gb225 hg w54 hbox hb; have n0_ := Aside0.mk (blk_below (g := gb214) (o := .cells #[.int .i64 t210, .int .u64 t211] 37 (0, 0)) (by (with_reducible repeat (first | refine blk_drewN ?_ _ | refine blk_drew ?_ | refine blk_alloc ?_ _)); exact BK214.out) hb); have n1_ := Aside0.mk (blk_below (g := gb215) (o := .cells #[.int .i64 x216000_16, .int .u64 x216001_16] 37 (0, 0)) (by (with_reducible repeat (first | refine blk_drewN ?_ _ | refine blk_drew ?_ | refine blk_alloc ?_ _)); exact BK215.out) hb); have n2_ := Aside0.mk (below_step (by repeat (first | (with_reducible first | exact HB.out | apply below_alloc | apply pw_below_drewN | apply below_drew1 | refine below_set ?_ GE214.out | refine below_set ?_ GE215.out) | exact HB.out)) hb); have n3_ := Aside0.mk (hbox); have n4_ := Aside0.mk ((by rw [hg]; exact (below_size (by repeat (first | (with_reducible first | exact HB.out | apply below_alloc | apply pw_below_drewN | apply below_drew1 | refine below_set ?_ GE214.out | refine below_set ?_ GE215.out) | exact HB.out))) : w.heap.size ≤ gb225)); have n5_ := Aside0.mk ((by rw [hg]; exact (below_size (by repeat (first | (with_reducible first | exact HB.out | apply below_alloc | apply pw_below_drewN | apply below_drew1 | refine below_set ?_ GE214.out | refine below_set ?_ GE215.out) | exact HB.out))) : w.heap.size ≤ gb225)); have n6_ := Aside0.mk ((by rw [hg]; exact Nat.ne_of_lt (blk_lt (g := gb214) (o := .cells #[.int .i64 t210, .int .u64 t211] 37 (0, 0)) (by (with_reducible repeat (first | refine blk_drewN ?_ _ | refine blk_drew ?_ | refine blk_alloc ?_ _)); exact BK214.out)) : gb214 ≠ gb225)); have n7_ := Aside0.mk ((by rw [hg]; exact Nat.ne_of_gt (blk_lt (g := gb214) (o := .cells #[.int .i64 t210, .int .u64 t211] 37 (0, 0)) (by (with_reducible repeat (first | refine blk_drewN ?_ _ | refine blk_drew ?_ | refine blk_alloc ?_ _)); exact BK214.out)) : gb225 ≠ gb214)); have n8_ := Aside0.mk ((by rw [hg]; exact Nat.ne_of_lt (blk_lt (g := gb215) (o := .cells #[.int .i64 x216000_16, .int .u64 x216001_16] 37 (0, 0)) (by (with_reducible repeat (first | refine blk_drewN ?_ _ | refine blk_drew ?_ | refine blk_alloc ?_ _)); exact BK215.out)) : gb215 ≠ gb225)); have n9_ := Aside0.mk ((by rw [hg]; exact Nat.ne_of_gt (blk_lt (g := gb215) (o := .cells #[.int .i64 x216000_16, .int .u64 x216001_16] 37 (0, 0)) (by (with_reducible repeat (first | refine blk_drewN ?_ _ | refine blk_drew ?_ | refine blk_alloc ?_ _)); exact BK215.out)) : gb225 ≠ gb215)); clear BK214; clear BK215; clear HB; have BK214 := n0_; have BK215 := n1_; have HB := n2_; have BK225 := n3_; have GW225 := n4_; have GE225 := n5_; have NB214_225 := n6_; have NB225_214 := n7_; have NB215_225 := n8_; have NB225_215 := n9_; clear n0_ n1_ n2_ n3_ n4_ n5_ n6_ n7_ n8_ n9_; clear hb hbox hg; have hnb55 := NB225_214.out; have hnc55 := NB214_225.out; have hnb56 := NB225_215.out; have hnc56 := NB215_225.out; have hcz57_0 : w54.cell? ⟨gb225, 0, none⟩ = some (.int .i64 0) := (blk_cell BK225.out 0).trans rfl; have hcz57_1 : w54.cell? ⟨gb225, 1, none⟩ = some (.int .u64 0) := (blk_cell BK225.out 1).trans rfl; have hfz57_0 := blk_frozen BK225.out 0; have hfz57_1 := blk_frozen BK225.out 1) | ((with_reducible refine gate_callee (f := 21) rfl ?_); refine goesL_ (some 81) rfl rfl Tryd.func21 (by kernel_rfl) rfl #[.int .i64 a0] rfl (by (try simp only [List.map_toArray, List.map_cons, List.map_nil]); first | done | rfl | (simp only [List.length_drop, List.length_take]; rfl)) ?_; (with_reducible refine (arith_isShift.calls a0 t226 _ A48.out).mono ?_); rintro e w' ⟨rfl, ⟨nd, rfl⟩⟩; refine ⟨_, rfl, ?_⟩))
                (try simp only [Act.put, List.setIfInBounds_toArray, List.set_cons_zero, List.set_cons_succ])
                go_cut [] (fun wc => ∃ (kq : Nat) (x226000_48 : Int) (x226001_48 : Int), Aside0 (arith_Two.j1 kq t206 x226000_48 x226001_48 = some (r1, r2, r3)) ∧ Aside0 (kq ≤ kj16) ∧ Aside0 (wc.heap[gb214]? = some (.cells #[.int .i64 t210, .int .u64 t211] 37 (0, 0))) ∧ Aside0 (wc.heap[gb215]? = some (.cells #[.int .i64 x216000_16, .int .u64 x216001_16] 37 (0, 0))) ∧ Aside0 (wc.heap[gb225]? = some (.cells #[.int .i64 x226000_48, .int .u64 x226001_48] 37 (0, 0))) ∧ Aside0 (Below w.heap.size w wc))
                case first =>
                  have H := HC49.out
                  clear HC49
                  by_cases c58 : t226 = true
                  · subst c58
                    have H1 : ((arith_shifted.f a0 t210 t211 (wrap64 (x216001_16))).bind fun bt227 => (arith_Two.j1 kj16 t206 bt227.1 bt227.2)) = some (r1, r2, r3) := by rw [if_pos rfl] at H; exact H
                    clear H
                    have H := H1
                    clear H1
                    replace H := Option.bind_eq_some_iff.mp H
                    obtain ⟨⟨t227, t228⟩, A590, H⟩ := H
                    replace H : (arith_Two.j1 kj16 t206 t227 t228) = some (r1, r2, r3) := H
                    have A59 := Aside0.mk A590
                    clear A590
                    have H' := Aside0.mk H
                    clear H
                    have hnb60 := NB214_215.out
                    have hnc60 := NB215_214.out
                    have hnb61 := NB214_225.out
                    have hnc61 := NB225_214.out
                    have hcz62_0 : w54.cell? ⟨gb214, 0, none⟩ = some (.int .i64 t210) := (blk_cell BK214.out 0).trans rfl
                    have hcz62_1 : w54.cell? ⟨gb214, 1, none⟩ = some (.int .u64 t211) := (blk_cell BK214.out 1).trans rfl
                    have hfz62_0 := blk_frozen BK214.out 0
                    have hfz62_1 := blk_frozen BK214.out 1
                    have hnb63 := NB215_225.out
                    have hnc63 := NB225_215.out
                    have hcz64_0 : w54.cell? ⟨gb215, 0, none⟩ = some (.int .i64 x216000_16) := (blk_cell BK215.out 0).trans rfl
                    have hcz64_1 : w54.cell? ⟨gb215, 1, none⟩ = some (.int .u64 x216001_16) := (blk_cell BK215.out 1).trans rfl
                    have hfz64_0 := blk_frozen BK215.out 0
                    have hfz64_1 := blk_frozen BK215.out 1
                    go_wp2_with (first | ((with_reducible refine gate_callee (f := 24) rfl ?_); refine goesL_ (some 87) rfl rfl Tryd.func24 (by kernel_rfl) rfl #[.int .i64 a0, .agg #[.int .i64 t210, .int .u64 t211], .int .i64 (wrap64 (x216001_16))] rfl (by (try simp only [List.map_toArray, List.map_cons, List.map_nil]); first | done | rfl | (simp only [List.length_drop, List.length_take]; rfl)) ?_; (with_reducible refine (arith_shifted.calls a0 t210 t211 (wrap64 (x216001_16)) t227 t228 _ A59.out).mono ?_); rintro e w65 ⟨rfl, hb⟩; refine ⟨_, rfl, ?_⟩; have n0_ := Aside0.mk (blk_below (g := gb214) (o := .cells #[.int .i64 t210, .int .u64 t211] 37 (0, 0)) (by (with_reducible repeat (first | refine blk_drewN ?_ _ | refine blk_drew ?_ | refine blk_alloc ?_ _)); refine blk_far ?_ NB214_225.out _; (with_reducible repeat (first | refine blk_drewN ?_ _ | refine blk_drew ?_ | refine blk_alloc ?_ _)); refine blk_far ?_ NB214_225.out _; (with_reducible repeat (first | refine blk_drewN ?_ _ | refine blk_drew ?_ | refine blk_alloc ?_ _)); exact BK214.out) hb); have n1_ := Aside0.mk (blk_below (g := gb215) (o := .cells #[.int .i64 x216000_16, .int .u64 x216001_16] 37 (0, 0)) (by (with_reducible repeat (first | refine blk_drewN ?_ _ | refine blk_drew ?_ | refine blk_alloc ?_ _)); refine blk_far ?_ NB215_225.out _; (with_reducible repeat (first | refine blk_drewN ?_ _ | refine blk_drew ?_ | refine blk_alloc ?_ _)); refine blk_far ?_ NB215_225.out _; (with_reducible repeat (first | refine blk_drewN ?_ _ | refine blk_drew ?_ | refine blk_alloc ?_ _)); exact BK215.out) hb); have n2_ := Aside0.mk (blk_below (g := gb225) (o := .cells #[.int .i64 0, .int .u64 0] 37 (0, 0)) (by (with_reducible repeat (first | refine blk_drewN ?_ _ | refine blk_drew ?_ | refine blk_alloc ?_ _)); refine blk_put (cs := #[.int .i64 0, .int .u64 0]) ?_ 1 _ rfl; (with_reducible repeat (first | refine blk_drewN ?_ _ | refine blk_drew ?_ | refine blk_alloc ?_ _)); refine blk_put (cs := #[.int .i64 0, .int .u64 0]) ?_ 0 _ rfl; (with_reducible repeat (first | refine blk_drewN ?_ _ | refine blk_drew ?_ | refine blk_alloc ?_ _)); exact BK225.out) hb); have n3_ := Aside0.mk (below_step (by repeat (first | (with_reducible first | exact HB.out | apply below_alloc | apply pw_below_drewN | apply below_drew1 | refine below_set ?_ GE214.out | refine below_set ?_ GE215.out | refine below_set ?_ GE225.out) | exact HB.out)) hb); clear BK214; clear BK215; clear BK225; clear HB; have BK214 := n0_; have BK215 := n1_; have BK225 := n2_; have HB := n3_; clear n0_ n1_ n2_ n3_; (try clear hb); (try clear hb2); (try clear hk); (try clear hi); have hcz66_0 : w65.cell? ⟨gb225, 0, none⟩ = some (.int .i64 0) := (blk_cell BK225.out 0).trans rfl; have hcz66_1 : w65.cell? ⟨gb225, 1, none⟩ = some (.int .u64 0) := (blk_cell BK225.out 1).trans rfl; have hfz66_0 := blk_frozen BK225.out 0; have hfz66_1 := blk_frozen BK225.out 1))
                    go_meet
                    case rel => exact ⟨_, (t227), (t228), H', ⟨by have := HJ16.out; first | omega | exact Nat.le_refl _⟩, ⟨by (with_reducible repeat (first | refine blk_drewN ?_ _ | refine blk_drew ?_ | refine blk_alloc ?_ _)); refine blk_far ?_ NB214_225.out _; (with_reducible repeat (first | refine blk_drewN ?_ _ | refine blk_drew ?_ | refine blk_alloc ?_ _)); refine blk_far ?_ NB214_225.out _; (with_reducible repeat (first | refine blk_drewN ?_ _ | refine blk_drew ?_ | refine blk_alloc ?_ _)); exact BK214.out⟩, ⟨by (with_reducible repeat (first | refine blk_drewN ?_ _ | refine blk_drew ?_ | refine blk_alloc ?_ _)); refine blk_far ?_ NB215_225.out _; (with_reducible repeat (first | refine blk_drewN ?_ _ | refine blk_drew ?_ | refine blk_alloc ?_ _)); refine blk_far ?_ NB215_225.out _; (with_reducible repeat (first | refine blk_drewN ?_ _ | refine blk_drew ?_ | refine blk_alloc ?_ _)); exact BK215.out⟩, ⟨by (with_reducible repeat (first | refine blk_drewN ?_ _ | refine blk_drew ?_ | refine blk_alloc ?_ _)); refine blk_put (cs := #[.int .i64 t227, .int .u64 0]) ?_ 1 _ rfl; (with_reducible repeat (first | refine blk_drewN ?_ _ | refine blk_drew ?_ | refine blk_alloc ?_ _)); refine blk_put (cs := #[.int .i64 0, .int .u64 0]) ?_ 0 _ rfl; (with_reducible repeat (first | refine blk_drewN ?_ _ | refine blk_drew ?_ | refine blk_alloc ?_ _)); exact BK225.out⟩, ⟨by repeat (first | (with_reducible first | exact HB.out | apply below_alloc | apply pw_below_drewN | apply below_drew1 | refine below_set ?_ GE214.out | refine below_set ?_ GE215.out | refine below_set ?_ GE225.out) | exact HB.out)⟩⟩
                  · replace c58 := Bool.eq_false_iff.mpr c58
                    subst c58
                    have H1 : ((arith_made.f kj16 a0 t210 t211 x216000_16 x216001_16).bind fun bt229 => (arith_Two.j1 kj16 t206 bt229.1 bt229.2)) = some (r1, r2, r3) := by rw [if_neg (show ¬ (false = true) by decide)] at H; exact H
                    clear H
                    have H := H1
                    clear H1
                    replace H := Option.bind_eq_some_iff.mp H
                    obtain ⟨⟨t229, t230⟩, A670, H⟩ := H
                    replace H : (arith_Two.j1 kj16 t206 t229 t230) = some (r1, r2, r3) := H
                    have A67 := Aside0.mk A670
                    clear A670
                    have H' := Aside0.mk H
                    clear H
                    have hnb68 := NB214_215.out
                    have hnc68 := NB215_214.out
                    have hnb69 := NB214_225.out
                    have hnc69 := NB225_214.out
                    have hcz70_0 : w54.cell? ⟨gb214, 0, none⟩ = some (.int .i64 t210) := (blk_cell BK214.out 0).trans rfl
                    have hcz70_1 : w54.cell? ⟨gb214, 1, none⟩ = some (.int .u64 t211) := (blk_cell BK214.out 1).trans rfl
                    have hfz70_0 := blk_frozen BK214.out 0
                    have hfz70_1 := blk_frozen BK214.out 1
                    have hnb71 := NB215_225.out
                    have hnc71 := NB225_215.out
                    have hcz72_0 : w54.cell? ⟨gb215, 0, none⟩ = some (.int .i64 x216000_16) := (blk_cell BK215.out 0).trans rfl
                    have hcz72_1 : w54.cell? ⟨gb215, 1, none⟩ = some (.int .u64 x216001_16) := (blk_cell BK215.out 1).trans rfl
                    have hfz72_0 := blk_frozen BK215.out 0
                    have hfz72_1 := blk_frozen BK215.out 1
                    go_wp2_with (first | ((with_reducible refine gate_callee (f := 23) rfl ?_); refine goesL_ (some 91) rfl rfl Tryd.func23 (by kernel_rfl) rfl #[.int .i64 a0, .agg #[.int .i64 t210, .int .u64 t211], .agg #[.int .i64 x216000_16, .int .u64 x216001_16]] rfl (by (try simp only [List.map_toArray, List.map_cons, List.map_nil]); first | done | rfl | (simp only [List.length_drop, List.length_take]; rfl)) ?_; (with_reducible refine (arith_made.calls kj16 a0 t210 t211 x216000_16 x216001_16 t229 t230 _ A67.out).mono ?_); rintro e w73 ⟨rfl, hb⟩; refine ⟨_, rfl, ?_⟩; have n0_ := Aside0.mk (blk_below (g := gb214) (o := .cells #[.int .i64 t210, .int .u64 t211] 37 (0, 0)) (by (with_reducible repeat (first | refine blk_drewN ?_ _ | refine blk_drew ?_ | refine blk_alloc ?_ _)); refine blk_far ?_ NB214_225.out _; (with_reducible repeat (first | refine blk_drewN ?_ _ | refine blk_drew ?_ | refine blk_alloc ?_ _)); refine blk_far ?_ NB214_225.out _; (with_reducible repeat (first | refine blk_drewN ?_ _ | refine blk_drew ?_ | refine blk_alloc ?_ _)); exact BK214.out) hb); have n1_ := Aside0.mk (blk_below (g := gb215) (o := .cells #[.int .i64 x216000_16, .int .u64 x216001_16] 37 (0, 0)) (by (with_reducible repeat (first | refine blk_drewN ?_ _ | refine blk_drew ?_ | refine blk_alloc ?_ _)); refine blk_far ?_ NB215_225.out _; (with_reducible repeat (first | refine blk_drewN ?_ _ | refine blk_drew ?_ | refine blk_alloc ?_ _)); refine blk_far ?_ NB215_225.out _; (with_reducible repeat (first | refine blk_drewN ?_ _ | refine blk_drew ?_ | refine blk_alloc ?_ _)); exact BK215.out) hb); have n2_ := Aside0.mk (blk_below (g := gb225) (o := .cells #[.int .i64 0, .int .u64 0] 37 (0, 0)) (by (with_reducible repeat (first | refine blk_drewN ?_ _ | refine blk_drew ?_ | refine blk_alloc ?_ _)); refine blk_put (cs := #[.int .i64 0, .int .u64 0]) ?_ 1 _ rfl; (with_reducible repeat (first | refine blk_drewN ?_ _ | refine blk_drew ?_ | refine blk_alloc ?_ _)); refine blk_put (cs := #[.int .i64 0, .int .u64 0]) ?_ 0 _ rfl; (with_reducible repeat (first | refine blk_drewN ?_ _ | refine blk_drew ?_ | refine blk_alloc ?_ _)); exact BK225.out) hb); have n3_ := Aside0.mk (below_step (by repeat (first | (with_reducible first | exact HB.out | apply below_alloc | apply pw_below_drewN | apply below_drew1 | refine below_set ?_ GE214.out | refine below_set ?_ GE215.out | refine below_set ?_ GE225.out) | exact HB.out)) hb); clear BK214; clear BK215; clear BK225; clear HB; have BK214 := n0_; have BK215 := n1_; have BK225 := n2_; have HB := n3_; clear n0_ n1_ n2_ n3_; (try clear hb); (try clear hb2); (try clear hk); (try clear hi); have hcz74_0 : w73.cell? ⟨gb225, 0, none⟩ = some (.int .i64 0) := (blk_cell BK225.out 0).trans rfl; have hcz74_1 : w73.cell? ⟨gb225, 1, none⟩ = some (.int .u64 0) := (blk_cell BK225.out 1).trans rfl; have hfz74_0 := blk_frozen BK225.out 0; have hfz74_1 := blk_frozen BK225.out 1))
                    go_meet
                    case rel => exact ⟨_, (t229), (t230), H', ⟨by have := HJ16.out; first | omega | exact Nat.le_refl _⟩, ⟨by (with_reducible repeat (first | refine blk_drewN ?_ _ | refine blk_drew ?_ | refine blk_alloc ?_ _)); refine blk_far ?_ NB214_225.out _; (with_reducible repeat (first | refine blk_drewN ?_ _ | refine blk_drew ?_ | refine blk_alloc ?_ _)); refine blk_far ?_ NB214_225.out _; (with_reducible repeat (first | refine blk_drewN ?_ _ | refine blk_drew ?_ | refine blk_alloc ?_ _)); exact BK214.out⟩, ⟨by (with_reducible repeat (first | refine blk_drewN ?_ _ | refine blk_drew ?_ | refine blk_alloc ?_ _)); refine blk_far ?_ NB215_225.out _; (with_reducible repeat (first | refine blk_drewN ?_ _ | refine blk_drew ?_ | refine blk_alloc ?_ _)); refine blk_far ?_ NB215_225.out _; (with_reducible repeat (first | refine blk_drewN ?_ _ | refine blk_drew ?_ | refine blk_alloc ?_ _)); exact BK215.out⟩, ⟨by (with_reducible repeat (first | refine blk_drewN ?_ _ | refine blk_drew ?_ | refine blk_alloc ?_ _)); refine blk_put (cs := #[.int .i64 t229, .int .u64 0]) ?_ 1 _ rfl; (with_reducible repeat (first | refine blk_drewN ?_ _ | refine blk_drew ?_ | refine blk_alloc ?_ _)); refine blk_put (cs := #[.int .i64 0, .int .u64 0]) ?_ 0 _ rfl; (with_reducible repeat (first | refine blk_drewN ?_ _ | refine blk_drew ?_ | refine blk_alloc ?_ _)); exact BK225.out⟩, ⟨by repeat (first | (with_reducible first | exact HB.out | apply below_alloc | apply pw_below_drewN | apply below_drew1 | refine below_set ?_ GE214.out | refine below_set ?_ GE215.out | refine below_set ?_ GE225.out) | exact HB.out)⟩⟩
                case rest =>
                  clear HC49
                  try clear c1
                  try clear c2
                  try clear p2
                  try clear c3
                  try clear c4
                  try clear c5
                  try clear c6
                  try clear p6
                  try clear c7
                  try clear c9
                  try clear c11
                  try clear c13
                  try clear c14
                  try clear c18
                  try clear c19
                  try clear c20
                  try clear c21
                  try clear c22
                  try clear c23
                  try clear c24
                  try clear c26
                  try clear c30
                  try clear c33
                  try clear c34
                  try clear c39
                  try clear c41
                  try clear c50
                  try clear c55
                  try clear c56
                  try clear c58
                  try clear c60
                  try clear c61
                  try clear c63
                  try clear p64
                  try clear c68
                  try clear c69
                  try clear c71
                  try clear hcz24_0
                  try clear hcz24_1
                  try clear hcz25_0
                  try clear hcz25_1
                  try clear hcz31_0
                  try clear hcz31_1
                  try clear hcz35_0
                  try clear hcz35_1
                  try clear hcz36_0
                  try clear hcz36_1
                  try clear hcz42_0
                  try clear hcz42_1
                  try clear hcz43_0
                  try clear hcz43_1
                  try clear hcz45_0
                  try clear hcz45_1
                  try clear hcz46_0
                  try clear hcz46_1
                  try clear hcz51_0
                  try clear hcz51_1
                  try clear hcz52_0
                  try clear hcz52_1
                  try clear hcz57_0
                  try clear hcz57_1
                  try clear hcz62_0
                  try clear hcz62_1
                  try clear hcz64_0
                  try clear hcz64_1
                  try clear hcz66_0
                  try clear hcz66_1
                  try clear hcz70_0
                  try clear hcz70_1
                  try clear hcz72_0
                  try clear hcz72_1
                  try clear hcz74_0
                  try clear hcz74_1
                  try clear hfz24_0
                  try clear hfz24_1
                  try clear hfz25_0
                  try clear hfz25_1
                  try clear hfz31_0
                  try clear hfz31_1
                  try clear hfz35_0
                  try clear hfz35_1
                  try clear hfz36_0
                  try clear hfz36_1
                  try clear hfz42_0
                  try clear hfz42_1
                  try clear hfz43_0
                  try clear hfz43_1
                  try clear hfz45_0
                  try clear hfz45_1
                  try clear hfz46_0
                  try clear hfz46_1
                  try clear hfz51_0
                  try clear hfz51_1
                  try clear hfz52_0
                  try clear hfz52_1
                  try clear hfz57_0
                  try clear hfz57_1
                  try clear hfz62_0
                  try clear hfz62_1
                  try clear hfz64_0
                  try clear hfz64_1
                  try clear hfz66_0
                  try clear hfz66_1
                  try clear hfz70_0
                  try clear hfz70_1
                  try clear hfz72_0
                  try clear hfz72_1
                  try clear hfz74_0
                  try clear hfz74_1
                  try clear p2
                  obtain ⟨kq, x226000_48, x226001_48, HA, HJ48, BK214, BK215, BK225, HB⟩ := hcut
                  cases kq with
                  | zero => exact absurd HA.out (by simp [arith_Two.j1])
                  | succ kj48 =>
                    have H := HA.out
                    clear HA
                    simp only [arith_Two.j1] at H
                    replace H := Option.bind_eq_some_iff.mp H
                    obtain ⟨⟨t231, t232⟩, A750, H⟩ := H
                    replace H : (if t232 = true then (some (t231, t206, 0)) else ((kind_Unsigned.f t206).bind fun t233 => (if t233 = true then (some (t231, t206, 0)) else (some (0, 0, 90))))) = some (r1, r2, r3) := H
                    have A75 := Aside0.mk A750
                    clear A750
                    by_cases c76 : t232 = true
                    · subst c76
                      have H1 : (some (t231, t206, 0)) = some (r1, r2, r3) := by rw [if_pos rfl] at H; exact H
                      clear H
                      have H := H1
                      clear H1
                      simp only [Option.some.injEq, Prod.mk.injEq] at H
                      obtain ⟨rfl, rfl, rfl⟩ := H
                      have hnb77 := NB225_214.out
                      have hnc77 := NB214_225.out
                      have hnb78 := NB225_215.out
                      have hnc78 := NB215_225.out
                      have hcz79_0 : wc.cell? ⟨gb225, 0, none⟩ = some (.int .i64 x226000_48) := (blk_cell BK225.out 0).trans rfl
                      have hcz79_1 : wc.cell? ⟨gb225, 1, none⟩ = some (.int .u64 x226001_48) := (blk_cell BK225.out 1).trans rfl
                      have hfz79_0 := blk_frozen BK225.out 0
                      have hfz79_1 := blk_frozen BK225.out 1
                      go_wp2_with (first | ((with_reducible refine gate_callee (f := 25) rfl ?_); refine goesL_ (some 95) rfl rfl Tryd.func25 (by kernel_rfl) rfl #[.agg #[.int .i64 x226000_48, .int .u64 x226001_48], .int .i64 t206] rfl (by (try simp only [List.map_toArray, List.map_cons, List.map_nil]); first | done | rfl | (simp only [List.length_drop, List.length_take]; rfl)) ?_; (with_reducible refine (arith_narrow.calls x226000_48 x226001_48 t206 t231 true _ A75.out).mono ?_); rintro e w80 ⟨rfl, hb⟩; refine ⟨_, rfl, ?_⟩; have n0_ := Aside0.mk (blk_below (g := gb214) (o := .cells #[.int .i64 t210, .int .u64 t211] 37 (0, 0)) (by (with_reducible repeat (first | refine blk_drewN ?_ _ | refine blk_drew ?_ | refine blk_alloc ?_ _)); exact BK214.out) hb); have n1_ := Aside0.mk (blk_below (g := gb215) (o := .cells #[.int .i64 x216000_16, .int .u64 x216001_16] 37 (0, 0)) (by (with_reducible repeat (first | refine blk_drewN ?_ _ | refine blk_drew ?_ | refine blk_alloc ?_ _)); exact BK215.out) hb); have n2_ := Aside0.mk (blk_below (g := gb225) (o := .cells #[.int .i64 x226000_48, .int .u64 x226001_48] 37 (0, 0)) (by (with_reducible repeat (first | refine blk_drewN ?_ _ | refine blk_drew ?_ | refine blk_alloc ?_ _)); exact BK225.out) hb); have n3_ := Aside0.mk (below_step (by repeat (first | (with_reducible first | exact HB.out | apply below_alloc | apply pw_below_drewN | apply below_drew1 | refine below_set ?_ GE214.out | refine below_set ?_ GE215.out | refine below_set ?_ GE225.out) | exact HB.out)) hb); clear BK214; clear BK215; clear BK225; clear HB; have BK214 := n0_; have BK215 := n1_; have BK225 := n2_; have HB := n3_; clear n0_ n1_ n2_ n3_; (try clear hb); (try clear hb2); (try clear hk); (try clear hi)))
                      go_ret3
                      exact ⟨by first | rfl | (simp [errW_none, errW_some] <;> rfl) | (simp [*, errW_none, errW_some] <;> rfl), by repeat (first | (with_reducible first | exact HB.out | apply below_alloc | apply pw_below_drewN | apply below_drew1 | refine below_set ?_ GE214.out | refine below_set ?_ GE215.out | refine below_set ?_ GE225.out) | exact HB.out)⟩
                    · replace c76 := Bool.eq_false_iff.mpr c76
                      subst c76
                      have H1 : ((kind_Unsigned.f t206).bind fun t233 => (if t233 = true then (some (t231, t206, 0)) else (some (0, 0, 90)))) = some (r1, r2, r3) := by rw [if_neg (show ¬ (false = true) by decide)] at H; exact H
                      clear H
                      have H := H1
                      clear H1
                      replace H := Option.bind_eq_some_iff.mp H
                      obtain ⟨t233, A810, H⟩ := H
                      replace H : (if t233 = true then (some (t231, t206, 0)) else (some (0, 0, 90))) = some (r1, r2, r3) := H
                      have A81 := Aside0.mk A810
                      clear A810
                      by_cases c82 : t233 = true
                      · subst c82
                        have H1 : (some (t231, t206, 0)) = some (r1, r2, r3) := by rw [if_pos rfl] at H; exact H
                        clear H
                        have H := H1
                        clear H1
                        simp only [Option.some.injEq, Prod.mk.injEq] at H
                        obtain ⟨rfl, rfl, rfl⟩ := H
                        have hnb83 := NB225_214.out
                        have hnc83 := NB214_225.out
                        have hnb84 := NB225_215.out
                        have hnc84 := NB215_225.out
                        have hcz85_0 : wc.cell? ⟨gb225, 0, none⟩ = some (.int .i64 x226000_48) := (blk_cell BK225.out 0).trans rfl
                        have hcz85_1 : wc.cell? ⟨gb225, 1, none⟩ = some (.int .u64 x226001_48) := (blk_cell BK225.out 1).trans rfl
                        have hfz85_0 := blk_frozen BK225.out 0
                        have hfz85_1 := blk_frozen BK225.out 1
                        go_wp2_with (first | ((with_reducible refine gate_callee (f := 25) rfl ?_); refine goesL_ (some 95) rfl rfl Tryd.func25 (by kernel_rfl) rfl #[.agg #[.int .i64 x226000_48, .int .u64 x226001_48], .int .i64 t206] rfl (by (try simp only [List.map_toArray, List.map_cons, List.map_nil]); first | done | rfl | (simp only [List.length_drop, List.length_take]; rfl)) ?_; (with_reducible refine (arith_narrow.calls x226000_48 x226001_48 t206 t231 false _ A75.out).mono ?_); rintro e w86 ⟨rfl, hb⟩; refine ⟨_, rfl, ?_⟩; have n0_ := Aside0.mk (blk_below (g := gb214) (o := .cells #[.int .i64 t210, .int .u64 t211] 37 (0, 0)) (by (with_reducible repeat (first | refine blk_drewN ?_ _ | refine blk_drew ?_ | refine blk_alloc ?_ _)); exact BK214.out) hb); have n1_ := Aside0.mk (blk_below (g := gb215) (o := .cells #[.int .i64 x216000_16, .int .u64 x216001_16] 37 (0, 0)) (by (with_reducible repeat (first | refine blk_drewN ?_ _ | refine blk_drew ?_ | refine blk_alloc ?_ _)); exact BK215.out) hb); have n2_ := Aside0.mk (blk_below (g := gb225) (o := .cells #[.int .i64 x226000_48, .int .u64 x226001_48] 37 (0, 0)) (by (with_reducible repeat (first | refine blk_drewN ?_ _ | refine blk_drew ?_ | refine blk_alloc ?_ _)); exact BK225.out) hb); have n3_ := Aside0.mk (below_step (by repeat (first | (with_reducible first | exact HB.out | apply below_alloc | apply pw_below_drewN | apply below_drew1 | refine below_set ?_ GE214.out | refine below_set ?_ GE215.out | refine below_set ?_ GE225.out) | exact HB.out)) hb); clear BK214; clear BK215; clear BK225; clear HB; have BK214 := n0_; have BK215 := n1_; have BK225 := n2_; have HB := n3_; clear n0_ n1_ n2_ n3_; (try clear hb); (try clear hb2); (try clear hk); (try clear hi)) | (go_at_call 26; (with_reducible refine (kind_Unsigned.calls t206 true _ A81.out).mono ?_); rintro e w' ⟨rfl, ⟨nd, rfl⟩⟩))
                        go_ret3
                        exact ⟨by first | rfl | (simp [errW_none, errW_some] <;> rfl) | (simp [*, errW_none, errW_some] <;> rfl), by repeat (first | (with_reducible first | exact HB.out | apply below_alloc | apply pw_below_drewN | apply below_drew1 | refine below_set ?_ GE214.out | refine below_set ?_ GE215.out | refine below_set ?_ GE225.out) | exact HB.out)⟩
                      · replace c82 := Bool.eq_false_iff.mpr c82
                        subst c82
                        have H1 : (some (0, 0, 90)) = some (r1, r2, r3) := by rw [if_neg (show ¬ (false = true) by decide)] at H; exact H
                        clear H
                        have H := H1
                        clear H1
                        simp only [Option.some.injEq, Prod.mk.injEq] at H
                        obtain ⟨rfl, rfl, rfl⟩ := H
                        have hnb87 := NB225_214.out
                        have hnc87 := NB214_225.out
                        have hnb88 := NB225_215.out
                        have hnc88 := NB215_225.out
                        have hcz89_0 : wc.cell? ⟨gb225, 0, none⟩ = some (.int .i64 x226000_48) := (blk_cell BK225.out 0).trans rfl
                        have hcz89_1 : wc.cell? ⟨gb225, 1, none⟩ = some (.int .u64 x226001_48) := (blk_cell BK225.out 1).trans rfl
                        have hfz89_0 := blk_frozen BK225.out 0
                        have hfz89_1 := blk_frozen BK225.out 1
                        go_wp2_with (first | ((with_reducible refine gate_callee (f := 25) rfl ?_); refine goesL_ (some 95) rfl rfl Tryd.func25 (by kernel_rfl) rfl #[.agg #[.int .i64 x226000_48, .int .u64 x226001_48], .int .i64 t206] rfl (by (try simp only [List.map_toArray, List.map_cons, List.map_nil]); first | done | rfl | (simp only [List.length_drop, List.length_take]; rfl)) ?_; (with_reducible refine (arith_narrow.calls x226000_48 x226001_48 t206 t231 false _ A75.out).mono ?_); rintro e w90 ⟨rfl, hb⟩; refine ⟨_, rfl, ?_⟩; have n0_ := Aside0.mk (blk_below (g := gb214) (o := .cells #[.int .i64 t210, .int .u64 t211] 37 (0, 0)) (by (with_reducible repeat (first | refine blk_drewN ?_ _ | refine blk_drew ?_ | refine blk_alloc ?_ _)); exact BK214.out) hb); have n1_ := Aside0.mk (blk_below (g := gb215) (o := .cells #[.int .i64 x216000_16, .int .u64 x216001_16] 37 (0, 0)) (by (with_reducible repeat (first | refine blk_drewN ?_ _ | refine blk_drew ?_ | refine blk_alloc ?_ _)); exact BK215.out) hb); have n2_ := Aside0.mk (blk_below (g := gb225) (o := .cells #[.int .i64 x226000_48, .int .u64 x226001_48] 37 (0, 0)) (by (with_reducible repeat (first | refine blk_drewN ?_ _ | refine blk_drew ?_ | refine blk_alloc ?_ _)); exact BK225.out) hb); have n3_ := Aside0.mk (below_step (by repeat (first | (with_reducible first | exact HB.out | apply below_alloc | apply pw_below_drewN | apply below_drew1 | refine below_set ?_ GE214.out | refine below_set ?_ GE215.out | refine below_set ?_ GE225.out) | exact HB.out)) hb); clear BK214; clear BK215; clear BK225; clear HB; have BK214 := n0_; have BK215 := n1_; have BK225 := n2_; have HB := n3_; clear n0_ n1_ n2_ n3_; (try clear hb); (try clear hb2); (try clear hk); (try clear hi)) | (go_at_call 26; (with_reducible refine (kind_Unsigned.calls t206 false _ A81.out).mono ?_); rintro e w' ⟨rfl, ⟨nd, rfl⟩⟩))
                        go_ret3
                        exact ⟨by first | rfl | (simp [errW_none, errW_some] <;> rfl) | (simp [*, errW_none, errW_some] <;> rfl), by repeat (first | (with_reducible first | exact HB.out | apply below_alloc | apply pw_below_drewN | apply below_drew1 | refine below_set ?_ GE214.out | refine below_set ?_ GE215.out | refine below_set ?_ GE225.out) | exact HB.out)⟩
      · replace c11 := Bool.eq_false_iff.mpr c11
        subst c11
        have H1 : (some (0, 0, 80)) = some (r1, r2, r3) := by rw [if_neg (show ¬ (false = true) by decide)] at H; exact H
        clear H
        have H := H1
        clear H1
        simp only [Option.some.injEq, Prod.mk.injEq] at H
        obtain ⟨rfl, rfl, rfl⟩ := H
        go_enter Tryd.func11, Tryd.ntmps11
        go_wp2_with (first | ((with_reducible refine gate_callee (f := 7) rfl ?_); refine goesL_ (some 22) rfl rfl Tryd.func7 (by kernel_rfl) rfl #[.int .i64 a0] rfl (by (try simp only [List.map_toArray, List.map_cons, List.map_nil]); first | done | rfl | (simp only [List.length_drop, List.length_take]; rfl)) ?_; (with_reducible refine (arith_Binary.calls a0 true _ A6.out).mono ?_); rintro e w' ⟨rfl, ⟨nd, rfl⟩⟩; refine ⟨_, rfl, ?_⟩) | ((with_reducible refine gate_callee (f := 18) rfl ?_); refine goesL_ (some 27) rfl rfl Tryd.func18 (by kernel_rfl) rfl #[.int .i64 a1, .int .i64 a2] rfl (by (try simp only [List.map_toArray, List.map_cons, List.map_nil]); first | done | rfl | (simp only [List.length_drop, List.length_take]; rfl)) ?_; (with_reducible refine (kind_Lies.calls a1 a2 true _ A8.out).mono ?_); rintro e w' ⟨rfl, ⟨nd, rfl⟩⟩; refine ⟨_, rfl, ?_⟩) | (go_at_call 18; (with_reducible refine (kind_Lies.calls a3 a4 false _ A10.out).mono ?_); rintro e w' ⟨rfl, ⟨nd, rfl⟩⟩))
        go_ret3
        exact ⟨by first | rfl | (simp [errW_none, errW_some] <;> rfl) | (simp [*, errW_none, errW_some] <;> rfl), by repeat (first | (with_reducible first | exact HB.out | apply below_alloc | apply pw_below_drewN | apply below_drew1) | exact HB.out)⟩
    · replace c9 := Bool.eq_false_iff.mpr c9
      subst c9
      have H1 : (some (0, 0, 80)) = some (r1, r2, r3) := by rw [if_neg (show ¬ (false = true) by decide)] at H; exact H
      clear H
      have H := H1
      clear H1
      simp only [Option.some.injEq, Prod.mk.injEq] at H
      obtain ⟨rfl, rfl, rfl⟩ := H
      go_enter Tryd.func11, Tryd.ntmps11
      go_wp2_with (first | ((with_reducible refine gate_callee (f := 7) rfl ?_); refine goesL_ (some 22) rfl rfl Tryd.func7 (by kernel_rfl) rfl #[.int .i64 a0] rfl (by (try simp only [List.map_toArray, List.map_cons, List.map_nil]); first | done | rfl | (simp only [List.length_drop, List.length_take]; rfl)) ?_; (with_reducible refine (arith_Binary.calls a0 true _ A6.out).mono ?_); rintro e w' ⟨rfl, ⟨nd, rfl⟩⟩; refine ⟨_, rfl, ?_⟩) | ((with_reducible refine gate_callee (f := 18) rfl ?_); refine goesL_ (some 27) rfl rfl Tryd.func18 (by kernel_rfl) rfl #[.int .i64 a1, .int .i64 a2] rfl (by (try simp only [List.map_toArray, List.map_cons, List.map_nil]); first | done | rfl | (simp only [List.length_drop, List.length_take]; rfl)) ?_; (with_reducible refine (kind_Lies.calls a1 a2 false _ A8.out).mono ?_); rintro e w' ⟨rfl, ⟨nd, rfl⟩⟩; refine ⟨_, rfl, ?_⟩))
      go_ret3
      exact ⟨by first | rfl | (simp [errW_none, errW_some] <;> rfl) | (simp [*, errW_none, errW_some] <;> rfl), by repeat (first | (with_reducible first | exact HB.out | apply below_alloc | apply pw_below_drewN | apply below_drew1) | exact HB.out)⟩
  · replace c7 := Bool.eq_false_iff.mpr c7
    subst c7
    have H1 : (some (0, 0, 2)) = some (r1, r2, r3) := by rw [if_neg (show ¬ (false = true) by decide)] at H; exact H
    clear H
    have H := H1
    clear H1
    simp only [Option.some.injEq, Prod.mk.injEq] at H
    obtain ⟨rfl, rfl, rfl⟩ := H
    go_enter Tryd.func11, Tryd.ntmps11
    go_wp2_with (first | ((with_reducible refine gate_callee (f := 7) rfl ?_); refine goesL_ (some 22) rfl rfl Tryd.func7 (by kernel_rfl) rfl #[.int .i64 a0] rfl (by (try simp only [List.map_toArray, List.map_cons, List.map_nil]); first | done | rfl | (simp only [List.length_drop, List.length_take]; rfl)) ?_; (with_reducible refine (arith_Binary.calls a0 false _ A6.out).mono ?_); rintro e w' ⟨rfl, ⟨nd, rfl⟩⟩; refine ⟨_, rfl, ?_⟩))
    go_ret3
    exact ⟨by first | rfl | (simp [errW_none, errW_some] <;> rfl) | (simp [*, errW_none, errW_some] <;> rfl), by repeat (first | (with_reducible first | exact HB.out | apply below_alloc | apply pw_below_drewN | apply below_drew1) | exact HB.out)⟩

end Go.Proofs.YtbbepiechehojaaDoor.PA
