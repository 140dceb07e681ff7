import Derived.Test.YtgdkkcdmflopjaaDoorA0
import Derived.Test.YtgdkkcdmflopjaaDoorA2
import Derived.Test.YtgdkkcdmflopjaaDoorA3
import Derived.Test.YtgdkkcdmflopjaaDoorA6
import Derived.Test.YtgdkkcdmflopjaaDoorA7
import Derived.Test.YtgdkkcdmflopjaaDoorA8
import Derived.Test.YtgdkkcdmflopjaaDoorLP2
import Derived.Test.YtgdkkcdmflopjaaDoorLD
namespace Go.Proofs.YtgdkkcdmflopjaaDoor.PA
open Go.RowKit Go.Proofs.YtgdkkcdmflopjaaDoorX Go.Proofs.YtgdkkcdmflopjaaDoorW.PrintWords Go.Proofs.YtgdkkcdmflopjaaDoorW.PrintLast Go.Proofs.YtgdkkcdmflopjaaDoorW.PrintMore
attribute [local go_sem] max2_int min2_int max_two min_two max_three min_three max_four min_four   -- for this text's walks alone
set_option linter.unusedVariables false
set_option linter.unusedSimpArgs false
mutual
def arith_Two.j0 : Nat → Int → Int → Int → Int → Int → Int → Option (Int × Int × Int)
 | 0, _, _, _, _, _, _ => none
 | k + 1, x0, x13, x451000, x451001, x452000, x452001 => (arith_undefined.f k x0 x13 x451000 x451001 x452000 x452001).bind fun t457 => (if t457 = true then (some (0, 0, 90)) else ((arith_isTruth.f x0).bind fun t458 => (if t458 = true then ((arith_made.f k x0 x451000 x451001 x452000 x452001).bind fun bt459 => (some (wrap64 (bt459.2), 5, 0))) else ((arith_isShift.f x0).bind fun t462 => (if t462 = true then ((arith_shifted.f x0 x451000 x451001 (wrap64 (x452001))).bind fun bt463 => (arith_Two.j1 k x13 bt463.1 bt463.2)) else ((arith_made.f k x0 x451000 x451001 x452000 x452001).bind fun bt465 => (arith_Two.j1 k x13 bt465.1 bt465.2)))))))
def arith_Two.j1 : Nat → Int → Int → Int → Option (Int × Int × Int)
 | 0, _, _, _ => none
 | k + 1, x13, x462000, x462001 => (arith_narrow.f x462000 x462001 x13).bind fun bt467 => (if bt467.2 = true then (some (bt467.1, x13, 0)) else ((kind_Unsigned.f x13).bind fun t469 => (if t469 = true then (some (bt467.1, x13, 0)) else (some (0, 0, 90)))))
end
def arith_Two.f (k : Nat) (a0 : Int) (a1 : Int) (a2 : Int) (a3 : Int) (a4 : Int) : Option (Int × Int × Int) := (arith_Binary.f a0).bind fun t439 => (if t439 = true then ((kind_Lies.f a1 a2).bind fun t440 => (if t440 = true then ((kind_Lies.f a3 a4).bind fun t441 => (if t441 = true then ((arith_in.f a0 a2 a4).bind fun bt442 => ((kind_To.f a1 bt442.1).bind fun bt444 => ((arith_of.f bt444.1 bt442.1).bind fun bt446 => ((arith_of.f a3 a4).bind fun bt448 => ((arith_isShift.f a0).bind fun t452 => (if t452 = true then (arith_Two.j0 k a0 bt442.1 bt446.1 bt446.2 bt448.1 bt448.2) else ((kind_To.f a3 bt442.1).bind fun bt453 => ((arith_of.f bt453.1 bt442.1).bind fun bt455 => (arith_Two.j0 k a0 bt442.1 bt446.1 bt446.2 bt455.1 bt455.2))))))))) else (some (0, 0, 80)))) else (some (0, 0, 80)))) else (some (0, 0, 2)))
set_option maxHeartbeats 8000000 in
set_option maxRecDepth 100000 in
theorem arith_Two.calls (k : Nat) (a0 : Int) (a1 : Int) (a2 : Int) (a3 : Int) (a4 : Int) (r1 : Int) (r2 : Int) (r3 : Int) (w : World) (h : arith_Two.f k a0 a1 a2 a3 a4 = some (r1, r2, r3)) (hB : arith_Binary.f a0 = some true) (h1 : kind_Lies.f a1 a2 = some true) (h2 : kind_Lies.f a3 a4 = some true) (hs : arith_isShift.f a0 = some false) (ht : arith_isTruth.f a0 = some false) (ho : a0 = 4) :
  Calls Tryd.prog 17 #[.int .i64 a0, .int .i64 a1, .int .i64 a2, .int .i64 a3, .int .i64 a4] w fun e w' => e = .returned (.tuple #[.int .i64 r1, .int .i64 r2, .int .i64 r3]) ∧ Below w.heap.size w w' := by
 have XhB := Aside0.mk hB
 have Xh1 := Aside0.mk h1
 have Xh2 := Aside0.mk h2
 have Xhs := Aside0.mk hs
 have Xht := Aside0.mk ht
 have Xho := Aside0.mk ho
 clear hB h1 h2 hs ht ho
 have hu71 := Tryd.underlying71
 have HB := Aside0.mk (Below.refl w.heap.size w)
 have H : ((arith_Binary.f a0).bind fun t439 => (if t439 = true then ((kind_Lies.f a1 a2).bind fun t440 => (if t440 = true then ((kind_Lies.f a3 a4).bind fun t441 => (if t441 = true then ((arith_in.f a0 a2 a4).bind fun bt442 => ((kind_To.f a1 bt442.1).bind fun bt444 => ((arith_of.f bt444.1 bt442.1).bind fun bt446 => ((arith_of.f a3 a4).bind fun bt448 => ((arith_isShift.f a0).bind fun t452 => (if t452 = true then (arith_Two.j0 k a0 bt442.1 bt446.1 bt446.2 bt448.1 bt448.2) else ((kind_To.f a3 bt442.1).bind fun bt453 => ((arith_of.f bt453.1 bt442.1).bind fun bt455 => (arith_Two.j0 k a0 bt442.1 bt446.1 bt446.2 bt455.1 bt455.2))))))))) else (some (0, 0, 80)))) else (some (0, 0, 80)))) else (some (0, 0, 2)))) = some (r1, r2, r3) := h
 clear h
 replace H := Option.bind_eq_some_iff.mp H
 obtain ⟨t439, A60, H⟩ := H
 replace H : (if t439 = true then ((kind_Lies.f a1 a2).bind fun t440 => (if t440 = true then ((kind_Lies.f a3 a4).bind fun t441 => (if t441 = true then ((arith_in.f a0 a2 a4).bind fun bt442 => ((kind_To.f a1 bt442.1).bind fun bt444 => ((arith_of.f bt444.1 bt442.1).bind fun bt446 => ((arith_of.f a3 a4).bind fun bt448 => ((arith_isShift.f a0).bind fun t452 => (if t452 = true then (arith_Two.j0 k a0 bt442.1 bt446.1 bt446.2 bt448.1 bt448.2) else ((kind_To.f a3 bt442.1).bind fun bt453 => ((arith_of.f bt453.1 bt442.1).bind fun bt455 => (arith_Two.j0 k a0 bt442.1 bt446.1 bt446.2 bt455.1 bt455.2))))))))) else (some (0, 0, 80)))) else (some (0, 0, 80)))) else (some (0, 0, 2))) = some (r1, r2, r3) := H
 have A6 := Aside0.mk A60
 clear A60
 by_cases c7 : t439 = true
 ·subst c7
  have H1 : ((kind_Lies.f a1 a2).bind fun t440 => (if t440 = true then ((kind_Lies.f a3 a4).bind fun t441 => (if t441 = true then ((arith_in.f a0 a2 a4).bind fun bt442 => ((kind_To.f a1 bt442.1).bind fun bt444 => ((arith_of.f bt444.1 bt442.1).bind fun bt446 => ((arith_of.f a3 a4).bind fun bt448 => ((arith_isShift.f a0).bind fun t452 => (if t452 = true then (arith_Two.j0 k a0 bt442.1 bt446.1 bt446.2 bt448.1 bt448.2) else ((kind_To.f a3 bt442.1).bind fun bt453 => ((arith_of.f bt453.1 bt442.1).bind fun bt455 => (arith_Two.j0 k a0 bt442.1 bt446.1 bt446.2 bt455.1 bt455.2))))))))) else (some (0, 0, 80)))) else (some (0, 0, 80)))) = some (r1, r2, r3) := by rw [if_pos rfl] at H; exact H
  clear H
  have H := H1
  clear H1
  replace H := Option.bind_eq_some_iff.mp H
  obtain ⟨t440, A80, H⟩ := H
  replace H : (if t440 = true then ((kind_Lies.f a3 a4).bind fun t441 => (if t441 = true then ((arith_in.f a0 a2 a4).bind fun bt442 => ((kind_To.f a1 bt442.1).bind fun bt444 => ((arith_of.f bt444.1 bt442.1).bind fun bt446 => ((arith_of.f a3 a4).bind fun bt448 => ((arith_isShift.f a0).bind fun t452 => (if t452 = true then (arith_Two.j0 k a0 bt442.1 bt446.1 bt446.2 bt448.1 bt448.2) else ((kind_To.f a3 bt442.1).bind fun bt453 => ((arith_of.f bt453.1 bt442.1).bind fun bt455 => (arith_Two.j0 k a0 bt442.1 bt446.1 bt446.2 bt455.1 bt455.2))))))))) else (some (0, 0, 80)))) else (some (0, 0, 80))) = some (r1, r2, r3) := H
  have A8 := Aside0.mk A80
  clear A80
  by_cases c9 : t440 = true
  ·subst c9
   have H1 : ((kind_Lies.f a3 a4).bind fun t441 => (if t441 = true then ((arith_in.f a0 a2 a4).bind fun bt442 => ((kind_To.f a1 bt442.1).bind fun bt444 => ((arith_of.f bt444.1 bt442.1).bind fun bt446 => ((arith_of.f a3 a4).bind fun bt448 => ((arith_isShift.f a0).bind fun t452 => (if t452 = true then (arith_Two.j0 k a0 bt442.1 bt446.1 bt446.2 bt448.1 bt448.2) else ((kind_To.f a3 bt442.1).bind fun bt453 => ((arith_of.f bt453.1 bt442.1).bind fun bt455 => (arith_Two.j0 k a0 bt442.1 bt446.1 bt446.2 bt455.1 bt455.2))))))))) else (some (0, 0, 80)))) = some (r1, r2, r3) := by rw [if_pos rfl] at H; exact H
   clear H
   have H := H1
   clear H1
   replace H := Option.bind_eq_some_iff.mp H
   obtain ⟨t441, A100, H⟩ := H
   replace H : (if t441 = true then ((arith_in.f a0 a2 a4).bind fun bt442 => ((kind_To.f a1 bt442.1).bind fun bt444 => ((arith_of.f bt444.1 bt442.1).bind fun bt446 => ((arith_of.f a3 a4).bind fun bt448 => ((arith_isShift.f a0).bind fun t452 => (if t452 = true then (arith_Two.j0 k a0 bt442.1 bt446.1 bt446.2 bt448.1 bt448.2) else ((kind_To.f a3 bt442.1).bind fun bt453 => ((arith_of.f bt453.1 bt442.1).bind fun bt455 => (arith_Two.j0 k a0 bt442.1 bt446.1 bt446.2 bt455.1 bt455.2))))))))) else (some (0, 0, 80))) = some (r1, r2, r3) := H
   have A10 := Aside0.mk A100
   clear A100
   by_cases c11 : t441 = true
   ·subst c11
    have H1 : ((arith_in.f a0 a2 a4).bind fun bt442 => ((kind_To.f a1 bt442.1).bind fun bt444 => ((arith_of.f bt444.1 bt442.1).bind fun bt446 => ((arith_of.f a3 a4).bind fun bt448 => ((arith_isShift.f a0).bind fun t452 => (if t452 = true then (arith_Two.j0 k a0 bt442.1 bt446.1 bt446.2 bt448.1 bt448.2) else ((kind_To.f a3 bt442.1).bind fun bt453 => ((arith_of.f bt453.1 bt442.1).bind fun bt455 => (arith_Two.j0 k a0 bt442.1 bt446.1 bt446.2 bt455.1 bt455.2))))))))) = some (r1, r2, r3) := by rw [if_pos rfl] at H; exact H
    clear H
    have H := H1
    clear H1
    replace H := Option.bind_eq_some_iff.mp H
    obtain ⟨⟨t442, t443⟩, A120, H⟩ := H
    replace H : ((kind_To.f a1 t442).bind fun bt444 => ((arith_of.f bt444.1 t442).bind fun bt446 => ((arith_of.f a3 a4).bind fun bt448 => ((arith_isShift.f a0).bind fun t452 => (if t452 = true then (arith_Two.j0 k a0 t442 bt446.1 bt446.2 bt448.1 bt448.2) else ((kind_To.f a3 t442).bind fun bt453 => ((arith_of.f bt453.1 t442).bind fun bt455 => (arith_Two.j0 k a0 t442 bt446.1 bt446.2 bt455.1 bt455.2)))))))) = some (r1, r2, r3) := H
    have A12 := Aside0.mk A120
    clear A120
    replace H := Option.bind_eq_some_iff.mp H
    obtain ⟨⟨t444, t445⟩, A130, H⟩ := H
    replace H : ((arith_of.f t444 t442).bind fun bt446 => ((arith_of.f a3 a4).bind fun bt448 => ((arith_isShift.f a0).bind fun t452 => (if t452 = true then (arith_Two.j0 k a0 t442 bt446.1 bt446.2 bt448.1 bt448.2) else ((kind_To.f a3 t442).bind fun bt453 => ((arith_of.f bt453.1 t442).bind fun bt455 => (arith_Two.j0 k a0 t442 bt446.1 bt446.2 bt455.1 bt455.2))))))) = some (r1, r2, r3) := H
    have A13 := Aside0.mk A130
    clear A130
    replace H := Option.bind_eq_some_iff.mp H
    obtain ⟨⟨t446, t447⟩, A140, H⟩ := H
    replace H : ((arith_of.f a3 a4).bind fun bt448 => ((arith_isShift.f a0).bind fun t452 => (if t452 = true then (arith_Two.j0 k a0 t442 t446 t447 bt448.1 bt448.2) else ((kind_To.f a3 t442).bind fun bt453 => ((arith_of.f bt453.1 t442).bind fun bt455 => (arith_Two.j0 k a0 t442 t446 t447 bt455.1 bt455.2)))))) = some (r1, r2, r3) := H
    have A14 := Aside0.mk A140
    clear A140
    replace H := Option.bind_eq_some_iff.mp H
    obtain ⟨⟨t448, t449⟩, A150, H⟩ := H
    replace H : ((arith_isShift.f a0).bind fun t452 => (if t452 = true then (arith_Two.j0 k a0 t442 t446 t447 t448 t449) else ((kind_To.f a3 t442).bind fun bt453 => ((arith_of.f bt453.1 t442).bind fun bt455 => (arith_Two.j0 k a0 t442 t446 t447 bt455.1 bt455.2))))) = some (r1, r2, r3) := H
    have A15 := Aside0.mk A150
    clear A150
    replace H := Option.bind_eq_some_iff.mp H
    obtain ⟨t452, A160, H⟩ := H
    replace H : (if t452 = true then (arith_Two.j0 k a0 t442 t446 t447 t448 t449) else ((kind_To.f a3 t442).bind fun bt453 => ((arith_of.f bt453.1 t442).bind fun bt455 => (arith_Two.j0 k a0 t442 t446 t447 bt455.1 bt455.2)))) = some (r1, r2, r3) := H
    have A16 := Aside0.mk A160
    clear A160
    have HC17 := Aside0.mk H
    clear H
    go_enter Tryd.func17, Tryd.ntmps17
    go_upto_if 56 with (first | ((with_reducible refine gate_callee (f := 16) rfl ?_); refine goesL_ (some 22) rfl rfl Tryd.func16 (by kernel_rfl) rfl #[.int .i64 a0] rfl (by (try simp only [List.map_toArray, List.map_cons, List.map_nil]); first | done | rfl | (simp only [List.length_drop, List.length_take]; rfl)) ?_; (with_reducible refine (arith_Binary.calls a0 true _ A6.out).mono ?_); rintro e w' ⟨rfl, ⟨nd, rfl⟩⟩; refine ⟨_, rfl, ?_⟩) | ((with_reducible refine gate_callee (f := 18) rfl ?_); refine goesL_ (some 27) rfl rfl Tryd.func18 (by kernel_rfl) rfl #[.int .i64 a1, .int .i64 a2] rfl (by (try simp only [List.map_toArray, List.map_cons, List.map_nil]); first | done | rfl | (simp only [List.length_drop, List.length_take]; rfl)) ?_; (with_reducible refine (kind_Lies.calls a1 a2 true _ A8.out).mono ?_); rintro e w' ⟨rfl, ⟨nd, rfl⟩⟩; refine ⟨_, rfl, ?_⟩) | (go_at_call 18; (with_reducible refine (kind_Lies.calls a3 a4 true _ A10.out).mono ?_); rintro e w' ⟨rfl, ⟨nd, rfl⟩⟩) | ((with_reducible refine gate_callee (f := 32) rfl ?_); refine goesL_ (some 39) rfl rfl Tryd.func32 (by kernel_rfl) rfl #[.int .i64 a0, .int .i64 a2, .int .i64 a4] rfl (by (try simp only [List.map_toArray, List.map_cons, List.map_nil]); first | done | rfl | (simp only [List.length_drop, List.length_take]; rfl)) ?_; (with_reducible refine (arith_in.calls a0 a2 a4 t442 t443 _ A12.out).mono ?_); rintro e w18 ⟨rfl, hb⟩; refine ⟨_, rfl, ?_⟩; have n0_ := Aside0.mk (below_step (by repeat (with_reducible first | exact HB.out | apply below_alloc | apply pw_below_drewN | apply below_drew1)) hb); clear HB; have HB := n0_; clear n0_; (try clear hb); (try clear hb2); (try clear hk); (try clear hi)) | ((with_reducible refine gate_callee (f := 24) rfl ?_); refine goesL_ (some 45) rfl rfl Tryd.func24 (by kernel_rfl) rfl #[.int .i64 a1, .int .i64 t442] rfl (by (try simp only [List.map_toArray, List.map_cons, List.map_nil]); first | done | rfl | (simp only [List.length_drop, List.length_take]; rfl)) ?_; (with_reducible refine (kind_To.calls a1 t442 t444 t445 _ A13.out).mono ?_); rintro e w' ⟨rfl, ⟨nd, rfl⟩⟩; refine ⟨_, rfl, ?_⟩; (try (rw [drewN_self w18]; generalize hq_ : World.drewN w18 _ = w18; have n0_ : Aside0 (Below w.heap.size w w18) := ⟨by rw [← hq_]; exact (by repeat (with_reducible first | exact HB.out | apply below_alloc | apply pw_below_drewN | apply below_drew1))⟩; clear HB hq_; have HB := n0_; clear n0_))) | ((with_reducible refine gate_callee (f := 26) rfl ?_); refine goesL_ (some 50) rfl rfl Tryd.func26 (by kernel_rfl) rfl #[.int .i64 t444, .int .i64 t442] rfl (by (try simp only [List.map_toArray, List.map_cons, List.map_nil]); first | done | rfl | (simp only [List.length_drop, List.length_take]; rfl)) ?_; (with_reducible refine (arith_of.calls t444 t442 t446 t447 _ A14.out).mono ?_); rintro e w19 ⟨rfl, hb⟩; refine ⟨_, rfl, ?_⟩; have n0_ := Aside0.mk (below_step (by repeat (with_reducible first | exact HB.out | apply below_alloc | apply pw_below_drewN | apply below_drew1)) hb); clear HB; have HB := n0_; clear n0_; (try clear hb); (try clear hb2); (try clear hk); (try clear hi)) | ((with_reducible refine gate_callee (f := 26) rfl ?_); refine goesL_ (some 53) rfl rfl Tryd.func26 (by kernel_rfl) rfl #[.int .i64 a3, .int .i64 a4] rfl (by (try simp only [List.map_toArray, List.map_cons, List.map_nil]); first | done | rfl | (simp only [List.length_drop, List.length_take]; rfl)) ?_; (with_reducible refine (arith_of.calls a3 a4 t448 t449 _ A15.out).mono ?_); rintro e w20 ⟨rfl, hb⟩; refine ⟨_, rfl, ?_⟩; have n0_ := Aside0.mk (below_step (by repeat (with_reducible first | exact HB.out | apply below_alloc | apply pw_below_drewN | apply below_drew1)) hb); clear HB; have HB := n0_; clear n0_; (try clear hb); (try clear hb2); (try clear hk); (try clear hi)) | ((with_reducible refine gate_dst (N := 15) rfl ?_); refine box_event ?hg (N := 15) ?hd (cs := #[.int .i64 0, .int .u64 0]) (t := 71) ?hr ?_; (case hd => rfl); (case hg => rfl); (case hr => first | (go_simp; done) | (go_simp; rfl)); intro gb450 hg w21 hbox hb; have n0_ := Aside0.mk (below_step (by repeat (with_reducible first | exact HB.out | apply below_alloc | apply pw_below_drewN | apply below_drew1)) hb); have n1_ := Aside0.mk (hbox); have n2_ := Aside0.mk ((by rw [hg]; exact (below_size (by repeat (with_reducible first | exact HB.out | apply below_alloc | apply pw_below_drewN | apply below_drew1))) : w.heap.size ≤ gb450)); have n3_ := n2_; clear HB; have HB := n0_; have BK450 := n1_; have GW450 := n2_; have GE450 := n3_; clear n0_ n1_ n2_ n3_; clear hb hbox hg) | ((with_reducible refine gate_dst (N := 16) rfl ?_); refine box_event ?hg (N := 16) ?hd (cs := #[.int .i64 0, .int .u64 0]) (t := 71) ?hr ?_; (case hd => rfl); (case hg => rfl); (case hr => first | (go_simp; done) | (go_simp; rfl)); intro gb451 hg w22 hbox hb; have n0_ := Aside0.mk (blk_below (g := gb450) (o := .cells #[.int .i64 0, .int .u64 0] 71 (0, 0)) (by (with_reducible repeat (first | refine blk_drewN ?_ _ | refine blk_drew ?_ | refine blk_alloc ?_ _)); exact BK450.out) hb); have n1_ := Aside0.mk (below_step (by repeat (with_reducible first | exact HB.out | apply below_alloc | apply pw_below_drewN | apply below_drew1 | refine below_set ?_ GE450.out)) hb); have n2_ := Aside0.mk (hbox); have n3_ := Aside0.mk ((by rw [hg]; exact (below_size (by repeat (with_reducible first | exact HB.out | apply below_alloc | apply pw_below_drewN | apply below_drew1 | refine below_set ?_ GE450.out))) : w.heap.size ≤ gb451)); have n4_ := n3_; have n5_ := Aside0.mk ((by rw [hg]; exact Nat.ne_of_lt (blk_lt (g := gb450) (o := .cells #[.int .i64 0, .int .u64 0] 71 (0, 0)) (by (with_reducible repeat (first | refine blk_drewN ?_ _ | refine blk_drew ?_ | refine blk_alloc ?_ _)); exact BK450.out)) : gb450 ≠ gb451)); have n6_ := Aside0.mk ((by rw [hg]; exact Nat.ne_of_gt (blk_lt (g := gb450) (o := .cells #[.int .i64 0, .int .u64 0] 71 (0, 0)) (by (with_reducible repeat (first | refine blk_drewN ?_ _ | refine blk_drew ?_ | refine blk_alloc ?_ _)); exact BK450.out)) : gb451 ≠ gb450)); clear BK450; clear HB; have BK450 := n0_; have HB := n1_; have BK451 := n2_; have GW451 := n3_; have GE451 := n4_; have NB450_451 := n5_; have NB451_450 := n6_; clear n0_ n1_ n2_ n3_ n4_ n5_ n6_; clear hb hbox hg; have hnb23 := NB450_451.out; have hnc23 := NB451_450.out; have hcz24_0 : w22.cell? ⟨gb450, 0, none⟩ = some (.int .i64 0) := (blk_cell BK450.out 0).trans rfl; have hcz24_1 : w22.cell? ⟨gb450, 1, none⟩ = some (.int .u64 0) := (blk_cell BK450.out 1).trans rfl; have hfz24_0 := blk_frozen BK450.out 0; have hfz24_1 := blk_frozen BK450.out 1; have hcz25_0 : w22.cell? ⟨gb451, 0, none⟩ = some (.int .i64 0) := (blk_cell BK451.out 0).trans rfl; have hcz25_1 : w22.cell? ⟨gb451, 1, none⟩ = some (.int .u64 0) := (blk_cell BK451.out 1).trans rfl; have hfz25_0 := blk_frozen BK451.out 0; have hfz25_1 := blk_frozen BK451.out 1) | ((with_reducible refine gate_callee (f := 29) rfl ?_); refine goesL_ (some 55) rfl rfl Tryd.func29 (by kernel_rfl) rfl #[.int .i64 a0] rfl (by (try simp only [List.map_toArray, List.map_cons, List.map_nil]); first | done | rfl | (simp only [List.length_drop, List.length_take]; rfl)) ?_; (with_reducible refine (arith_isShift.calls a0 t452 _ A16.out).mono ?_); rintro e w' ⟨rfl, ⟨nd, rfl⟩⟩; refine ⟨_, rfl, ?_⟩))
    (try simp only [Act.put, List.setIfInBounds_toArray, List.set_cons_zero, List.set_cons_succ])
    go_cut [] (fun wc => ∃ (kq : Nat) (x452000_16 : Int) (x452001_16 : Int), Aside0 (arith_Two.j0 kq a0 t442 t446 t447 x452000_16 x452001_16 = some (r1, r2, r3)) ∧ Aside0 (kq ≤ k) ∧ Aside0 (wc.heap[gb450]? = some (.cells #[.int .i64 t446, .int .u64 t447] 71 (0, 0))) ∧ Aside0 (wc.heap[gb451]? = some (.cells #[.int .i64 x452000_16, .int .u64 x452001_16] 71 (0, 0))) ∧ Aside0 (Below w.heap.size w wc))
    case first =>
     have H := HC17.out
     clear HC17
     by_cases c26 : t452 = true
     ·exact absurd (Xhs.out.symm.trans A16.out) (by simp [c26])
     ·replace c26 := Bool.eq_false_iff.mpr c26
      subst c26
      have H1 : ((kind_To.f a3 t442).bind fun bt453 => ((arith_of.f bt453.1 t442).bind fun bt455 => (arith_Two.j0 k a0 t442 t446 t447 bt455.1 bt455.2))) = some (r1, r2, r3) := by rw [if_neg (show ¬ (false = true) by decide)] at H; exact H
      clear H
      have H := H1
      clear H1
      replace H := Option.bind_eq_some_iff.mp H
      obtain ⟨⟨t453, t454⟩, A270, H⟩ := H
      replace H : ((arith_of.f t453 t442).bind fun bt455 => (arith_Two.j0 k a0 t442 t446 t447 bt455.1 bt455.2)) = some (r1, r2, r3) := H
      have A27 := Aside0.mk A270
      clear A270
      replace H := Option.bind_eq_some_iff.mp H
      obtain ⟨⟨t455, t456⟩, A280, H⟩ := H
      replace H : (arith_Two.j0 k a0 t442 t446 t447 t455 t456) = some (r1, r2, r3) := H
      have A28 := Aside0.mk A280
      clear A280
      have H' := Aside0.mk H
      clear H
      go_wp2_with (first | ((with_reducible refine gate_callee (f := 24) rfl ?_); refine goesL_ (some 60) rfl rfl Tryd.func24 (by kernel_rfl) rfl #[.int .i64 a3, .int .i64 t442] rfl (by (try simp only [List.map_toArray, List.map_cons, List.map_nil]); first | done | rfl | (simp only [List.length_drop, List.length_take]; rfl)) ?_; (with_reducible refine (kind_To.calls a3 t442 t453 t454 _ A27.out).mono ?_); rintro e w' ⟨rfl, ⟨nd, rfl⟩⟩; refine ⟨_, rfl, ?_⟩) | ((with_reducible refine gate_callee (f := 26) rfl ?_); refine goesL_ (some 65) rfl rfl Tryd.func26 (by kernel_rfl) rfl #[.int .i64 t453, .int .i64 t442] rfl (by (try simp only [List.map_toArray, List.map_cons, List.map_nil]); first | done | rfl | (simp only [List.length_drop, List.length_take]; rfl)) ?_; (with_reducible refine (arith_of.calls t453 t442 t455 t456 _ A28.out).mono ?_); rintro e w29 ⟨rfl, hb⟩; refine ⟨_, rfl, ?_⟩; have n0_ := Aside0.mk (blk_below (g := gb450) (o := .cells #[.int .i64 t446, .int .u64 t447] 71 (0, 0)) (by (with_reducible repeat (first | refine blk_drewN ?_ _ | refine blk_drew ?_ | refine blk_alloc ?_ _)); refine blk_far ?_ NB450_451.out _; (with_reducible repeat (first | refine blk_drewN ?_ _ | refine blk_drew ?_ | refine blk_alloc ?_ _)); refine blk_far ?_ NB450_451.out _; (with_reducible repeat (first | refine blk_drewN ?_ _ | refine blk_drew ?_ | refine blk_alloc ?_ _)); refine blk_put (cs := #[.int .i64 t446, .int .u64 0]) ?_ 1 _ rfl; (with_reducible repeat (first | refine blk_drewN ?_ _ | refine blk_drew ?_ | refine blk_alloc ?_ _)); refine blk_put (cs := #[.int .i64 0, .int .u64 0]) ?_ 0 _ rfl; (with_reducible repeat (first | refine blk_drewN ?_ _ | refine blk_drew ?_ | refine blk_alloc ?_ _)); exact BK450.out) hb); have n1_ := Aside0.mk (blk_below (g := gb451) (o := .cells #[.int .i64 t448, .int .u64 t449] 71 (0, 0)) (by (with_reducible repeat (first | refine blk_drewN ?_ _ | refine blk_drew ?_ | refine blk_alloc ?_ _)); refine blk_put (cs := #[.int .i64 t448, .int .u64 0]) ?_ 1 _ rfl; (with_reducible repeat (first | refine blk_drewN ?_ _ | refine blk_drew ?_ | refine blk_alloc ?_ _)); refine blk_put (cs := #[.int .i64 0, .int .u64 0]) ?_ 0 _ rfl; (with_reducible repeat (first | refine blk_drewN ?_ _ | refine blk_drew ?_ | refine blk_alloc ?_ _)); refine blk_far ?_ NB451_450.out _; (with_reducible repeat (first | refine blk_drewN ?_ _ | refine blk_drew ?_ | refine blk_alloc ?_ _)); refine blk_far ?_ NB451_450.out _; (with_reducible repeat (first | refine blk_drewN ?_ _ | refine blk_drew ?_ | refine blk_alloc ?_ _)); exact BK451.out) hb); have n2_ := Aside0.mk (below_step (by repeat (with_reducible first | exact HB.out | apply below_alloc | apply pw_below_drewN | apply below_drew1 | refine below_set ?_ GE450.out | refine below_set ?_ GE451.out)) hb); clear BK450; clear BK451; clear HB; have BK450 := n0_; have BK451 := n1_; have HB := n2_; clear n0_ n1_ n2_; (try clear hb); (try clear hb2); (try clear hk); (try clear hi); have hnb30 := NB451_450.out; have hnc30 := NB450_451.out; have hcz31_0 : w29.cell? ⟨gb451, 0, none⟩ = some (.int .i64 t448) := (blk_cell BK451.out 0).trans rfl; have hcz31_1 : w29.cell? ⟨gb451, 1, none⟩ = some (.int .u64 t449) := (blk_cell BK451.out 1).trans rfl; have hfz31_0 := blk_frozen BK451.out 0; have hfz31_1 := blk_frozen BK451.out 1))
      go_meet
      case rel => exact ⟨_, (t455), (t456), H', ⟨by first | omega | exact Nat.le_refl _⟩, ⟨by (with_reducible repeat (first | refine blk_drewN ?_ _ | refine blk_drew ?_ | refine blk_alloc ?_ _)); refine blk_far ?_ NB450_451.out _; (with_reducible repeat (first | refine blk_drewN ?_ _ | refine blk_drew ?_ | refine blk_alloc ?_ _)); refine blk_far ?_ NB450_451.out _; (with_reducible repeat (first | refine blk_drewN ?_ _ | refine blk_drew ?_ | refine blk_alloc ?_ _)); exact BK450.out⟩, ⟨by (with_reducible repeat (first | refine blk_drewN ?_ _ | refine blk_drew ?_ | refine blk_alloc ?_ _)); refine blk_put (cs := #[.int .i64 t455, .int .u64 t449]) ?_ 1 _ rfl; (with_reducible repeat (first | refine blk_drewN ?_ _ | refine blk_drew ?_ | refine blk_alloc ?_ _)); refine blk_put (cs := #[.int .i64 t448, .int .u64 t449]) ?_ 0 _ rfl; (with_reducible repeat (first | refine blk_drewN ?_ _ | refine blk_drew ?_ | refine blk_alloc ?_ _)); exact BK451.out⟩, ⟨by repeat (with_reducible first | exact HB.out | apply below_alloc | apply pw_below_drewN | apply below_drew1 | refine below_set ?_ GE450.out | refine below_set ?_ GE451.out)⟩⟩
    case rest =>
     clear HC17
     try clear c1
     try clear c2
     try clear p2
     try clear c3
     try clear c7
     try clear c9
     try clear c11
     try clear c16
     try clear c17
     try clear c18
     try clear c23
     try clear c24
     try clear c26
     try clear c29
     try clear c30
     try clear hcz24_0
     try clear hcz24_1
     try clear hcz25_0
     try clear hcz25_1
     try clear hcz31_0
     try clear hcz31_1
     try clear hfz24_0
     try clear hfz24_1
     try clear hfz25_0
     try clear hfz25_1
     try clear hfz31_0
     try clear hfz31_1
     obtain ⟨kq, x452000_16, x452001_16, HA, HJ16, BK450, BK451, HB⟩ := hcut
     cases kq with
     | zero => exact absurd HA.out (by simp [arith_Two.j0])
     | succ kj16 =>
      have H := HA.out
      clear HA
      simp only [arith_Two.j0] at H
      replace H := Option.bind_eq_some_iff.mp H
      obtain ⟨t457, A320, H⟩ := H
      replace H : (if t457 = true then (some (0, 0, 90)) else ((arith_isTruth.f a0).bind fun t458 => (if t458 = true then ((arith_made.f kj16 a0 t446 t447 x452000_16 x452001_16).bind fun bt459 => (some (wrap64 (bt459.2), 5, 0))) else ((arith_isShift.f a0).bind fun t462 => (if t462 = true then ((arith_shifted.f a0 t446 t447 (wrap64 (x452001_16))).bind fun bt463 => (arith_Two.j1 kj16 t442 bt463.1 bt463.2)) else ((arith_made.f kj16 a0 t446 t447 x452000_16 x452001_16).bind fun bt465 => (arith_Two.j1 kj16 t442 bt465.1 bt465.2))))))) = some (r1, r2, r3) := H
      have A32 := Aside0.mk A320
      clear A320
      by_cases c33 : t457 = true
      ·subst c33
       have H1 : (some (0, 0, 90)) = some (r1, r2, r3) := by rw [if_pos rfl] at H; exact H
       clear H
       have H := H1
       clear H1
       simp only [Option.some.injEq, Prod.mk.injEq] at H
       obtain ⟨rfl, rfl, rfl⟩ := H
       have hnb34 := NB450_451.out
       have hnc34 := NB451_450.out
       have hcz35_0 : wc.cell? ⟨gb450, 0, none⟩ = some (.int .i64 t446) := (blk_cell BK450.out 0).trans rfl
       have hcz35_1 : wc.cell? ⟨gb450, 1, none⟩ = some (.int .u64 t447) := (blk_cell BK450.out 1).trans rfl
       have hfz35_0 := blk_frozen BK450.out 0
       have hfz35_1 := blk_frozen BK450.out 1
       have hcz36_0 : wc.cell? ⟨gb451, 0, none⟩ = some (.int .i64 x452000_16) := (blk_cell BK451.out 0).trans rfl
       have hcz36_1 : wc.cell? ⟨gb451, 1, none⟩ = some (.int .u64 x452001_16) := (blk_cell BK451.out 1).trans rfl
       have hfz36_0 := blk_frozen BK451.out 0
       have hfz36_1 := blk_frozen BK451.out 1
       go_wp2_with (first | ((with_reducible refine gate_callee (f := 33) rfl ?_); refine goesL_ (some 70) rfl rfl Tryd.func33 (by kernel_rfl) rfl #[.int .i64 a0, .int .i64 t442, .agg #[.int .i64 t446, .int .u64 t447], .agg #[.int .i64 x452000_16, .int .u64 x452001_16]] rfl (by (try simp only [List.map_toArray, List.map_cons, List.map_nil]); first | done | rfl | (simp only [List.length_drop, List.length_take]; rfl)) ?_; (with_reducible refine (arith_undefined.calls kj16 a0 t442 t446 t447 x452000_16 x452001_16 true _ A32.out Xho.out).mono ?_); rintro e w37 ⟨rfl, hb⟩; refine ⟨_, rfl, ?_⟩; have n0_ := Aside0.mk (blk_below (g := gb450) (o := .cells #[.int .i64 t446, .int .u64 t447] 71 (0, 0)) (by (with_reducible repeat (first | refine blk_drewN ?_ _ | refine blk_drew ?_ | refine blk_alloc ?_ _)); exact BK450.out) hb); have n1_ := Aside0.mk (blk_below (g := gb451) (o := .cells #[.int .i64 x452000_16, .int .u64 x452001_16] 71 (0, 0)) (by (with_reducible repeat (first | refine blk_drewN ?_ _ | refine blk_drew ?_ | refine blk_alloc ?_ _)); exact BK451.out) hb); have n2_ := Aside0.mk (below_step (by repeat (with_reducible first | exact HB.out | apply below_alloc | apply pw_below_drewN | apply below_drew1 | refine below_set ?_ GE450.out | refine below_set ?_ GE451.out)) hb); clear BK450; clear BK451; clear HB; have BK450 := n0_; have BK451 := n1_; have HB := n2_; clear n0_ n1_ n2_; (try clear hb); (try clear hb2); (try clear hk); (try clear hi)))
       go_ret3
       exact ⟨by first | rfl | (simp [errW_none, errW_some] <;> rfl) | (simp [*, errW_none, errW_some] <;> rfl), by repeat (with_reducible first | exact HB.out | apply below_alloc | apply pw_below_drewN | apply below_drew1 | refine below_set ?_ GE450.out | refine below_set ?_ GE451.out)⟩
      ·replace c33 := Bool.eq_false_iff.mpr c33
       subst c33
       have H1 : ((arith_isTruth.f a0).bind fun t458 => (if t458 = true then ((arith_made.f kj16 a0 t446 t447 x452000_16 x452001_16).bind fun bt459 => (some (wrap64 (bt459.2), 5, 0))) else ((arith_isShift.f a0).bind fun t462 => (if t462 = true then ((arith_shifted.f a0 t446 t447 (wrap64 (x452001_16))).bind fun bt463 => (arith_Two.j1 kj16 t442 bt463.1 bt463.2)) else ((arith_made.f kj16 a0 t446 t447 x452000_16 x452001_16).bind fun bt465 => (arith_Two.j1 kj16 t442 bt465.1 bt465.2)))))) = some (r1, r2, r3) := by rw [if_neg (show ¬ (false = true) by decide)] at H; exact H
       clear H
       have H := H1
       clear H1
       replace H := Option.bind_eq_some_iff.mp H
       obtain ⟨t458, A380, H⟩ := H
       replace H : (if t458 = true then ((arith_made.f kj16 a0 t446 t447 x452000_16 x452001_16).bind fun bt459 => (some (wrap64 (bt459.2), 5, 0))) else ((arith_isShift.f a0).bind fun t462 => (if t462 = true then ((arith_shifted.f a0 t446 t447 (wrap64 (x452001_16))).bind fun bt463 => (arith_Two.j1 kj16 t442 bt463.1 bt463.2)) else ((arith_made.f kj16 a0 t446 t447 x452000_16 x452001_16).bind fun bt465 => (arith_Two.j1 kj16 t442 bt465.1 bt465.2))))) = some (r1, r2, r3) := H
       have A38 := Aside0.mk A380
       clear A380
       by_cases c39 : t458 = true
       ·exact absurd (Xht.out.symm.trans A38.out) (by simp [c39])
       ·replace c39 := Bool.eq_false_iff.mpr c39
        subst c39
        have H1 : ((arith_isShift.f a0).bind fun t462 => (if t462 = true then ((arith_shifted.f a0 t446 t447 (wrap64 (x452001_16))).bind fun bt463 => (arith_Two.j1 kj16 t442 bt463.1 bt463.2)) else ((arith_made.f kj16 a0 t446 t447 x452000_16 x452001_16).bind fun bt465 => (arith_Two.j1 kj16 t442 bt465.1 bt465.2)))) = some (r1, r2, r3) := by rw [if_neg (show ¬ (false = true) by decide)] at H; exact H
        clear H
        have H := H1
        clear H1
        replace H := Option.bind_eq_some_iff.mp H
        obtain ⟨t462, A480, H⟩ := H
        replace H : (if t462 = true then ((arith_shifted.f a0 t446 t447 (wrap64 (x452001_16))).bind fun bt463 => (arith_Two.j1 kj16 t442 bt463.1 bt463.2)) else ((arith_made.f kj16 a0 t446 t447 x452000_16 x452001_16).bind fun bt465 => (arith_Two.j1 kj16 t442 bt465.1 bt465.2))) = some (r1, r2, r3) := H
        have A48 := Aside0.mk A480
        clear A480
        have HC49 := Aside0.mk H
        clear H
        have hnb50 := NB450_451.out
        have hnc50 := NB451_450.out
        have hcz51_0 : wc.cell? ⟨gb450, 0, none⟩ = some (.int .i64 t446) := (blk_cell BK450.out 0).trans rfl
        have hcz51_1 : wc.cell? ⟨gb450, 1, none⟩ = some (.int .u64 t447) := (blk_cell BK450.out 1).trans rfl
        have hfz51_0 := blk_frozen BK450.out 0
        have hfz51_1 := blk_frozen BK450.out 1
        have hcz52_0 : wc.cell? ⟨gb451, 0, none⟩ = some (.int .i64 x452000_16) := (blk_cell BK451.out 0).trans rfl
        have hcz52_1 : wc.cell? ⟨gb451, 1, none⟩ = some (.int .u64 x452001_16) := (blk_cell BK451.out 1).trans rfl
        have hfz52_0 := blk_frozen BK451.out 0
        have hfz52_1 := blk_frozen BK451.out 1
        go_upto_if 81 with (first | ((with_reducible refine gate_callee (f := 33) rfl ?_); refine goesL_ (some 70) rfl rfl Tryd.func33 (by kernel_rfl) rfl #[.int .i64 a0, .int .i64 t442, .agg #[.int .i64 t446, .int .u64 t447], .agg #[.int .i64 x452000_16, .int .u64 x452001_16]] rfl (by (try simp only [List.map_toArray, List.map_cons, List.map_nil]); first | done | rfl | (simp only [List.length_drop, List.length_take]; rfl)) ?_; (with_reducible refine (arith_undefined.calls kj16 a0 t442 t446 t447 x452000_16 x452001_16 false _ A32.out Xho.out).mono ?_); rintro e w53 ⟨rfl, hb⟩; refine ⟨_, rfl, ?_⟩; have n0_ := Aside0.mk (blk_below (g := gb450) (o := .cells #[.int .i64 t446, .int .u64 t447] 71 (0, 0)) (by (with_reducible repeat (first | refine blk_drewN ?_ _ | refine blk_drew ?_ | refine blk_alloc ?_ _)); exact BK450.out) hb); have n1_ := Aside0.mk (blk_below (g := gb451) (o := .cells #[.int .i64 x452000_16, .int .u64 x452001_16] 71 (0, 0)) (by (with_reducible repeat (first | refine blk_drewN ?_ _ | refine blk_drew ?_ | refine blk_alloc ?_ _)); exact BK451.out) hb); have n2_ := Aside0.mk (below_step (by repeat (with_reducible first | exact HB.out | apply below_alloc | apply pw_below_drewN | apply below_drew1 | refine below_set ?_ GE450.out | refine below_set ?_ GE451.out)) hb); clear BK450; clear BK451; clear HB; have BK450 := n0_; have BK451 := n1_; have HB := n2_; clear n0_ n1_ n2_; (try clear hb); (try clear hb2); (try clear hk); (try clear hi)) | ((with_reducible refine gate_callee (f := 27) rfl ?_); refine goesL_ (some 72) rfl rfl Tryd.func27 (by kernel_rfl) rfl #[.int .i64 a0] rfl (by (try simp only [List.map_toArray, List.map_cons, List.map_nil]); first | done | rfl | (simp only [List.length_drop, List.length_take]; rfl)) ?_; (with_reducible refine (arith_isTruth.calls a0 false _ A38.out).mono ?_); rintro e w' ⟨rfl, ⟨nd, rfl⟩⟩; refine ⟨_, rfl, ?_⟩; (try (rw [drewN_self w53]; generalize hq_ : World.drewN w53 _ = w53; have n0_ : Aside0 (w53.heap[gb450]? = some (.cells #[.int .i64 t446, .int .u64 t447] 71 (0, 0))) := ⟨by rw [← hq_]; exact (by (with_reducible repeat (first | refine blk_drewN ?_ _ | refine blk_drew ?_ | refine blk_alloc ?_ _)); exact BK450.out)⟩; have n1_ : Aside0 (w53.heap[gb451]? = some (.cells #[.int .i64 x452000_16, .int .u64 x452001_16] 71 (0, 0))) := ⟨by rw [← hq_]; exact (by (with_reducible repeat (first | refine blk_drewN ?_ _ | refine blk_drew ?_ | refine blk_alloc ?_ _)); exact BK451.out)⟩; have n2_ : Aside0 (Below w.heap.size w w53) := ⟨by rw [← hq_]; exact (by repeat (with_reducible first | exact HB.out | apply below_alloc | apply pw_below_drewN | apply below_drew1 | refine below_set ?_ GE450.out | refine below_set ?_ GE451.out))⟩; clear BK450 BK451 HB hq_; have BK450 := n0_; have BK451 := n1_; have HB := n2_; clear n0_ n1_ n2_))) | ((with_reducible refine gate_dst (N := 17) rfl ?_); refine box_event ?hg (N := 17) ?hd (cs := #[.int .i64 0, .int .u64 0]) (t := 71) ?hr ?_; (case hd => rfl); (case hg => rfl); (case hr => first | (go_simp; done) | (go_simp; rfl)); intro gb461 hg w54 hbox hb; have n0_ := Aside0.mk (blk_below (g := gb450) (o := .cells #[.int .i64 t446, .int .u64 t447] 71 (0, 0)) (by (with_reducible repeat (first | refine blk_drewN ?_ _ | refine blk_drew ?_ | refine blk_alloc ?_ _)); exact BK450.out) hb); have n1_ := Aside0.mk (blk_below (g := gb451) (o := .cells #[.int .i64 x452000_16, .int .u64 x452001_16] 71 (0, 0)) (by (with_reducible repeat (first | refine blk_drewN ?_ _ | refine blk_drew ?_ | refine blk_alloc ?_ _)); exact BK451.out) hb); have n2_ := Aside0.mk (below_step (by repeat (with_reducible first | exact HB.out | apply below_alloc | apply pw_below_drewN | apply below_drew1 | refine below_set ?_ GE450.out | refine below_set ?_ GE451.out)) hb); have n3_ := Aside0.mk (hbox); have n4_ := Aside0.mk ((by rw [hg]; exact (below_size (by repeat (with_reducible first | exact HB.out | apply below_alloc | apply pw_below_drewN | apply below_drew1 | refine below_set ?_ GE450.out | refine below_set ?_ GE451.out))) : w.heap.size ≤ gb461)); have n5_ := n4_; have n6_ := Aside0.mk ((by rw [hg]; exact Nat.ne_of_lt (blk_lt (g := gb450) (o := .cells #[.int .i64 t446, .int .u64 t447] 71 (0, 0)) (by (with_reducible repeat (first | refine blk_drewN ?_ _ | refine blk_drew ?_ | refine blk_alloc ?_ _)); exact BK450.out)) : gb450 ≠ gb461)); have n7_ := Aside0.mk ((by rw [hg]; exact Nat.ne_of_gt (blk_lt (g := gb450) (o := .cells #[.int .i64 t446, .int .u64 t447] 71 (0, 0)) (by (with_reducible repeat (first | refine blk_drewN ?_ _ | refine blk_drew ?_ | refine blk_alloc ?_ _)); exact BK450.out)) : gb461 ≠ gb450)); have n8_ := Aside0.mk ((by rw [hg]; exact Nat.ne_of_lt (blk_lt (g := gb451) (o := .cells #[.int .i64 x452000_16, .int .u64 x452001_16] 71 (0, 0)) (by (with_reducible repeat (first | refine blk_drewN ?_ _ | refine blk_drew ?_ | refine blk_alloc ?_ _)); exact BK451.out)) : gb451 ≠ gb461)); have n9_ := Aside0.mk ((by rw [hg]; exact Nat.ne_of_gt (blk_lt (g := gb451) (o := .cells #[.int .i64 x452000_16, .int .u64 x452001_16] 71 (0, 0)) (by (with_reducible repeat (first | refine blk_drewN ?_ _ | refine blk_drew ?_ | refine blk_alloc ?_ _)); exact BK451.out)) : gb461 ≠ gb451)); clear BK450; clear BK451; clear HB; have BK450 := n0_; have BK451 := n1_; have HB := n2_; have BK461 := n3_; have GW461 := n4_; have GE461 := n5_; have NB450_461 := n6_; have NB461_450 := n7_; have NB451_461 := n8_; have NB461_451 := n9_; clear n0_ n1_ n2_ n3_ n4_ n5_ n6_ n7_ n8_ n9_; clear hb hbox hg; have hnb55 := NB461_450.out; have hnc55 := NB450_461.out; have hnb56 := NB461_451.out; have hnc56 := NB451_461.out; have hcz57_0 : w54.cell? ⟨gb461, 0, none⟩ = some (.int .i64 0) := (blk_cell BK461.out 0).trans rfl; have hcz57_1 : w54.cell? ⟨gb461, 1, none⟩ = some (.int .u64 0) := (blk_cell BK461.out 1).trans rfl; have hfz57_0 := blk_frozen BK461.out 0; have hfz57_1 := blk_frozen BK461.out 1) | ((with_reducible refine gate_callee (f := 29) rfl ?_); refine goesL_ (some 81) rfl rfl Tryd.func29 (by kernel_rfl) rfl #[.int .i64 a0] rfl (by (try simp only [List.map_toArray, List.map_cons, List.map_nil]); first | done | rfl | (simp only [List.length_drop, List.length_take]; rfl)) ?_; (with_reducible refine (arith_isShift.calls a0 t462 _ A48.out).mono ?_); rintro e w' ⟨rfl, ⟨nd, rfl⟩⟩; refine ⟨_, rfl, ?_⟩))
        (try simp only [Act.put, List.setIfInBounds_toArray, List.set_cons_zero, List.set_cons_succ])
        go_cut [] (fun wc => ∃ (kq : Nat) (x462000_48 : Int) (x462001_48 : Int), Aside0 (arith_Two.j1 kq t442 x462000_48 x462001_48 = some (r1, r2, r3)) ∧ Aside0 (kq ≤ kj16) ∧ Aside0 (wc.heap[gb450]? = some (.cells #[.int .i64 t446, .int .u64 t447] 71 (0, 0))) ∧ Aside0 (wc.heap[gb451]? = some (.cells #[.int .i64 x452000_16, .int .u64 x452001_16] 71 (0, 0))) ∧ Aside0 (wc.heap[gb461]? = some (.cells #[.int .i64 x462000_48, .int .u64 x462001_48] 71 (0, 0))) ∧ Aside0 (Below w.heap.size w wc))
        case first =>
         have H := HC49.out
         clear HC49
         by_cases c58 : t462 = true
         ·exact absurd (Xhs.out.symm.trans A48.out) (by simp [c58])
         ·replace c58 := Bool.eq_false_iff.mpr c58
          subst c58
          have H1 : ((arith_made.f kj16 a0 t446 t447 x452000_16 x452001_16).bind fun bt465 => (arith_Two.j1 kj16 t442 bt465.1 bt465.2)) = some (r1, r2, r3) := by rw [if_neg (show ¬ (false = true) by decide)] at H; exact H
          clear H
          have H := H1
          clear H1
          replace H := Option.bind_eq_some_iff.mp H
          obtain ⟨⟨t465, t466⟩, A670, H⟩ := H
          replace H : (arith_Two.j1 kj16 t442 t465 t466) = some (r1, r2, r3) := H
          have A67 := Aside0.mk A670
          clear A670
          have H' := Aside0.mk H
          clear H
          have hnb68 := NB450_451.out
          have hnc68 := NB451_450.out
          have hnb69 := NB450_461.out
          have hnc69 := NB461_450.out
          have hcz70_0 : w54.cell? ⟨gb450, 0, none⟩ = some (.int .i64 t446) := (blk_cell BK450.out 0).trans rfl
          have hcz70_1 : w54.cell? ⟨gb450, 1, none⟩ = some (.int .u64 t447) := (blk_cell BK450.out 1).trans rfl
          have hfz70_0 := blk_frozen BK450.out 0
          have hfz70_1 := blk_frozen BK450.out 1
          have hnb71 := NB451_461.out
          have hnc71 := NB461_451.out
          have hcz72_0 : w54.cell? ⟨gb451, 0, none⟩ = some (.int .i64 x452000_16) := (blk_cell BK451.out 0).trans rfl
          have hcz72_1 : w54.cell? ⟨gb451, 1, none⟩ = some (.int .u64 x452001_16) := (blk_cell BK451.out 1).trans rfl
          have hfz72_0 := blk_frozen BK451.out 0
          have hfz72_1 := blk_frozen BK451.out 1
          go_wp2_with (first | ((with_reducible refine gate_callee (f := 28) rfl ?_); refine goesL_ (some 91) rfl rfl Tryd.func28 (by kernel_rfl) rfl #[.int .i64 a0, .agg #[.int .i64 t446, .int .u64 t447], .agg #[.int .i64 x452000_16, .int .u64 x452001_16]] rfl (by (try simp only [List.map_toArray, List.map_cons, List.map_nil]); first | done | rfl | (simp only [List.length_drop, List.length_take]; rfl)) ?_; (with_reducible refine (arith_made.calls kj16 a0 t446 t447 x452000_16 x452001_16 t465 t466 _ A67.out).mono ?_); rintro e w73 ⟨rfl, hb⟩; refine ⟨_, rfl, ?_⟩; have n0_ := Aside0.mk (blk_below (g := gb450) (o := .cells #[.int .i64 t446, .int .u64 t447] 71 (0, 0)) (by (with_reducible repeat (first | refine blk_drewN ?_ _ | refine blk_drew ?_ | refine blk_alloc ?_ _)); refine blk_far ?_ NB450_461.out _; (with_reducible repeat (first | refine blk_drewN ?_ _ | refine blk_drew ?_ | refine blk_alloc ?_ _)); refine blk_far ?_ NB450_461.out _; (with_reducible repeat (first | refine blk_drewN ?_ _ | refine blk_drew ?_ | refine blk_alloc ?_ _)); exact BK450.out) hb); have n1_ := Aside0.mk (blk_below (g := gb451) (o := .cells #[.int .i64 x452000_16, .int .u64 x452001_16] 71 (0, 0)) (by (with_reducible repeat (first | refine blk_drewN ?_ _ | refine blk_drew ?_ | refine blk_alloc ?_ _)); refine blk_far ?_ NB451_461.out _; (with_reducible repeat (first | refine blk_drewN ?_ _ | refine blk_drew ?_ | refine blk_alloc ?_ _)); refine blk_far ?_ NB451_461.out _; (with_reducible repeat (first | refine blk_drewN ?_ _ | refine blk_drew ?_ | refine blk_alloc ?_ _)); exact BK451.out) hb); have n2_ := Aside0.mk (blk_below (g := gb461) (o := .cells #[.int .i64 0, .int .u64 0] 71 (0, 0)) (by (with_reducible repeat (first | refine blk_drewN ?_ _ | refine blk_drew ?_ | refine blk_alloc ?_ _)); refine blk_put (cs := #[.int .i64 0, .int .u64 0]) ?_ 1 _ rfl; (with_reducible repeat (first | refine blk_drewN ?_ _ | refine blk_drew ?_ | refine blk_alloc ?_ _)); refine blk_put (cs := #[.int .i64 0, .int .u64 0]) ?_ 0 _ rfl; (with_reducible repeat (first | refine blk_drewN ?_ _ | refine blk_drew ?_ | refine blk_alloc ?_ _)); exact BK461.out) hb); have n3_ := Aside0.mk (below_step (by repeat (with_reducible first | exact HB.out | apply below_alloc | apply pw_below_drewN | apply below_drew1 | refine below_set ?_ GE450.out | refine below_set ?_ GE451.out | refine below_set ?_ GE461.out)) hb); clear BK450; clear BK451; clear BK461; clear HB; have BK450 := n0_; have BK451 := n1_; have BK461 := n2_; have HB := n3_; clear n0_ n1_ n2_ n3_; (try clear hb); (try clear hb2); (try clear hk); (try clear hi); have hcz74_0 : w73.cell? ⟨gb461, 0, none⟩ = some (.int .i64 0) := (blk_cell BK461.out 0).trans rfl; have hcz74_1 : w73.cell? ⟨gb461, 1, none⟩ = some (.int .u64 0) := (blk_cell BK461.out 1).trans rfl; have hfz74_0 := blk_frozen BK461.out 0; have hfz74_1 := blk_frozen BK461.out 1))
          go_meet
          case rel => exact ⟨_, (t465), (t466), H', ⟨by have := HJ16.out; first | omega | exact Nat.le_refl _⟩, ⟨by (with_reducible repeat (first | refine blk_drewN ?_ _ | refine blk_drew ?_ | refine blk_alloc ?_ _)); refine blk_far ?_ NB450_461.out _; (with_reducible repeat (first | refine blk_drewN ?_ _ | refine blk_drew ?_ | refine blk_alloc ?_ _)); refine blk_far ?_ NB450_461.out _; (with_reducible repeat (first | refine blk_drewN ?_ _ | refine blk_drew ?_ | refine blk_alloc ?_ _)); exact BK450.out⟩, ⟨by (with_reducible repeat (first | refine blk_drewN ?_ _ | refine blk_drew ?_ | refine blk_alloc ?_ _)); refine blk_far ?_ NB451_461.out _; (with_reducible repeat (first | refine blk_drewN ?_ _ | refine blk_drew ?_ | refine blk_alloc ?_ _)); refine blk_far ?_ NB451_461.out _; (with_reducible repeat (first | refine blk_drewN ?_ _ | refine blk_drew ?_ | refine blk_alloc ?_ _)); exact BK451.out⟩, ⟨by (with_reducible repeat (first | refine blk_drewN ?_ _ | refine blk_drew ?_ | refine blk_alloc ?_ _)); refine blk_put (cs := #[.int .i64 t465, .int .u64 0]) ?_ 1 _ rfl; (with_reducible repeat (first | refine blk_drewN ?_ _ | refine blk_drew ?_ | refine blk_alloc ?_ _)); refine blk_put (cs := #[.int .i64 0, .int .u64 0]) ?_ 0 _ rfl; (with_reducible repeat (first | refine blk_drewN ?_ _ | refine blk_drew ?_ | refine blk_alloc ?_ _)); exact BK461.out⟩, ⟨by repeat (with_reducible first | exact HB.out | apply below_alloc | apply pw_below_drewN | apply below_drew1 | refine below_set ?_ GE450.out | refine below_set ?_ GE451.out | refine below_set ?_ GE461.out)⟩⟩
        case rest =>
         clear HC49
         try clear c1
         try clear c2
         try clear p2
         try clear c3
         try clear c4
         try clear c5
         try clear c6
         try clear p6
         try clear c7
         try clear c9
         try clear c11
         try clear c16
         try clear c17
         try clear c18
         try clear c23
         try clear c24
         try clear c26
         try clear c27
         try clear c28
         try clear c29
         try clear c30
         try clear c32
         try clear c33
         try clear c34
         try clear c39
         try clear c41
         try clear c50
         try clear c55
         try clear c56
         try clear c58
         try clear c60
         try clear c61
         try clear c63
         try clear p64
         try clear c68
         try clear c69
         try clear c71
         try clear hcz24_0
         try clear hcz24_1
         try clear hcz25_0
         try clear hcz25_1
         try clear hcz31_0
         try clear hcz31_1
         try clear hcz35_0
         try clear hcz35_1
         try clear hcz36_0
         try clear hcz36_1
         try clear hcz42_0
         try clear hcz42_1
         try clear hcz43_0
         try clear hcz43_1
         try clear hcz45_0
         try clear hcz45_1
         try clear hcz46_0
         try clear hcz46_1
         try clear hcz51_0
         try clear hcz51_1
         try clear hcz52_0
         try clear hcz52_1
         try clear hcz57_0
         try clear hcz57_1
         try clear hcz62_0
         try clear hcz62_1
         try clear hcz64_0
         try clear hcz64_1
         try clear hcz66_0
         try clear hcz66_1
         try clear hcz70_0
         try clear hcz70_1
         try clear hcz72_0
         try clear hcz72_1
         try clear hcz74_0
         try clear hcz74_1
         try clear hfz24_0
         try clear hfz24_1
         try clear hfz25_0
         try clear hfz25_1
         try clear hfz31_0
         try clear hfz31_1
         try clear hfz35_0
         try clear hfz35_1
         try clear hfz36_0
         try clear hfz36_1
         try clear hfz42_0
         try clear hfz42_1
         try clear hfz43_0
         try clear hfz43_1
         try clear hfz45_0
         try clear hfz45_1
         try clear hfz46_0
         try clear hfz46_1
         try clear hfz51_0
         try clear hfz51_1
         try clear hfz52_0
         try clear hfz52_1
         try clear hfz57_0
         try clear hfz57_1
         try clear hfz62_0
         try clear hfz62_1
         try clear hfz64_0
         try clear hfz64_1
         try clear hfz66_0
         try clear hfz66_1
         try clear hfz70_0
         try clear hfz70_1
         try clear hfz72_0
         try clear hfz72_1
         try clear hfz74_0
         try clear hfz74_1
         try clear p2
         obtain ⟨kq, x462000_48, x462001_48, HA, HJ48, BK450, BK451, BK461, HB⟩ := hcut
         cases kq with
         | zero => exact absurd HA.out (by simp [arith_Two.j1])
         | succ kj48 =>
          have H := HA.out
          clear HA
          simp only [arith_Two.j1] at H
          replace H := Option.bind_eq_some_iff.mp H
          obtain ⟨⟨t467, t468⟩, A750, H⟩ := H
          replace H : (if t468 = true then (some (t467, t442, 0)) else ((kind_Unsigned.f t442).bind fun t469 => (if t469 = true then (some (t467, t442, 0)) else (some (0, 0, 90))))) = some (r1, r2, r3) := H
          have A75 := Aside0.mk A750
          clear A750
          by_cases c76 : t468 = true
          ·subst c76
           have H1 : (some (t467, t442, 0)) = some (r1, r2, r3) := by rw [if_pos rfl] at H; exact H
           clear H
           have H := H1
           clear H1
           simp only [Option.some.injEq, Prod.mk.injEq] at H
           obtain ⟨rfl, rfl, rfl⟩ := H
           have hnb77 := NB461_450.out
           have hnc77 := NB450_461.out
           have hnb78 := NB461_451.out
           have hnc78 := NB451_461.out
           have hcz79_0 : wc.cell? ⟨gb461, 0, none⟩ = some (.int .i64 x462000_48) := (blk_cell BK461.out 0).trans rfl
           have hcz79_1 : wc.cell? ⟨gb461, 1, none⟩ = some (.int .u64 x462001_48) := (blk_cell BK461.out 1).trans rfl
           have hfz79_0 := blk_frozen BK461.out 0
           have hfz79_1 := blk_frozen BK461.out 1
           go_wp2_with (first | ((with_reducible refine gate_callee (f := 34) rfl ?_); refine goesL_ (some 95) rfl rfl Tryd.func34 (by kernel_rfl) rfl #[.agg #[.int .i64 x462000_48, .int .u64 x462001_48], .int .i64 t442] rfl (by (try simp only [List.map_toArray, List.map_cons, List.map_nil]); first | done | rfl | (simp only [List.length_drop, List.length_take]; rfl)) ?_; (with_reducible refine (arith_narrow.calls x462000_48 x462001_48 t442 t467 true _ A75.out).mono ?_); rintro e w80 ⟨rfl, hb⟩; refine ⟨_, rfl, ?_⟩; have n0_ := Aside0.mk (blk_below (g := gb450) (o := .cells #[.int .i64 t446, .int .u64 t447] 71 (0, 0)) (by (with_reducible repeat (first | refine blk_drewN ?_ _ | refine blk_drew ?_ | refine blk_alloc ?_ _)); exact BK450.out) hb); have n1_ := Aside0.mk (blk_below (g := gb451) (o := .cells #[.int .i64 x452000_16, .int .u64 x452001_16] 71 (0, 0)) (by (with_reducible repeat (first | refine blk_drewN ?_ _ | refine blk_drew ?_ | refine blk_alloc ?_ _)); exact BK451.out) hb); have n2_ := Aside0.mk (blk_below (g := gb461) (o := .cells #[.int .i64 x462000_48, .int .u64 x462001_48] 71 (0, 0)) (by (with_reducible repeat (first | refine blk_drewN ?_ _ | refine blk_drew ?_ | refine blk_alloc ?_ _)); exact BK461.out) hb); have n3_ := Aside0.mk (below_step (by repeat (with_reducible first | exact HB.out | apply below_alloc | apply pw_below_drewN | apply below_drew1 | refine below_set ?_ GE450.out | refine below_set ?_ GE451.out | refine below_set ?_ GE461.out)) hb); clear BK450; clear BK451; clear BK461; clear HB; have BK450 := n0_; have BK451 := n1_; have BK461 := n2_; have HB := n3_; clear n0_ n1_ n2_ n3_; (try clear hb); (try clear hb2); (try clear hk); (try clear hi)))
           go_ret3
           exact ⟨by first | rfl | (simp [errW_none, errW_some] <;> rfl) | (simp [*, errW_none, errW_some] <;> rfl), by repeat (with_reducible first | exact HB.out | apply below_alloc | apply pw_below_drewN | apply below_drew1 | refine below_set ?_ GE450.out | refine below_set ?_ GE451.out | refine below_set ?_ GE461.out)⟩
          ·replace c76 := Bool.eq_false_iff.mpr c76
           subst c76
           have H1 : ((kind_Unsigned.f t442).bind fun t469 => (if t469 = true then (some (t467, t442, 0)) else (some (0, 0, 90)))) = some (r1, r2, r3) := by rw [if_neg (show ¬ (false = true) by decide)] at H; exact H
           clear H
           have H := H1
           clear H1
           replace H := Option.bind_eq_some_iff.mp H
           obtain ⟨t469, A810, H⟩ := H
           replace H : (if t469 = true then (some (t467, t442, 0)) else (some (0, 0, 90))) = some (r1, r2, r3) := H
           have A81 := Aside0.mk A810
           clear A810
           by_cases c82 : t469 = true
           ·subst c82
            have H1 : (some (t467, t442, 0)) = some (r1, r2, r3) := by rw [if_pos rfl] at H; exact H
            clear H
            have H := H1
            clear H1
            simp only [Option.some.injEq, Prod.mk.injEq] at H
            obtain ⟨rfl, rfl, rfl⟩ := H
            have hnb83 := NB461_450.out
            have hnc83 := NB450_461.out
            have hnb84 := NB461_451.out
            have hnc84 := NB451_461.out
            have hcz85_0 : wc.cell? ⟨gb461, 0, none⟩ = some (.int .i64 x462000_48) := (blk_cell BK461.out 0).trans rfl
            have hcz85_1 : wc.cell? ⟨gb461, 1, none⟩ = some (.int .u64 x462001_48) := (blk_cell BK461.out 1).trans rfl
            have hfz85_0 := blk_frozen BK461.out 0
            have hfz85_1 := blk_frozen BK461.out 1
            go_wp2_with (first | ((with_reducible refine gate_callee (f := 34) rfl ?_); refine goesL_ (some 95) rfl rfl Tryd.func34 (by kernel_rfl) rfl #[.agg #[.int .i64 x462000_48, .int .u64 x462001_48], .int .i64 t442] rfl (by (try simp only [List.map_toArray, List.map_cons, List.map_nil]); first | done | rfl | (simp only [List.length_drop, List.length_take]; rfl)) ?_; (with_reducible refine (arith_narrow.calls x462000_48 x462001_48 t442 t467 false _ A75.out).mono ?_); rintro e w86 ⟨rfl, hb⟩; refine ⟨_, rfl, ?_⟩; have n0_ := Aside0.mk (blk_below (g := gb450) (o := .cells #[.int .i64 t446, .int .u64 t447] 71 (0, 0)) (by (with_reducible repeat (first | refine blk_drewN ?_ _ | refine blk_drew ?_ | refine blk_alloc ?_ _)); exact BK450.out) hb); have n1_ := Aside0.mk (blk_below (g := gb451) (o := .cells #[.int .i64 x452000_16, .int .u64 x452001_16] 71 (0, 0)) (by (with_reducible repeat (first | refine blk_drewN ?_ _ | refine blk_drew ?_ | refine blk_alloc ?_ _)); exact BK451.out) hb); have n2_ := Aside0.mk (blk_below (g := gb461) (o := .cells #[.int .i64 x462000_48, .int .u64 x462001_48] 71 (0, 0)) (by (with_reducible repeat (first | refine blk_drewN ?_ _ | refine blk_drew ?_ | refine blk_alloc ?_ _)); exact BK461.out) hb); have n3_ := Aside0.mk (below_step (by repeat (with_reducible first | exact HB.out | apply below_alloc | apply pw_below_drewN | apply below_drew1 | refine below_set ?_ GE450.out | refine below_set ?_ GE451.out | refine below_set ?_ GE461.out)) hb); clear BK450; clear BK451; clear BK461; clear HB; have BK450 := n0_; have BK451 := n1_; have BK461 := n2_; have HB := n3_; clear n0_ n1_ n2_ n3_; (try clear hb); (try clear hb2); (try clear hk); (try clear hi)) | (go_at_call 35; (with_reducible refine (kind_Unsigned.calls t442 true _ A81.out).mono ?_); rintro e w' ⟨rfl, ⟨nd, rfl⟩⟩))
            go_ret3
            exact ⟨by first | rfl | (simp [errW_none, errW_some] <;> rfl) | (simp [*, errW_none, errW_some] <;> rfl), by repeat (with_reducible first | exact HB.out | apply below_alloc | apply pw_below_drewN | apply below_drew1 | refine below_set ?_ GE450.out | refine below_set ?_ GE451.out | refine below_set ?_ GE461.out)⟩
           ·replace c82 := Bool.eq_false_iff.mpr c82
            subst c82
            have H1 : (some (0, 0, 90)) = some (r1, r2, r3) := by rw [if_neg (show ¬ (false = true) by decide)] at H; exact H
            clear H
            have H := H1
            clear H1
            simp only [Option.some.injEq, Prod.mk.injEq] at H
            obtain ⟨rfl, rfl, rfl⟩ := H
            have hnb87 := NB461_450.out
            have hnc87 := NB450_461.out
            have hnb88 := NB461_451.out
            have hnc88 := NB451_461.out
            have hcz89_0 : wc.cell? ⟨gb461, 0, none⟩ = some (.int .i64 x462000_48) := (blk_cell BK461.out 0).trans rfl
            have hcz89_1 : wc.cell? ⟨gb461, 1, none⟩ = some (.int .u64 x462001_48) := (blk_cell BK461.out 1).trans rfl
            have hfz89_0 := blk_frozen BK461.out 0
            have hfz89_1 := blk_frozen BK461.out 1
            go_wp2_with (first | ((with_reducible refine gate_callee (f := 34) rfl ?_); refine goesL_ (some 95) rfl rfl Tryd.func34 (by kernel_rfl) rfl #[.agg #[.int .i64 x462000_48, .int .u64 x462001_48], .int .i64 t442] rfl (by (try simp only [List.map_toArray, List.map_cons, List.map_nil]); first | done | rfl | (simp only [List.length_drop, List.length_take]; rfl)) ?_; (with_reducible refine (arith_narrow.calls x462000_48 x462001_48 t442 t467 false _ A75.out).mono ?_); rintro e w90 ⟨rfl, hb⟩; refine ⟨_, rfl, ?_⟩; have n0_ := Aside0.mk (blk_below (g := gb450) (o := .cells #[.int .i64 t446, .int .u64 t447] 71 (0, 0)) (by (with_reducible repeat (first | refine blk_drewN ?_ _ | refine blk_drew ?_ | refine blk_alloc ?_ _)); exact BK450.out) hb); have n1_ := Aside0.mk (blk_below (g := gb451) (o := .cells #[.int .i64 x452000_16, .int .u64 x452001_16] 71 (0, 0)) (by (with_reducible repeat (first | refine blk_drewN ?_ _ | refine blk_drew ?_ | refine blk_alloc ?_ _)); exact BK451.out) hb); have n2_ := Aside0.mk (blk_below (g := gb461) (o := .cells #[.int .i64 x462000_48, .int .u64 x462001_48] 71 (0, 0)) (by (with_reducible repeat (first | refine blk_drewN ?_ _ | refine blk_drew ?_ | refine blk_alloc ?_ _)); exact BK461.out) hb); have n3_ := Aside0.mk (below_step (by repeat (with_reducible first | exact HB.out | apply below_alloc | apply pw_below_drewN | apply below_drew1 | refine below_set ?_ GE450.out | refine below_set ?_ GE451.out | refine below_set ?_ GE461.out)) hb); clear BK450; clear BK451; clear BK461; clear HB; have BK450 := n0_; have BK451 := n1_; have BK461 := n2_; have HB := n3_; clear n0_ n1_ n2_ n3_; (try clear hb); (try clear hb2); (try clear hk); (try clear hi)) | (go_at_call 35; (with_reducible refine (kind_Unsigned.calls t442 false _ A81.out).mono ?_); rintro e w' ⟨rfl, ⟨nd, rfl⟩⟩))
            go_ret3
            exact ⟨by first | rfl | (simp [errW_none, errW_some] <;> rfl) | (simp [*, errW_none, errW_some] <;> rfl), by repeat (with_reducible first | exact HB.out | apply below_alloc | apply pw_below_drewN | apply below_drew1 | refine below_set ?_ GE450.out | refine below_set ?_ GE451.out | refine below_set ?_ GE461.out)⟩
   ·exact absurd (Xh2.out.symm.trans A10.out) (by simp [c11])
  ·exact absurd (Xh1.out.symm.trans A8.out) (by simp [c9])
 ·exact absurd (XhB.out.symm.trans A6.out) (by simp [c7])
end Go.Proofs.YtgdkkcdmflopjaaDoor.PA
