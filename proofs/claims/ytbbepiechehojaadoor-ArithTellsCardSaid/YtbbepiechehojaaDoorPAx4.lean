-- Printed by a program of this repo's wip/tools (a variant of the kit's print): Lean checks it.
import Derived.Test.YtbbepiechehojaaDoorPAx0
import Derived.Test.YtbbepiechehojaaDoorPAx3
namespace Go.Proofs.YtbbepiechehojaaDoor.PA
open Go.RowKit Go.Proofs.YtbbepiechehojaaDoorX Go.Proofs.YtbbepiechehojaaDoorW.PrintWords Go.Proofs.YtbbepiechehojaaDoorW.PrintLast Go.Proofs.YtbbepiechehojaaDoorW.PrintMore
attribute [local go_sem] max2_int min2_int max_two min_two max_three min_three max_four min_four   -- for this text's walks alone
set_option linter.unusedVariables false
set_option linter.unusedSimpArgs false

/-! ### arith_divided: function 33 -/
mutual
def arith_divided.j0 : Nat → Int → Int → Int → Int → Int → Int → Int → Int → Option (Int × Int × Int × Int)
  | 0, _, _, _, _, _, _, _, _ => none
  | k + 1, x135000, x135001, x136000, x136001, x139000, x139001, x140000, x140001 => if x136000 < 0 then ((arith_wide_neg.f x136000 x136001).bind fun bt142 => (arith_divided.j1 k x135000 x135001 x136000 x136001 x139000 x139001 bt142.1 bt142.2)) else (arith_divided.j1 k x135000 x135001 x136000 x136001 x139000 x139001 x140000 x140001)
def arith_divided.j1 : Nat → Int → Int → Int → Int → Int → Int → Int → Int → Option (Int × Int × Int × Int)
  | 0, _, _, _, _, _, _, _, _ => none
  | k + 1, x135000, x135001, x136000, x136001, x139000, x139001, x140000, x140001 => if x140001 = 0 then (none) else (if x135000 = x136000 then (arith_divided.j2 k x135000 x135001 0 (IntKind.u64.wrap (Int.tdiv x139001 x140001)) 0 (Int.tmod x139001 x140001)) else ((arith_wide_neg.f 0 (IntKind.u64.wrap (Int.tdiv x139001 x140001))).bind fun bt146 => (arith_divided.j2 k x135000 x135001 bt146.1 bt146.2 0 (Int.tmod x139001 x140001))))
def arith_divided.j2 : Nat → Int → Int → Int → Int → Int → Int → Option (Int × Int × Int × Int)
  | 0, _, _, _, _, _, _ => none
  | k + 1, x135000, x135001, x145000, x145001, x146000, x146001 => if x135000 < 0 then ((arith_wide_neg.f x146000 x146001).bind fun bt148 => (some (x145000, x145001, bt148.1, bt148.2))) else (some (x145000, x145001, x146000, x146001))
end
def arith_divided.f (k : Nat) (a0_0 : Int) (a0_1 : Int) (a1_0 : Int) (a1_1 : Int) : Option (Int × Int × Int × Int) := if a0_0 < 0 then ((arith_wide_neg.f a0_0 a0_1).bind fun bt140 => (arith_divided.j0 k a0_0 a0_1 a1_0 a1_1 bt140.1 bt140.2 a1_0 a1_1)) else (arith_divided.j0 k a0_0 a0_1 a1_0 a1_1 a0_0 a0_1 a1_0 a1_1)
theorem arith_divided.mono_l : ∀ k, (∀ y0 y1 y2 y3 y4 y5 y6 y7, LeO (arith_divided.j0 k y0 y1 y2 y3 y4 y5 y6 y7) (arith_divided.j0 (k + 1) y0 y1 y2 y3 y4 y5 y6 y7)) ∧ (∀ y0 y1 y2 y3 y4 y5 y6 y7, LeO (arith_divided.j1 k y0 y1 y2 y3 y4 y5 y6 y7) (arith_divided.j1 (k + 1) y0 y1 y2 y3 y4 y5 y6 y7)) ∧ (∀ y0 y1 y2 y3 y4 y5, LeO (arith_divided.j2 k y0 y1 y2 y3 y4 y5) (arith_divided.j2 (k + 1) y0 y1 y2 y3 y4 y5))
  | 0 => ⟨fun _ _ _ _ _ _ _ _ r h => by simp [arith_divided.j0] at h, fun _ _ _ _ _ _ _ _ r h => by simp [arith_divided.j1] at h, fun _ _ _ _ _ _ r h => by simp [arith_divided.j2] at h⟩
  | k + 1 => by
    obtain ⟨ih0, ih1, ih2⟩ := arith_divided.mono_l k
    refine ⟨?_, ?_, ?_⟩
    · intro y0 y1 y2 y3 y4 y5 y6 y7
      unfold arith_divided.j0
      repeat' first
      | (with_reducible exact ih0 _ _ _ _ _ _ _ _)
      | (with_reducible exact ih1 _ _ _ _ _ _ _ _)
      | (with_reducible exact ih2 _ _ _ _ _ _)
      | (with_reducible exact LeO.refl _)
      | (with_reducible exact LeO.none _)
      | (with_reducible refine LeO.ite ?_ ?_)
      | (with_reducible refine LeO.bind ?_ (fun _ => ?_))
      | exact ih0 _ _ _ _ _ _ _ _
      | exact ih1 _ _ _ _ _ _ _ _
      | exact ih2 _ _ _ _ _ _
      | exact LeO.none _
      | refine LeO.ite ?_ ?_
      | refine LeO.bind ?_ (fun _ => ?_)
    · intro y0 y1 y2 y3 y4 y5 y6 y7
      unfold arith_divided.j1
      repeat' first
      | (with_reducible exact ih0 _ _ _ _ _ _ _ _)
      | (with_reducible exact ih1 _ _ _ _ _ _ _ _)
      | (with_reducible exact ih2 _ _ _ _ _ _)
      | (with_reducible exact LeO.refl _)
      | (with_reducible exact LeO.none _)
      | (with_reducible refine LeO.ite ?_ ?_)
      | (with_reducible refine LeO.bind ?_ (fun _ => ?_))
      | exact ih0 _ _ _ _ _ _ _ _
      | exact ih1 _ _ _ _ _ _ _ _
      | exact ih2 _ _ _ _ _ _
      | exact LeO.none _
      | refine LeO.ite ?_ ?_
      | refine LeO.bind ?_ (fun _ => ?_)
    · intro y0 y1 y2 y3 y4 y5
      unfold arith_divided.j2
      repeat' first
      | (with_reducible exact ih0 _ _ _ _ _ _ _ _)
      | (with_reducible exact ih1 _ _ _ _ _ _ _ _)
      | (with_reducible exact ih2 _ _ _ _ _ _)
      | (with_reducible exact LeO.refl _)
      | (with_reducible exact LeO.none _)
      | (with_reducible refine LeO.ite ?_ ?_)
      | (with_reducible refine LeO.bind ?_ (fun _ => ?_))
      | exact ih0 _ _ _ _ _ _ _ _
      | exact ih1 _ _ _ _ _ _ _ _
      | exact ih2 _ _ _ _ _ _
      | exact LeO.none _
      | refine LeO.ite ?_ ?_
      | refine LeO.bind ?_ (fun _ => ?_)
theorem arith_divided.mono : ∀ a0 a1 a2 a3 k, LeO (arith_divided.f k a0 a1 a2 a3) (arith_divided.f (k + 1) a0 a1 a2 a3) := by
  intro a0 a1 a2 a3 k
  obtain ⟨ih0, ih1, ih2⟩ := arith_divided.mono_l k
  unfold arith_divided.f
  repeat' first
      | (with_reducible exact ih0 _ _ _ _ _ _ _ _)
      | (with_reducible exact ih1 _ _ _ _ _ _ _ _)
      | (with_reducible exact ih2 _ _ _ _ _ _)
      | (with_reducible exact LeO.refl _)
      | (with_reducible exact LeO.none _)
      | (with_reducible refine LeO.ite ?_ ?_)
      | (with_reducible refine LeO.bind ?_ (fun _ => ?_))
      | exact ih0 _ _ _ _ _ _ _ _
      | exact ih1 _ _ _ _ _ _ _ _
      | exact ih2 _ _ _ _ _ _
      | exact LeO.none _
      | refine LeO.ite ?_ ?_
      | refine LeO.bind ?_ (fun _ => ?_)
def arith_divided.T6 : Bool × List (List Nat × List Nat) := (true, [([], []), ([0], [0]), ([], []), ([2], [2]), ([1, 3], [1, 3]), ([4], [4]), ([], []), ([6], [6]), ([], []), ([8], [8]), ([7, 9], [7, 9]), ([10], [10]), ([], []), ([], []), ([12, 5, 0, 1, 2, 3, 4, 5, 12, 13], [5, 12]), ([13, 11, 14, 0, 1, 2, 3, 4, 5, 6, 7, 8, 9, 10, 11, 12, 13, 14], [11, 13])])
def arith_divided.B6 : List Nat := [0, 1, 0, 4, 15, 31, 0, 64, 0, 256, 960, 1984, 0, 0, 12351, 32767]
theorem arith_divided.tab6 : rtab .any (opsOf Tryd.f33 6) = arith_divided.T6 := by kernel_rfl
theorem arith_divided.bits6 : waitsOk arith_divided.T6.2 arith_divided.B6 = true := by kernel_rfl
set_option maxHeartbeats 8000000 in
set_option maxRecDepth 100000 in
theorem arith_divided.calls (k : Nat) (a0_0 : Int) (a0_1 : Int) (a1_0 : Int) (a1_1 : Int) (r1 : Int) (r2 : Int) (r3 : Int) (r4 : Int) (w : World) (h : arith_divided.f k a0_0 a0_1 a1_0 a1_1 = some (r1, r2, r3, r4)) :
    Calls Tryd.prog 33 #[.agg #[.int .i64 a0_0, .int .u64 a0_1], .agg #[.int .i64 a1_0, .int .u64 a1_1]] w fun e w' => e = .returned (.tuple #[.agg #[.int .i64 r1, .int .u64 r2], .agg #[.int .i64 r3, .int .u64 r4]]) ∧ Below w.heap.size w w' := by
  have hu37 := Tryd.underlying37
  have HB := Aside0.mk (Below.refl w.heap.size w)
  have H : (if a0_0 < 0 then ((arith_wide_neg.f a0_0 a0_1).bind fun bt140 => (arith_divided.j0 k a0_0 a0_1 a1_0 a1_1 bt140.1 bt140.2 a1_0 a1_1)) else (arith_divided.j0 k a0_0 a0_1 a1_0 a1_1 a0_0 a0_1 a1_0 a1_1)) = some (r1, r2, r3, r4) := h
  clear h
  have HC3 := Aside0.mk H
  clear H
  go_enter Tryd.func33, Tryd.ntmps33
  try go_wp2_with (first | ((with_reducible refine gate_dst (N := 2) rfl ?_); refine box_event ?hg (N := 2) ?hd (cs := #[.int .i64 a0_0, .int .u64 a0_1]) (t := 37) ?hr ?_; (case hd => rfl); (case hg => rfl); (case hr => first | (go_simp; done) | (go_simp; rfl)); intro gb134 hg w4 hbox hb; have n0_ := Aside0.mk (below_step (by repeat (first | (with_reducible first | exact HB.out | apply below_alloc | apply pw_below_drewN | apply below_drew1) | exact HB.out)) hb); have n1_ := Aside0.mk (hbox); have n2_ := Aside0.mk ((by rw [hg]; exact (below_size (by repeat (first | (with_reducible first | exact HB.out | apply below_alloc | apply pw_below_drewN | apply below_drew1) | exact HB.out))) : w.heap.size ≤ gb134)); have n3_ := Aside0.mk ((by rw [hg]; exact (below_size (by repeat (first | (with_reducible first | exact HB.out | apply below_alloc | apply pw_below_drewN | apply below_drew1) | exact HB.out))) : w.heap.size ≤ gb134)); clear HB; have HB := n0_; have BK134 := n1_; have GW134 := n2_; have GE134 := n3_; clear n0_ n1_ n2_ n3_; clear hb hbox hg) | ((with_reducible refine gate_dst (N := 3) rfl ?_); refine box_event ?hg (N := 3) ?hd (cs := #[.int .i64 a1_0, .int .u64 a1_1]) (t := 37) ?hr ?_; (case hd => rfl); (case hg => rfl); (case hr => first | (go_simp; done) | (go_simp; rfl)); intro gb135 hg w5 hbox hb; have n0_ := Aside0.mk (blk_below (g := gb134) (o := .cells #[.int .i64 a0_0, .int .u64 a0_1] 37 (0, 0)) (by (with_reducible repeat (first | refine blk_drewN ?_ _ | refine blk_drew ?_ | refine blk_alloc ?_ _)); exact BK134.out) hb); have n1_ := Aside0.mk (below_step (by repeat (first | (with_reducible first | exact HB.out | apply below_alloc | apply pw_below_drewN | apply below_drew1 | refine below_set ?_ GE134.out) | exact HB.out)) hb); have n2_ := Aside0.mk (hbox); have n3_ := Aside0.mk ((by rw [hg]; exact (below_size (by repeat (first | (with_reducible first | exact HB.out | apply below_alloc | apply pw_below_drewN | apply below_drew1 | refine below_set ?_ GE134.out) | exact HB.out))) : w.heap.size ≤ gb135)); have n4_ := Aside0.mk ((by rw [hg]; exact (below_size (by repeat (first | (with_reducible first | exact HB.out | apply below_alloc | apply pw_below_drewN | apply below_drew1 | refine below_set ?_ GE134.out) | exact HB.out))) : w.heap.size ≤ gb135)); have n5_ := Aside0.mk ((by rw [hg]; exact Nat.ne_of_lt (blk_lt (g := gb134) (o := .cells #[.int .i64 a0_0, .int .u64 a0_1] 37 (0, 0)) (by (with_reducible repeat (first | refine blk_drewN ?_ _ | refine blk_drew ?_ | refine blk_alloc ?_ _)); exact BK134.out)) : gb134 ≠ gb135)); have n6_ := Aside0.mk ((by rw [hg]; exact Nat.ne_of_gt (blk_lt (g := gb134) (o := .cells #[.int .i64 a0_0, .int .u64 a0_1] 37 (0, 0)) (by (with_reducible repeat (first | refine blk_drewN ?_ _ | refine blk_drew ?_ | refine blk_alloc ?_ _)); exact BK134.out)) : gb135 ≠ gb134)); clear BK134; clear HB; have BK134 := n0_; have HB := n1_; have BK135 := n2_; have GW135 := n3_; have GE135 := n4_; have NB134_135 := n5_; have NB135_134 := n6_; clear n0_ n1_ n2_ n3_ n4_ n5_ n6_; clear hb hbox hg) | ((with_reducible refine gate_dst (N := 4) rfl ?_); refine box_event ?hg (N := 4) ?hd (cs := #[.int .i64 0, .int .u64 0]) (t := 37) ?hr ?_; (case hd => rfl); (case hg => rfl); (case hr => first | (go_simp; done) | (go_simp; rfl)); intro gb136 hg w6 hbox hb; have n0_ := Aside0.mk (blk_below (g := gb134) (o := .cells #[.int .i64 a0_0, .int .u64 a0_1] 37 (0, 0)) (by (with_reducible repeat (first | refine blk_drewN ?_ _ | refine blk_drew ?_ | refine blk_alloc ?_ _)); exact BK134.out) hb); have n1_ := Aside0.mk (blk_below (g := gb135) (o := .cells #[.int .i64 a1_0, .int .u64 a1_1] 37 (0, 0)) (by (with_reducible repeat (first | refine blk_drewN ?_ _ | refine blk_drew ?_ | refine blk_alloc ?_ _)); exact BK135.out) hb); have n2_ := Aside0.mk (below_step (by repeat (first | (with_reducible first | exact HB.out | apply below_alloc | apply pw_below_drewN | apply below_drew1 | refine below_set ?_ GE134.out | refine below_set ?_ GE135.out) | exact HB.out)) hb); have n3_ := Aside0.mk (hbox); have n4_ := Aside0.mk ((by rw [hg]; exact (below_size (by repeat (first | (with_reducible first | exact HB.out | apply below_alloc | apply pw_below_drewN | apply below_drew1 | refine below_set ?_ GE134.out | refine below_set ?_ GE135.out) | exact HB.out))) : w.heap.size ≤ gb136)); have n5_ := Aside0.mk ((by rw [hg]; exact (below_size (by repeat (first | (with_reducible first | exact HB.out | apply below_alloc | apply pw_below_drewN | apply below_drew1 | refine below_set ?_ GE134.out | refine below_set ?_ GE135.out) | exact HB.out))) : w.heap.size ≤ gb136)); have n6_ := Aside0.mk ((by rw [hg]; exact Nat.ne_of_lt (blk_lt (g := gb134) (o := .cells #[.int .i64 a0_0, .int .u64 a0_1] 37 (0, 0)) (by (with_reducible repeat (first | refine blk_drewN ?_ _ | refine blk_drew ?_ | refine blk_alloc ?_ _)); exact BK134.out)) : gb134 ≠ gb136)); have n7_ := Aside0.mk ((by rw [hg]; exact Nat.ne_of_gt (blk_lt (g := gb134) (o := .cells #[.int .i64 a0_0, .int .u64 a0_1] 37 (0, 0)) (by (with_reducible repeat (first | refine blk_drewN ?_ _ | refine blk_drew ?_ | refine blk_alloc ?_ _)); exact BK134.out)) : gb136 ≠ gb134)); have n8_ := Aside0.mk ((by rw [hg]; exact Nat.ne_of_lt (blk_lt (g := gb135) (o := .cells #[.int .i64 a1_0, .int .u64 a1_1] 37 (0, 0)) (by (with_reducible repeat (first | refine blk_drewN ?_ _ | refine blk_drew ?_ | refine blk_alloc ?_ _)); exact BK135.out)) : gb135 ≠ gb136)); have n9_ := Aside0.mk ((by rw [hg]; exact Nat.ne_of_gt (blk_lt (g := gb135) (o := .cells #[.int .i64 a1_0, .int .u64 a1_1] 37 (0, 0)) (by (with_reducible repeat (first | refine blk_drewN ?_ _ | refine blk_drew ?_ | refine blk_alloc ?_ _)); exact BK135.out)) : gb136 ≠ gb135)); clear BK134; clear BK135; clear HB; have BK134 := n0_; have BK135 := n1_; have HB := n2_; have BK136 := n3_; have GW136 := n4_; have GE136 := n5_; have NB134_136 := n6_; have NB136_134 := n7_; have NB135_136 := n8_; have NB136_135 := n9_; clear n0_ n1_ n2_ n3_ n4_ n5_ n6_ n7_ n8_ n9_; clear hb hbox hg) | ((with_reducible refine gate_dst (N := 5) rfl ?_); refine box_event ?hg (N := 5) ?hd (cs := #[.int .i64 0, .int .u64 0]) (t := 37) ?hr ?_; (case hd => rfl); (case hg => rfl); (case hr => first | (go_simp; done) | (go_simp; rfl)); intro gb137 hg w7 hbox hb; have n0_ := Aside0.mk (blk_below (g := gb134) (o := .cells #[.int .i64 a0_0, .int .u64 a0_1] 37 (0, 0)) (by (with_reducible repeat (first | refine blk_drewN ?_ _ | refine blk_drew ?_ | refine blk_alloc ?_ _)); exact BK134.out) hb); have n1_ := Aside0.mk (blk_below (g := gb135) (o := .cells #[.int .i64 a1_0, .int .u64 a1_1] 37 (0, 0)) (by (with_reducible repeat (first | refine blk_drewN ?_ _ | refine blk_drew ?_ | refine blk_alloc ?_ _)); exact BK135.out) hb); have n2_ := Aside0.mk (blk_below (g := gb136) (o := .cells #[.int .i64 0, .int .u64 0] 37 (0, 0)) (by (with_reducible repeat (first | refine blk_drewN ?_ _ | refine blk_drew ?_ | refine blk_alloc ?_ _)); exact BK136.out) hb); have n3_ := Aside0.mk (below_step (by repeat (first | (with_reducible first | exact HB.out | apply below_alloc | apply pw_below_drewN | apply below_drew1 | refine below_set ?_ GE134.out | refine below_set ?_ GE135.out | refine below_set ?_ GE136.out) | exact HB.out)) hb); have n4_ := Aside0.mk (hbox); have n5_ := Aside0.mk ((by rw [hg]; exact (below_size (by repeat (first | (with_reducible first | exact HB.out | apply below_alloc | apply pw_below_drewN | apply below_drew1 | refine below_set ?_ GE134.out | refine below_set ?_ GE135.out | refine below_set ?_ GE136.out) | exact HB.out))) : w.heap.size ≤ gb137)); have n6_ := Aside0.mk ((by rw [hg]; exact (below_size (by repeat (first | (with_reducible first | exact HB.out | apply below_alloc | apply pw_below_drewN | apply below_drew1 | refine below_set ?_ GE134.out | refine below_set ?_ GE135.out | refine below_set ?_ GE136.out) | exact HB.out))) : w.heap.size ≤ gb137)); have n7_ := Aside0.mk ((by rw [hg]; exact Nat.ne_of_lt (blk_lt (g := gb134) (o := .cells #[.int .i64 a0_0, .int .u64 a0_1] 37 (0, 0)) (by (with_reducible repeat (first | refine blk_drewN ?_ _ | refine blk_drew ?_ | refine blk_alloc ?_ _)); exact BK134.out)) : gb134 ≠ gb137)); have n8_ := Aside0.mk ((by rw [hg]; exact Nat.ne_of_gt (blk_lt (g := gb134) (o := .cells #[.int .i64 a0_0, .int .u64 a0_1] 37 (0, 0)) (by (with_reducible repeat (first | refine blk_drewN ?_ _ | refine blk_drew ?_ | refine blk_alloc ?_ _)); exact BK134.out)) : gb137 ≠ gb134)); have n9_ := Aside0.mk ((by rw [hg]; exact Nat.ne_of_lt (blk_lt (g := gb135) (o := .cells #[.int .i64 a1_0, .int .u64 a1_1] 37 (0, 0)) (by (with_reducible repeat (first | refine blk_drewN ?_ _ | refine blk_drew ?_ | refine blk_alloc ?_ _)); exact BK135.out)) : gb135 ≠ gb137)); have n10_ := Aside0.mk ((by rw [hg]; exact Nat.ne_of_gt (blk_lt (g := gb135) (o := .cells #[.int .i64 a1_0, .int .u64 a1_1] 37 (0, 0)) (by (with_reducible repeat (first | refine blk_drewN ?_ _ | refine blk_drew ?_ | refine blk_alloc ?_ _)); exact BK135.out)) : gb137 ≠ gb135)); have n11_ := Aside0.mk ((by rw [hg]; exact Nat.ne_of_lt (blk_lt (g := gb136) (o := .cells #[.int .i64 0, .int .u64 0] 37 (0, 0)) (by (with_reducible repeat (first | refine blk_drewN ?_ _ | refine blk_drew ?_ | refine blk_alloc ?_ _)); exact BK136.out)) : gb136 ≠ gb137)); have n12_ := Aside0.mk ((by rw [hg]; exact Nat.ne_of_gt (blk_lt (g := gb136) (o := .cells #[.int .i64 0, .int .u64 0] 37 (0, 0)) (by (with_reducible repeat (first | refine blk_drewN ?_ _ | refine blk_drew ?_ | refine blk_alloc ?_ _)); exact BK136.out)) : gb137 ≠ gb136)); clear BK134; clear BK135; clear BK136; clear HB; have BK134 := n0_; have BK135 := n1_; have BK136 := n2_; have HB := n3_; have BK137 := n4_; have GW137 := n5_; have GE137 := n6_; have NB134_137 := n7_; have NB137_134 := n8_; have NB135_137 := n9_; have NB137_135 := n10_; have NB136_137 := n11_; have NB137_136 := n12_; clear n0_ n1_ n2_ n3_ n4_ n5_ n6_ n7_ n8_ n9_ n10_ n11_ n12_; clear hb hbox hg))
  have n0_ := Aside0.mk (blk_drew BK134.out)
  have n1_ := Aside0.mk (blk_drew BK135.out)
  have n2_ := Aside0.mk (blk_drew BK136.out)
  have n3_ := Aside0.mk (blk_drew BK137.out)
  have n4_ := Aside0.mk (below_drew1 HB.out)
  clear BK134
  clear BK135
  clear BK136
  clear BK137
  clear HB
  have BK134 := n0_
  have BK135 := n1_
  have BK136 := n2_
  have BK137 := n3_
  have HB := n4_
  clear n0_ n1_ n2_ n3_ n4_
  refine start_ (n := 6) (S := fun w' => w'.cell? ⟨gb134, 0, none⟩ = some (.int .i64 a0_0) ∧ w'.cell? ⟨gb134, 1, none⟩ = some (.int .u64 a0_1) ∧ w'.cell? ⟨gb135, 0, none⟩ = some (.int .i64 a1_0) ∧ w'.cell? ⟨gb135, 1, none⟩ = some (.int .u64 a1_1)) (ds := []) #[false, false, false, false, false, false] (by kernel_rfl) rfl rfl ⟨(blk_cell BK134.out 0).trans rfl, (blk_cell BK134.out 1).trans rfl, (blk_cell BK135.out 0).trans rfl, (blk_cell BK135.out 1).trans rfl⟩ (fun hHeld => ?_)
  generalize w7.drew = w8 at BK134 BK135 BK136 BK137 HB hHeld ⊢
  refine take_ (i := 0) (N := some 10) (v := ?_) (a' := ?_) #[true, false, false, false, false, false] rfl rfl (by kernel_rfl) (fun _ _ _ h => h) (Or.inl ⟨by rfl, ?_⟩) hHeld ?_ ?_
  rotate_left
  · rintro w' ⟨s0, s1, s2, s3⟩
    go_simp
    with_reducible rfl
  rotate_left
  · simp only [Act.put, List.setIfInBounds_toArray, List.set_cons_zero, List.set_cons_succ, i64_w, i32_w]
    rfl
  refine take_ (i := 1) (N := some 11) (v := ?_) (a' := ?_) #[true, true, false, false, false, false] rfl rfl (by kernel_rfl) (fun _ _ _ h => h) (Or.inl ⟨by rfl, ?_⟩) hHeld ?_ ?_
  rotate_left
  · rintro w' ⟨s0, s1, s2, s3⟩
    go_simp
    with_reducible rfl
  rotate_left
  · simp only [Act.put, List.setIfInBounds_toArray, List.set_cons_zero, List.set_cons_succ, i64_w, i32_w]
    rfl
  refine join_ (σ := Nat × Nat) 2 #[true, true, true, true, false, false] (fun s_ => [(6, .pointer (some ⟨s_.1, 0, none⟩)), (7, .pointer (some ⟨s_.2, 0, none⟩))]) (fun s_ w' => (w'.cell? ⟨gb134, 0, none⟩ = some (.int .i64 a0_0) ∧ w'.cell? ⟨gb134, 1, none⟩ = some (.int .u64 a0_1) ∧ w'.cell? ⟨gb135, 0, none⟩ = some (.int .i64 a1_0) ∧ w'.cell? ⟨gb135, 1, none⟩ = some (.int .u64 a1_1)) ∧ (w'.heap[gb134]? = some (.cells #[.int .i64 a0_0, .int .u64 a0_1] 37 (0, 0))) ∧ (w'.heap[gb135]? = some (.cells #[.int .i64 a1_0, .int .u64 a1_1] 37 (0, 0))) ∧ (w'.heap[gb136]? = some (.cells #[.int .i64 0, .int .u64 0] 37 (0, 0))) ∧ (w'.heap[gb137]? = some (.cells #[.int .i64 0, .int .u64 0] 37 (0, 0))) ∧ (w'.heap[s_.1]? = some (.cells #[.int .i64 0, .int .u64 0] 37 (0, 0))) ∧ (w'.heap[s_.2]? = some (.cells #[.int .i64 0, .int .u64 0] 37 (0, 0))) ∧ (w.heap.size ≤ s_.1) ∧ (w.heap.size ≤ s_.1) ∧ (gb134 ≠ s_.1) ∧ (s_.1 ≠ gb134) ∧ (gb135 ≠ s_.1) ∧ (s_.1 ≠ gb135) ∧ (gb136 ≠ s_.1) ∧ (s_.1 ≠ gb136) ∧ (gb137 ≠ s_.1) ∧ (s_.1 ≠ gb137) ∧ (s_.2 ≠ s_.1) ∧ (s_.1 ≠ s_.2) ∧ (w.heap.size ≤ s_.2) ∧ (w.heap.size ≤ s_.2) ∧ (gb134 ≠ s_.2) ∧ (s_.2 ≠ gb134) ∧ (gb135 ≠ s_.2) ∧ (s_.2 ≠ gb135) ∧ (gb136 ≠ s_.2) ∧ (s_.2 ≠ gb136) ∧ (gb137 ≠ s_.2) ∧ (s_.2 ≠ gb137) ∧ (Below w.heap.size w w')) ?_ ?_
  rotate_left
  · intro hCont
    refine two_ (i := 2) (j := 3) (Ni := some 6) (Nj := some 7) #[true, true, true, false, false, false] #[true, true, false, true, false, false] rfl rfl rfl rfl (by kernel_rfl) (by decide) (by decide) (fun K hK => ?_) (fun K hK => ?_)
    · skip
      refine box_step ?hg (N := 6) ?hd (cs := #[.int .i64 0, .int .u64 0]) (t := 37) ?hr ?_; (case hd => rfl); (case hg => rfl); (case hr => first | (go_simp; done) | (go_simp; rfl))
      intro gb138 hg w9 hbox hb
      have n0_ := Aside0.mk (blk_below (g := gb134) (o := .cells #[.int .i64 a0_0, .int .u64 a0_1] 37 (0, 0)) (by (with_reducible repeat (first | refine blk_drewN ?_ _ | refine blk_drew ?_ | refine blk_alloc ?_ _)); exact BK134.out) hb)
      have n1_ := Aside0.mk (blk_below (g := gb135) (o := .cells #[.int .i64 a1_0, .int .u64 a1_1] 37 (0, 0)) (by (with_reducible repeat (first | refine blk_drewN ?_ _ | refine blk_drew ?_ | refine blk_alloc ?_ _)); exact BK135.out) hb)
      have n2_ := Aside0.mk (blk_below (g := gb136) (o := .cells #[.int .i64 0, .int .u64 0] 37 (0, 0)) (by (with_reducible repeat (first | refine blk_drewN ?_ _ | refine blk_drew ?_ | refine blk_alloc ?_ _)); exact BK136.out) hb)
      have n3_ := Aside0.mk (blk_below (g := gb137) (o := .cells #[.int .i64 0, .int .u64 0] 37 (0, 0)) (by (with_reducible repeat (first | refine blk_drewN ?_ _ | refine blk_drew ?_ | refine blk_alloc ?_ _)); exact BK137.out) hb)
      have n4_ := Aside0.mk (below_step (by repeat (first | (with_reducible first | exact HB.out | apply below_alloc | apply pw_below_drewN | apply below_drew1 | refine below_set ?_ GE134.out | refine below_set ?_ GE135.out | refine below_set ?_ GE136.out | refine below_set ?_ GE137.out) | exact HB.out)) hb)
      have n5_ := Aside0.mk (hbox)
      have n6_ := Aside0.mk ((by rw [hg]; exact (below_size (by repeat (first | (with_reducible first | exact HB.out | apply below_alloc | apply pw_below_drewN | apply below_drew1 | refine below_set ?_ GE134.out | refine below_set ?_ GE135.out | refine below_set ?_ GE136.out | refine below_set ?_ GE137.out) | exact HB.out))) : w.heap.size ≤ gb138))
      have n7_ := Aside0.mk ((by rw [hg]; exact (below_size (by repeat (first | (with_reducible first | exact HB.out | apply below_alloc | apply pw_below_drewN | apply below_drew1 | refine below_set ?_ GE134.out | refine below_set ?_ GE135.out | refine below_set ?_ GE136.out | refine below_set ?_ GE137.out) | exact HB.out))) : w.heap.size ≤ gb138))
      have n8_ := Aside0.mk ((by rw [hg]; exact Nat.ne_of_lt (blk_lt (g := gb134) (o := .cells #[.int .i64 a0_0, .int .u64 a0_1] 37 (0, 0)) (by (with_reducible repeat (first | refine blk_drewN ?_ _ | refine blk_drew ?_ | refine blk_alloc ?_ _)); exact BK134.out)) : gb134 ≠ gb138))
      have n9_ := Aside0.mk ((by rw [hg]; exact Nat.ne_of_gt (blk_lt (g := gb134) (o := .cells #[.int .i64 a0_0, .int .u64 a0_1] 37 (0, 0)) (by (with_reducible repeat (first | refine blk_drewN ?_ _ | refine blk_drew ?_ | refine blk_alloc ?_ _)); exact BK134.out)) : gb138 ≠ gb134))
      have n10_ := Aside0.mk ((by rw [hg]; exact Nat.ne_of_lt (blk_lt (g := gb135) (o := .cells #[.int .i64 a1_0, .int .u64 a1_1] 37 (0, 0)) (by (with_reducible repeat (first | refine blk_drewN ?_ _ | refine blk_drew ?_ | refine blk_alloc ?_ _)); exact BK135.out)) : gb135 ≠ gb138))
      have n11_ := Aside0.mk ((by rw [hg]; exact Nat.ne_of_gt (blk_lt (g := gb135) (o := .cells #[.int .i64 a1_0, .int .u64 a1_1] 37 (0, 0)) (by (with_reducible repeat (first | refine blk_drewN ?_ _ | refine blk_drew ?_ | refine blk_alloc ?_ _)); exact BK135.out)) : gb138 ≠ gb135))
      have n12_ := Aside0.mk ((by rw [hg]; exact Nat.ne_of_lt (blk_lt (g := gb136) (o := .cells #[.int .i64 0, .int .u64 0] 37 (0, 0)) (by (with_reducible repeat (first | refine blk_drewN ?_ _ | refine blk_drew ?_ | refine blk_alloc ?_ _)); exact BK136.out)) : gb136 ≠ gb138))
      have n13_ := Aside0.mk ((by rw [hg]; exact Nat.ne_of_gt (blk_lt (g := gb136) (o := .cells #[.int .i64 0, .int .u64 0] 37 (0, 0)) (by (with_reducible repeat (first | refine blk_drewN ?_ _ | refine blk_drew ?_ | refine blk_alloc ?_ _)); exact BK136.out)) : gb138 ≠ gb136))
      have n14_ := Aside0.mk ((by rw [hg]; exact Nat.ne_of_lt (blk_lt (g := gb137) (o := .cells #[.int .i64 0, .int .u64 0] 37 (0, 0)) (by (with_reducible repeat (first | refine blk_drewN ?_ _ | refine blk_drew ?_ | refine blk_alloc ?_ _)); exact BK137.out)) : gb137 ≠ gb138))
      have n15_ := Aside0.mk ((by rw [hg]; exact Nat.ne_of_gt (blk_lt (g := gb137) (o := .cells #[.int .i64 0, .int .u64 0] 37 (0, 0)) (by (with_reducible repeat (first | refine blk_drewN ?_ _ | refine blk_drew ?_ | refine blk_alloc ?_ _)); exact BK137.out)) : gb138 ≠ gb137))
      clear BK134
      clear BK135
      clear BK136
      clear BK137
      clear HB
      have BK134 := n0_
      have BK135 := n1_
      have BK136 := n2_
      have BK137 := n3_
      have HB := n4_
      have BK138 := n5_
      have GW138 := n6_
      have GE138 := n7_
      have NB134_138 := n8_
      have NB138_134 := n9_
      have NB135_138 := n10_
      have NB138_135 := n11_
      have NB136_138 := n12_
      have NB138_136 := n13_
      have NB137_138 := n14_
      have NB138_137 := n15_
      clear n0_ n1_ n2_ n3_ n4_ n5_ n6_ n7_ n8_ n9_ n10_ n11_ n12_ n13_ n14_ n15_
      clear hb hbox hg
      refine hK.out _ _ ⟨(blk_cell BK134.out 0).trans rfl, (blk_cell BK134.out 1).trans rfl, (blk_cell BK135.out 0).trans rfl, (blk_cell BK135.out 1).trans rfl⟩ (fun hHeld => ?_)
      clear hK K
      refine norm_ (a' := ?_) ?_ ?_
      rotate_left
      · show Act.put _ (some 6) _ = _
        simp only [Act.put, List.setIfInBounds_toArray, List.set_cons_zero, List.set_cons_succ, i64_w, i32_w]
        rfl
      refine one_ (i := 3) (N := some 7) #[true, true, true, true, false, false] rfl rfl (by kernel_rfl) (by decide) (fun K hK => ?_)
      refine box_step ?hg (N := 7) ?hd (cs := #[.int .i64 0, .int .u64 0]) (t := 37) ?hr ?_; (case hd => rfl); (case hg => rfl); (case hr => first | (go_simp; done) | (go_simp; rfl))
      intro gb139 hg w10 hbox hb
      have n0_ := Aside0.mk (blk_below (g := gb134) (o := .cells #[.int .i64 a0_0, .int .u64 a0_1] 37 (0, 0)) (by (with_reducible repeat (first | refine blk_drewN ?_ _ | refine blk_drew ?_ | refine blk_alloc ?_ _)); exact BK134.out) hb)
      have n1_ := Aside0.mk (blk_below (g := gb135) (o := .cells #[.int .i64 a1_0, .int .u64 a1_1] 37 (0, 0)) (by (with_reducible repeat (first | refine blk_drewN ?_ _ | refine blk_drew ?_ | refine blk_alloc ?_ _)); exact BK135.out) hb)
      have n2_ := Aside0.mk (blk_below (g := gb136) (o := .cells #[.int .i64 0, .int .u64 0] 37 (0, 0)) (by (with_reducible repeat (first | refine blk_drewN ?_ _ | refine blk_drew ?_ | refine blk_alloc ?_ _)); exact BK136.out) hb)
      have n3_ := Aside0.mk (blk_below (g := gb137) (o := .cells #[.int .i64 0, .int .u64 0] 37 (0, 0)) (by (with_reducible repeat (first | refine blk_drewN ?_ _ | refine blk_drew ?_ | refine blk_alloc ?_ _)); exact BK137.out) hb)
      have n4_ := Aside0.mk (blk_below (g := gb138) (o := .cells #[.int .i64 0, .int .u64 0] 37 (0, 0)) (by (with_reducible repeat (first | refine blk_drewN ?_ _ | refine blk_drew ?_ | refine blk_alloc ?_ _)); exact BK138.out) hb)
      have n5_ := Aside0.mk (below_step (by repeat (first | (with_reducible first | exact HB.out | apply below_alloc | apply pw_below_drewN | apply below_drew1 | refine below_set ?_ GE134.out | refine below_set ?_ GE135.out | refine below_set ?_ GE136.out | refine below_set ?_ GE137.out | refine below_set ?_ GE138.out) | exact HB.out)) hb)
      have n6_ := Aside0.mk (hbox)
      have n7_ := Aside0.mk ((by rw [hg]; exact (below_size (by repeat (first | (with_reducible first | exact HB.out | apply below_alloc | apply pw_below_drewN | apply below_drew1 | refine below_set ?_ GE134.out | refine below_set ?_ GE135.out | refine below_set ?_ GE136.out | refine below_set ?_ GE137.out | refine below_set ?_ GE138.out) | exact HB.out))) : w.heap.size ≤ gb139))
      have n8_ := Aside0.mk ((by rw [hg]; exact (below_size (by repeat (first | (with_reducible first | exact HB.out | apply below_alloc | apply pw_below_drewN | apply below_drew1 | refine below_set ?_ GE134.out | refine below_set ?_ GE135.out | refine below_set ?_ GE136.out | refine below_set ?_ GE137.out | refine below_set ?_ GE138.out) | exact HB.out))) : w.heap.size ≤ gb139))
      have n9_ := Aside0.mk ((by rw [hg]; exact Nat.ne_of_lt (blk_lt (g := gb134) (o := .cells #[.int .i64 a0_0, .int .u64 a0_1] 37 (0, 0)) (by (with_reducible repeat (first | refine blk_drewN ?_ _ | refine blk_drew ?_ | refine blk_alloc ?_ _)); exact BK134.out)) : gb134 ≠ gb139))
      have n10_ := Aside0.mk ((by rw [hg]; exact Nat.ne_of_gt (blk_lt (g := gb134) (o := .cells #[.int .i64 a0_0, .int .u64 a0_1] 37 (0, 0)) (by (with_reducible repeat (first | refine blk_drewN ?_ _ | refine blk_drew ?_ | refine blk_alloc ?_ _)); exact BK134.out)) : gb139 ≠ gb134))
      have n11_ := Aside0.mk ((by rw [hg]; exact Nat.ne_of_lt (blk_lt (g := gb135) (o := .cells #[.int .i64 a1_0, .int .u64 a1_1] 37 (0, 0)) (by (with_reducible repeat (first | refine blk_drewN ?_ _ | refine blk_drew ?_ | refine blk_alloc ?_ _)); exact BK135.out)) : gb135 ≠ gb139))
      have n12_ := Aside0.mk ((by rw [hg]; exact Nat.ne_of_gt (blk_lt (g := gb135) (o := .cells #[.int .i64 a1_0, .int .u64 a1_1] 37 (0, 0)) (by (with_reducible repeat (first | refine blk_drewN ?_ _ | refine blk_drew ?_ | refine blk_alloc ?_ _)); exact BK135.out)) : gb139 ≠ gb135))
      have n13_ := Aside0.mk ((by rw [hg]; exact Nat.ne_of_lt (blk_lt (g := gb136) (o := .cells #[.int .i64 0, .int .u64 0] 37 (0, 0)) (by (with_reducible repeat (first | refine blk_drewN ?_ _ | refine blk_drew ?_ | refine blk_alloc ?_ _)); exact BK136.out)) : gb136 ≠ gb139))
      have n14_ := Aside0.mk ((by rw [hg]; exact Nat.ne_of_gt (blk_lt (g := gb136) (o := .cells #[.int .i64 0, .int .u64 0] 37 (0, 0)) (by (with_reducible repeat (first | refine blk_drewN ?_ _ | refine blk_drew ?_ | refine blk_alloc ?_ _)); exact BK136.out)) : gb139 ≠ gb136))
      have n15_ := Aside0.mk ((by rw [hg]; exact Nat.ne_of_lt (blk_lt (g := gb137) (o := .cells #[.int .i64 0, .int .u64 0] 37 (0, 0)) (by (with_reducible repeat (first | refine blk_drewN ?_ _ | refine blk_drew ?_ | refine blk_alloc ?_ _)); exact BK137.out)) : gb137 ≠ gb139))
      have n16_ := Aside0.mk ((by rw [hg]; exact Nat.ne_of_gt (blk_lt (g := gb137) (o := .cells #[.int .i64 0, .int .u64 0] 37 (0, 0)) (by (with_reducible repeat (first | refine blk_drewN ?_ _ | refine blk_drew ?_ | refine blk_alloc ?_ _)); exact BK137.out)) : gb139 ≠ gb137))
      have n17_ := Aside0.mk ((by rw [hg]; exact Nat.ne_of_lt (blk_lt (g := gb138) (o := .cells #[.int .i64 0, .int .u64 0] 37 (0, 0)) (by (with_reducible repeat (first | refine blk_drewN ?_ _ | refine blk_drew ?_ | refine blk_alloc ?_ _)); exact BK138.out)) : gb138 ≠ gb139))
      have n18_ := Aside0.mk ((by rw [hg]; exact Nat.ne_of_gt (blk_lt (g := gb138) (o := .cells #[.int .i64 0, .int .u64 0] 37 (0, 0)) (by (with_reducible repeat (first | refine blk_drewN ?_ _ | refine blk_drew ?_ | refine blk_alloc ?_ _)); exact BK138.out)) : gb139 ≠ gb138))
      clear BK134
      clear BK135
      clear BK136
      clear BK137
      clear BK138
      clear HB
      have BK134 := n0_
      have BK135 := n1_
      have BK136 := n2_
      have BK137 := n3_
      have BK138 := n4_
      have HB := n5_
      have BK139 := n6_
      have GW139 := n7_
      have GE139 := n8_
      have NB134_139 := n9_
      have NB139_134 := n10_
      have NB135_139 := n11_
      have NB139_135 := n12_
      have NB136_139 := n13_
      have NB139_136 := n14_
      have NB137_139 := n15_
      have NB139_137 := n16_
      have NB138_139 := n17_
      have NB139_138 := n18_
      clear n0_ n1_ n2_ n3_ n4_ n5_ n6_ n7_ n8_ n9_ n10_ n11_ n12_ n13_ n14_ n15_ n16_ n17_ n18_
      clear hb hbox hg
      refine hK.out _ _ ⟨(blk_cell BK134.out 0).trans rfl, (blk_cell BK134.out 1).trans rfl, (blk_cell BK135.out 0).trans rfl, (blk_cell BK135.out 1).trans rfl⟩ (fun hHeld => ?_)
      clear hK K
      refine norm_ (a' := ?_) ?_ ?_
      rotate_left
      · show Act.put _ (some 7) _ = _
        simp only [Act.put, List.setIfInBounds_toArray, List.set_cons_zero, List.set_cons_succ, i64_w, i32_w]
        rfl
      exact norm_ (by simp only [putAll, Act.put, List.setIfInBounds_toArray, List.set_cons_zero, List.set_cons_succ]) (hCont (gb138, gb139) _ ⟨hHeld, (by (with_reducible repeat (first | refine blk_drewN ?_ _ | refine blk_drew ?_ | refine blk_alloc ?_ _)); exact BK134.out), (by (with_reducible repeat (first | refine blk_drewN ?_ _ | refine blk_drew ?_ | refine blk_alloc ?_ _)); exact BK135.out), (by (with_reducible repeat (first | refine blk_drewN ?_ _ | refine blk_drew ?_ | refine blk_alloc ?_ _)); exact BK136.out), (by (with_reducible repeat (first | refine blk_drewN ?_ _ | refine blk_drew ?_ | refine blk_alloc ?_ _)); exact BK137.out), (by (with_reducible repeat (first | refine blk_drewN ?_ _ | refine blk_drew ?_ | refine blk_alloc ?_ _)); exact BK138.out), (by (with_reducible repeat (first | refine blk_drewN ?_ _ | refine blk_drew ?_ | refine blk_alloc ?_ _)); exact BK139.out), GW138.out, GE138.out, NB134_138.out, NB138_134.out, NB135_138.out, NB138_135.out, NB136_138.out, NB138_136.out, NB137_138.out, NB138_137.out, NB139_138.out, NB138_139.out, GW139.out, GE139.out, NB134_139.out, NB139_134.out, NB135_139.out, NB139_135.out, NB136_139.out, NB139_136.out, NB137_139.out, NB139_137.out, (by repeat (first | (with_reducible first | exact HB.out | apply below_alloc | apply pw_below_drewN | apply below_drew1 | refine below_set ?_ GE134.out | refine below_set ?_ GE135.out | refine below_set ?_ GE136.out | refine below_set ?_ GE137.out | refine below_set ?_ GE138.out | refine below_set ?_ GE139.out) | exact HB.out))⟩)
    · skip
      refine box_step ?hg (N := 7) ?hd (cs := #[.int .i64 0, .int .u64 0]) (t := 37) ?hr ?_; (case hd => rfl); (case hg => rfl); (case hr => first | (go_simp; done) | (go_simp; rfl))
      intro gb139 hg w9 hbox hb
      have n0_ := Aside0.mk (blk_below (g := gb134) (o := .cells #[.int .i64 a0_0, .int .u64 a0_1] 37 (0, 0)) (by (with_reducible repeat (first | refine blk_drewN ?_ _ | refine blk_drew ?_ | refine blk_alloc ?_ _)); exact BK134.out) hb)
      have n1_ := Aside0.mk (blk_below (g := gb135) (o := .cells #[.int .i64 a1_0, .int .u64 a1_1] 37 (0, 0)) (by (with_reducible repeat (first | refine blk_drewN ?_ _ | refine blk_drew ?_ | refine blk_alloc ?_ _)); exact BK135.out) hb)
      have n2_ := Aside0.mk (blk_below (g := gb136) (o := .cells #[.int .i64 0, .int .u64 0] 37 (0, 0)) (by (with_reducible repeat (first | refine blk_drewN ?_ _ | refine blk_drew ?_ | refine blk_alloc ?_ _)); exact BK136.out) hb)
      have n3_ := Aside0.mk (blk_below (g := gb137) (o := .cells #[.int .i64 0, .int .u64 0] 37 (0, 0)) (by (with_reducible repeat (first | refine blk_drewN ?_ _ | refine blk_drew ?_ | refine blk_alloc ?_ _)); exact BK137.out) hb)
      have n4_ := Aside0.mk (below_step (by repeat (first | (with_reducible first | exact HB.out | apply below_alloc | apply pw_below_drewN | apply below_drew1 | refine below_set ?_ GE134.out | refine below_set ?_ GE135.out | refine below_set ?_ GE136.out | refine below_set ?_ GE137.out) | exact HB.out)) hb)
      have n5_ := Aside0.mk (hbox)
      have n6_ := Aside0.mk ((by rw [hg]; exact (below_size (by repeat (first | (with_reducible first | exact HB.out | apply below_alloc | apply pw_below_drewN | apply below_drew1 | refine below_set ?_ GE134.out | refine below_set ?_ GE135.out | refine below_set ?_ GE136.out | refine below_set ?_ GE137.out) | exact HB.out))) : w.heap.size ≤ gb139))
      have n7_ := Aside0.mk ((by rw [hg]; exact (below_size (by repeat (first | (with_reducible first | exact HB.out | apply below_alloc | apply pw_below_drewN | apply below_drew1 | refine below_set ?_ GE134.out | refine below_set ?_ GE135.out | refine below_set ?_ GE136.out | refine below_set ?_ GE137.out) | exact HB.out))) : w.heap.size ≤ gb139))
      have n8_ := Aside0.mk ((by rw [hg]; exact Nat.ne_of_lt (blk_lt (g := gb134) (o := .cells #[.int .i64 a0_0, .int .u64 a0_1] 37 (0, 0)) (by (with_reducible repeat (first | refine blk_drewN ?_ _ | refine blk_drew ?_ | refine blk_alloc ?_ _)); exact BK134.out)) : gb134 ≠ gb139))
      have n9_ := Aside0.mk ((by rw [hg]; exact Nat.ne_of_gt (blk_lt (g := gb134) (o := .cells #[.int .i64 a0_0, .int .u64 a0_1] 37 (0, 0)) (by (with_reducible repeat (first | refine blk_drewN ?_ _ | refine blk_drew ?_ | refine blk_alloc ?_ _)); exact BK134.out)) : gb139 ≠ gb134))
      have n10_ := Aside0.mk ((by rw [hg]; exact Nat.ne_of_lt (blk_lt (g := gb135) (o := .cells #[.int .i64 a1_0, .int .u64 a1_1] 37 (0, 0)) (by (with_reducible repeat (first | refine blk_drewN ?_ _ | refine blk_drew ?_ | refine blk_alloc ?_ _)); exact BK135.out)) : gb135 ≠ gb139))
      have n11_ := Aside0.mk ((by rw [hg]; exact Nat.ne_of_gt (blk_lt (g := gb135) (o := .cells #[.int .i64 a1_0, .int .u64 a1_1] 37 (0, 0)) (by (with_reducible repeat (first | refine blk_drewN ?_ _ | refine blk_drew ?_ | refine blk_alloc ?_ _)); exact BK135.out)) : gb139 ≠ gb135))
      have n12_ := Aside0.mk ((by rw [hg]; exact Nat.ne_of_lt (blk_lt (g := gb136) (o := .cells #[.int .i64 0, .int .u64 0] 37 (0, 0)) (by (with_reducible repeat (first | refine blk_drewN ?_ _ | refine blk_drew ?_ | refine blk_alloc ?_ _)); exact BK136.out)) : gb136 ≠ gb139))
      have n13_ := Aside0.mk ((by rw [hg]; exact Nat.ne_of_gt (blk_lt (g := gb136) (o := .cells #[.int .i64 0, .int .u64 0] 37 (0, 0)) (by (with_reducible repeat (first | refine blk_drewN ?_ _ | refine blk_drew ?_ | refine blk_alloc ?_ _)); exact BK136.out)) : gb139 ≠ gb136))
      have n14_ := Aside0.mk ((by rw [hg]; exact Nat.ne_of_lt (blk_lt (g := gb137) (o := .cells #[.int .i64 0, .int .u64 0] 37 (0, 0)) (by (with_reducible repeat (first | refine blk_drewN ?_ _ | refine blk_drew ?_ | refine blk_alloc ?_ _)); exact BK137.out)) : gb137 ≠ gb139))
      have n15_ := Aside0.mk ((by rw [hg]; exact Nat.ne_of_gt (blk_lt (g := gb137) (o := .cells #[.int .i64 0, .int .u64 0] 37 (0, 0)) (by (with_reducible repeat (first | refine blk_drewN ?_ _ | refine blk_drew ?_ | refine blk_alloc ?_ _)); exact BK137.out)) : gb139 ≠ gb137))
      clear BK134
      clear BK135
      clear BK136
      clear BK137
      clear HB
      have BK134 := n0_
      have BK135 := n1_
      have BK136 := n2_
      have BK137 := n3_
      have HB := n4_
      have BK139 := n5_
      have GW139 := n6_
      have GE139 := n7_
      have NB134_139 := n8_
      have NB139_134 := n9_
      have NB135_139 := n10_
      have NB139_135 := n11_
      have NB136_139 := n12_
      have NB139_136 := n13_
      have NB137_139 := n14_
      have NB139_137 := n15_
      clear n0_ n1_ n2_ n3_ n4_ n5_ n6_ n7_ n8_ n9_ n10_ n11_ n12_ n13_ n14_ n15_
      clear hb hbox hg
      refine hK.out _ _ ⟨(blk_cell BK134.out 0).trans rfl, (blk_cell BK134.out 1).trans rfl, (blk_cell BK135.out 0).trans rfl, (blk_cell BK135.out 1).trans rfl⟩ (fun hHeld => ?_)
      clear hK K
      refine norm_ (a' := ?_) ?_ ?_
      rotate_left
      · show Act.put _ (some 7) _ = _
        simp only [Act.put, List.setIfInBounds_toArray, List.set_cons_zero, List.set_cons_succ, i64_w, i32_w]
        rfl
      refine one_ (i := 2) (N := some 6) #[true, true, true, true, false, false] rfl rfl (by kernel_rfl) (by decide) (fun K hK => ?_)
      refine box_step ?hg (N := 6) ?hd (cs := #[.int .i64 0, .int .u64 0]) (t := 37) ?hr ?_; (case hd => rfl); (case hg => rfl); (case hr => first | (go_simp; done) | (go_simp; rfl))
      intro gb138 hg w10 hbox hb
      have n0_ := Aside0.mk (blk_below (g := gb134) (o := .cells #[.int .i64 a0_0, .int .u64 a0_1] 37 (0, 0)) (by (with_reducible repeat (first | refine blk_drewN ?_ _ | refine blk_drew ?_ | refine blk_alloc ?_ _)); exact BK134.out) hb)
      have n1_ := Aside0.mk (blk_below (g := gb135) (o := .cells #[.int .i64 a1_0, .int .u64 a1_1] 37 (0, 0)) (by (with_reducible repeat (first | refine blk_drewN ?_ _ | refine blk_drew ?_ | refine blk_alloc ?_ _)); exact BK135.out) hb)
      have n2_ := Aside0.mk (blk_below (g := gb136) (o := .cells #[.int .i64 0, .int .u64 0] 37 (0, 0)) (by (with_reducible repeat (first | refine blk_drewN ?_ _ | refine blk_drew ?_ | refine blk_alloc ?_ _)); exact BK136.out) hb)
      have n3_ := Aside0.mk (blk_below (g := gb137) (o := .cells #[.int .i64 0, .int .u64 0] 37 (0, 0)) (by (with_reducible repeat (first | refine blk_drewN ?_ _ | refine blk_drew ?_ | refine blk_alloc ?_ _)); exact BK137.out) hb)
      have n4_ := Aside0.mk (blk_below (g := gb139) (o := .cells #[.int .i64 0, .int .u64 0] 37 (0, 0)) (by (with_reducible repeat (first | refine blk_drewN ?_ _ | refine blk_drew ?_ | refine blk_alloc ?_ _)); exact BK139.out) hb)
      have n5_ := Aside0.mk (below_step (by repeat (first | (with_reducible first | exact HB.out | apply below_alloc | apply pw_below_drewN | apply below_drew1 | refine below_set ?_ GE134.out | refine below_set ?_ GE135.out | refine below_set ?_ GE136.out | refine below_set ?_ GE137.out | refine below_set ?_ GE139.out) | exact HB.out)) hb)
      have n6_ := Aside0.mk (hbox)
      have n7_ := Aside0.mk ((by rw [hg]; exact (below_size (by repeat (first | (with_reducible first | exact HB.out | apply below_alloc | apply pw_below_drewN | apply below_drew1 | refine below_set ?_ GE134.out | refine below_set ?_ GE135.out | refine below_set ?_ GE136.out | refine below_set ?_ GE137.out | refine below_set ?_ GE139.out) | exact HB.out))) : w.heap.size ≤ gb138))
      have n8_ := Aside0.mk ((by rw [hg]; exact (below_size (by repeat (first | (with_reducible first | exact HB.out | apply below_alloc | apply pw_below_drewN | apply below_drew1 | refine below_set ?_ GE134.out | refine below_set ?_ GE135.out | refine below_set ?_ GE136.out | refine below_set ?_ GE137.out | refine below_set ?_ GE139.out) | exact HB.out))) : w.heap.size ≤ gb138))
      have n9_ := Aside0.mk ((by rw [hg]; exact Nat.ne_of_lt (blk_lt (g := gb134) (o := .cells #[.int .i64 a0_0, .int .u64 a0_1] 37 (0, 0)) (by (with_reducible repeat (first | refine blk_drewN ?_ _ | refine blk_drew ?_ | refine blk_alloc ?_ _)); exact BK134.out)) : gb134 ≠ gb138))
      have n10_ := Aside0.mk ((by rw [hg]; exact Nat.ne_of_gt (blk_lt (g := gb134) (o := .cells #[.int .i64 a0_0, .int .u64 a0_1] 37 (0, 0)) (by (with_reducible repeat (first | refine blk_drewN ?_ _ | refine blk_drew ?_ | refine blk_alloc ?_ _)); exact BK134.out)) : gb138 ≠ gb134))
      have n11_ := Aside0.mk ((by rw [hg]; exact Nat.ne_of_lt (blk_lt (g := gb135) (o := .cells #[.int .i64 a1_0, .int .u64 a1_1] 37 (0, 0)) (by (with_reducible repeat (first | refine blk_drewN ?_ _ | refine blk_drew ?_ | refine blk_alloc ?_ _)); exact BK135.out)) : gb135 ≠ gb138))
      have n12_ := Aside0.mk ((by rw [hg]; exact Nat.ne_of_gt (blk_lt (g := gb135) (o := .cells #[.int .i64 a1_0, .int .u64 a1_1] 37 (0, 0)) (by (with_reducible repeat (first | refine blk_drewN ?_ _ | refine blk_drew ?_ | refine blk_alloc ?_ _)); exact BK135.out)) : gb138 ≠ gb135))
      have n13_ := Aside0.mk ((by rw [hg]; exact Nat.ne_of_lt (blk_lt (g := gb136) (o := .cells #[.int .i64 0, .int .u64 0] 37 (0, 0)) (by (with_reducible repeat (first | refine blk_drewN ?_ _ | refine blk_drew ?_ | refine blk_alloc ?_ _)); exact BK136.out)) : gb136 ≠ gb138))
      have n14_ := Aside0.mk ((by rw [hg]; exact Nat.ne_of_gt (blk_lt (g := gb136) (o := .cells #[.int .i64 0, .int .u64 0] 37 (0, 0)) (by (with_reducible repeat (first | refine blk_drewN ?_ _ | refine blk_drew ?_ | refine blk_alloc ?_ _)); exact BK136.out)) : gb138 ≠ gb136))
      have n15_ := Aside0.mk ((by rw [hg]; exact Nat.ne_of_lt (blk_lt (g := gb137) (o := .cells #[.int .i64 0, .int .u64 0] 37 (0, 0)) (by (with_reducible repeat (first | refine blk_drewN ?_ _ | refine blk_drew ?_ | refine blk_alloc ?_ _)); exact BK137.out)) : gb137 ≠ gb138))
      have n16_ := Aside0.mk ((by rw [hg]; exact Nat.ne_of_gt (blk_lt (g := gb137) (o := .cells #[.int .i64 0, .int .u64 0] 37 (0, 0)) (by (with_reducible repeat (first | refine blk_drewN ?_ _ | refine blk_drew ?_ | refine blk_alloc ?_ _)); exact BK137.out)) : gb138 ≠ gb137))
      have n17_ := Aside0.mk ((by rw [hg]; exact Nat.ne_of_lt (blk_lt (g := gb139) (o := .cells #[.int .i64 0, .int .u64 0] 37 (0, 0)) (by (with_reducible repeat (first | refine blk_drewN ?_ _ | refine blk_drew ?_ | refine blk_alloc ?_ _)); exact BK139.out)) : gb139 ≠ gb138))
      have n18_ := Aside0.mk ((by rw [hg]; exact Nat.ne_of_gt (blk_lt (g := gb139) (o := .cells #[.int .i64 0, .int .u64 0] 37 (0, 0)) (by (with_reducible repeat (first | refine blk_drewN ?_ _ | refine blk_drew ?_ | refine blk_alloc ?_ _)); exact BK139.out)) : gb138 ≠ gb139))
      clear BK134
      clear BK135
      clear BK136
      clear BK137
      clear BK139
      clear HB
      have BK134 := n0_
      have BK135 := n1_
      have BK136 := n2_
      have BK137 := n3_
      have BK139 := n4_
      have HB := n5_
      have BK138 := n6_
      have GW138 := n7_
      have GE138 := n8_
      have NB134_138 := n9_
      have NB138_134 := n10_
      have NB135_138 := n11_
      have NB138_135 := n12_
      have NB136_138 := n13_
      have NB138_136 := n14_
      have NB137_138 := n15_
      have NB138_137 := n16_
      have NB139_138 := n17_
      have NB138_139 := n18_
      clear n0_ n1_ n2_ n3_ n4_ n5_ n6_ n7_ n8_ n9_ n10_ n11_ n12_ n13_ n14_ n15_ n16_ n17_ n18_
      clear hb hbox hg
      refine hK.out _ _ ⟨(blk_cell BK134.out 0).trans rfl, (blk_cell BK134.out 1).trans rfl, (blk_cell BK135.out 0).trans rfl, (blk_cell BK135.out 1).trans rfl⟩ (fun hHeld => ?_)
      clear hK K
      refine norm_ (a' := ?_) ?_ ?_
      rotate_left
      · show Act.put _ (some 6) _ = _
        simp only [Act.put, List.setIfInBounds_toArray, List.set_cons_zero, List.set_cons_succ, i64_w, i32_w]
        rfl
      exact norm_ (by simp only [putAll, Act.put, List.setIfInBounds_toArray, List.set_cons_zero, List.set_cons_succ]) (hCont (gb138, gb139) _ ⟨hHeld, (by (with_reducible repeat (first | refine blk_drewN ?_ _ | refine blk_drew ?_ | refine blk_alloc ?_ _)); exact BK134.out), (by (with_reducible repeat (first | refine blk_drewN ?_ _ | refine blk_drew ?_ | refine blk_alloc ?_ _)); exact BK135.out), (by (with_reducible repeat (first | refine blk_drewN ?_ _ | refine blk_drew ?_ | refine blk_alloc ?_ _)); exact BK136.out), (by (with_reducible repeat (first | refine blk_drewN ?_ _ | refine blk_drew ?_ | refine blk_alloc ?_ _)); exact BK137.out), (by (with_reducible repeat (first | refine blk_drewN ?_ _ | refine blk_drew ?_ | refine blk_alloc ?_ _)); exact BK138.out), (by (with_reducible repeat (first | refine blk_drewN ?_ _ | refine blk_drew ?_ | refine blk_alloc ?_ _)); exact BK139.out), GW138.out, GE138.out, NB134_138.out, NB138_134.out, NB135_138.out, NB138_135.out, NB136_138.out, NB138_136.out, NB137_138.out, NB138_137.out, NB139_138.out, NB138_139.out, GW139.out, GE139.out, NB134_139.out, NB139_134.out, NB135_139.out, NB139_135.out, NB136_139.out, NB139_136.out, NB137_139.out, NB139_137.out, (by repeat (first | (with_reducible first | exact HB.out | apply below_alloc | apply pw_below_drewN | apply below_drew1 | refine below_set ?_ GE134.out | refine below_set ?_ GE135.out | refine below_set ?_ GE136.out | refine below_set ?_ GE137.out | refine below_set ?_ GE139.out | refine below_set ?_ GE138.out) | exact HB.out))⟩)
  rintro ⟨gb138, gb139⟩ w11 ⟨hS_, h0_, h1_, h2_, h3_, h4_, h5_, h6_, h7_, h8_, h9_, h10_, h11_, h12_, h13_, h14_, h15_, h16_, h17_, h18_, h19_, h20_, h21_, h22_, h23_, h24_, h25_, h26_, h27_, h28_⟩
  have n0_ : Aside0 (w11.heap[gb134]? = some (.cells #[.int .i64 a0_0, .int .u64 a0_1] 37 (0, 0))) := ⟨h0_⟩
  have n1_ : Aside0 (w11.heap[gb135]? = some (.cells #[.int .i64 a1_0, .int .u64 a1_1] 37 (0, 0))) := ⟨h1_⟩
  have n2_ : Aside0 (w11.heap[gb136]? = some (.cells #[.int .i64 0, .int .u64 0] 37 (0, 0))) := ⟨h2_⟩
  have n3_ : Aside0 (w11.heap[gb137]? = some (.cells #[.int .i64 0, .int .u64 0] 37 (0, 0))) := ⟨h3_⟩
  have n4_ : Aside0 (w11.heap[gb138]? = some (.cells #[.int .i64 0, .int .u64 0] 37 (0, 0))) := ⟨h4_⟩
  have n5_ : Aside0 (w11.heap[gb139]? = some (.cells #[.int .i64 0, .int .u64 0] 37 (0, 0))) := ⟨h5_⟩
  have n6_ : Aside0 (w.heap.size ≤ gb138) := ⟨h6_⟩
  have n7_ : Aside0 (w.heap.size ≤ gb138) := ⟨h7_⟩
  have n8_ : Aside0 (gb134 ≠ gb138) := ⟨h8_⟩
  have n9_ : Aside0 (gb138 ≠ gb134) := ⟨h9_⟩
  have n10_ : Aside0 (gb135 ≠ gb138) := ⟨h10_⟩
  have n11_ : Aside0 (gb138 ≠ gb135) := ⟨h11_⟩
  have n12_ : Aside0 (gb136 ≠ gb138) := ⟨h12_⟩
  have n13_ : Aside0 (gb138 ≠ gb136) := ⟨h13_⟩
  have n14_ : Aside0 (gb137 ≠ gb138) := ⟨h14_⟩
  have n15_ : Aside0 (gb138 ≠ gb137) := ⟨h15_⟩
  have n16_ : Aside0 (gb139 ≠ gb138) := ⟨h16_⟩
  have n17_ : Aside0 (gb138 ≠ gb139) := ⟨h17_⟩
  have n18_ : Aside0 (w.heap.size ≤ gb139) := ⟨h18_⟩
  have n19_ : Aside0 (w.heap.size ≤ gb139) := ⟨h19_⟩
  have n20_ : Aside0 (gb134 ≠ gb139) := ⟨h20_⟩
  have n21_ : Aside0 (gb139 ≠ gb134) := ⟨h21_⟩
  have n22_ : Aside0 (gb135 ≠ gb139) := ⟨h22_⟩
  have n23_ : Aside0 (gb139 ≠ gb135) := ⟨h23_⟩
  have n24_ : Aside0 (gb136 ≠ gb139) := ⟨h24_⟩
  have n25_ : Aside0 (gb139 ≠ gb136) := ⟨h25_⟩
  have n26_ : Aside0 (gb137 ≠ gb139) := ⟨h26_⟩
  have n27_ : Aside0 (gb139 ≠ gb137) := ⟨h27_⟩
  have n28_ : Aside0 (Below w.heap.size w w11) := ⟨h28_⟩
  clear BK134
  clear BK135
  clear BK136
  clear BK137
  clear HB
  clear h0_ h1_ h2_ h3_ h4_ h5_ h6_ h7_ h8_ h9_ h10_ h11_ h12_ h13_ h14_ h15_ h16_ h17_ h18_ h19_ h20_ h21_ h22_ h23_ h24_ h25_ h26_ h27_ h28_
  have BK134 := n0_
  have BK135 := n1_
  have BK136 := n2_
  have BK137 := n3_
  have BK138 := n4_
  have BK139 := n5_
  have GW138 := n6_
  have GE138 := n7_
  have NB134_138 := n8_
  have NB138_134 := n9_
  have NB135_138 := n10_
  have NB138_135 := n11_
  have NB136_138 := n12_
  have NB138_136 := n13_
  have NB137_138 := n14_
  have NB138_137 := n15_
  have NB139_138 := n16_
  have NB138_139 := n17_
  have GW139 := n18_
  have GE139 := n19_
  have NB134_139 := n20_
  have NB139_134 := n21_
  have NB135_139 := n22_
  have NB139_135 := n23_
  have NB136_139 := n24_
  have NB139_136 := n25_
  have NB137_139 := n26_
  have NB139_137 := n27_
  have HB := n28_
  clear n0_ n1_ n2_ n3_ n4_ n5_ n6_ n7_ n8_ n9_ n10_ n11_ n12_ n13_ n14_ n15_ n16_ n17_ n18_ n19_ n20_ n21_ n22_ n23_ n24_ n25_ n26_ n27_ n28_
  have hHeld : w11.cell? ⟨gb134, 0, none⟩ = some (.int .i64 a0_0) ∧ w11.cell? ⟨gb134, 1, none⟩ = some (.int .u64 a0_1) ∧ w11.cell? ⟨gb135, 0, none⟩ = some (.int .i64 a1_0) ∧ w11.cell? ⟨gb135, 1, none⟩ = some (.int .u64 a1_1) := hS_
  refine norm_ (a' := ?_) ?_ ?_
  rotate_left
  · simp only [putAll, Act.put, List.setIfInBounds_toArray, List.set_cons_zero, List.set_cons_succ]
    rfl
  refine one_ (i := 4) (N := none) #[true, true, true, true, true, false] rfl rfl (by kernel_rfl) (by decide) (fun K hK => ?_)
  have hs12 : w11.cell? ⟨gb138, 0, none⟩ = some (.int .i64 0) := (blk_cell BK138.out 0).trans rfl
  have hfs12 := blk_frozen BK138.out 0
  have hns12_0 := NB134_138.out
  have hns12_1 := NB135_138.out
  have hns12_2 := NB136_138.out
  have hns12_3 := NB137_138.out
  have hns12_5 := NB139_138.out
  have hms12_0 := NB138_134.out
  have hms12_1 := NB138_135.out
  have hms12_2 := NB138_136.out
  have hms12_3 := NB138_137.out
  have hms12_5 := NB138_139.out
  have hs13 : w11.cell? ⟨gb138, 1, none⟩ = some (.int .u64 0) := (blk_cell BK138.out 1).trans rfl
  have hfs13 := blk_frozen BK138.out 1
  have hns13_0 := NB134_138.out
  have hns13_1 := NB135_138.out
  have hns13_2 := NB136_138.out
  have hns13_3 := NB137_138.out
  have hns13_5 := NB139_138.out
  have hms13_0 := NB138_134.out
  have hms13_1 := NB138_135.out
  have hms13_2 := NB138_136.out
  have hms13_3 := NB138_137.out
  have hms13_5 := NB138_139.out
  refine skip_ (w1 := ?_) (by rfl) rfl ?_ ?_
  rotate_left
  · go_simp
    rfl
  refine hK.out _ _ ⟨((cell_far (p := ⟨gb138, _, none⟩) NB134_138.out _).trans (((cell_far (p := ⟨gb138, _, none⟩) NB134_138.out _).trans (hHeld.1)))), ((cell_far (p := ⟨gb138, _, none⟩) NB134_138.out _).trans (((cell_far (p := ⟨gb138, _, none⟩) NB134_138.out _).trans (hHeld.2.1)))), ((cell_far (p := ⟨gb138, _, none⟩) NB135_138.out _).trans (((cell_far (p := ⟨gb138, _, none⟩) NB135_138.out _).trans (hHeld.2.2.1)))), ((cell_far (p := ⟨gb138, _, none⟩) NB135_138.out _).trans (((cell_far (p := ⟨gb138, _, none⟩) NB135_138.out _).trans (hHeld.2.2.2))))⟩ (fun hHeld => ?_)
  clear hK K
  refine one_ (i := 5) (N := none) #[true, true, true, true, true, true] rfl rfl (by kernel_rfl) (by decide) (fun K hK => ?_)
  have hs14 : w11.cell? ⟨gb139, 0, none⟩ = some (.int .i64 0) := (blk_cell BK139.out 0).trans rfl
  have hfs14 := blk_frozen BK139.out 0
  have hns14_0 := NB134_139.out
  have hns14_1 := NB135_139.out
  have hns14_2 := NB136_139.out
  have hns14_3 := NB137_139.out
  have hns14_4 := NB138_139.out
  have hms14_0 := NB139_134.out
  have hms14_1 := NB139_135.out
  have hms14_2 := NB139_136.out
  have hms14_3 := NB139_137.out
  have hms14_4 := NB139_138.out
  have hs15 : w11.cell? ⟨gb139, 1, none⟩ = some (.int .u64 0) := (blk_cell BK139.out 1).trans rfl
  have hfs15 := blk_frozen BK139.out 1
  have hns15_0 := NB134_139.out
  have hns15_1 := NB135_139.out
  have hns15_2 := NB136_139.out
  have hns15_3 := NB137_139.out
  have hns15_4 := NB138_139.out
  have hms15_0 := NB139_134.out
  have hms15_1 := NB139_135.out
  have hms15_2 := NB139_136.out
  have hms15_3 := NB139_137.out
  have hms15_4 := NB139_138.out
  refine skip_ (w1 := ?_) (by rfl) rfl ?_ ?_
  rotate_left
  · go_simp
    rfl
  refine hK.out _ _ ⟨((cell_far (p := ⟨gb139, _, none⟩) NB134_139.out _).trans (((cell_far (p := ⟨gb139, _, none⟩) NB134_139.out _).trans (hHeld.1)))), ((cell_far (p := ⟨gb139, _, none⟩) NB134_139.out _).trans (((cell_far (p := ⟨gb139, _, none⟩) NB134_139.out _).trans (hHeld.2.1)))), ((cell_far (p := ⟨gb139, _, none⟩) NB135_139.out _).trans (((cell_far (p := ⟨gb139, _, none⟩) NB135_139.out _).trans (hHeld.2.2.1)))), ((cell_far (p := ⟨gb139, _, none⟩) NB135_139.out _).trans (((cell_far (p := ⟨gb139, _, none⟩) NB135_139.out _).trans (hHeld.2.2.2))))⟩ (fun hHeld => ?_)
  clear hK K
  refine done_ (by kernel_rfl) ?_
  have hnb16 := NB134_135.out
  have hnc16 := NB135_134.out
  have hnb17 := NB134_136.out
  have hnc17 := NB136_134.out
  have hnb18 := NB134_137.out
  have hnc18 := NB137_134.out
  have hnb19 := NB134_138.out
  have hnc19 := NB138_134.out
  have hnb20 := NB134_139.out
  have hnc20 := NB139_134.out
  have hcz21_0 : w11.cell? ⟨gb134, 0, none⟩ = some (.int .i64 a0_0) := (blk_cell BK134.out 0).trans rfl
  have hcz21_1 : w11.cell? ⟨gb134, 1, none⟩ = some (.int .u64 a0_1) := (blk_cell BK134.out 1).trans rfl
  have hfz21_0 := blk_frozen BK134.out 0
  have hfz21_1 := blk_frozen BK134.out 1
  go_upto_if 14 with (fail)
  go_cut [] (fun wc => ∃ (kq : Nat) (x139000_2 : Int) (x139001_2 : Int), Aside0 (arith_divided.j0 kq a0_0 a0_1 a1_0 a1_1 x139000_2 x139001_2 a1_0 a1_1 = some (r1, r2, r3, r4)) ∧ Aside0 (kq ≤ k) ∧ Aside0 (wc.heap[gb134]? = some (.cells #[.int .i64 a0_0, .int .u64 a0_1] 37 (0, 0))) ∧ Aside0 (wc.heap[gb135]? = some (.cells #[.int .i64 a1_0, .int .u64 a1_1] 37 (0, 0))) ∧ Aside0 (wc.heap[gb136]? = some (.cells #[.int .i64 0, .int .u64 0] 37 (0, 0))) ∧ Aside0 (wc.heap[gb137]? = some (.cells #[.int .i64 0, .int .u64 0] 37 (0, 0))) ∧ Aside0 (wc.heap[gb138]? = some (.cells #[.int .i64 x139000_2, .int .u64 x139001_2] 37 (0, 0))) ∧ Aside0 (wc.heap[gb139]? = some (.cells #[.int .i64 a1_0, .int .u64 a1_1] 37 (0, 0))) ∧ Aside0 (Below w.heap.size w wc))
  case first =>
    have H := HC3.out
    clear HC3
    by_cases c22 : a0_0 < 0
    · rw [if_pos c22] at H
      have c22b0 : decide (a0_0 < 0) = true := decide_eq_true c22
      clear c22
      (first | rw [c22b0] | (simp only [i64_w, i32_w]; rw [c22b0]) | skip)
      replace H := Option.bind_eq_some_iff.mp H
      obtain ⟨⟨t140, t141⟩, A230, H⟩ := H
      replace H : (arith_divided.j0 k a0_0 a0_1 a1_0 a1_1 t140 t141 a1_0 a1_1) = some (r1, r2, r3, r4) := H
      have A23 := Aside0.mk A230
      clear A230
      have H' := Aside0.mk H
      clear H
      have hnb24 := NB134_135.out
      have hnc24 := NB135_134.out
      have hnb25 := NB134_136.out
      have hnc25 := NB136_134.out
      have hnb26 := NB134_137.out
      have hnc26 := NB137_134.out
      have hnb27 := NB134_138.out
      have hnc27 := NB138_134.out
      have hnb28 := NB134_139.out
      have hnc28 := NB139_134.out
      have hcz29_0 : w11.cell? ⟨gb134, 0, none⟩ = some (.int .i64 a0_0) := (blk_cell BK134.out 0).trans rfl
      have hcz29_1 : w11.cell? ⟨gb134, 1, none⟩ = some (.int .u64 a0_1) := (blk_cell BK134.out 1).trans rfl
      have hfz29_0 := blk_frozen BK134.out 0
      have hfz29_1 := blk_frozen BK134.out 1
      go_wp2_with (first | ((with_reducible refine gate_callee (f := 35) rfl ?_); refine goesL_ (some 16) rfl rfl Tryd.func35 (by kernel_rfl) rfl #[.agg #[.int .i64 a0_0, .int .u64 a0_1]] rfl (by (try simp only [List.map_toArray, List.map_cons, List.map_nil]); first | done | rfl | (simp only [List.length_drop, List.length_take]; rfl)) ?_; (with_reducible refine (arith_wide_neg.calls a0_0 a0_1 t140 t141 _ A23.out).mono ?_); rintro e w30 ⟨rfl, hb⟩; refine ⟨_, rfl, ?_⟩; have n0_ := Aside0.mk (blk_below (g := gb134) (o := .cells #[.int .i64 a0_0, .int .u64 a0_1] 37 (0, 0)) (by (with_reducible repeat (first | refine blk_drewN ?_ _ | refine blk_drew ?_ | refine blk_alloc ?_ _)); refine blk_far ?_ NB134_139.out _; (with_reducible repeat (first | refine blk_drewN ?_ _ | refine blk_drew ?_ | refine blk_alloc ?_ _)); refine blk_far ?_ NB134_139.out _; (with_reducible repeat (first | refine blk_drewN ?_ _ | refine blk_drew ?_ | refine blk_alloc ?_ _)); refine blk_far ?_ NB134_138.out _; (with_reducible repeat (first | refine blk_drewN ?_ _ | refine blk_drew ?_ | refine blk_alloc ?_ _)); refine blk_far ?_ NB134_138.out _; (with_reducible repeat (first | refine blk_drewN ?_ _ | refine blk_drew ?_ | refine blk_alloc ?_ _)); exact BK134.out) hb); have n1_ := Aside0.mk (blk_below (g := gb135) (o := .cells #[.int .i64 a1_0, .int .u64 a1_1] 37 (0, 0)) (by (with_reducible repeat (first | refine blk_drewN ?_ _ | refine blk_drew ?_ | refine blk_alloc ?_ _)); refine blk_far ?_ NB135_139.out _; (with_reducible repeat (first | refine blk_drewN ?_ _ | refine blk_drew ?_ | refine blk_alloc ?_ _)); refine blk_far ?_ NB135_139.out _; (with_reducible repeat (first | refine blk_drewN ?_ _ | refine blk_drew ?_ | refine blk_alloc ?_ _)); refine blk_far ?_ NB135_138.out _; (with_reducible repeat (first | refine blk_drewN ?_ _ | refine blk_drew ?_ | refine blk_alloc ?_ _)); refine blk_far ?_ NB135_138.out _; (with_reducible repeat (first | refine blk_drewN ?_ _ | refine blk_drew ?_ | refine blk_alloc ?_ _)); exact BK135.out) hb); have n2_ := Aside0.mk (blk_below (g := gb136) (o := .cells #[.int .i64 0, .int .u64 0] 37 (0, 0)) (by (with_reducible repeat (first | refine blk_drewN ?_ _ | refine blk_drew ?_ | refine blk_alloc ?_ _)); refine blk_far ?_ NB136_139.out _; (with_reducible repeat (first | refine blk_drewN ?_ _ | refine blk_drew ?_ | refine blk_alloc ?_ _)); refine blk_far ?_ NB136_139.out _; (with_reducible repeat (first | refine blk_drewN ?_ _ | refine blk_drew ?_ | refine blk_alloc ?_ _)); refine blk_far ?_ NB136_138.out _; (with_reducible repeat (first | refine blk_drewN ?_ _ | refine blk_drew ?_ | refine blk_alloc ?_ _)); refine blk_far ?_ NB136_138.out _; (with_reducible repeat (first | refine blk_drewN ?_ _ | refine blk_drew ?_ | refine blk_alloc ?_ _)); exact BK136.out) hb); have n3_ := Aside0.mk (blk_below (g := gb137) (o := .cells #[.int .i64 0, .int .u64 0] 37 (0, 0)) (by (with_reducible repeat (first | refine blk_drewN ?_ _ | refine blk_drew ?_ | refine blk_alloc ?_ _)); refine blk_far ?_ NB137_139.out _; (with_reducible repeat (first | refine blk_drewN ?_ _ | refine blk_drew ?_ | refine blk_alloc ?_ _)); refine blk_far ?_ NB137_139.out _; (with_reducible repeat (first | refine blk_drewN ?_ _ | refine blk_drew ?_ | refine blk_alloc ?_ _)); refine blk_far ?_ NB137_138.out _; (with_reducible repeat (first | refine blk_drewN ?_ _ | refine blk_drew ?_ | refine blk_alloc ?_ _)); refine blk_far ?_ NB137_138.out _; (with_reducible repeat (first | refine blk_drewN ?_ _ | refine blk_drew ?_ | refine blk_alloc ?_ _)); exact BK137.out) hb); have n4_ := Aside0.mk (blk_below (g := gb138) (o := .cells #[.int .i64 a0_0, .int .u64 a0_1] 37 (0, 0)) (by (with_reducible repeat (first | refine blk_drewN ?_ _ | refine blk_drew ?_ | refine blk_alloc ?_ _)); refine blk_far ?_ NB138_139.out _; (with_reducible repeat (first | refine blk_drewN ?_ _ | refine blk_drew ?_ | refine blk_alloc ?_ _)); refine blk_far ?_ NB138_139.out _; (with_reducible repeat (first | refine blk_drewN ?_ _ | refine blk_drew ?_ | refine blk_alloc ?_ _)); refine blk_put (cs := #[.int .i64 a0_0, .int .u64 0]) ?_ 1 _ rfl; (with_reducible repeat (first | refine blk_drewN ?_ _ | refine blk_drew ?_ | refine blk_alloc ?_ _)); refine blk_put (cs := #[.int .i64 0, .int .u64 0]) ?_ 0 _ rfl; (with_reducible repeat (first | refine blk_drewN ?_ _ | refine blk_drew ?_ | refine blk_alloc ?_ _)); exact BK138.out) hb); have n5_ := Aside0.mk (blk_below (g := gb139) (o := .cells #[.int .i64 a1_0, .int .u64 a1_1] 37 (0, 0)) (by (with_reducible repeat (first | refine blk_drewN ?_ _ | refine blk_drew ?_ | refine blk_alloc ?_ _)); refine blk_put (cs := #[.int .i64 a1_0, .int .u64 0]) ?_ 1 _ rfl; (with_reducible repeat (first | refine blk_drewN ?_ _ | refine blk_drew ?_ | refine blk_alloc ?_ _)); refine blk_put (cs := #[.int .i64 0, .int .u64 0]) ?_ 0 _ rfl; (with_reducible repeat (first | refine blk_drewN ?_ _ | refine blk_drew ?_ | refine blk_alloc ?_ _)); refine blk_far ?_ NB139_138.out _; (with_reducible repeat (first | refine blk_drewN ?_ _ | refine blk_drew ?_ | refine blk_alloc ?_ _)); refine blk_far ?_ NB139_138.out _; (with_reducible repeat (first | refine blk_drewN ?_ _ | refine blk_drew ?_ | refine blk_alloc ?_ _)); exact BK139.out) hb); have n6_ := Aside0.mk (below_step (by repeat (first | (with_reducible first | exact HB.out | apply below_alloc | apply pw_below_drewN | apply below_drew1 | refine below_set ?_ GE134.out | refine below_set ?_ GE135.out | refine below_set ?_ GE136.out | refine below_set ?_ GE137.out | refine below_set ?_ GE138.out | refine below_set ?_ GE139.out) | exact HB.out)) hb); clear BK134; clear BK135; clear BK136; clear BK137; clear BK138; clear BK139; clear HB; have BK134 := n0_; have BK135 := n1_; have BK136 := n2_; have BK137 := n3_; have BK138 := n4_; have BK139 := n5_; have HB := n6_; clear n0_ n1_ n2_ n3_ n4_ n5_ n6_; (try clear hb); (try clear hb2); (try clear hk); (try clear hi); have hnb31 := NB138_135.out; have hnc31 := NB135_138.out; have hnb32 := NB138_136.out; have hnc32 := NB136_138.out; have hnb33 := NB138_137.out; have hnc33 := NB137_138.out; have hnb34 := NB138_139.out; have hnc34 := NB139_138.out; have hcz35_0 : w30.cell? ⟨gb138, 0, none⟩ = some (.int .i64 a0_0) := (blk_cell BK138.out 0).trans rfl; have hcz35_1 : w30.cell? ⟨gb138, 1, none⟩ = some (.int .u64 a0_1) := (blk_cell BK138.out 1).trans rfl; have hfz35_0 := blk_frozen BK138.out 0; have hfz35_1 := blk_frozen BK138.out 1))
      go_meet
      case rel => exact ⟨_, (t140), (t141), H', ⟨by first | omega | exact Nat.le_refl _⟩, ⟨by (with_reducible repeat (first | refine blk_drewN ?_ _ | refine blk_drew ?_ | refine blk_alloc ?_ _)); refine blk_far ?_ NB134_138.out _; (with_reducible repeat (first | refine blk_drewN ?_ _ | refine blk_drew ?_ | refine blk_alloc ?_ _)); refine blk_far ?_ NB134_138.out _; (with_reducible repeat (first | refine blk_drewN ?_ _ | refine blk_drew ?_ | refine blk_alloc ?_ _)); exact BK134.out⟩, ⟨by (with_reducible repeat (first | refine blk_drewN ?_ _ | refine blk_drew ?_ | refine blk_alloc ?_ _)); refine blk_far ?_ NB135_138.out _; (with_reducible repeat (first | refine blk_drewN ?_ _ | refine blk_drew ?_ | refine blk_alloc ?_ _)); refine blk_far ?_ NB135_138.out _; (with_reducible repeat (first | refine blk_drewN ?_ _ | refine blk_drew ?_ | refine blk_alloc ?_ _)); exact BK135.out⟩, ⟨by (with_reducible repeat (first | refine blk_drewN ?_ _ | refine blk_drew ?_ | refine blk_alloc ?_ _)); refine blk_far ?_ NB136_138.out _; (with_reducible repeat (first | refine blk_drewN ?_ _ | refine blk_drew ?_ | refine blk_alloc ?_ _)); refine blk_far ?_ NB136_138.out _; (with_reducible repeat (first | refine blk_drewN ?_ _ | refine blk_drew ?_ | refine blk_alloc ?_ _)); exact BK136.out⟩, ⟨by (with_reducible repeat (first | refine blk_drewN ?_ _ | refine blk_drew ?_ | refine blk_alloc ?_ _)); refine blk_far ?_ NB137_138.out _; (with_reducible repeat (first | refine blk_drewN ?_ _ | refine blk_drew ?_ | refine blk_alloc ?_ _)); refine blk_far ?_ NB137_138.out _; (with_reducible repeat (first | refine blk_drewN ?_ _ | refine blk_drew ?_ | refine blk_alloc ?_ _)); exact BK137.out⟩, ⟨by (with_reducible repeat (first | refine blk_drewN ?_ _ | refine blk_drew ?_ | refine blk_alloc ?_ _)); refine blk_put (cs := #[.int .i64 t140, .int .u64 a0_1]) ?_ 1 _ rfl; (with_reducible repeat (first | refine blk_drewN ?_ _ | refine blk_drew ?_ | refine blk_alloc ?_ _)); refine blk_put (cs := #[.int .i64 a0_0, .int .u64 a0_1]) ?_ 0 _ rfl; (with_reducible repeat (first | refine blk_drewN ?_ _ | refine blk_drew ?_ | refine blk_alloc ?_ _)); exact BK138.out⟩, ⟨by (with_reducible repeat (first | refine blk_drewN ?_ _ | refine blk_drew ?_ | refine blk_alloc ?_ _)); refine blk_far ?_ NB139_138.out _; (with_reducible repeat (first | refine blk_drewN ?_ _ | refine blk_drew ?_ | refine blk_alloc ?_ _)); refine blk_far ?_ NB139_138.out _; (with_reducible repeat (first | refine blk_drewN ?_ _ | refine blk_drew ?_ | refine blk_alloc ?_ _)); exact BK139.out⟩, ⟨by repeat (first | (with_reducible first | exact HB.out | apply below_alloc | apply pw_below_drewN | apply below_drew1 | refine below_set ?_ GE134.out | refine below_set ?_ GE135.out | refine below_set ?_ GE136.out | refine below_set ?_ GE137.out | refine below_set ?_ GE138.out | refine below_set ?_ GE139.out) | exact HB.out)⟩⟩
    · rw [if_neg c22] at H
      have c22b0 : decide (a0_0 < 0) = false := decide_eq_false c22
      clear c22
      (first | rw [c22b0] | (simp only [i64_w, i32_w]; rw [c22b0]) | skip)
      have H' := Aside0.mk H
      clear H
      go_wp2
      go_meet
      case rel => exact ⟨_, (a0_0), (a0_1), H', ⟨by first | omega | exact Nat.le_refl _⟩, ⟨by (with_reducible repeat (first | refine blk_drewN ?_ _ | refine blk_drew ?_ | refine blk_alloc ?_ _)); refine blk_far ?_ NB134_139.out _; (with_reducible repeat (first | refine blk_drewN ?_ _ | refine blk_drew ?_ | refine blk_alloc ?_ _)); refine blk_far ?_ NB134_139.out _; (with_reducible repeat (first | refine blk_drewN ?_ _ | refine blk_drew ?_ | refine blk_alloc ?_ _)); refine blk_far ?_ NB134_138.out _; (with_reducible repeat (first | refine blk_drewN ?_ _ | refine blk_drew ?_ | refine blk_alloc ?_ _)); refine blk_far ?_ NB134_138.out _; (with_reducible repeat (first | refine blk_drewN ?_ _ | refine blk_drew ?_ | refine blk_alloc ?_ _)); exact BK134.out⟩, ⟨by (with_reducible repeat (first | refine blk_drewN ?_ _ | refine blk_drew ?_ | refine blk_alloc ?_ _)); refine blk_far ?_ NB135_139.out _; (with_reducible repeat (first | refine blk_drewN ?_ _ | refine blk_drew ?_ | refine blk_alloc ?_ _)); refine blk_far ?_ NB135_139.out _; (with_reducible repeat (first | refine blk_drewN ?_ _ | refine blk_drew ?_ | refine blk_alloc ?_ _)); refine blk_far ?_ NB135_138.out _; (with_reducible repeat (first | refine blk_drewN ?_ _ | refine blk_drew ?_ | refine blk_alloc ?_ _)); refine blk_far ?_ NB135_138.out _; (with_reducible repeat (first | refine blk_drewN ?_ _ | refine blk_drew ?_ | refine blk_alloc ?_ _)); exact BK135.out⟩, ⟨by (with_reducible repeat (first | refine blk_drewN ?_ _ | refine blk_drew ?_ | refine blk_alloc ?_ _)); refine blk_far ?_ NB136_139.out _; (with_reducible repeat (first | refine blk_drewN ?_ _ | refine blk_drew ?_ | refine blk_alloc ?_ _)); refine blk_far ?_ NB136_139.out _; (with_reducible repeat (first | refine blk_drewN ?_ _ | refine blk_drew ?_ | refine blk_alloc ?_ _)); refine blk_far ?_ NB136_138.out _; (with_reducible repeat (first | refine blk_drewN ?_ _ | refine blk_drew ?_ | refine blk_alloc ?_ _)); refine blk_far ?_ NB136_138.out _; (with_reducible repeat (first | refine blk_drewN ?_ _ | refine blk_drew ?_ | refine blk_alloc ?_ _)); exact BK136.out⟩, ⟨by (with_reducible repeat (first | refine blk_drewN ?_ _ | refine blk_drew ?_ | refine blk_alloc ?_ _)); refine blk_far ?_ NB137_139.out _; (with_reducible repeat (first | refine blk_drewN ?_ _ | refine blk_drew ?_ | refine blk_alloc ?_ _)); refine blk_far ?_ NB137_139.out _; (with_reducible repeat (first | refine blk_drewN ?_ _ | refine blk_drew ?_ | refine blk_alloc ?_ _)); refine blk_far ?_ NB137_138.out _; (with_reducible repeat (first | refine blk_drewN ?_ _ | refine blk_drew ?_ | refine blk_alloc ?_ _)); refine blk_far ?_ NB137_138.out _; (with_reducible repeat (first | refine blk_drewN ?_ _ | refine blk_drew ?_ | refine blk_alloc ?_ _)); exact BK137.out⟩, ⟨by (with_reducible repeat (first | refine blk_drewN ?_ _ | refine blk_drew ?_ | refine blk_alloc ?_ _)); refine blk_far ?_ NB138_139.out _; (with_reducible repeat (first | refine blk_drewN ?_ _ | refine blk_drew ?_ | refine blk_alloc ?_ _)); refine blk_far ?_ NB138_139.out _; (with_reducible repeat (first | refine blk_drewN ?_ _ | refine blk_drew ?_ | refine blk_alloc ?_ _)); refine blk_put (cs := #[.int .i64 a0_0, .int .u64 0]) ?_ 1 _ rfl; (with_reducible repeat (first | refine blk_drewN ?_ _ | refine blk_drew ?_ | refine blk_alloc ?_ _)); refine blk_put (cs := #[.int .i64 0, .int .u64 0]) ?_ 0 _ rfl; (with_reducible repeat (first | refine blk_drewN ?_ _ | refine blk_drew ?_ | refine blk_alloc ?_ _)); exact BK138.out⟩, ⟨by (with_reducible repeat (first | refine blk_drewN ?_ _ | refine blk_drew ?_ | refine blk_alloc ?_ _)); refine blk_put (cs := #[.int .i64 a1_0, .int .u64 0]) ?_ 1 _ rfl; (with_reducible repeat (first | refine blk_drewN ?_ _ | refine blk_drew ?_ | refine blk_alloc ?_ _)); refine blk_put (cs := #[.int .i64 0, .int .u64 0]) ?_ 0 _ rfl; (with_reducible repeat (first | refine blk_drewN ?_ _ | refine blk_drew ?_ | refine blk_alloc ?_ _)); refine blk_far ?_ NB139_138.out _; (with_reducible repeat (first | refine blk_drewN ?_ _ | refine blk_drew ?_ | refine blk_alloc ?_ _)); refine blk_far ?_ NB139_138.out _; (with_reducible repeat (first | refine blk_drewN ?_ _ | refine blk_drew ?_ | refine blk_alloc ?_ _)); exact BK139.out⟩, ⟨by repeat (first | (with_reducible first | exact HB.out | apply below_alloc | apply pw_below_drewN | apply below_drew1 | refine below_set ?_ GE134.out | refine below_set ?_ GE135.out | refine below_set ?_ GE136.out | refine below_set ?_ GE137.out | refine below_set ?_ GE138.out | refine below_set ?_ GE139.out) | exact HB.out)⟩⟩
  case rest =>
    clear HC3
    try clear c1
    try clear c2
    try clear p2
    try clear c3
    try clear c16
    try clear c17
    try clear c18
    try clear c19
    try clear c20
    try clear c22
    try clear c22b0
    try clear c24
    try clear c25
    try clear c26
    try clear c27
    try clear c28
    try clear c31
    try clear c32
    try clear c33
    try clear c34
    try clear c35
    try clear hcz21_0
    try clear hcz21_1
    try clear hcz29_0
    try clear hcz29_1
    try clear hcz35_0
    try clear hcz35_1
    try clear hfz21_0
    try clear hfz21_1
    try clear hfz29_0
    try clear hfz29_1
    try clear hfz35_0
    try clear hfz35_1
    obtain ⟨kq, x139000_2, x139001_2, HA, HJ2, BK134, BK135, BK136, BK137, BK138, BK139, HB⟩ := hcut
    cases kq with
    | zero => exact absurd HA.out (by simp [arith_divided.j0])
    | succ kj2 =>
      have H := HA.out
      clear HA
      simp only [arith_divided.j0] at H
      have HC36 := Aside0.mk H
      clear H
      have hnb37 := NB135_134.out
      have hnc37 := NB134_135.out
      have hnb38 := NB135_136.out
      have hnc38 := NB136_135.out
      have hnb39 := NB135_137.out
      have hnc39 := NB137_135.out
      have hnb40 := NB135_138.out
      have hnc40 := NB138_135.out
      have hnb41 := NB135_139.out
      have hnc41 := NB139_135.out
      have hcz42_0 : wc.cell? ⟨gb135, 0, none⟩ = some (.int .i64 a1_0) := (blk_cell BK135.out 0).trans rfl
      have hcz42_1 : wc.cell? ⟨gb135, 1, none⟩ = some (.int .u64 a1_1) := (blk_cell BK135.out 1).trans rfl
      have hfz42_0 := blk_frozen BK135.out 0
      have hfz42_1 := blk_frozen BK135.out 1
      go_upto_if 19 with (fail)
      go_cut [] (fun wc => ∃ (kq : Nat) (x140000_35 : Int) (x140001_35 : Int), Aside0 (arith_divided.j1 kq a0_0 a0_1 a1_0 a1_1 x139000_2 x139001_2 x140000_35 x140001_35 = some (r1, r2, r3, r4)) ∧ Aside0 (kq ≤ kj2) ∧ Aside0 (wc.heap[gb134]? = some (.cells #[.int .i64 a0_0, .int .u64 a0_1] 37 (0, 0))) ∧ Aside0 (wc.heap[gb135]? = some (.cells #[.int .i64 a1_0, .int .u64 a1_1] 37 (0, 0))) ∧ Aside0 (wc.heap[gb136]? = some (.cells #[.int .i64 0, .int .u64 0] 37 (0, 0))) ∧ Aside0 (wc.heap[gb137]? = some (.cells #[.int .i64 0, .int .u64 0] 37 (0, 0))) ∧ Aside0 (wc.heap[gb138]? = some (.cells #[.int .i64 x139000_2, .int .u64 x139001_2] 37 (0, 0))) ∧ Aside0 (wc.heap[gb139]? = some (.cells #[.int .i64 x140000_35, .int .u64 x140001_35] 37 (0, 0))) ∧ Aside0 (Below w.heap.size w wc))
      case first =>
        have H := HC36.out
        clear HC36
        by_cases c43 : a1_0 < 0
        · rw [if_pos c43] at H
          have c43b0 : decide (a1_0 < 0) = true := decide_eq_true c43
          clear c43
          (first | rw [c43b0] | (simp only [i64_w, i32_w]; rw [c43b0]) | skip)
          replace H := Option.bind_eq_some_iff.mp H
          obtain ⟨⟨t142, t143⟩, A440, H⟩ := H
          replace H : (arith_divided.j1 kj2 a0_0 a0_1 a1_0 a1_1 x139000_2 x139001_2 t142 t143) = some (r1, r2, r3, r4) := H
          have A44 := Aside0.mk A440
          clear A440
          have H' := Aside0.mk H
          clear H
          have hnb45 := NB135_134.out
          have hnc45 := NB134_135.out
          have hnb46 := NB135_136.out
          have hnc46 := NB136_135.out
          have hnb47 := NB135_137.out
          have hnc47 := NB137_135.out
          have hnb48 := NB135_138.out
          have hnc48 := NB138_135.out
          have hnb49 := NB135_139.out
          have hnc49 := NB139_135.out
          have hcz50_0 : wc.cell? ⟨gb135, 0, none⟩ = some (.int .i64 a1_0) := (blk_cell BK135.out 0).trans rfl
          have hcz50_1 : wc.cell? ⟨gb135, 1, none⟩ = some (.int .u64 a1_1) := (blk_cell BK135.out 1).trans rfl
          have hfz50_0 := blk_frozen BK135.out 0
          have hfz50_1 := blk_frozen BK135.out 1
          go_wp2_with (first | ((with_reducible refine gate_callee (f := 35) rfl ?_); refine goesL_ (some 21) rfl rfl Tryd.func35 (by kernel_rfl) rfl #[.agg #[.int .i64 a1_0, .int .u64 a1_1]] rfl (by (try simp only [List.map_toArray, List.map_cons, List.map_nil]); first | done | rfl | (simp only [List.length_drop, List.length_take]; rfl)) ?_; (with_reducible refine (arith_wide_neg.calls a1_0 a1_1 t142 t143 _ A44.out).mono ?_); rintro e w51 ⟨rfl, hb⟩; refine ⟨_, rfl, ?_⟩; have n0_ := Aside0.mk (blk_below (g := gb134) (o := .cells #[.int .i64 a0_0, .int .u64 a0_1] 37 (0, 0)) (by (with_reducible repeat (first | refine blk_drewN ?_ _ | refine blk_drew ?_ | refine blk_alloc ?_ _)); exact BK134.out) hb); have n1_ := Aside0.mk (blk_below (g := gb135) (o := .cells #[.int .i64 a1_0, .int .u64 a1_1] 37 (0, 0)) (by (with_reducible repeat (first | refine blk_drewN ?_ _ | refine blk_drew ?_ | refine blk_alloc ?_ _)); exact BK135.out) hb); have n2_ := Aside0.mk (blk_below (g := gb136) (o := .cells #[.int .i64 0, .int .u64 0] 37 (0, 0)) (by (with_reducible repeat (first | refine blk_drewN ?_ _ | refine blk_drew ?_ | refine blk_alloc ?_ _)); exact BK136.out) hb); have n3_ := Aside0.mk (blk_below (g := gb137) (o := .cells #[.int .i64 0, .int .u64 0] 37 (0, 0)) (by (with_reducible repeat (first | refine blk_drewN ?_ _ | refine blk_drew ?_ | refine blk_alloc ?_ _)); exact BK137.out) hb); have n4_ := Aside0.mk (blk_below (g := gb138) (o := .cells #[.int .i64 x139000_2, .int .u64 x139001_2] 37 (0, 0)) (by (with_reducible repeat (first | refine blk_drewN ?_ _ | refine blk_drew ?_ | refine blk_alloc ?_ _)); exact BK138.out) hb); have n5_ := Aside0.mk (blk_below (g := gb139) (o := .cells #[.int .i64 a1_0, .int .u64 a1_1] 37 (0, 0)) (by (with_reducible repeat (first | refine blk_drewN ?_ _ | refine blk_drew ?_ | refine blk_alloc ?_ _)); exact BK139.out) hb); have n6_ := Aside0.mk (below_step (by repeat (first | (with_reducible first | exact HB.out | apply below_alloc | apply pw_below_drewN | apply below_drew1 | refine below_set ?_ GE134.out | refine below_set ?_ GE135.out | refine below_set ?_ GE136.out | refine below_set ?_ GE137.out | refine below_set ?_ GE138.out | refine below_set ?_ GE139.out) | exact HB.out)) hb); clear BK134; clear BK135; clear BK136; clear BK137; clear BK138; clear BK139; clear HB; have BK134 := n0_; have BK135 := n1_; have BK136 := n2_; have BK137 := n3_; have BK138 := n4_; have BK139 := n5_; have HB := n6_; clear n0_ n1_ n2_ n3_ n4_ n5_ n6_; (try clear hb); (try clear hb2); (try clear hk); (try clear hi); have hnb52 := NB139_134.out; have hnc52 := NB134_139.out; have hnb53 := NB139_136.out; have hnc53 := NB136_139.out; have hnb54 := NB139_137.out; have hnc54 := NB137_139.out; have hnb55 := NB139_138.out; have hnc55 := NB138_139.out; have hcz56_0 : w51.cell? ⟨gb139, 0, none⟩ = some (.int .i64 a1_0) := (blk_cell BK139.out 0).trans rfl; have hcz56_1 : w51.cell? ⟨gb139, 1, none⟩ = some (.int .u64 a1_1) := (blk_cell BK139.out 1).trans rfl; have hfz56_0 := blk_frozen BK139.out 0; have hfz56_1 := blk_frozen BK139.out 1))
          go_meet
          case rel => exact ⟨_, (t142), (t143), H', ⟨by have := HJ2.out; first | omega | exact Nat.le_refl _⟩, ⟨by (with_reducible repeat (first | refine blk_drewN ?_ _ | refine blk_drew ?_ | refine blk_alloc ?_ _)); refine blk_far ?_ NB134_139.out _; (with_reducible repeat (first | refine blk_drewN ?_ _ | refine blk_drew ?_ | refine blk_alloc ?_ _)); refine blk_far ?_ NB134_139.out _; (with_reducible repeat (first | refine blk_drewN ?_ _ | refine blk_drew ?_ | refine blk_alloc ?_ _)); exact BK134.out⟩, ⟨by (with_reducible repeat (first | refine blk_drewN ?_ _ | refine blk_drew ?_ | refine blk_alloc ?_ _)); refine blk_far ?_ NB135_139.out _; (with_reducible repeat (first | refine blk_drewN ?_ _ | refine blk_drew ?_ | refine blk_alloc ?_ _)); refine blk_far ?_ NB135_139.out _; (with_reducible repeat (first | refine blk_drewN ?_ _ | refine blk_drew ?_ | refine blk_alloc ?_ _)); exact BK135.out⟩, ⟨by (with_reducible repeat (first | refine blk_drewN ?_ _ | refine blk_drew ?_ | refine blk_alloc ?_ _)); refine blk_far ?_ NB136_139.out _; (with_reducible repeat (first | refine blk_drewN ?_ _ | refine blk_drew ?_ | refine blk_alloc ?_ _)); refine blk_far ?_ NB136_139.out _; (with_reducible repeat (first | refine blk_drewN ?_ _ | refine blk_drew ?_ | refine blk_alloc ?_ _)); exact BK136.out⟩, ⟨by (with_reducible repeat (first | refine blk_drewN ?_ _ | refine blk_drew ?_ | refine blk_alloc ?_ _)); refine blk_far ?_ NB137_139.out _; (with_reducible repeat (first | refine blk_drewN ?_ _ | refine blk_drew ?_ | refine blk_alloc ?_ _)); refine blk_far ?_ NB137_139.out _; (with_reducible repeat (first | refine blk_drewN ?_ _ | refine blk_drew ?_ | refine blk_alloc ?_ _)); exact BK137.out⟩, ⟨by (with_reducible repeat (first | refine blk_drewN ?_ _ | refine blk_drew ?_ | refine blk_alloc ?_ _)); refine blk_far ?_ NB138_139.out _; (with_reducible repeat (first | refine blk_drewN ?_ _ | refine blk_drew ?_ | refine blk_alloc ?_ _)); refine blk_far ?_ NB138_139.out _; (with_reducible repeat (first | refine blk_drewN ?_ _ | refine blk_drew ?_ | refine blk_alloc ?_ _)); exact BK138.out⟩, ⟨by (with_reducible repeat (first | refine blk_drewN ?_ _ | refine blk_drew ?_ | refine blk_alloc ?_ _)); refine blk_put (cs := #[.int .i64 t142, .int .u64 a1_1]) ?_ 1 _ rfl; (with_reducible repeat (first | refine blk_drewN ?_ _ | refine blk_drew ?_ | refine blk_alloc ?_ _)); refine blk_put (cs := #[.int .i64 a1_0, .int .u64 a1_1]) ?_ 0 _ rfl; (with_reducible repeat (first | refine blk_drewN ?_ _ | refine blk_drew ?_ | refine blk_alloc ?_ _)); exact BK139.out⟩, ⟨by repeat (first | (with_reducible first | exact HB.out | apply below_alloc | apply pw_below_drewN | apply below_drew1 | refine below_set ?_ GE134.out | refine below_set ?_ GE135.out | refine below_set ?_ GE136.out | refine below_set ?_ GE137.out | refine below_set ?_ GE138.out | refine below_set ?_ GE139.out) | exact HB.out)⟩⟩
        · rw [if_neg c43] at H
          have c43b0 : decide (a1_0 < 0) = false := decide_eq_false c43
          clear c43
          (first | rw [c43b0] | (simp only [i64_w, i32_w]; rw [c43b0]) | skip)
          have H' := Aside0.mk H
          clear H
          go_wp2
          go_meet
          case rel => exact ⟨_, (a1_0), (a1_1), H', ⟨by have := HJ2.out; first | omega | exact Nat.le_refl _⟩, ⟨by (with_reducible repeat (first | refine blk_drewN ?_ _ | refine blk_drew ?_ | refine blk_alloc ?_ _)); exact BK134.out⟩, ⟨by (with_reducible repeat (first | refine blk_drewN ?_ _ | refine blk_drew ?_ | refine blk_alloc ?_ _)); exact BK135.out⟩, ⟨by (with_reducible repeat (first | refine blk_drewN ?_ _ | refine blk_drew ?_ | refine blk_alloc ?_ _)); exact BK136.out⟩, ⟨by (with_reducible repeat (first | refine blk_drewN ?_ _ | refine blk_drew ?_ | refine blk_alloc ?_ _)); exact BK137.out⟩, ⟨by (with_reducible repeat (first | refine blk_drewN ?_ _ | refine blk_drew ?_ | refine blk_alloc ?_ _)); exact BK138.out⟩, ⟨by (with_reducible repeat (first | refine blk_drewN ?_ _ | refine blk_drew ?_ | refine blk_alloc ?_ _)); exact BK139.out⟩, ⟨by repeat (first | (with_reducible first | exact HB.out | apply below_alloc | apply pw_below_drewN | apply below_drew1 | refine below_set ?_ GE134.out | refine below_set ?_ GE135.out | refine below_set ?_ GE136.out | refine below_set ?_ GE137.out | refine below_set ?_ GE138.out | refine below_set ?_ GE139.out) | exact HB.out)⟩⟩
      case rest =>
        clear HC36
        try clear c1
        try clear c2
        try clear p2
        try clear c3
        try clear c4
        try clear c5
        try clear c16
        try clear c17
        try clear c18
        try clear c19
        try clear c20
        try clear c22
        try clear c22b0
        try clear c24
        try clear c25
        try clear c26
        try clear c27
        try clear c28
        try clear c31
        try clear c32
        try clear c33
        try clear c34
        try clear c35
        try clear c37
        try clear c38
        try clear c39
        try clear c40
        try clear c41
        try clear c43
        try clear c43b0
        try clear c45
        try clear c46
        try clear c47
        try clear c48
        try clear c49
        try clear c52
        try clear c53
        try clear c54
        try clear c55
        try clear hcz21_0
        try clear hcz21_1
        try clear hcz29_0
        try clear hcz29_1
        try clear hcz35_0
        try clear hcz35_1
        try clear hcz42_0
        try clear hcz42_1
        try clear hcz50_0
        try clear hcz50_1
        try clear hcz56_0
        try clear hcz56_1
        try clear hfz21_0
        try clear hfz21_1
        try clear hfz29_0
        try clear hfz29_1
        try clear hfz35_0
        try clear hfz35_1
        try clear hfz42_0
        try clear hfz42_1
        try clear hfz50_0
        try clear hfz50_1
        try clear hfz56_0
        try clear hfz56_1
        try clear p2
        obtain ⟨kq, x140000_35, x140001_35, HA, HJ35, BK134, BK135, BK136, BK137, BK138, BK139, HB⟩ := hcut
        cases kq with
        | zero => exact absurd HA.out (by simp [arith_divided.j1])
        | succ kj35 =>
          have H := HA.out
          clear HA
          simp only [arith_divided.j1] at H
          by_cases c57 : x140001_35 = 0
          · rw [if_pos c57] at H
            exact absurd H (by simp)
          · rw [if_neg c57] at H
            have c57b0 : (x140001_35 == 0) = false := beq_eq_false_iff_ne.mpr c57
            have c57b1 : (x140001_35 != 0) = true := bne_iff_ne.mpr c57
            have HC58 := Aside0.mk H
            clear H
            try go_wp2
            have n0_ := Aside0.mk (blk_drew BK134.out)
            have n1_ := Aside0.mk (blk_drew BK135.out)
            have n2_ := Aside0.mk (blk_drew BK136.out)
            have n3_ := Aside0.mk (blk_drew BK137.out)
            have n4_ := Aside0.mk (blk_drew BK138.out)
            have n5_ := Aside0.mk (blk_drew BK139.out)
            have n6_ := Aside0.mk (below_drew1 HB.out)
            clear BK134
            clear BK135
            clear BK136
            clear BK137
            clear BK138
            clear BK139
            clear HB
            have BK134 := n0_
            have BK135 := n1_
            have BK136 := n2_
            have BK137 := n3_
            have BK138 := n4_
            have BK139 := n5_
            have HB := n6_
            clear n0_ n1_ n2_ n3_ n4_ n5_ n6_
            refine start_ (n := 16) (S := fun w' => w'.cell? ⟨gb138, 0, none⟩ = some (.int .i64 x139000_2) ∧ w'.cell? ⟨gb138, 1, none⟩ = some (.int .u64 x139001_2) ∧ w'.cell? ⟨gb139, 0, none⟩ = some (.int .i64 x140000_35) ∧ w'.cell? ⟨gb139, 1, none⟩ = some (.int .u64 x140001_35)) (ds := []) #[false, false, false, false, false, false, false, false, false, false, false, false, false, false, false, false] (by kernel_rfl) rfl rfl ⟨(blk_cell BK138.out 0).trans rfl, (blk_cell BK138.out 1).trans rfl, (blk_cell BK139.out 0).trans rfl, (blk_cell BK139.out 1).trans rfl⟩ (fun hHeld => ?_); refine with_tabW arith_divided.tab6 arith_divided.bits6 (fun HT_ HW_ => ?_)
            generalize wc.drew = w59 at BK134 BK135 BK136 BK137 BK138 BK139 HB hHeld ⊢
            refine pure_ (i := 0) (N := some 22) (v := ?_) (a' := ?_) #[true, false, false, false, false, false, false, false, false, false, false, false, false, false, false, false] rfl rfl (any_of HT_.out (by kernel_rfl)) (fun _ _ _ h => h) (Or.inl ⟨by rfl, ?_⟩) ?_ ?_
            rotate_left
            · intro w'
              go_simp
              with_reducible rfl
            rotate_left
            · simp only [Act.put, List.setIfInBounds_toArray, List.set_cons_zero, List.set_cons_succ, i64_w, i32_w]
              rfl
            refine pure_ (i := 2) (N := some 24) (v := ?_) (a' := ?_) #[true, false, true, false, false, false, false, false, false, false, false, false, false, false, false, false] rfl rfl (any_of HT_.out (by kernel_rfl)) (fun _ _ _ h => h) (Or.inl ⟨by rfl, ?_⟩) ?_ ?_
            rotate_left
            · intro w'
              go_simp
              with_reducible rfl
            rotate_left
            · simp only [Act.put, List.setIfInBounds_toArray, List.set_cons_zero, List.set_cons_succ, i64_w, i32_w]
              rfl
            refine pure_ (i := 6) (N := some 28) (v := ?_) (a' := ?_) #[true, false, true, false, false, false, true, false, false, false, false, false, false, false, false, false] rfl rfl (any_of HT_.out (by kernel_rfl)) (fun _ _ _ h => h) (Or.inl ⟨by rfl, ?_⟩) ?_ ?_
            rotate_left
            · intro w'
              go_simp
              with_reducible rfl
            rotate_left
            · simp only [Act.put, List.setIfInBounds_toArray, List.set_cons_zero, List.set_cons_succ, i64_w, i32_w]
              rfl
            refine pure_ (i := 8) (N := some 30) (v := ?_) (a' := ?_) #[true, false, true, false, false, false, true, false, true, false, false, false, false, false, false, false] rfl rfl (any_of HT_.out (by kernel_rfl)) (fun _ _ _ h => h) (Or.inl ⟨by rfl, ?_⟩) ?_ ?_
            rotate_left
            · intro w'
              go_simp
              with_reducible rfl
            rotate_left
            · simp only [Act.put, List.setIfInBounds_toArray, List.set_cons_zero, List.set_cons_succ, i64_w, i32_w]
              rfl
            refine take_ (i := 1) (N := some 23) (v := ?_) (a' := ?_) #[true, true, true, false, false, false, true, false, true, false, false, false, false, false, false, false] rfl rfl (take_ofW HT_.out HW_.out (by kernel_rfl)) (fun _ _ _ h => h) (Or.inl ⟨by rfl, ?_⟩) hHeld ?_ ?_
            rotate_left
            · rintro w' ⟨s0, s1, s2, s3⟩
              go_simp
              with_reducible rfl
            rotate_left
            · simp only [Act.put, List.setIfInBounds_toArray, List.set_cons_zero, List.set_cons_succ, i64_w, i32_w]
              rfl
            refine take_ (i := 3) (N := some 25) (v := ?_) (a' := ?_) #[true, true, true, true, false, false, true, false, true, false, false, false, false, false, false, false] rfl rfl (take_ofW HT_.out HW_.out (by kernel_rfl)) (fun _ _ _ h => h) (Or.inl ⟨by rfl, ?_⟩) hHeld ?_ ?_
            rotate_left
            · rintro w' ⟨s0, s1, s2, s3⟩
              go_simp
              with_reducible rfl
            rotate_left
            · simp only [Act.put, List.setIfInBounds_toArray, List.set_cons_zero, List.set_cons_succ, i64_w, i32_w]
              rfl
            refine pure_ (i := 4) (N := some 26) (v := ?_) (a' := ?_) #[true, true, true, true, true, false, true, false, true, false, false, false, false, false, false, false] rfl rfl (any_of HT_.out (by kernel_rfl)) (fun _ _ _ h => h) (Or.inl ⟨by rfl, ?_⟩) ?_ ?_
            rotate_left
            · intro w'
              go_simp
              with_reducible rfl
            rotate_left
            · simp only [Act.put, List.setIfInBounds_toArray, List.set_cons_zero, List.set_cons_succ, i64_w, i32_w]
              rfl
            refine pure_ (i := 5) (N := some 27) (v := ?_) (a' := ?_) #[true, true, true, true, true, true, true, false, true, false, false, false, false, false, false, false] rfl rfl (any_of HT_.out (by kernel_rfl)) (fun _ _ _ h => h) (Or.inl ⟨by rfl, ?_⟩) ?_ ?_
            rotate_left
            · intro w'
              go_simp
              with_reducible rfl
            rotate_left
            · simp only [Act.put, List.setIfInBounds_toArray, List.set_cons_zero, List.set_cons_succ, i64_w, i32_w]
              rfl
            refine take_ (i := 7) (N := some 29) (v := ?_) (a' := ?_) #[true, true, true, true, true, true, true, true, true, false, false, false, false, false, false, false] rfl rfl (take_ofW HT_.out HW_.out (by kernel_rfl)) (fun _ _ _ h => h) (Or.inl ⟨by rfl, ?_⟩) hHeld ?_ ?_
            rotate_left
            · rintro w' ⟨s0, s1, s2, s3⟩
              go_simp
              with_reducible rfl
            rotate_left
            · simp only [Act.put, List.setIfInBounds_toArray, List.set_cons_zero, List.set_cons_succ, i64_w, i32_w]
              rfl
            refine take_ (i := 9) (N := some 31) (v := ?_) (a' := ?_) #[true, true, true, true, true, true, true, true, true, true, false, false, false, false, false, false] rfl rfl (take_ofW HT_.out HW_.out (by kernel_rfl)) (fun _ _ _ h => h) (Or.inl ⟨by rfl, ?_⟩) hHeld ?_ ?_
            rotate_left
            · rintro w' ⟨s0, s1, s2, s3⟩
              go_simp
              with_reducible rfl
            rotate_left
            · simp only [Act.put, List.setIfInBounds_toArray, List.set_cons_zero, List.set_cons_succ, i64_w, i32_w]
              rfl
            refine pure_ (i := 10) (N := some 32) (v := ?_) (a' := ?_) #[true, true, true, true, true, true, true, true, true, true, true, false, false, false, false, false] rfl rfl (any_of HT_.out (by kernel_rfl)) (fun _ _ _ h => h) (Or.inl ⟨by rfl, ?_⟩) ?_ ?_
            rotate_left
            · intro w'
              go_simp
              with_reducible rfl
            rotate_left
            · simp only [Act.put, List.setIfInBounds_toArray, List.set_cons_zero, List.set_cons_succ, i64_w, i32_w]
              rfl
            refine pure_ (i := 11) (N := some 33) (v := ?_) (a' := ?_) #[true, true, true, true, true, true, true, true, true, true, true, true, false, false, false, false] rfl rfl (any_of HT_.out (by kernel_rfl)) (fun _ _ _ h => h) (Or.inl ⟨by rfl, ?_⟩) ?_ ?_
            rotate_left
            · intro w'
              go_simp
              with_reducible rfl
            rotate_left
            · simp only [Act.put, List.setIfInBounds_toArray, List.set_cons_zero, List.set_cons_succ, i64_w, i32_w]
              rfl
            refine join_ (σ := Nat × Nat) 2 #[true, true, true, true, true, true, true, true, true, true, true, true, true, true, false, false] (fun s_ => [(8, .pointer (some ⟨s_.1, 0, none⟩)), (9, .pointer (some ⟨s_.2, 0, none⟩))]) (fun s_ w' => (w'.cell? ⟨gb138, 0, none⟩ = some (.int .i64 x139000_2) ∧ w'.cell? ⟨gb138, 1, none⟩ = some (.int .u64 x139001_2) ∧ w'.cell? ⟨gb139, 0, none⟩ = some (.int .i64 x140000_35) ∧ w'.cell? ⟨gb139, 1, none⟩ = some (.int .u64 x140001_35)) ∧ (w'.heap[gb134]? = some (.cells #[.int .i64 a0_0, .int .u64 a0_1] 37 (0, 0))) ∧ (w'.heap[gb135]? = some (.cells #[.int .i64 a1_0, .int .u64 a1_1] 37 (0, 0))) ∧ (w'.heap[gb136]? = some (.cells #[.int .i64 0, .int .u64 0] 37 (0, 0))) ∧ (w'.heap[gb137]? = some (.cells #[.int .i64 0, .int .u64 0] 37 (0, 0))) ∧ (w'.heap[gb138]? = some (.cells #[.int .i64 x139000_2, .int .u64 x139001_2] 37 (0, 0))) ∧ (w'.heap[gb139]? = some (.cells #[.int .i64 x140000_35, .int .u64 x140001_35] 37 (0, 0))) ∧ (w'.heap[s_.1]? = some (.cells #[.int .i64 0, .int .u64 0] 37 (0, 0))) ∧ (w'.heap[s_.2]? = some (.cells #[.int .i64 0, .int .u64 0] 37 (0, 0))) ∧ (w.heap.size ≤ s_.1) ∧ (w.heap.size ≤ s_.1) ∧ (gb134 ≠ s_.1) ∧ (s_.1 ≠ gb134) ∧ (gb135 ≠ s_.1) ∧ (s_.1 ≠ gb135) ∧ (gb136 ≠ s_.1) ∧ (s_.1 ≠ gb136) ∧ (gb137 ≠ s_.1) ∧ (s_.1 ≠ gb137) ∧ (gb138 ≠ s_.1) ∧ (s_.1 ≠ gb138) ∧ (gb139 ≠ s_.1) ∧ (s_.1 ≠ gb139) ∧ (s_.2 ≠ s_.1) ∧ (s_.1 ≠ s_.2) ∧ (w.heap.size ≤ s_.2) ∧ (w.heap.size ≤ s_.2) ∧ (gb134 ≠ s_.2) ∧ (s_.2 ≠ gb134) ∧ (gb135 ≠ s_.2) ∧ (s_.2 ≠ gb135) ∧ (gb136 ≠ s_.2) ∧ (s_.2 ≠ gb136) ∧ (gb137 ≠ s_.2) ∧ (s_.2 ≠ gb137) ∧ (gb138 ≠ s_.2) ∧ (s_.2 ≠ gb138) ∧ (gb139 ≠ s_.2) ∧ (s_.2 ≠ gb139) ∧ (Below w.heap.size w w')) ?_ ?_
            rotate_left
            · intro hCont
              refine two_ (i := 12) (j := 13) (Ni := some 8) (Nj := some 9) #[true, true, true, true, true, true, true, true, true, true, true, true, true, false, false, false] #[true, true, true, true, true, true, true, true, true, true, true, true, false, true, false, false] rfl rfl rfl rfl (two_of HT_.out (by kernel_rfl)) (by decide) (by decide) (fun K hK => ?_) (fun K hK => ?_)
              · skip
                refine box_step ?hg (N := 8) ?hd (cs := #[.int .i64 0, .int .u64 0]) (t := 37) ?hr ?_; (case hd => rfl); (case hg => rfl); (case hr => first | (go_simp; done) | (go_simp; rfl))
                intro gb144 hg w60 hbox hb
                have n0_ := Aside0.mk (blk_below (g := gb134) (o := .cells #[.int .i64 a0_0, .int .u64 a0_1] 37 (0, 0)) (by (with_reducible repeat (first | refine blk_drewN ?_ _ | refine blk_drew ?_ | refine blk_alloc ?_ _)); exact BK134.out) hb)
                have n1_ := Aside0.mk (blk_below (g := gb135) (o := .cells #[.int .i64 a1_0, .int .u64 a1_1] 37 (0, 0)) (by (with_reducible repeat (first | refine blk_drewN ?_ _ | refine blk_drew ?_ | refine blk_alloc ?_ _)); exact BK135.out) hb)
                have n2_ := Aside0.mk (blk_below (g := gb136) (o := .cells #[.int .i64 0, .int .u64 0] 37 (0, 0)) (by (with_reducible repeat (first | refine blk_drewN ?_ _ | refine blk_drew ?_ | refine blk_alloc ?_ _)); exact BK136.out) hb)
                have n3_ := Aside0.mk (blk_below (g := gb137) (o := .cells #[.int .i64 0, .int .u64 0] 37 (0, 0)) (by (with_reducible repeat (first | refine blk_drewN ?_ _ | refine blk_drew ?_ | refine blk_alloc ?_ _)); exact BK137.out) hb)
                have n4_ := Aside0.mk (blk_below (g := gb138) (o := .cells #[.int .i64 x139000_2, .int .u64 x139001_2] 37 (0, 0)) (by (with_reducible repeat (first | refine blk_drewN ?_ _ | refine blk_drew ?_ | refine blk_alloc ?_ _)); exact BK138.out) hb)
                have n5_ := Aside0.mk (blk_below (g := gb139) (o := .cells #[.int .i64 x140000_35, .int .u64 x140001_35] 37 (0, 0)) (by (with_reducible repeat (first | refine blk_drewN ?_ _ | refine blk_drew ?_ | refine blk_alloc ?_ _)); exact BK139.out) hb)
                have n6_ := Aside0.mk (below_step (by repeat (first | (with_reducible first | exact HB.out | apply below_alloc | apply pw_below_drewN | apply below_drew1 | refine below_set ?_ GE134.out | refine below_set ?_ GE135.out | refine below_set ?_ GE136.out | refine below_set ?_ GE137.out | refine below_set ?_ GE138.out | refine below_set ?_ GE139.out) | exact HB.out)) hb)
                have n7_ := Aside0.mk (hbox)
                have n8_ := Aside0.mk ((by rw [hg]; exact (below_size (by repeat (first | (with_reducible first | exact HB.out | apply below_alloc | apply pw_below_drewN | apply below_drew1 | refine below_set ?_ GE134.out | refine below_set ?_ GE135.out | refine below_set ?_ GE136.out | refine below_set ?_ GE137.out | refine below_set ?_ GE138.out | refine below_set ?_ GE139.out) | exact HB.out))) : w.heap.size ≤ gb144))
                have n9_ := Aside0.mk ((by rw [hg]; exact (below_size (by repeat (first | (with_reducible first | exact HB.out | apply below_alloc | apply pw_below_drewN | apply below_drew1 | refine below_set ?_ GE134.out | refine below_set ?_ GE135.out | refine below_set ?_ GE136.out | refine below_set ?_ GE137.out | refine below_set ?_ GE138.out | refine below_set ?_ GE139.out) | exact HB.out))) : w.heap.size ≤ gb144))
                have n10_ := Aside0.mk ((by rw [hg]; exact Nat.ne_of_lt (blk_lt (g := gb134) (o := .cells #[.int .i64 a0_0, .int .u64 a0_1] 37 (0, 0)) (by (with_reducible repeat (first | refine blk_drewN ?_ _ | refine blk_drew ?_ | refine blk_alloc ?_ _)); exact BK134.out)) : gb134 ≠ gb144))
                have n11_ := Aside0.mk ((by rw [hg]; exact Nat.ne_of_gt (blk_lt (g := gb134) (o := .cells #[.int .i64 a0_0, .int .u64 a0_1] 37 (0, 0)) (by (with_reducible repeat (first | refine blk_drewN ?_ _ | refine blk_drew ?_ | refine blk_alloc ?_ _)); exact BK134.out)) : gb144 ≠ gb134))
                have n12_ := Aside0.mk ((by rw [hg]; exact Nat.ne_of_lt (blk_lt (g := gb135) (o := .cells #[.int .i64 a1_0, .int .u64 a1_1] 37 (0, 0)) (by (with_reducible repeat (first | refine blk_drewN ?_ _ | refine blk_drew ?_ | refine blk_alloc ?_ _)); exact BK135.out)) : gb135 ≠ gb144))
                have n13_ := Aside0.mk ((by rw [hg]; exact Nat.ne_of_gt (blk_lt (g := gb135) (o := .cells #[.int .i64 a1_0, .int .u64 a1_1] 37 (0, 0)) (by (with_reducible repeat (first | refine blk_drewN ?_ _ | refine blk_drew ?_ | refine blk_alloc ?_ _)); exact BK135.out)) : gb144 ≠ gb135))
                have n14_ := Aside0.mk ((by rw [hg]; exact Nat.ne_of_lt (blk_lt (g := gb136) (o := .cells #[.int .i64 0, .int .u64 0] 37 (0, 0)) (by (with_reducible repeat (first | refine blk_drewN ?_ _ | refine blk_drew ?_ | refine blk_alloc ?_ _)); exact BK136.out)) : gb136 ≠ gb144))
                have n15_ := Aside0.mk ((by rw [hg]; exact Nat.ne_of_gt (blk_lt (g := gb136) (o := .cells #[.int .i64 0, .int .u64 0] 37 (0, 0)) (by (with_reducible repeat (first | refine blk_drewN ?_ _ | refine blk_drew ?_ | refine blk_alloc ?_ _)); exact BK136.out)) : gb144 ≠ gb136))
                have n16_ := Aside0.mk ((by rw [hg]; exact Nat.ne_of_lt (blk_lt (g := gb137) (o := .cells #[.int .i64 0, .int .u64 0] 37 (0, 0)) (by (with_reducible repeat (first | refine blk_drewN ?_ _ | refine blk_drew ?_ | refine blk_alloc ?_ _)); exact BK137.out)) : gb137 ≠ gb144))
                have n17_ := Aside0.mk ((by rw [hg]; exact Nat.ne_of_gt (blk_lt (g := gb137) (o := .cells #[.int .i64 0, .int .u64 0] 37 (0, 0)) (by (with_reducible repeat (first | refine blk_drewN ?_ _ | refine blk_drew ?_ | refine blk_alloc ?_ _)); exact BK137.out)) : gb144 ≠ gb137))
                have n18_ := Aside0.mk ((by rw [hg]; exact Nat.ne_of_lt (blk_lt (g := gb138) (o := .cells #[.int .i64 x139000_2, .int .u64 x139001_2] 37 (0, 0)) (by (with_reducible repeat (first | refine blk_drewN ?_ _ | refine blk_drew ?_ | refine blk_alloc ?_ _)); exact BK138.out)) : gb138 ≠ gb144))
                have n19_ := Aside0.mk ((by rw [hg]; exact Nat.ne_of_gt (blk_lt (g := gb138) (o := .cells #[.int .i64 x139000_2, .int .u64 x139001_2] 37 (0, 0)) (by (with_reducible repeat (first | refine blk_drewN ?_ _ | refine blk_drew ?_ | refine blk_alloc ?_ _)); exact BK138.out)) : gb144 ≠ gb138))
                have n20_ := Aside0.mk ((by rw [hg]; exact Nat.ne_of_lt (blk_lt (g := gb139) (o := .cells #[.int .i64 x140000_35, .int .u64 x140001_35] 37 (0, 0)) (by (with_reducible repeat (first | refine blk_drewN ?_ _ | refine blk_drew ?_ | refine blk_alloc ?_ _)); exact BK139.out)) : gb139 ≠ gb144))
                have n21_ := Aside0.mk ((by rw [hg]; exact Nat.ne_of_gt (blk_lt (g := gb139) (o := .cells #[.int .i64 x140000_35, .int .u64 x140001_35] 37 (0, 0)) (by (with_reducible repeat (first | refine blk_drewN ?_ _ | refine blk_drew ?_ | refine blk_alloc ?_ _)); exact BK139.out)) : gb144 ≠ gb139))
                clear BK134
                clear BK135
                clear BK136
                clear BK137
                clear BK138
                clear BK139
                clear HB
                have BK134 := n0_
                have BK135 := n1_
                have BK136 := n2_
                have BK137 := n3_
                have BK138 := n4_
                have BK139 := n5_
                have HB := n6_
                have BK144 := n7_
                have GW144 := n8_
                have GE144 := n9_
                have NB134_144 := n10_
                have NB144_134 := n11_
                have NB135_144 := n12_
                have NB144_135 := n13_
                have NB136_144 := n14_
                have NB144_136 := n15_
                have NB137_144 := n16_
                have NB144_137 := n17_
                have NB138_144 := n18_
                have NB144_138 := n19_
                have NB139_144 := n20_
                have NB144_139 := n21_
                clear n0_ n1_ n2_ n3_ n4_ n5_ n6_ n7_ n8_ n9_ n10_ n11_ n12_ n13_ n14_ n15_ n16_ n17_ n18_ n19_ n20_ n21_
                clear hb hbox hg
                refine hK.out _ _ ⟨(blk_cell BK138.out 0).trans rfl, (blk_cell BK138.out 1).trans rfl, (blk_cell BK139.out 0).trans rfl, (blk_cell BK139.out 1).trans rfl⟩ (fun hHeld => ?_)
                clear hK K
                refine norm_ (a' := ?_) ?_ ?_
                rotate_left
                · show Act.put _ (some 8) _ = _
                  simp only [Act.put, List.setIfInBounds_toArray, List.set_cons_zero, List.set_cons_succ, i64_w, i32_w]
                  rfl
                refine one_ (i := 13) (N := some 9) #[true, true, true, true, true, true, true, true, true, true, true, true, true, true, false, false] rfl rfl (one_of HT_.out (by kernel_rfl)) (by decide) (fun K hK => ?_)
                refine box_step ?hg (N := 9) ?hd (cs := #[.int .i64 0, .int .u64 0]) (t := 37) ?hr ?_; (case hd => rfl); (case hg => rfl); (case hr => first | (go_simp; done) | (go_simp; rfl))
                intro gb145 hg w61 hbox hb
                have n0_ := Aside0.mk (blk_below (g := gb134) (o := .cells #[.int .i64 a0_0, .int .u64 a0_1] 37 (0, 0)) (by (with_reducible repeat (first | refine blk_drewN ?_ _ | refine blk_drew ?_ | refine blk_alloc ?_ _)); exact BK134.out) hb)
                have n1_ := Aside0.mk (blk_below (g := gb135) (o := .cells #[.int .i64 a1_0, .int .u64 a1_1] 37 (0, 0)) (by (with_reducible repeat (first | refine blk_drewN ?_ _ | refine blk_drew ?_ | refine blk_alloc ?_ _)); exact BK135.out) hb)
                have n2_ := Aside0.mk (blk_below (g := gb136) (o := .cells #[.int .i64 0, .int .u64 0] 37 (0, 0)) (by (with_reducible repeat (first | refine blk_drewN ?_ _ | refine blk_drew ?_ | refine blk_alloc ?_ _)); exact BK136.out) hb)
                have n3_ := Aside0.mk (blk_below (g := gb137) (o := .cells #[.int .i64 0, .int .u64 0] 37 (0, 0)) (by (with_reducible repeat (first | refine blk_drewN ?_ _ | refine blk_drew ?_ | refine blk_alloc ?_ _)); exact BK137.out) hb)
                have n4_ := Aside0.mk (blk_below (g := gb138) (o := .cells #[.int .i64 x139000_2, .int .u64 x139001_2] 37 (0, 0)) (by (with_reducible repeat (first | refine blk_drewN ?_ _ | refine blk_drew ?_ | refine blk_alloc ?_ _)); exact BK138.out) hb)
                have n5_ := Aside0.mk (blk_below (g := gb139) (o := .cells #[.int .i64 x140000_35, .int .u64 x140001_35] 37 (0, 0)) (by (with_reducible repeat (first | refine blk_drewN ?_ _ | refine blk_drew ?_ | refine blk_alloc ?_ _)); exact BK139.out) hb)
                have n6_ := Aside0.mk (blk_below (g := gb144) (o := .cells #[.int .i64 0, .int .u64 0] 37 (0, 0)) (by (with_reducible repeat (first | refine blk_drewN ?_ _ | refine blk_drew ?_ | refine blk_alloc ?_ _)); exact BK144.out) hb)
                have n7_ := Aside0.mk (below_step (by repeat (first | (with_reducible first | exact HB.out | apply below_alloc | apply pw_below_drewN | apply below_drew1 | refine below_set ?_ GE134.out | refine below_set ?_ GE135.out | refine below_set ?_ GE136.out | refine below_set ?_ GE137.out | refine below_set ?_ GE138.out | refine below_set ?_ GE139.out | refine below_set ?_ GE144.out) | exact HB.out)) hb)
                have n8_ := Aside0.mk (hbox)
                have n9_ := Aside0.mk ((by rw [hg]; exact (below_size (by repeat (first | (with_reducible first | exact HB.out | apply below_alloc | apply pw_below_drewN | apply below_drew1 | refine below_set ?_ GE134.out | refine below_set ?_ GE135.out | refine below_set ?_ GE136.out | refine below_set ?_ GE137.out | refine below_set ?_ GE138.out | refine below_set ?_ GE139.out | refine below_set ?_ GE144.out) | exact HB.out))) : w.heap.size ≤ gb145))
                have n10_ := Aside0.mk ((by rw [hg]; exact (below_size (by repeat (first | (with_reducible first | exact HB.out | apply below_alloc | apply pw_below_drewN | apply below_drew1 | refine below_set ?_ GE134.out | refine below_set ?_ GE135.out | refine below_set ?_ GE136.out | refine below_set ?_ GE137.out | refine below_set ?_ GE138.out | refine below_set ?_ GE139.out | refine below_set ?_ GE144.out) | exact HB.out))) : w.heap.size ≤ gb145))
                have n11_ := Aside0.mk ((by rw [hg]; exact Nat.ne_of_lt (blk_lt (g := gb134) (o := .cells #[.int .i64 a0_0, .int .u64 a0_1] 37 (0, 0)) (by (with_reducible repeat (first | refine blk_drewN ?_ _ | refine blk_drew ?_ | refine blk_alloc ?_ _)); exact BK134.out)) : gb134 ≠ gb145))
                have n12_ := Aside0.mk ((by rw [hg]; exact Nat.ne_of_gt (blk_lt (g := gb134) (o := .cells #[.int .i64 a0_0, .int .u64 a0_1] 37 (0, 0)) (by (with_reducible repeat (first | refine blk_drewN ?_ _ | refine blk_drew ?_ | refine blk_alloc ?_ _)); exact BK134.out)) : gb145 ≠ gb134))
                have n13_ := Aside0.mk ((by rw [hg]; exact Nat.ne_of_lt (blk_lt (g := gb135) (o := .cells #[.int .i64 a1_0, .int .u64 a1_1] 37 (0, 0)) (by (with_reducible repeat (first | refine blk_drewN ?_ _ | refine blk_drew ?_ | refine blk_alloc ?_ _)); exact BK135.out)) : gb135 ≠ gb145))
                have n14_ := Aside0.mk ((by rw [hg]; exact Nat.ne_of_gt (blk_lt (g := gb135) (o := .cells #[.int .i64 a1_0, .int .u64 a1_1] 37 (0, 0)) (by (with_reducible repeat (first | refine blk_drewN ?_ _ | refine blk_drew ?_ | refine blk_alloc ?_ _)); exact BK135.out)) : gb145 ≠ gb135))
                have n15_ := Aside0.mk ((by rw [hg]; exact Nat.ne_of_lt (blk_lt (g := gb136) (o := .cells #[.int .i64 0, .int .u64 0] 37 (0, 0)) (by (with_reducible repeat (first | refine blk_drewN ?_ _ | refine blk_drew ?_ | refine blk_alloc ?_ _)); exact BK136.out)) : gb136 ≠ gb145))
                have n16_ := Aside0.mk ((by rw [hg]; exact Nat.ne_of_gt (blk_lt (g := gb136) (o := .cells #[.int .i64 0, .int .u64 0] 37 (0, 0)) (by (with_reducible repeat (first | refine blk_drewN ?_ _ | refine blk_drew ?_ | refine blk_alloc ?_ _)); exact BK136.out)) : gb145 ≠ gb136))
                have n17_ := Aside0.mk ((by rw [hg]; exact Nat.ne_of_lt (blk_lt (g := gb137) (o := .cells #[.int .i64 0, .int .u64 0] 37 (0, 0)) (by (with_reducible repeat (first | refine blk_drewN ?_ _ | refine blk_drew ?_ | refine blk_alloc ?_ _)); exact BK137.out)) : gb137 ≠ gb145))
                have n18_ := Aside0.mk ((by rw [hg]; exact Nat.ne_of_gt (blk_lt (g := gb137) (o := .cells #[.int .i64 0, .int .u64 0] 37 (0, 0)) (by (with_reducible repeat (first | refine blk_drewN ?_ _ | refine blk_drew ?_ | refine blk_alloc ?_ _)); exact BK137.out)) : gb145 ≠ gb137))
                have n19_ := Aside0.mk ((by rw [hg]; exact Nat.ne_of_lt (blk_lt (g := gb138) (o := .cells #[.int .i64 x139000_2, .int .u64 x139001_2] 37 (0, 0)) (by (with_reducible repeat (first | refine blk_drewN ?_ _ | refine blk_drew ?_ | refine blk_alloc ?_ _)); exact BK138.out)) : gb138 ≠ gb145))
                have n20_ := Aside0.mk ((by rw [hg]; exact Nat.ne_of_gt (blk_lt (g := gb138) (o := .cells #[.int .i64 x139000_2, .int .u64 x139001_2] 37 (0, 0)) (by (with_reducible repeat (first | refine blk_drewN ?_ _ | refine blk_drew ?_ | refine blk_alloc ?_ _)); exact BK138.out)) : gb145 ≠ gb138))
                have n21_ := Aside0.mk ((by rw [hg]; exact Nat.ne_of_lt (blk_lt (g := gb139) (o := .cells #[.int .i64 x140000_35, .int .u64 x140001_35] 37 (0, 0)) (by (with_reducible repeat (first | refine blk_drewN ?_ _ | refine blk_drew ?_ | refine blk_alloc ?_ _)); exact BK139.out)) : gb139 ≠ gb145))
                have n22_ := Aside0.mk ((by rw [hg]; exact Nat.ne_of_gt (blk_lt (g := gb139) (o := .cells #[.int .i64 x140000_35, .int .u64 x140001_35] 37 (0, 0)) (by (with_reducible repeat (first | refine blk_drewN ?_ _ | refine blk_drew ?_ | refine blk_alloc ?_ _)); exact BK139.out)) : gb145 ≠ gb139))
                have n23_ := Aside0.mk ((by rw [hg]; exact Nat.ne_of_lt (blk_lt (g := gb144) (o := .cells #[.int .i64 0, .int .u64 0] 37 (0, 0)) (by (with_reducible repeat (first | refine blk_drewN ?_ _ | refine blk_drew ?_ | refine blk_alloc ?_ _)); exact BK144.out)) : gb144 ≠ gb145))
                have n24_ := Aside0.mk ((by rw [hg]; exact Nat.ne_of_gt (blk_lt (g := gb144) (o := .cells #[.int .i64 0, .int .u64 0] 37 (0, 0)) (by (with_reducible repeat (first | refine blk_drewN ?_ _ | refine blk_drew ?_ | refine blk_alloc ?_ _)); exact BK144.out)) : gb145 ≠ gb144))
                clear BK134
                clear BK135
                clear BK136
                clear BK137
                clear BK138
                clear BK139
                clear BK144
                clear HB
                have BK134 := n0_
                have BK135 := n1_
                have BK136 := n2_
                have BK137 := n3_
                have BK138 := n4_
                have BK139 := n5_
                have BK144 := n6_
                have HB := n7_
                have BK145 := n8_
                have GW145 := n9_
                have GE145 := n10_
                have NB134_145 := n11_
                have NB145_134 := n12_
                have NB135_145 := n13_
                have NB145_135 := n14_
                have NB136_145 := n15_
                have NB145_136 := n16_
                have NB137_145 := n17_
                have NB145_137 := n18_
                have NB138_145 := n19_
                have NB145_138 := n20_
                have NB139_145 := n21_
                have NB145_139 := n22_
                have NB144_145 := n23_
                have NB145_144 := n24_
                clear n0_ n1_ n2_ n3_ n4_ n5_ n6_ n7_ n8_ n9_ n10_ n11_ n12_ n13_ n14_ n15_ n16_ n17_ n18_ n19_ n20_ n21_ n22_ n23_ n24_
                clear hb hbox hg
                refine hK.out _ _ ⟨(blk_cell BK138.out 0).trans rfl, (blk_cell BK138.out 1).trans rfl, (blk_cell BK139.out 0).trans rfl, (blk_cell BK139.out 1).trans rfl⟩ (fun hHeld => ?_)
                clear hK K
                refine norm_ (a' := ?_) ?_ ?_
                rotate_left
                · show Act.put _ (some 9) _ = _
                  simp only [Act.put, List.setIfInBounds_toArray, List.set_cons_zero, List.set_cons_succ, i64_w, i32_w]
                  rfl
                exact norm_ (by simp only [putAll, Act.put, List.setIfInBounds_toArray, List.set_cons_zero, List.set_cons_succ]) (hCont (gb144, gb145) _ ⟨hHeld, (by (with_reducible repeat (first | refine blk_drewN ?_ _ | refine blk_drew ?_ | refine blk_alloc ?_ _)); exact BK134.out), (by (with_reducible repeat (first | refine blk_drewN ?_ _ | refine blk_drew ?_ | refine blk_alloc ?_ _)); exact BK135.out), (by (with_reducible repeat (first | refine blk_drewN ?_ _ | refine blk_drew ?_ | refine blk_alloc ?_ _)); exact BK136.out), (by (with_reducible repeat (first | refine blk_drewN ?_ _ | refine blk_drew ?_ | refine blk_alloc ?_ _)); exact BK137.out), (by (with_reducible repeat (first | refine blk_drewN ?_ _ | refine blk_drew ?_ | refine blk_alloc ?_ _)); exact BK138.out), (by (with_reducible repeat (first | refine blk_drewN ?_ _ | refine blk_drew ?_ | refine blk_alloc ?_ _)); exact BK139.out), (by (with_reducible repeat (first | refine blk_drewN ?_ _ | refine blk_drew ?_ | refine blk_alloc ?_ _)); exact BK144.out), (by (with_reducible repeat (first | refine blk_drewN ?_ _ | refine blk_drew ?_ | refine blk_alloc ?_ _)); exact BK145.out), GW144.out, GE144.out, NB134_144.out, NB144_134.out, NB135_144.out, NB144_135.out, NB136_144.out, NB144_136.out, NB137_144.out, NB144_137.out, NB138_144.out, NB144_138.out, NB139_144.out, NB144_139.out, NB145_144.out, NB144_145.out, GW145.out, GE145.out, NB134_145.out, NB145_134.out, NB135_145.out, NB145_135.out, NB136_145.out, NB145_136.out, NB137_145.out, NB145_137.out, NB138_145.out, NB145_138.out, NB139_145.out, NB145_139.out, (by repeat (first | (with_reducible first | exact HB.out | apply below_alloc | apply pw_below_drewN | apply below_drew1 | refine below_set ?_ GE134.out | refine below_set ?_ GE135.out | refine below_set ?_ GE136.out | refine below_set ?_ GE137.out | refine below_set ?_ GE138.out | refine below_set ?_ GE139.out | refine below_set ?_ GE144.out | refine below_set ?_ GE145.out) | exact HB.out))⟩)
              · skip
                refine box_step ?hg (N := 9) ?hd (cs := #[.int .i64 0, .int .u64 0]) (t := 37) ?hr ?_; (case hd => rfl); (case hg => rfl); (case hr => first | (go_simp; done) | (go_simp; rfl))
                intro gb145 hg w60 hbox hb
                have n0_ := Aside0.mk (blk_below (g := gb134) (o := .cells #[.int .i64 a0_0, .int .u64 a0_1] 37 (0, 0)) (by (with_reducible repeat (first | refine blk_drewN ?_ _ | refine blk_drew ?_ | refine blk_alloc ?_ _)); exact BK134.out) hb)
                have n1_ := Aside0.mk (blk_below (g := gb135) (o := .cells #[.int .i64 a1_0, .int .u64 a1_1] 37 (0, 0)) (by (with_reducible repeat (first | refine blk_drewN ?_ _ | refine blk_drew ?_ | refine blk_alloc ?_ _)); exact BK135.out) hb)
                have n2_ := Aside0.mk (blk_below (g := gb136) (o := .cells #[.int .i64 0, .int .u64 0] 37 (0, 0)) (by (with_reducible repeat (first | refine blk_drewN ?_ _ | refine blk_drew ?_ | refine blk_alloc ?_ _)); exact BK136.out) hb)
                have n3_ := Aside0.mk (blk_below (g := gb137) (o := .cells #[.int .i64 0, .int .u64 0] 37 (0, 0)) (by (with_reducible repeat (first | refine blk_drewN ?_ _ | refine blk_drew ?_ | refine blk_alloc ?_ _)); exact BK137.out) hb)
                have n4_ := Aside0.mk (blk_below (g := gb138) (o := .cells #[.int .i64 x139000_2, .int .u64 x139001_2] 37 (0, 0)) (by (with_reducible repeat (first | refine blk_drewN ?_ _ | refine blk_drew ?_ | refine blk_alloc ?_ _)); exact BK138.out) hb)
                have n5_ := Aside0.mk (blk_below (g := gb139) (o := .cells #[.int .i64 x140000_35, .int .u64 x140001_35] 37 (0, 0)) (by (with_reducible repeat (first | refine blk_drewN ?_ _ | refine blk_drew ?_ | refine blk_alloc ?_ _)); exact BK139.out) hb)
                have n6_ := Aside0.mk (below_step (by repeat (first | (with_reducible first | exact HB.out | apply below_alloc | apply pw_below_drewN | apply below_drew1 | refine below_set ?_ GE134.out | refine below_set ?_ GE135.out | refine below_set ?_ GE136.out | refine below_set ?_ GE137.out | refine below_set ?_ GE138.out | refine below_set ?_ GE139.out) | exact HB.out)) hb)
                have n7_ := Aside0.mk (hbox)
                have n8_ := Aside0.mk ((by rw [hg]; exact (below_size (by repeat (first | (with_reducible first | exact HB.out | apply below_alloc | apply pw_below_drewN | apply below_drew1 | refine below_set ?_ GE134.out | refine below_set ?_ GE135.out | refine below_set ?_ GE136.out | refine below_set ?_ GE137.out | refine below_set ?_ GE138.out | refine below_set ?_ GE139.out) | exact HB.out))) : w.heap.size ≤ gb145))
                have n9_ := Aside0.mk ((by rw [hg]; exact (below_size (by repeat (first | (with_reducible first | exact HB.out | apply below_alloc | apply pw_below_drewN | apply below_drew1 | refine below_set ?_ GE134.out | refine below_set ?_ GE135.out | refine below_set ?_ GE136.out | refine below_set ?_ GE137.out | refine below_set ?_ GE138.out | refine below_set ?_ GE139.out) | exact HB.out))) : w.heap.size ≤ gb145))
                have n10_ := Aside0.mk ((by rw [hg]; exact Nat.ne_of_lt (blk_lt (g := gb134) (o := .cells #[.int .i64 a0_0, .int .u64 a0_1] 37 (0, 0)) (by (with_reducible repeat (first | refine blk_drewN ?_ _ | refine blk_drew ?_ | refine blk_alloc ?_ _)); exact BK134.out)) : gb134 ≠ gb145))
                have n11_ := Aside0.mk ((by rw [hg]; exact Nat.ne_of_gt (blk_lt (g := gb134) (o := .cells #[.int .i64 a0_0, .int .u64 a0_1] 37 (0, 0)) (by (with_reducible repeat (first | refine blk_drewN ?_ _ | refine blk_drew ?_ | refine blk_alloc ?_ _)); exact BK134.out)) : gb145 ≠ gb134))
                have n12_ := Aside0.mk ((by rw [hg]; exact Nat.ne_of_lt (blk_lt (g := gb135) (o := .cells #[.int .i64 a1_0, .int .u64 a1_1] 37 (0, 0)) (by (with_reducible repeat (first | refine blk_drewN ?_ _ | refine blk_drew ?_ | refine blk_alloc ?_ _)); exact BK135.out)) : gb135 ≠ gb145))
                have n13_ := Aside0.mk ((by rw [hg]; exact Nat.ne_of_gt (blk_lt (g := gb135) (o := .cells #[.int .i64 a1_0, .int .u64 a1_1] 37 (0, 0)) (by (with_reducible repeat (first | refine blk_drewN ?_ _ | refine blk_drew ?_ | refine blk_alloc ?_ _)); exact BK135.out)) : gb145 ≠ gb135))
                have n14_ := Aside0.mk ((by rw [hg]; exact Nat.ne_of_lt (blk_lt (g := gb136) (o := .cells #[.int .i64 0, .int .u64 0] 37 (0, 0)) (by (with_reducible repeat (first | refine blk_drewN ?_ _ | refine blk_drew ?_ | refine blk_alloc ?_ _)); exact BK136.out)) : gb136 ≠ gb145))
                have n15_ := Aside0.mk ((by rw [hg]; exact Nat.ne_of_gt (blk_lt (g := gb136) (o := .cells #[.int .i64 0, .int .u64 0] 37 (0, 0)) (by (with_reducible repeat (first | refine blk_drewN ?_ _ | refine blk_drew ?_ | refine blk_alloc ?_ _)); exact BK136.out)) : gb145 ≠ gb136))
                have n16_ := Aside0.mk ((by rw [hg]; exact Nat.ne_of_lt (blk_lt (g := gb137) (o := .cells #[.int .i64 0, .int .u64 0] 37 (0, 0)) (by (with_reducible repeat (first | refine blk_drewN ?_ _ | refine blk_drew ?_ | refine blk_alloc ?_ _)); exact BK137.out)) : gb137 ≠ gb145))
                have n17_ := Aside0.mk ((by rw [hg]; exact Nat.ne_of_gt (blk_lt (g := gb137) (o := .cells #[.int .i64 0, .int .u64 0] 37 (0, 0)) (by (with_reducible repeat (first | refine blk_drewN ?_ _ | refine blk_drew ?_ | refine blk_alloc ?_ _)); exact BK137.out)) : gb145 ≠ gb137))
                have n18_ := Aside0.mk ((by rw [hg]; exact Nat.ne_of_lt (blk_lt (g := gb138) (o := .cells #[.int .i64 x139000_2, .int .u64 x139001_2] 37 (0, 0)) (by (with_reducible repeat (first | refine blk_drewN ?_ _ | refine blk_drew ?_ | refine blk_alloc ?_ _)); exact BK138.out)) : gb138 ≠ gb145))
                have n19_ := Aside0.mk ((by rw [hg]; exact Nat.ne_of_gt (blk_lt (g := gb138) (o := .cells #[.int .i64 x139000_2, .int .u64 x139001_2] 37 (0, 0)) (by (with_reducible repeat (first | refine blk_drewN ?_ _ | refine blk_drew ?_ | refine blk_alloc ?_ _)); exact BK138.out)) : gb145 ≠ gb138))
                have n20_ := Aside0.mk ((by rw [hg]; exact Nat.ne_of_lt (blk_lt (g := gb139) (o := .cells #[.int .i64 x140000_35, .int .u64 x140001_35] 37 (0, 0)) (by (with_reducible repeat (first | refine blk_drewN ?_ _ | refine blk_drew ?_ | refine blk_alloc ?_ _)); exact BK139.out)) : gb139 ≠ gb145))
                have n21_ := Aside0.mk ((by rw [hg]; exact Nat.ne_of_gt (blk_lt (g := gb139) (o := .cells #[.int .i64 x140000_35, .int .u64 x140001_35] 37 (0, 0)) (by (with_reducible repeat (first | refine blk_drewN ?_ _ | refine blk_drew ?_ | refine blk_alloc ?_ _)); exact BK139.out)) : gb145 ≠ gb139))
                clear BK134
                clear BK135
                clear BK136
                clear BK137
                clear BK138
                clear BK139
                clear HB
                have BK134 := n0_
                have BK135 := n1_
                have BK136 := n2_
                have BK137 := n3_
                have BK138 := n4_
                have BK139 := n5_
                have HB := n6_
                have BK145 := n7_
                have GW145 := n8_
                have GE145 := n9_
                have NB134_145 := n10_
                have NB145_134 := n11_
                have NB135_145 := n12_
                have NB145_135 := n13_
                have NB136_145 := n14_
                have NB145_136 := n15_
                have NB137_145 := n16_
                have NB145_137 := n17_
                have NB138_145 := n18_
                have NB145_138 := n19_
                have NB139_145 := n20_
                have NB145_139 := n21_
                clear n0_ n1_ n2_ n3_ n4_ n5_ n6_ n7_ n8_ n9_ n10_ n11_ n12_ n13_ n14_ n15_ n16_ n17_ n18_ n19_ n20_ n21_
                clear hb hbox hg
                refine hK.out _ _ ⟨(blk_cell BK138.out 0).trans rfl, (blk_cell BK138.out 1).trans rfl, (blk_cell BK139.out 0).trans rfl, (blk_cell BK139.out 1).trans rfl⟩ (fun hHeld => ?_)
                clear hK K
                refine norm_ (a' := ?_) ?_ ?_
                rotate_left
                · show Act.put _ (some 9) _ = _
                  simp only [Act.put, List.setIfInBounds_toArray, List.set_cons_zero, List.set_cons_succ, i64_w, i32_w]
                  rfl
                refine one_ (i := 12) (N := some 8) #[true, true, true, true, true, true, true, true, true, true, true, true, true, true, false, false] rfl rfl (one_of HT_.out (by kernel_rfl)) (by decide) (fun K hK => ?_)
                refine box_step ?hg (N := 8) ?hd (cs := #[.int .i64 0, .int .u64 0]) (t := 37) ?hr ?_; (case hd => rfl); (case hg => rfl); (case hr => first | (go_simp; done) | (go_simp; rfl))
                intro gb144 hg w61 hbox hb
                have n0_ := Aside0.mk (blk_below (g := gb134) (o := .cells #[.int .i64 a0_0, .int .u64 a0_1] 37 (0, 0)) (by (with_reducible repeat (first | refine blk_drewN ?_ _ | refine blk_drew ?_ | refine blk_alloc ?_ _)); exact BK134.out) hb)
                have n1_ := Aside0.mk (blk_below (g := gb135) (o := .cells #[.int .i64 a1_0, .int .u64 a1_1] 37 (0, 0)) (by (with_reducible repeat (first | refine blk_drewN ?_ _ | refine blk_drew ?_ | refine blk_alloc ?_ _)); exact BK135.out) hb)
                have n2_ := Aside0.mk (blk_below (g := gb136) (o := .cells #[.int .i64 0, .int .u64 0] 37 (0, 0)) (by (with_reducible repeat (first | refine blk_drewN ?_ _ | refine blk_drew ?_ | refine blk_alloc ?_ _)); exact BK136.out) hb)
                have n3_ := Aside0.mk (blk_below (g := gb137) (o := .cells #[.int .i64 0, .int .u64 0] 37 (0, 0)) (by (with_reducible repeat (first | refine blk_drewN ?_ _ | refine blk_drew ?_ | refine blk_alloc ?_ _)); exact BK137.out) hb)
                have n4_ := Aside0.mk (blk_below (g := gb138) (o := .cells #[.int .i64 x139000_2, .int .u64 x139001_2] 37 (0, 0)) (by (with_reducible repeat (first | refine blk_drewN ?_ _ | refine blk_drew ?_ | refine blk_alloc ?_ _)); exact BK138.out) hb)
                have n5_ := Aside0.mk (blk_below (g := gb139) (o := .cells #[.int .i64 x140000_35, .int .u64 x140001_35] 37 (0, 0)) (by (with_reducible repeat (first | refine blk_drewN ?_ _ | refine blk_drew ?_ | refine blk_alloc ?_ _)); exact BK139.out) hb)
                have n6_ := Aside0.mk (blk_below (g := gb145) (o := .cells #[.int .i64 0, .int .u64 0] 37 (0, 0)) (by (with_reducible repeat (first | refine blk_drewN ?_ _ | refine blk_drew ?_ | refine blk_alloc ?_ _)); exact BK145.out) hb)
                have n7_ := Aside0.mk (below_step (by repeat (first | (with_reducible first | exact HB.out | apply below_alloc | apply pw_below_drewN | apply below_drew1 | refine below_set ?_ GE134.out | refine below_set ?_ GE135.out | refine below_set ?_ GE136.out | refine below_set ?_ GE137.out | refine below_set ?_ GE138.out | refine below_set ?_ GE139.out | refine below_set ?_ GE145.out) | exact HB.out)) hb)
                have n8_ := Aside0.mk (hbox)
                have n9_ := Aside0.mk ((by rw [hg]; exact (below_size (by repeat (first | (with_reducible first | exact HB.out | apply below_alloc | apply pw_below_drewN | apply below_drew1 | refine below_set ?_ GE134.out | refine below_set ?_ GE135.out | refine below_set ?_ GE136.out | refine below_set ?_ GE137.out | refine below_set ?_ GE138.out | refine below_set ?_ GE139.out | refine below_set ?_ GE145.out) | exact HB.out))) : w.heap.size ≤ gb144))
                have n10_ := Aside0.mk ((by rw [hg]; exact (below_size (by repeat (first | (with_reducible first | exact HB.out | apply below_alloc | apply pw_below_drewN | apply below_drew1 | refine below_set ?_ GE134.out | refine below_set ?_ GE135.out | refine below_set ?_ GE136.out | refine below_set ?_ GE137.out | refine below_set ?_ GE138.out | refine below_set ?_ GE139.out | refine below_set ?_ GE145.out) | exact HB.out))) : w.heap.size ≤ gb144))
                have n11_ := Aside0.mk ((by rw [hg]; exact Nat.ne_of_lt (blk_lt (g := gb134) (o := .cells #[.int .i64 a0_0, .int .u64 a0_1] 37 (0, 0)) (by (with_reducible repeat (first | refine blk_drewN ?_ _ | refine blk_drew ?_ | refine blk_alloc ?_ _)); exact BK134.out)) : gb134 ≠ gb144))
                have n12_ := Aside0.mk ((by rw [hg]; exact Nat.ne_of_gt (blk_lt (g := gb134) (o := .cells #[.int .i64 a0_0, .int .u64 a0_1] 37 (0, 0)) (by (with_reducible repeat (first | refine blk_drewN ?_ _ | refine blk_drew ?_ | refine blk_alloc ?_ _)); exact BK134.out)) : gb144 ≠ gb134))
                have n13_ := Aside0.mk ((by rw [hg]; exact Nat.ne_of_lt (blk_lt (g := gb135) (o := .cells #[.int .i64 a1_0, .int .u64 a1_1] 37 (0, 0)) (by (with_reducible repeat (first | refine blk_drewN ?_ _ | refine blk_drew ?_ | refine blk_alloc ?_ _)); exact BK135.out)) : gb135 ≠ gb144))
                have n14_ := Aside0.mk ((by rw [hg]; exact Nat.ne_of_gt (blk_lt (g := gb135) (o := .cells #[.int .i64 a1_0, .int .u64 a1_1] 37 (0, 0)) (by (with_reducible repeat (first | refine blk_drewN ?_ _ | refine blk_drew ?_ | refine blk_alloc ?_ _)); exact BK135.out)) : gb144 ≠ gb135))
                have n15_ := Aside0.mk ((by rw [hg]; exact Nat.ne_of_lt (blk_lt (g := gb136) (o := .cells #[.int .i64 0, .int .u64 0] 37 (0, 0)) (by (with_reducible repeat (first | refine blk_drewN ?_ _ | refine blk_drew ?_ | refine blk_alloc ?_ _)); exact BK136.out)) : gb136 ≠ gb144))
                have n16_ := Aside0.mk ((by rw [hg]; exact Nat.ne_of_gt (blk_lt (g := gb136) (o := .cells #[.int .i64 0, .int .u64 0] 37 (0, 0)) (by (with_reducible repeat (first | refine blk_drewN ?_ _ | refine blk_drew ?_ | refine blk_alloc ?_ _)); exact BK136.out)) : gb144 ≠ gb136))
                have n17_ := Aside0.mk ((by rw [hg]; exact Nat.ne_of_lt (blk_lt (g := gb137) (o := .cells #[.int .i64 0, .int .u64 0] 37 (0, 0)) (by (with_reducible repeat (first | refine blk_drewN ?_ _ | refine blk_drew ?_ | refine blk_alloc ?_ _)); exact BK137.out)) : gb137 ≠ gb144))
                have n18_ := Aside0.mk ((by rw [hg]; exact Nat.ne_of_gt (blk_lt (g := gb137) (o := .cells #[.int .i64 0, .int .u64 0] 37 (0, 0)) (by (with_reducible repeat (first | refine blk_drewN ?_ _ | refine blk_drew ?_ | refine blk_alloc ?_ _)); exact BK137.out)) : gb144 ≠ gb137))
                have n19_ := Aside0.mk ((by rw [hg]; exact Nat.ne_of_lt (blk_lt (g := gb138) (o := .cells #[.int .i64 x139000_2, .int .u64 x139001_2] 37 (0, 0)) (by (with_reducible repeat (first | refine blk_drewN ?_ _ | refine blk_drew ?_ | refine blk_alloc ?_ _)); exact BK138.out)) : gb138 ≠ gb144))
                have n20_ := Aside0.mk ((by rw [hg]; exact Nat.ne_of_gt (blk_lt (g := gb138) (o := .cells #[.int .i64 x139000_2, .int .u64 x139001_2] 37 (0, 0)) (by (with_reducible repeat (first | refine blk_drewN ?_ _ | refine blk_drew ?_ | refine blk_alloc ?_ _)); exact BK138.out)) : gb144 ≠ gb138))
                have n21_ := Aside0.mk ((by rw [hg]; exact Nat.ne_of_lt (blk_lt (g := gb139) (o := .cells #[.int .i64 x140000_35, .int .u64 x140001_35] 37 (0, 0)) (by (with_reducible repeat (first | refine blk_drewN ?_ _ | refine blk_drew ?_ | refine blk_alloc ?_ _)); exact BK139.out)) : gb139 ≠ gb144))
                have n22_ := Aside0.mk ((by rw [hg]; exact Nat.ne_of_gt (blk_lt (g := gb139) (o := .cells #[.int .i64 x140000_35, .int .u64 x140001_35] 37 (0, 0)) (by (with_reducible repeat (first | refine blk_drewN ?_ _ | refine blk_drew ?_ | refine blk_alloc ?_ _)); exact BK139.out)) : gb144 ≠ gb139))
                have n23_ := Aside0.mk ((by rw [hg]; exact Nat.ne_of_lt (blk_lt (g := gb145) (o := .cells #[.int .i64 0, .int .u64 0] 37 (0, 0)) (by (with_reducible repeat (first | refine blk_drewN ?_ _ | refine blk_drew ?_ | refine blk_alloc ?_ _)); exact BK145.out)) : gb145 ≠ gb144))
                have n24_ := Aside0.mk ((by rw [hg]; exact Nat.ne_of_gt (blk_lt (g := gb145) (o := .cells #[.int .i64 0, .int .u64 0] 37 (0, 0)) (by (with_reducible repeat (first | refine blk_drewN ?_ _ | refine blk_drew ?_ | refine blk_alloc ?_ _)); exact BK145.out)) : gb144 ≠ gb145))
                clear BK134
                clear BK135
                clear BK136
                clear BK137
                clear BK138
                clear BK139
                clear BK145
                clear HB
                have BK134 := n0_
                have BK135 := n1_
                have BK136 := n2_
                have BK137 := n3_
                have BK138 := n4_
                have BK139 := n5_
                have BK145 := n6_
                have HB := n7_
                have BK144 := n8_
                have GW144 := n9_
                have GE144 := n10_
                have NB134_144 := n11_
                have NB144_134 := n12_
                have NB135_144 := n13_
                have NB144_135 := n14_
                have NB136_144 := n15_
                have NB144_136 := n16_
                have NB137_144 := n17_
                have NB144_137 := n18_
                have NB138_144 := n19_
                have NB144_138 := n20_
                have NB139_144 := n21_
                have NB144_139 := n22_
                have NB145_144 := n23_
                have NB144_145 := n24_
                clear n0_ n1_ n2_ n3_ n4_ n5_ n6_ n7_ n8_ n9_ n10_ n11_ n12_ n13_ n14_ n15_ n16_ n17_ n18_ n19_ n20_ n21_ n22_ n23_ n24_
                clear hb hbox hg
                refine hK.out _ _ ⟨(blk_cell BK138.out 0).trans rfl, (blk_cell BK138.out 1).trans rfl, (blk_cell BK139.out 0).trans rfl, (blk_cell BK139.out 1).trans rfl⟩ (fun hHeld => ?_)
                clear hK K
                refine norm_ (a' := ?_) ?_ ?_
                rotate_left
                · show Act.put _ (some 8) _ = _
                  simp only [Act.put, List.setIfInBounds_toArray, List.set_cons_zero, List.set_cons_succ, i64_w, i32_w]
                  rfl
                exact norm_ (by simp only [putAll, Act.put, List.setIfInBounds_toArray, List.set_cons_zero, List.set_cons_succ]) (hCont (gb144, gb145) _ ⟨hHeld, (by (with_reducible repeat (first | refine blk_drewN ?_ _ | refine blk_drew ?_ | refine blk_alloc ?_ _)); exact BK134.out), (by (with_reducible repeat (first | refine blk_drewN ?_ _ | refine blk_drew ?_ | refine blk_alloc ?_ _)); exact BK135.out), (by (with_reducible repeat (first | refine blk_drewN ?_ _ | refine blk_drew ?_ | refine blk_alloc ?_ _)); exact BK136.out), (by (with_reducible repeat (first | refine blk_drewN ?_ _ | refine blk_drew ?_ | refine blk_alloc ?_ _)); exact BK137.out), (by (with_reducible repeat (first | refine blk_drewN ?_ _ | refine blk_drew ?_ | refine blk_alloc ?_ _)); exact BK138.out), (by (with_reducible repeat (first | refine blk_drewN ?_ _ | refine blk_drew ?_ | refine blk_alloc ?_ _)); exact BK139.out), (by (with_reducible repeat (first | refine blk_drewN ?_ _ | refine blk_drew ?_ | refine blk_alloc ?_ _)); exact BK144.out), (by (with_reducible repeat (first | refine blk_drewN ?_ _ | refine blk_drew ?_ | refine blk_alloc ?_ _)); exact BK145.out), GW144.out, GE144.out, NB134_144.out, NB144_134.out, NB135_144.out, NB144_135.out, NB136_144.out, NB144_136.out, NB137_144.out, NB144_137.out, NB138_144.out, NB144_138.out, NB139_144.out, NB144_139.out, NB145_144.out, NB144_145.out, GW145.out, GE145.out, NB134_145.out, NB145_134.out, NB135_145.out, NB145_135.out, NB136_145.out, NB145_136.out, NB137_145.out, NB145_137.out, NB138_145.out, NB145_138.out, NB139_145.out, NB145_139.out, (by repeat (first | (with_reducible first | exact HB.out | apply below_alloc | apply pw_below_drewN | apply below_drew1 | refine below_set ?_ GE134.out | refine below_set ?_ GE135.out | refine below_set ?_ GE136.out | refine below_set ?_ GE137.out | refine below_set ?_ GE138.out | refine below_set ?_ GE139.out | refine below_set ?_ GE145.out | refine below_set ?_ GE144.out) | exact HB.out))⟩)
            rintro ⟨gb144, gb145⟩ w62 ⟨hS_, h0_, h1_, h2_, h3_, h4_, h5_, h6_, h7_, h8_, h9_, h10_, h11_, h12_, h13_, h14_, h15_, h16_, h17_, h18_, h19_, h20_, h21_, h22_, h23_, h24_, h25_, h26_, h27_, h28_, h29_, h30_, h31_, h32_, h33_, h34_, h35_, h36_, h37_, h38_⟩
            have n0_ : Aside0 (w62.heap[gb134]? = some (.cells #[.int .i64 a0_0, .int .u64 a0_1] 37 (0, 0))) := ⟨h0_⟩
            have n1_ : Aside0 (w62.heap[gb135]? = some (.cells #[.int .i64 a1_0, .int .u64 a1_1] 37 (0, 0))) := ⟨h1_⟩
            have n2_ : Aside0 (w62.heap[gb136]? = some (.cells #[.int .i64 0, .int .u64 0] 37 (0, 0))) := ⟨h2_⟩
            have n3_ : Aside0 (w62.heap[gb137]? = some (.cells #[.int .i64 0, .int .u64 0] 37 (0, 0))) := ⟨h3_⟩
            have n4_ : Aside0 (w62.heap[gb138]? = some (.cells #[.int .i64 x139000_2, .int .u64 x139001_2] 37 (0, 0))) := ⟨h4_⟩
            have n5_ : Aside0 (w62.heap[gb139]? = some (.cells #[.int .i64 x140000_35, .int .u64 x140001_35] 37 (0, 0))) := ⟨h5_⟩
            have n6_ : Aside0 (w62.heap[gb144]? = some (.cells #[.int .i64 0, .int .u64 0] 37 (0, 0))) := ⟨h6_⟩
            have n7_ : Aside0 (w62.heap[gb145]? = some (.cells #[.int .i64 0, .int .u64 0] 37 (0, 0))) := ⟨h7_⟩
            have n8_ : Aside0 (w.heap.size ≤ gb144) := ⟨h8_⟩
            have n9_ : Aside0 (w.heap.size ≤ gb144) := ⟨h9_⟩
            have n10_ : Aside0 (gb134 ≠ gb144) := ⟨h10_⟩
            have n11_ : Aside0 (gb144 ≠ gb134) := ⟨h11_⟩
            have n12_ : Aside0 (gb135 ≠ gb144) := ⟨h12_⟩
            have n13_ : Aside0 (gb144 ≠ gb135) := ⟨h13_⟩
            have n14_ : Aside0 (gb136 ≠ gb144) := ⟨h14_⟩
            have n15_ : Aside0 (gb144 ≠ gb136) := ⟨h15_⟩
            have n16_ : Aside0 (gb137 ≠ gb144) := ⟨h16_⟩
            have n17_ : Aside0 (gb144 ≠ gb137) := ⟨h17_⟩
            have n18_ : Aside0 (gb138 ≠ gb144) := ⟨h18_⟩
            have n19_ : Aside0 (gb144 ≠ gb138) := ⟨h19_⟩
            have n20_ : Aside0 (gb139 ≠ gb144) := ⟨h20_⟩
            have n21_ : Aside0 (gb144 ≠ gb139) := ⟨h21_⟩
            have n22_ : Aside0 (gb145 ≠ gb144) := ⟨h22_⟩
            have n23_ : Aside0 (gb144 ≠ gb145) := ⟨h23_⟩
            have n24_ : Aside0 (w.heap.size ≤ gb145) := ⟨h24_⟩
            have n25_ : Aside0 (w.heap.size ≤ gb145) := ⟨h25_⟩
            have n26_ : Aside0 (gb134 ≠ gb145) := ⟨h26_⟩
            have n27_ : Aside0 (gb145 ≠ gb134) := ⟨h27_⟩
            have n28_ : Aside0 (gb135 ≠ gb145) := ⟨h28_⟩
            have n29_ : Aside0 (gb145 ≠ gb135) := ⟨h29_⟩
            have n30_ : Aside0 (gb136 ≠ gb145) := ⟨h30_⟩
            have n31_ : Aside0 (gb145 ≠ gb136) := ⟨h31_⟩
            have n32_ : Aside0 (gb137 ≠ gb145) := ⟨h32_⟩
            have n33_ : Aside0 (gb145 ≠ gb137) := ⟨h33_⟩
            have n34_ : Aside0 (gb138 ≠ gb145) := ⟨h34_⟩
            have n35_ : Aside0 (gb145 ≠ gb138) := ⟨h35_⟩
            have n36_ : Aside0 (gb139 ≠ gb145) := ⟨h36_⟩
            have n37_ : Aside0 (gb145 ≠ gb139) := ⟨h37_⟩
            have n38_ : Aside0 (Below w.heap.size w w62) := ⟨h38_⟩
            clear BK134
            clear BK135
            clear BK136
            clear BK137
            clear BK138
            clear BK139
            clear HB
            clear h0_ h1_ h2_ h3_ h4_ h5_ h6_ h7_ h8_ h9_ h10_ h11_ h12_ h13_ h14_ h15_ h16_ h17_ h18_ h19_ h20_ h21_ h22_ h23_ h24_ h25_ h26_ h27_ h28_ h29_ h30_ h31_ h32_ h33_ h34_ h35_ h36_ h37_ h38_
            have BK134 := n0_
            have BK135 := n1_
            have BK136 := n2_
            have BK137 := n3_
            have BK138 := n4_
            have BK139 := n5_
            have BK144 := n6_
            have BK145 := n7_
            have GW144 := n8_
            have GE144 := n9_
            have NB134_144 := n10_
            have NB144_134 := n11_
            have NB135_144 := n12_
            have NB144_135 := n13_
            have NB136_144 := n14_
            have NB144_136 := n15_
            have NB137_144 := n16_
            have NB144_137 := n17_
            have NB138_144 := n18_
            have NB144_138 := n19_
            have NB139_144 := n20_
            have NB144_139 := n21_
            have NB145_144 := n22_
            have NB144_145 := n23_
            have GW145 := n24_
            have GE145 := n25_
            have NB134_145 := n26_
            have NB145_134 := n27_
            have NB135_145 := n28_
            have NB145_135 := n29_
            have NB136_145 := n30_
            have NB145_136 := n31_
            have NB137_145 := n32_
            have NB145_137 := n33_
            have NB138_145 := n34_
            have NB145_138 := n35_
            have NB139_145 := n36_
            have NB145_139 := n37_
            have HB := n38_
            clear n0_ n1_ n2_ n3_ n4_ n5_ n6_ n7_ n8_ n9_ n10_ n11_ n12_ n13_ n14_ n15_ n16_ n17_ n18_ n19_ n20_ n21_ n22_ n23_ n24_ n25_ n26_ n27_ n28_ n29_ n30_ n31_ n32_ n33_ n34_ n35_ n36_ n37_ n38_
            have hHeld : w62.cell? ⟨gb138, 0, none⟩ = some (.int .i64 x139000_2) ∧ w62.cell? ⟨gb138, 1, none⟩ = some (.int .u64 x139001_2) ∧ w62.cell? ⟨gb139, 0, none⟩ = some (.int .i64 x140000_35) ∧ w62.cell? ⟨gb139, 1, none⟩ = some (.int .u64 x140001_35) := hS_
            refine norm_ (a' := ?_) ?_ ?_
            rotate_left
            · simp only [putAll, Act.put, List.setIfInBounds_toArray, List.set_cons_zero, List.set_cons_succ]
              rfl
            refine one_ (i := 14) (N := none) #[true, true, true, true, true, true, true, true, true, true, true, true, true, true, true, false] rfl rfl (one_of HT_.out (by kernel_rfl)) (by decide) (fun K hK => ?_)
            have hs63 : w62.cell? ⟨gb144, 0, none⟩ = some (.int .i64 0) := (blk_cell BK144.out 0).trans rfl
            have hfs63 := blk_frozen BK144.out 0
            have hns63_0 := NB134_144.out
            have hns63_1 := NB135_144.out
            have hns63_2 := NB136_144.out
            have hns63_3 := NB137_144.out
            have hns63_4 := NB138_144.out
            have hns63_5 := NB139_144.out
            have hns63_7 := NB145_144.out
            have hms63_0 := NB144_134.out
            have hms63_1 := NB144_135.out
            have hms63_2 := NB144_136.out
            have hms63_3 := NB144_137.out
            have hms63_4 := NB144_138.out
            have hms63_5 := NB144_139.out
            have hms63_7 := NB144_145.out
            have hs64 : w62.cell? ⟨gb144, 1, none⟩ = some (.int .u64 0) := (blk_cell BK144.out 1).trans rfl
            have hfs64 := blk_frozen BK144.out 1
            have hns64_0 := NB134_144.out
            have hns64_1 := NB135_144.out
            have hns64_2 := NB136_144.out
            have hns64_3 := NB137_144.out
            have hns64_4 := NB138_144.out
            have hns64_5 := NB139_144.out
            have hns64_7 := NB145_144.out
            have hms64_0 := NB144_134.out
            have hms64_1 := NB144_135.out
            have hms64_2 := NB144_136.out
            have hms64_3 := NB144_137.out
            have hms64_4 := NB144_138.out
            have hms64_5 := NB144_139.out
            have hms64_7 := NB144_145.out
            refine skip_ (w1 := ?_) (by rfl) rfl ?_ ?_
            rotate_left
            · go_simp
              rfl
            refine hK.out _ _ ⟨((cell_far (p := ⟨gb144, _, none⟩) NB138_144.out _).trans (((cell_far (p := ⟨gb144, _, none⟩) NB138_144.out _).trans (hHeld.1)))), ((cell_far (p := ⟨gb144, _, none⟩) NB138_144.out _).trans (((cell_far (p := ⟨gb144, _, none⟩) NB138_144.out _).trans (hHeld.2.1)))), ((cell_far (p := ⟨gb144, _, none⟩) NB139_144.out _).trans (((cell_far (p := ⟨gb144, _, none⟩) NB139_144.out _).trans (hHeld.2.2.1)))), ((cell_far (p := ⟨gb144, _, none⟩) NB139_144.out _).trans (((cell_far (p := ⟨gb144, _, none⟩) NB139_144.out _).trans (hHeld.2.2.2))))⟩ (fun hHeld => ?_)
            clear hK K
            refine one_ (i := 15) (N := none) #[true, true, true, true, true, true, true, true, true, true, true, true, true, true, true, true] rfl rfl (one_of HT_.out (by kernel_rfl)) (by decide) (fun K hK => ?_)
            have hs65 : w62.cell? ⟨gb145, 0, none⟩ = some (.int .i64 0) := (blk_cell BK145.out 0).trans rfl
            have hfs65 := blk_frozen BK145.out 0
            have hns65_0 := NB134_145.out
            have hns65_1 := NB135_145.out
            have hns65_2 := NB136_145.out
            have hns65_3 := NB137_145.out
            have hns65_4 := NB138_145.out
            have hns65_5 := NB139_145.out
            have hns65_6 := NB144_145.out
            have hms65_0 := NB145_134.out
            have hms65_1 := NB145_135.out
            have hms65_2 := NB145_136.out
            have hms65_3 := NB145_137.out
            have hms65_4 := NB145_138.out
            have hms65_5 := NB145_139.out
            have hms65_6 := NB145_144.out
            have hs66 : w62.cell? ⟨gb145, 1, none⟩ = some (.int .u64 0) := (blk_cell BK145.out 1).trans rfl
            have hfs66 := blk_frozen BK145.out 1
            have hns66_0 := NB134_145.out
            have hns66_1 := NB135_145.out
            have hns66_2 := NB136_145.out
            have hns66_3 := NB137_145.out
            have hns66_4 := NB138_145.out
            have hns66_5 := NB139_145.out
            have hns66_6 := NB144_145.out
            have hms66_0 := NB145_134.out
            have hms66_1 := NB145_135.out
            have hms66_2 := NB145_136.out
            have hms66_3 := NB145_137.out
            have hms66_4 := NB145_138.out
            have hms66_5 := NB145_139.out
            have hms66_6 := NB145_144.out
            refine skip_ (w1 := ?_) (by rfl) rfl ?_ ?_
            rotate_left
            · go_simp
              rfl
            refine hK.out _ _ ⟨((cell_far (p := ⟨gb145, _, none⟩) NB138_145.out _).trans (((cell_far (p := ⟨gb145, _, none⟩) NB138_145.out _).trans (hHeld.1)))), ((cell_far (p := ⟨gb145, _, none⟩) NB138_145.out _).trans (((cell_far (p := ⟨gb145, _, none⟩) NB138_145.out _).trans (hHeld.2.1)))), ((cell_far (p := ⟨gb145, _, none⟩) NB139_145.out _).trans (((cell_far (p := ⟨gb145, _, none⟩) NB139_145.out _).trans (hHeld.2.2.1)))), ((cell_far (p := ⟨gb145, _, none⟩) NB139_145.out _).trans (((cell_far (p := ⟨gb145, _, none⟩) NB139_145.out _).trans (hHeld.2.2.2))))⟩ (fun hHeld => ?_)
            clear hK K
            refine done_ (done_of HT_.out (by kernel_rfl)) ?_
            have hnb67 := NB134_135.out
            have hnc67 := NB135_134.out
            have hnb68 := NB134_136.out
            have hnc68 := NB136_134.out
            have hnb69 := NB134_137.out
            have hnc69 := NB137_134.out
            have hnb70 := NB134_138.out
            have hnc70 := NB138_134.out
            have hnb71 := NB134_139.out
            have hnc71 := NB139_134.out
            have hnb72 := NB134_144.out
            have hnc72 := NB144_134.out
            have hnb73 := NB134_145.out
            have hnc73 := NB145_134.out
            have hcz74_0 : w62.cell? ⟨gb134, 0, none⟩ = some (.int .i64 a0_0) := (blk_cell BK134.out 0).trans rfl
            have hcz74_1 : w62.cell? ⟨gb134, 1, none⟩ = some (.int .u64 a0_1) := (blk_cell BK134.out 1).trans rfl
            have hfz74_0 := blk_frozen BK134.out 0
            have hfz74_1 := blk_frozen BK134.out 1
            have hnb75 := NB135_136.out
            have hnc75 := NB136_135.out
            have hnb76 := NB135_137.out
            have hnc76 := NB137_135.out
            have hnb77 := NB135_138.out
            have hnc77 := NB138_135.out
            have hnb78 := NB135_139.out
            have hnc78 := NB139_135.out
            have hnb79 := NB135_144.out
            have hnc79 := NB144_135.out
            have hnb80 := NB135_145.out
            have hnc80 := NB145_135.out
            have hcz81_0 : w62.cell? ⟨gb135, 0, none⟩ = some (.int .i64 a1_0) := (blk_cell BK135.out 0).trans rfl
            have hcz81_1 : w62.cell? ⟨gb135, 1, none⟩ = some (.int .u64 a1_1) := (blk_cell BK135.out 1).trans rfl
            have hfz81_0 := blk_frozen BK135.out 0
            have hfz81_1 := blk_frozen BK135.out 1
            go_upto_if 38 with (fail)
            go_cut [] (fun wc => ∃ (kq : Nat) (x145000_57 : Int) (x145001_57 : Int), Aside0 (arith_divided.j2 kq a0_0 a0_1 x145000_57 x145001_57 0 (Int.tmod x139001_2 x140001_35) = some (r1, r2, r3, r4)) ∧ Aside0 (kq ≤ kj35) ∧ Aside0 (wc.heap[gb134]? = some (.cells #[.int .i64 a0_0, .int .u64 a0_1] 37 (0, 0))) ∧ Aside0 (wc.heap[gb135]? = some (.cells #[.int .i64 a1_0, .int .u64 a1_1] 37 (0, 0))) ∧ Aside0 (wc.heap[gb136]? = some (.cells #[.int .i64 0, .int .u64 0] 37 (0, 0))) ∧ Aside0 (wc.heap[gb137]? = some (.cells #[.int .i64 0, .int .u64 0] 37 (0, 0))) ∧ Aside0 (wc.heap[gb138]? = some (.cells #[.int .i64 x139000_2, .int .u64 x139001_2] 37 (0, 0))) ∧ Aside0 (wc.heap[gb139]? = some (.cells #[.int .i64 x140000_35, .int .u64 x140001_35] 37 (0, 0))) ∧ Aside0 (wc.heap[gb144]? = some (.cells #[.int .i64 x145000_57, .int .u64 x145001_57] 37 (0, 0))) ∧ Aside0 (wc.heap[gb145]? = some (.cells #[.int .i64 0, .int .u64 (Int.tmod x139001_2 x140001_35)] 37 (0, 0))) ∧ Aside0 (Below w.heap.size w wc))
            case first =>
              have H := HC58.out
              clear HC58
              by_cases c82 : a0_0 = a1_0
              · rw [if_pos c82] at H
                have c82b0 : (a0_0 == a1_0) = true := beq_iff_eq.mpr c82
                have c82b1 : (a0_0 != a1_0) = false := bne_eq_false_iff_eq.mpr c82
                clear c82
                (first | rw [c82b0] | (simp only [i64_w, i32_w]; rw [c82b0]) | skip)
                have H' := Aside0.mk H
                clear H
                go_wp2
                go_meet
                case rel => exact ⟨_, (0), (IntKind.u64.wrap (Int.tdiv x139001_2 x140001_35)), H', ⟨by have := HJ2.out; have := HJ35.out; first | omega | exact Nat.le_refl _⟩, ⟨by (with_reducible repeat (first | refine blk_drewN ?_ _ | refine blk_drew ?_ | refine blk_alloc ?_ _)); refine blk_far ?_ NB134_145.out _; (with_reducible repeat (first | refine blk_drewN ?_ _ | refine blk_drew ?_ | refine blk_alloc ?_ _)); refine blk_far ?_ NB134_145.out _; (with_reducible repeat (first | refine blk_drewN ?_ _ | refine blk_drew ?_ | refine blk_alloc ?_ _)); refine blk_far ?_ NB134_144.out _; (with_reducible repeat (first | refine blk_drewN ?_ _ | refine blk_drew ?_ | refine blk_alloc ?_ _)); refine blk_far ?_ NB134_144.out _; (with_reducible repeat (first | refine blk_drewN ?_ _ | refine blk_drew ?_ | refine blk_alloc ?_ _)); exact BK134.out⟩, ⟨by (with_reducible repeat (first | refine blk_drewN ?_ _ | refine blk_drew ?_ | refine blk_alloc ?_ _)); refine blk_far ?_ NB135_145.out _; (with_reducible repeat (first | refine blk_drewN ?_ _ | refine blk_drew ?_ | refine blk_alloc ?_ _)); refine blk_far ?_ NB135_145.out _; (with_reducible repeat (first | refine blk_drewN ?_ _ | refine blk_drew ?_ | refine blk_alloc ?_ _)); refine blk_far ?_ NB135_144.out _; (with_reducible repeat (first | refine blk_drewN ?_ _ | refine blk_drew ?_ | refine blk_alloc ?_ _)); refine blk_far ?_ NB135_144.out _; (with_reducible repeat (first | refine blk_drewN ?_ _ | refine blk_drew ?_ | refine blk_alloc ?_ _)); exact BK135.out⟩, ⟨by (with_reducible repeat (first | refine blk_drewN ?_ _ | refine blk_drew ?_ | refine blk_alloc ?_ _)); refine blk_far ?_ NB136_145.out _; (with_reducible repeat (first | refine blk_drewN ?_ _ | refine blk_drew ?_ | refine blk_alloc ?_ _)); refine blk_far ?_ NB136_145.out _; (with_reducible repeat (first | refine blk_drewN ?_ _ | refine blk_drew ?_ | refine blk_alloc ?_ _)); refine blk_far ?_ NB136_144.out _; (with_reducible repeat (first | refine blk_drewN ?_ _ | refine blk_drew ?_ | refine blk_alloc ?_ _)); refine blk_far ?_ NB136_144.out _; (with_reducible repeat (first | refine blk_drewN ?_ _ | refine blk_drew ?_ | refine blk_alloc ?_ _)); exact BK136.out⟩, ⟨by (with_reducible repeat (first | refine blk_drewN ?_ _ | refine blk_drew ?_ | refine blk_alloc ?_ _)); refine blk_far ?_ NB137_145.out _; (with_reducible repeat (first | refine blk_drewN ?_ _ | refine blk_drew ?_ | refine blk_alloc ?_ _)); refine blk_far ?_ NB137_145.out _; (with_reducible repeat (first | refine blk_drewN ?_ _ | refine blk_drew ?_ | refine blk_alloc ?_ _)); refine blk_far ?_ NB137_144.out _; (with_reducible repeat (first | refine blk_drewN ?_ _ | refine blk_drew ?_ | refine blk_alloc ?_ _)); refine blk_far ?_ NB137_144.out _; (with_reducible repeat (first | refine blk_drewN ?_ _ | refine blk_drew ?_ | refine blk_alloc ?_ _)); exact BK137.out⟩, ⟨by (with_reducible repeat (first | refine blk_drewN ?_ _ | refine blk_drew ?_ | refine blk_alloc ?_ _)); refine blk_far ?_ NB138_145.out _; (with_reducible repeat (first | refine blk_drewN ?_ _ | refine blk_drew ?_ | refine blk_alloc ?_ _)); refine blk_far ?_ NB138_145.out _; (with_reducible repeat (first | refine blk_drewN ?_ _ | refine blk_drew ?_ | refine blk_alloc ?_ _)); refine blk_far ?_ NB138_144.out _; (with_reducible repeat (first | refine blk_drewN ?_ _ | refine blk_drew ?_ | refine blk_alloc ?_ _)); refine blk_far ?_ NB138_144.out _; (with_reducible repeat (first | refine blk_drewN ?_ _ | refine blk_drew ?_ | refine blk_alloc ?_ _)); exact BK138.out⟩, ⟨by (with_reducible repeat (first | refine blk_drewN ?_ _ | refine blk_drew ?_ | refine blk_alloc ?_ _)); refine blk_far ?_ NB139_145.out _; (with_reducible repeat (first | refine blk_drewN ?_ _ | refine blk_drew ?_ | refine blk_alloc ?_ _)); refine blk_far ?_ NB139_145.out _; (with_reducible repeat (first | refine blk_drewN ?_ _ | refine blk_drew ?_ | refine blk_alloc ?_ _)); refine blk_far ?_ NB139_144.out _; (with_reducible repeat (first | refine blk_drewN ?_ _ | refine blk_drew ?_ | refine blk_alloc ?_ _)); refine blk_far ?_ NB139_144.out _; (with_reducible repeat (first | refine blk_drewN ?_ _ | refine blk_drew ?_ | refine blk_alloc ?_ _)); exact BK139.out⟩, ⟨by (with_reducible repeat (first | refine blk_drewN ?_ _ | refine blk_drew ?_ | refine blk_alloc ?_ _)); refine blk_far ?_ NB144_145.out _; (with_reducible repeat (first | refine blk_drewN ?_ _ | refine blk_drew ?_ | refine blk_alloc ?_ _)); refine blk_far ?_ NB144_145.out _; (with_reducible repeat (first | refine blk_drewN ?_ _ | refine blk_drew ?_ | refine blk_alloc ?_ _)); refine blk_put (cs := #[.int .i64 0, .int .u64 0]) ?_ 1 _ rfl; (with_reducible repeat (first | refine blk_drewN ?_ _ | refine blk_drew ?_ | refine blk_alloc ?_ _)); refine blk_put (cs := #[.int .i64 0, .int .u64 0]) ?_ 0 _ rfl; (with_reducible repeat (first | refine blk_drewN ?_ _ | refine blk_drew ?_ | refine blk_alloc ?_ _)); exact BK144.out⟩, ⟨by (with_reducible repeat (first | refine blk_drewN ?_ _ | refine blk_drew ?_ | refine blk_alloc ?_ _)); refine blk_put (cs := #[.int .i64 0, .int .u64 0]) ?_ 1 _ rfl; (with_reducible repeat (first | refine blk_drewN ?_ _ | refine blk_drew ?_ | refine blk_alloc ?_ _)); refine blk_put (cs := #[.int .i64 0, .int .u64 0]) ?_ 0 _ rfl; (with_reducible repeat (first | refine blk_drewN ?_ _ | refine blk_drew ?_ | refine blk_alloc ?_ _)); refine blk_far ?_ NB145_144.out _; (with_reducible repeat (first | refine blk_drewN ?_ _ | refine blk_drew ?_ | refine blk_alloc ?_ _)); refine blk_far ?_ NB145_144.out _; (with_reducible repeat (first | refine blk_drewN ?_ _ | refine blk_drew ?_ | refine blk_alloc ?_ _)); exact BK145.out⟩, ⟨by repeat (first | (with_reducible first | exact HB.out | apply below_alloc | apply pw_below_drewN | apply below_drew1 | refine below_set ?_ GE134.out | refine below_set ?_ GE135.out | refine below_set ?_ GE136.out | refine below_set ?_ GE137.out | refine below_set ?_ GE138.out | refine below_set ?_ GE139.out | refine below_set ?_ GE144.out | refine below_set ?_ GE145.out) | exact HB.out)⟩⟩
              · rw [if_neg c82] at H
                have c82b0 : (a0_0 == a1_0) = false := beq_eq_false_iff_ne.mpr c82
                have c82b1 : (a0_0 != a1_0) = true := bne_iff_ne.mpr c82
                (first | rw [c82b0] | (simp only [i64_w, i32_w]; rw [c82b0]) | skip)
                replace H := Option.bind_eq_some_iff.mp H
                obtain ⟨⟨t146, t147⟩, A830, H⟩ := H
                replace H : (arith_divided.j2 kj35 a0_0 a0_1 t146 t147 0 (Int.tmod x139001_2 x140001_35)) = some (r1, r2, r3, r4) := H
                have A83 := Aside0.mk A830
                clear A830
                have H' := Aside0.mk H
                clear H
                have hnb84 := NB144_134.out
                have hnc84 := NB134_144.out
                have hnb85 := NB144_135.out
                have hnc85 := NB135_144.out
                have hnb86 := NB144_136.out
                have hnc86 := NB136_144.out
                have hnb87 := NB144_137.out
                have hnc87 := NB137_144.out
                have hnb88 := NB144_138.out
                have hnc88 := NB138_144.out
                have hnb89 := NB144_139.out
                have hnc89 := NB139_144.out
                have hnb90 := NB144_145.out
                have hnc90 := NB145_144.out
                have hcz91_0 : w62.cell? ⟨gb144, 0, none⟩ = some (.int .i64 0) := (blk_cell BK144.out 0).trans rfl
                have hcz91_1 : w62.cell? ⟨gb144, 1, none⟩ = some (.int .u64 0) := (blk_cell BK144.out 1).trans rfl
                have hfz91_0 := blk_frozen BK144.out 0
                have hfz91_1 := blk_frozen BK144.out 1
                go_wp2_with (first | ((with_reducible refine gate_callee (f := 35) rfl ?_); refine goesL_ (some 40) rfl rfl Tryd.func35 (by kernel_rfl) rfl #[.agg #[.int .i64 0, .int .u64 (IntKind.u64.wrap (Int.tdiv x139001_2 x140001_35))]] rfl (by (try simp only [List.map_toArray, List.map_cons, List.map_nil]); first | done | rfl | (simp only [List.length_drop, List.length_take]; rfl)) ?_; (with_reducible refine (arith_wide_neg.calls 0 (IntKind.u64.wrap (Int.tdiv x139001_2 x140001_35)) t146 t147 _ A83.out).mono ?_); rintro e w92 ⟨rfl, hb⟩; refine ⟨_, rfl, ?_⟩; have n0_ := Aside0.mk (blk_below (g := gb134) (o := .cells #[.int .i64 a0_0, .int .u64 a0_1] 37 (0, 0)) (by (with_reducible repeat (first | refine blk_drewN ?_ _ | refine blk_drew ?_ | refine blk_alloc ?_ _)); refine blk_far ?_ NB134_145.out _; (with_reducible repeat (first | refine blk_drewN ?_ _ | refine blk_drew ?_ | refine blk_alloc ?_ _)); refine blk_far ?_ NB134_145.out _; (with_reducible repeat (first | refine blk_drewN ?_ _ | refine blk_drew ?_ | refine blk_alloc ?_ _)); refine blk_far ?_ NB134_144.out _; (with_reducible repeat (first | refine blk_drewN ?_ _ | refine blk_drew ?_ | refine blk_alloc ?_ _)); refine blk_far ?_ NB134_144.out _; (with_reducible repeat (first | refine blk_drewN ?_ _ | refine blk_drew ?_ | refine blk_alloc ?_ _)); exact BK134.out) hb); have n1_ := Aside0.mk (blk_below (g := gb135) (o := .cells #[.int .i64 a1_0, .int .u64 a1_1] 37 (0, 0)) (by (with_reducible repeat (first | refine blk_drewN ?_ _ | refine blk_drew ?_ | refine blk_alloc ?_ _)); refine blk_far ?_ NB135_145.out _; (with_reducible repeat (first | refine blk_drewN ?_ _ | refine blk_drew ?_ | refine blk_alloc ?_ _)); refine blk_far ?_ NB135_145.out _; (with_reducible repeat (first | refine blk_drewN ?_ _ | refine blk_drew ?_ | refine blk_alloc ?_ _)); refine blk_far ?_ NB135_144.out _; (with_reducible repeat (first | refine blk_drewN ?_ _ | refine blk_drew ?_ | refine blk_alloc ?_ _)); refine blk_far ?_ NB135_144.out _; (with_reducible repeat (first | refine blk_drewN ?_ _ | refine blk_drew ?_ | refine blk_alloc ?_ _)); exact BK135.out) hb); have n2_ := Aside0.mk (blk_below (g := gb136) (o := .cells #[.int .i64 0, .int .u64 0] 37 (0, 0)) (by (with_reducible repeat (first | refine blk_drewN ?_ _ | refine blk_drew ?_ | refine blk_alloc ?_ _)); refine blk_far ?_ NB136_145.out _; (with_reducible repeat (first | refine blk_drewN ?_ _ | refine blk_drew ?_ | refine blk_alloc ?_ _)); refine blk_far ?_ NB136_145.out _; (with_reducible repeat (first | refine blk_drewN ?_ _ | refine blk_drew ?_ | refine blk_alloc ?_ _)); refine blk_far ?_ NB136_144.out _; (with_reducible repeat (first | refine blk_drewN ?_ _ | refine blk_drew ?_ | refine blk_alloc ?_ _)); refine blk_far ?_ NB136_144.out _; (with_reducible repeat (first | refine blk_drewN ?_ _ | refine blk_drew ?_ | refine blk_alloc ?_ _)); exact BK136.out) hb); have n3_ := Aside0.mk (blk_below (g := gb137) (o := .cells #[.int .i64 0, .int .u64 0] 37 (0, 0)) (by (with_reducible repeat (first | refine blk_drewN ?_ _ | refine blk_drew ?_ | refine blk_alloc ?_ _)); refine blk_far ?_ NB137_145.out _; (with_reducible repeat (first | refine blk_drewN ?_ _ | refine blk_drew ?_ | refine blk_alloc ?_ _)); refine blk_far ?_ NB137_145.out _; (with_reducible repeat (first | refine blk_drewN ?_ _ | refine blk_drew ?_ | refine blk_alloc ?_ _)); refine blk_far ?_ NB137_144.out _; (with_reducible repeat (first | refine blk_drewN ?_ _ | refine blk_drew ?_ | refine blk_alloc ?_ _)); refine blk_far ?_ NB137_144.out _; (with_reducible repeat (first | refine blk_drewN ?_ _ | refine blk_drew ?_ | refine blk_alloc ?_ _)); exact BK137.out) hb); have n4_ := Aside0.mk (blk_below (g := gb138) (o := .cells #[.int .i64 x139000_2, .int .u64 x139001_2] 37 (0, 0)) (by (with_reducible repeat (first | refine blk_drewN ?_ _ | refine blk_drew ?_ | refine blk_alloc ?_ _)); refine blk_far ?_ NB138_145.out _; (with_reducible repeat (first | refine blk_drewN ?_ _ | refine blk_drew ?_ | refine blk_alloc ?_ _)); refine blk_far ?_ NB138_145.out _; (with_reducible repeat (first | refine blk_drewN ?_ _ | refine blk_drew ?_ | refine blk_alloc ?_ _)); refine blk_far ?_ NB138_144.out _; (with_reducible repeat (first | refine blk_drewN ?_ _ | refine blk_drew ?_ | refine blk_alloc ?_ _)); refine blk_far ?_ NB138_144.out _; (with_reducible repeat (first | refine blk_drewN ?_ _ | refine blk_drew ?_ | refine blk_alloc ?_ _)); exact BK138.out) hb); have n5_ := Aside0.mk (blk_below (g := gb139) (o := .cells #[.int .i64 x140000_35, .int .u64 x140001_35] 37 (0, 0)) (by (with_reducible repeat (first | refine blk_drewN ?_ _ | refine blk_drew ?_ | refine blk_alloc ?_ _)); refine blk_far ?_ NB139_145.out _; (with_reducible repeat (first | refine blk_drewN ?_ _ | refine blk_drew ?_ | refine blk_alloc ?_ _)); refine blk_far ?_ NB139_145.out _; (with_reducible repeat (first | refine blk_drewN ?_ _ | refine blk_drew ?_ | refine blk_alloc ?_ _)); refine blk_far ?_ NB139_144.out _; (with_reducible repeat (first | refine blk_drewN ?_ _ | refine blk_drew ?_ | refine blk_alloc ?_ _)); refine blk_far ?_ NB139_144.out _; (with_reducible repeat (first | refine blk_drewN ?_ _ | refine blk_drew ?_ | refine blk_alloc ?_ _)); exact BK139.out) hb); have n6_ := Aside0.mk (blk_below (g := gb144) (o := .cells #[.int .i64 0, .int .u64 (IntKind.u64.wrap (Int.tdiv x139001_2 x140001_35))] 37 (0, 0)) (by (with_reducible repeat (first | refine blk_drewN ?_ _ | refine blk_drew ?_ | refine blk_alloc ?_ _)); refine blk_far ?_ NB144_145.out _; (with_reducible repeat (first | refine blk_drewN ?_ _ | refine blk_drew ?_ | refine blk_alloc ?_ _)); refine blk_far ?_ NB144_145.out _; (with_reducible repeat (first | refine blk_drewN ?_ _ | refine blk_drew ?_ | refine blk_alloc ?_ _)); refine blk_put (cs := #[.int .i64 0, .int .u64 0]) ?_ 1 _ rfl; (with_reducible repeat (first | refine blk_drewN ?_ _ | refine blk_drew ?_ | refine blk_alloc ?_ _)); refine blk_put (cs := #[.int .i64 0, .int .u64 0]) ?_ 0 _ rfl; (with_reducible repeat (first | refine blk_drewN ?_ _ | refine blk_drew ?_ | refine blk_alloc ?_ _)); exact BK144.out) hb); have n7_ := Aside0.mk (blk_below (g := gb145) (o := .cells #[.int .i64 0, .int .u64 (Int.tmod x139001_2 x140001_35)] 37 (0, 0)) (by (with_reducible repeat (first | refine blk_drewN ?_ _ | refine blk_drew ?_ | refine blk_alloc ?_ _)); refine blk_put (cs := #[.int .i64 0, .int .u64 0]) ?_ 1 _ rfl; (with_reducible repeat (first | refine blk_drewN ?_ _ | refine blk_drew ?_ | refine blk_alloc ?_ _)); refine blk_put (cs := #[.int .i64 0, .int .u64 0]) ?_ 0 _ rfl; (with_reducible repeat (first | refine blk_drewN ?_ _ | refine blk_drew ?_ | refine blk_alloc ?_ _)); refine blk_far ?_ NB145_144.out _; (with_reducible repeat (first | refine blk_drewN ?_ _ | refine blk_drew ?_ | refine blk_alloc ?_ _)); refine blk_far ?_ NB145_144.out _; (with_reducible repeat (first | refine blk_drewN ?_ _ | refine blk_drew ?_ | refine blk_alloc ?_ _)); exact BK145.out) hb); have n8_ := Aside0.mk (below_step (by repeat (first | (with_reducible first | exact HB.out | apply below_alloc | apply pw_below_drewN | apply below_drew1 | refine below_set ?_ GE134.out | refine below_set ?_ GE135.out | refine below_set ?_ GE136.out | refine below_set ?_ GE137.out | refine below_set ?_ GE138.out | refine below_set ?_ GE139.out | refine below_set ?_ GE144.out | refine below_set ?_ GE145.out) | exact HB.out)) hb); clear BK134; clear BK135; clear BK136; clear BK137; clear BK138; clear BK139; clear BK144; clear BK145; clear HB; have BK134 := n0_; have BK135 := n1_; have BK136 := n2_; have BK137 := n3_; have BK138 := n4_; have BK139 := n5_; have BK144 := n6_; have BK145 := n7_; have HB := n8_; clear n0_ n1_ n2_ n3_ n4_ n5_ n6_ n7_ n8_; (try clear hb); (try clear hb2); (try clear hk); (try clear hi); have hcz93_0 : w92.cell? ⟨gb144, 0, none⟩ = some (.int .i64 0) := (blk_cell BK144.out 0).trans rfl; have hcz93_1 : w92.cell? ⟨gb144, 1, none⟩ = some (.int .u64 (IntKind.u64.wrap (Int.tdiv x139001_2 x140001_35))) := (blk_cell BK144.out 1).trans rfl; have hfz93_0 := blk_frozen BK144.out 0; have hfz93_1 := blk_frozen BK144.out 1))
                go_meet
                case rel => exact ⟨_, (t146), (t147), H', ⟨by have := HJ2.out; have := HJ35.out; first | omega | exact Nat.le_refl _⟩, ⟨by (with_reducible repeat (first | refine blk_drewN ?_ _ | refine blk_drew ?_ | refine blk_alloc ?_ _)); refine blk_far ?_ NB134_144.out _; (with_reducible repeat (first | refine blk_drewN ?_ _ | refine blk_drew ?_ | refine blk_alloc ?_ _)); refine blk_far ?_ NB134_144.out _; (with_reducible repeat (first | refine blk_drewN ?_ _ | refine blk_drew ?_ | refine blk_alloc ?_ _)); exact BK134.out⟩, ⟨by (with_reducible repeat (first | refine blk_drewN ?_ _ | refine blk_drew ?_ | refine blk_alloc ?_ _)); refine blk_far ?_ NB135_144.out _; (with_reducible repeat (first | refine blk_drewN ?_ _ | refine blk_drew ?_ | refine blk_alloc ?_ _)); refine blk_far ?_ NB135_144.out _; (with_reducible repeat (first | refine blk_drewN ?_ _ | refine blk_drew ?_ | refine blk_alloc ?_ _)); exact BK135.out⟩, ⟨by (with_reducible repeat (first | refine blk_drewN ?_ _ | refine blk_drew ?_ | refine blk_alloc ?_ _)); refine blk_far ?_ NB136_144.out _; (with_reducible repeat (first | refine blk_drewN ?_ _ | refine blk_drew ?_ | refine blk_alloc ?_ _)); refine blk_far ?_ NB136_144.out _; (with_reducible repeat (first | refine blk_drewN ?_ _ | refine blk_drew ?_ | refine blk_alloc ?_ _)); exact BK136.out⟩, ⟨by (with_reducible repeat (first | refine blk_drewN ?_ _ | refine blk_drew ?_ | refine blk_alloc ?_ _)); refine blk_far ?_ NB137_144.out _; (with_reducible repeat (first | refine blk_drewN ?_ _ | refine blk_drew ?_ | refine blk_alloc ?_ _)); refine blk_far ?_ NB137_144.out _; (with_reducible repeat (first | refine blk_drewN ?_ _ | refine blk_drew ?_ | refine blk_alloc ?_ _)); exact BK137.out⟩, ⟨by (with_reducible repeat (first | refine blk_drewN ?_ _ | refine blk_drew ?_ | refine blk_alloc ?_ _)); refine blk_far ?_ NB138_144.out _; (with_reducible repeat (first | refine blk_drewN ?_ _ | refine blk_drew ?_ | refine blk_alloc ?_ _)); refine blk_far ?_ NB138_144.out _; (with_reducible repeat (first | refine blk_drewN ?_ _ | refine blk_drew ?_ | refine blk_alloc ?_ _)); exact BK138.out⟩, ⟨by (with_reducible repeat (first | refine blk_drewN ?_ _ | refine blk_drew ?_ | refine blk_alloc ?_ _)); refine blk_far ?_ NB139_144.out _; (with_reducible repeat (first | refine blk_drewN ?_ _ | refine blk_drew ?_ | refine blk_alloc ?_ _)); refine blk_far ?_ NB139_144.out _; (with_reducible repeat (first | refine blk_drewN ?_ _ | refine blk_drew ?_ | refine blk_alloc ?_ _)); exact BK139.out⟩, ⟨by (with_reducible repeat (first | refine blk_drewN ?_ _ | refine blk_drew ?_ | refine blk_alloc ?_ _)); refine blk_put (cs := #[.int .i64 t146, .int .u64 (IntKind.u64.wrap (Int.tdiv x139001_2 x140001_35))]) ?_ 1 _ rfl; (with_reducible repeat (first | refine blk_drewN ?_ _ | refine blk_drew ?_ | refine blk_alloc ?_ _)); refine blk_put (cs := #[.int .i64 0, .int .u64 (IntKind.u64.wrap (Int.tdiv x139001_2 x140001_35))]) ?_ 0 _ rfl; (with_reducible repeat (first | refine blk_drewN ?_ _ | refine blk_drew ?_ | refine blk_alloc ?_ _)); exact BK144.out⟩, ⟨by (with_reducible repeat (first | refine blk_drewN ?_ _ | refine blk_drew ?_ | refine blk_alloc ?_ _)); refine blk_far ?_ NB145_144.out _; (with_reducible repeat (first | refine blk_drewN ?_ _ | refine blk_drew ?_ | refine blk_alloc ?_ _)); refine blk_far ?_ NB145_144.out _; (with_reducible repeat (first | refine blk_drewN ?_ _ | refine blk_drew ?_ | refine blk_alloc ?_ _)); exact BK145.out⟩, ⟨by repeat (first | (with_reducible first | exact HB.out | apply below_alloc | apply pw_below_drewN | apply below_drew1 | refine below_set ?_ GE134.out | refine below_set ?_ GE135.out | refine below_set ?_ GE136.out | refine below_set ?_ GE137.out | refine below_set ?_ GE138.out | refine below_set ?_ GE139.out | refine below_set ?_ GE144.out | refine below_set ?_ GE145.out) | exact HB.out)⟩⟩
            case rest =>
              clear HC58
              try clear p2
              try clear c3
              try clear c6
              try clear c7
              try clear c8
              try clear c9
              try clear c35
              try clear c67
              try clear c68
              try clear c69
              try clear c70
              try clear c71
              try clear c72
              try clear c73
              try clear c75
              try clear c76
              try clear c77
              try clear c78
              try clear c79
              try clear c80
              try clear c82
              try clear c82b0
              try clear c82b1
              try clear c84
              try clear c85
              try clear c86
              try clear c87
              try clear c88
              try clear c89
              try clear c90
              try clear hcz74_0
              try clear hcz74_1
              try clear hcz81_0
              try clear hcz81_1
              try clear hcz91_0
              try clear hcz91_1
              try clear hcz93_0
              try clear hcz93_1
              try clear hfz74_0
              try clear hfz74_1
              try clear hfz81_0
              try clear hfz81_1
              try clear hfz91_0
              try clear hfz91_1
              try clear hfz93_0
              try clear hfz93_1
              obtain ⟨kq, x145000_57, x145001_57, HA, HJ57, BK134, BK135, BK136, BK137, BK138, BK139, BK144, BK145, HB⟩ := hcut
              cases kq with
              | zero => exact absurd HA.out (by simp [arith_divided.j2])
              | succ kj57 =>
                have H := HA.out
                clear HA
                simp only [arith_divided.j2] at H
                by_cases c94 : a0_0 < 0
                · rw [if_pos c94] at H
                  have c94b0 : decide (a0_0 < 0) = true := decide_eq_true c94
                  clear c94
                  replace H := Option.bind_eq_some_iff.mp H
                  obtain ⟨⟨t148, t149⟩, A950, H⟩ := H
                  replace H : (some (x145000_57, x145001_57, t148, t149)) = some (r1, r2, r3, r4) := H
                  have A95 := Aside0.mk A950
                  clear A950
                  simp only [Option.some.injEq, Prod.mk.injEq] at H
                  obtain ⟨rfl, rfl, rfl, rfl⟩ := H
                  have hnb96 := NB134_135.out
                  have hnc96 := NB135_134.out
                  have hnb97 := NB134_136.out
                  have hnc97 := NB136_134.out
                  have hnb98 := NB134_137.out
                  have hnc98 := NB137_134.out
                  have hnb99 := NB134_138.out
                  have hnc99 := NB138_134.out
                  have hnb100 := NB134_139.out
                  have hnc100 := NB139_134.out
                  have hnb101 := NB134_144.out
                  have hnc101 := NB144_134.out
                  have hnb102 := NB134_145.out
                  have hnc102 := NB145_134.out
                  have hcz103_0 : wc.cell? ⟨gb134, 0, none⟩ = some (.int .i64 a0_0) := (blk_cell BK134.out 0).trans rfl
                  have hcz103_1 : wc.cell? ⟨gb134, 1, none⟩ = some (.int .u64 a0_1) := (blk_cell BK134.out 1).trans rfl
                  have hfz103_0 := blk_frozen BK134.out 0
                  have hfz103_1 := blk_frozen BK134.out 1
                  have hnb104 := NB145_135.out
                  have hnc104 := NB135_145.out
                  have hnb105 := NB145_136.out
                  have hnc105 := NB136_145.out
                  have hnb106 := NB145_137.out
                  have hnc106 := NB137_145.out
                  have hnb107 := NB145_138.out
                  have hnc107 := NB138_145.out
                  have hnb108 := NB145_139.out
                  have hnc108 := NB139_145.out
                  have hnb109 := NB145_144.out
                  have hnc109 := NB144_145.out
                  have hcz110_0 : wc.cell? ⟨gb145, 0, none⟩ = some (.int .i64 0) := (blk_cell BK145.out 0).trans rfl
                  have hcz110_1 : wc.cell? ⟨gb145, 1, none⟩ = some (.int .u64 (Int.tmod x139001_2 x140001_35)) := (blk_cell BK145.out 1).trans rfl
                  have hfz110_0 := blk_frozen BK145.out 0
                  have hfz110_1 := blk_frozen BK145.out 1
                  try go_wp2_with (first | ((with_reducible refine gate_callee (f := 35) rfl ?_); refine goesL_ (some 45) rfl rfl Tryd.func35 (by kernel_rfl) rfl #[.agg #[.int .i64 0, .int .u64 (Int.tmod x139001_2 x140001_35)]] rfl (by (try simp only [List.map_toArray, List.map_cons, List.map_nil]); first | done | rfl | (simp only [List.length_drop, List.length_take]; rfl)) ?_; (with_reducible refine (arith_wide_neg.calls 0 (Int.tmod x139001_2 x140001_35) t148 t149 _ A95.out).mono ?_); rintro e w111 ⟨rfl, hb⟩; refine ⟨_, rfl, ?_⟩; have n0_ := Aside0.mk (blk_below (g := gb134) (o := .cells #[.int .i64 a0_0, .int .u64 a0_1] 37 (0, 0)) (by (with_reducible repeat (first | refine blk_drewN ?_ _ | refine blk_drew ?_ | refine blk_alloc ?_ _)); exact BK134.out) hb); have n1_ := Aside0.mk (blk_below (g := gb135) (o := .cells #[.int .i64 a1_0, .int .u64 a1_1] 37 (0, 0)) (by (with_reducible repeat (first | refine blk_drewN ?_ _ | refine blk_drew ?_ | refine blk_alloc ?_ _)); exact BK135.out) hb); have n2_ := Aside0.mk (blk_below (g := gb136) (o := .cells #[.int .i64 0, .int .u64 0] 37 (0, 0)) (by (with_reducible repeat (first | refine blk_drewN ?_ _ | refine blk_drew ?_ | refine blk_alloc ?_ _)); exact BK136.out) hb); have n3_ := Aside0.mk (blk_below (g := gb137) (o := .cells #[.int .i64 0, .int .u64 0] 37 (0, 0)) (by (with_reducible repeat (first | refine blk_drewN ?_ _ | refine blk_drew ?_ | refine blk_alloc ?_ _)); exact BK137.out) hb); have n4_ := Aside0.mk (blk_below (g := gb138) (o := .cells #[.int .i64 x139000_2, .int .u64 x139001_2] 37 (0, 0)) (by (with_reducible repeat (first | refine blk_drewN ?_ _ | refine blk_drew ?_ | refine blk_alloc ?_ _)); exact BK138.out) hb); have n5_ := Aside0.mk (blk_below (g := gb139) (o := .cells #[.int .i64 x140000_35, .int .u64 x140001_35] 37 (0, 0)) (by (with_reducible repeat (first | refine blk_drewN ?_ _ | refine blk_drew ?_ | refine blk_alloc ?_ _)); exact BK139.out) hb); have n6_ := Aside0.mk (blk_below (g := gb144) (o := .cells #[.int .i64 x145000_57, .int .u64 x145001_57] 37 (0, 0)) (by (with_reducible repeat (first | refine blk_drewN ?_ _ | refine blk_drew ?_ | refine blk_alloc ?_ _)); exact BK144.out) hb); have n7_ := Aside0.mk (blk_below (g := gb145) (o := .cells #[.int .i64 0, .int .u64 (Int.tmod x139001_2 x140001_35)] 37 (0, 0)) (by (with_reducible repeat (first | refine blk_drewN ?_ _ | refine blk_drew ?_ | refine blk_alloc ?_ _)); exact BK145.out) hb); have n8_ := Aside0.mk (below_step (by repeat (first | (with_reducible first | exact HB.out | apply below_alloc | apply pw_below_drewN | apply below_drew1 | refine below_set ?_ GE134.out | refine below_set ?_ GE135.out | refine below_set ?_ GE136.out | refine below_set ?_ GE137.out | refine below_set ?_ GE138.out | refine below_set ?_ GE139.out | refine below_set ?_ GE144.out | refine below_set ?_ GE145.out) | exact HB.out)) hb); clear BK134; clear BK135; clear BK136; clear BK137; clear BK138; clear BK139; clear BK144; clear BK145; clear HB; have BK134 := n0_; have BK135 := n1_; have BK136 := n2_; have BK137 := n3_; have BK138 := n4_; have BK139 := n5_; have BK144 := n6_; have BK145 := n7_; have HB := n8_; clear n0_ n1_ n2_ n3_ n4_ n5_ n6_ n7_ n8_; (try clear hb); (try clear hb2); (try clear hk); (try clear hi); have hcz112_0 : w111.cell? ⟨gb145, 0, none⟩ = some (.int .i64 0) := (blk_cell BK145.out 0).trans rfl; have hcz112_1 : w111.cell? ⟨gb145, 1, none⟩ = some (.int .u64 (Int.tmod x139001_2 x140001_35)) := (blk_cell BK145.out 1).trans rfl; have hfz112_0 := blk_frozen BK145.out 0; have hfz112_1 := blk_frozen BK145.out 1))
                  have n0_ : Aside0 (((w111.setCell ⟨gb145, 0, none⟩ (.int .i64 t148)).setCell ⟨gb145, 1, none⟩ (.int .u64 t149)).heap[gb134]? = some (.cells #[.int .i64 a0_0, .int .u64 a0_1] 37 (0, 0))) := ⟨by (with_reducible repeat (first | refine blk_drewN ?_ _ | refine blk_drew ?_ | refine blk_alloc ?_ _)); refine blk_far ?_ NB134_145.out _; (with_reducible repeat (first | refine blk_drewN ?_ _ | refine blk_drew ?_ | refine blk_alloc ?_ _)); refine blk_far ?_ NB134_145.out _; (with_reducible repeat (first | refine blk_drewN ?_ _ | refine blk_drew ?_ | refine blk_alloc ?_ _)); exact BK134.out⟩
                  have n1_ : Aside0 (((w111.setCell ⟨gb145, 0, none⟩ (.int .i64 t148)).setCell ⟨gb145, 1, none⟩ (.int .u64 t149)).heap[gb135]? = some (.cells #[.int .i64 a1_0, .int .u64 a1_1] 37 (0, 0))) := ⟨by (with_reducible repeat (first | refine blk_drewN ?_ _ | refine blk_drew ?_ | refine blk_alloc ?_ _)); refine blk_far ?_ NB135_145.out _; (with_reducible repeat (first | refine blk_drewN ?_ _ | refine blk_drew ?_ | refine blk_alloc ?_ _)); refine blk_far ?_ NB135_145.out _; (with_reducible repeat (first | refine blk_drewN ?_ _ | refine blk_drew ?_ | refine blk_alloc ?_ _)); exact BK135.out⟩
                  have n2_ : Aside0 (((w111.setCell ⟨gb145, 0, none⟩ (.int .i64 t148)).setCell ⟨gb145, 1, none⟩ (.int .u64 t149)).heap[gb136]? = some (.cells #[.int .i64 0, .int .u64 0] 37 (0, 0))) := ⟨by (with_reducible repeat (first | refine blk_drewN ?_ _ | refine blk_drew ?_ | refine blk_alloc ?_ _)); refine blk_far ?_ NB136_145.out _; (with_reducible repeat (first | refine blk_drewN ?_ _ | refine blk_drew ?_ | refine blk_alloc ?_ _)); refine blk_far ?_ NB136_145.out _; (with_reducible repeat (first | refine blk_drewN ?_ _ | refine blk_drew ?_ | refine blk_alloc ?_ _)); exact BK136.out⟩
                  have n3_ : Aside0 (((w111.setCell ⟨gb145, 0, none⟩ (.int .i64 t148)).setCell ⟨gb145, 1, none⟩ (.int .u64 t149)).heap[gb137]? = some (.cells #[.int .i64 0, .int .u64 0] 37 (0, 0))) := ⟨by (with_reducible repeat (first | refine blk_drewN ?_ _ | refine blk_drew ?_ | refine blk_alloc ?_ _)); refine blk_far ?_ NB137_145.out _; (with_reducible repeat (first | refine blk_drewN ?_ _ | refine blk_drew ?_ | refine blk_alloc ?_ _)); refine blk_far ?_ NB137_145.out _; (with_reducible repeat (first | refine blk_drewN ?_ _ | refine blk_drew ?_ | refine blk_alloc ?_ _)); exact BK137.out⟩
                  have n4_ : Aside0 (((w111.setCell ⟨gb145, 0, none⟩ (.int .i64 t148)).setCell ⟨gb145, 1, none⟩ (.int .u64 t149)).heap[gb138]? = some (.cells #[.int .i64 x139000_2, .int .u64 x139001_2] 37 (0, 0))) := ⟨by (with_reducible repeat (first | refine blk_drewN ?_ _ | refine blk_drew ?_ | refine blk_alloc ?_ _)); refine blk_far ?_ NB138_145.out _; (with_reducible repeat (first | refine blk_drewN ?_ _ | refine blk_drew ?_ | refine blk_alloc ?_ _)); refine blk_far ?_ NB138_145.out _; (with_reducible repeat (first | refine blk_drewN ?_ _ | refine blk_drew ?_ | refine blk_alloc ?_ _)); exact BK138.out⟩
                  have n5_ : Aside0 (((w111.setCell ⟨gb145, 0, none⟩ (.int .i64 t148)).setCell ⟨gb145, 1, none⟩ (.int .u64 t149)).heap[gb139]? = some (.cells #[.int .i64 x140000_35, .int .u64 x140001_35] 37 (0, 0))) := ⟨by (with_reducible repeat (first | refine blk_drewN ?_ _ | refine blk_drew ?_ | refine blk_alloc ?_ _)); refine blk_far ?_ NB139_145.out _; (with_reducible repeat (first | refine blk_drewN ?_ _ | refine blk_drew ?_ | refine blk_alloc ?_ _)); refine blk_far ?_ NB139_145.out _; (with_reducible repeat (first | refine blk_drewN ?_ _ | refine blk_drew ?_ | refine blk_alloc ?_ _)); exact BK139.out⟩
                  have n6_ : Aside0 (((w111.setCell ⟨gb145, 0, none⟩ (.int .i64 t148)).setCell ⟨gb145, 1, none⟩ (.int .u64 t149)).heap[gb144]? = some (.cells #[.int .i64 x145000_57, .int .u64 x145001_57] 37 (0, 0))) := ⟨by (with_reducible repeat (first | refine blk_drewN ?_ _ | refine blk_drew ?_ | refine blk_alloc ?_ _)); refine blk_far ?_ NB144_145.out _; (with_reducible repeat (first | refine blk_drewN ?_ _ | refine blk_drew ?_ | refine blk_alloc ?_ _)); refine blk_far ?_ NB144_145.out _; (with_reducible repeat (first | refine blk_drewN ?_ _ | refine blk_drew ?_ | refine blk_alloc ?_ _)); exact BK144.out⟩
                  have n7_ : Aside0 (((w111.setCell ⟨gb145, 0, none⟩ (.int .i64 t148)).setCell ⟨gb145, 1, none⟩ (.int .u64 t149)).heap[gb145]? = some (.cells #[.int .i64 t148, .int .u64 t149] 37 (0, 0))) := ⟨by (with_reducible repeat (first | refine blk_drewN ?_ _ | refine blk_drew ?_ | refine blk_alloc ?_ _)); refine blk_put (cs := #[.int .i64 t148, .int .u64 (Int.tmod x139001_2 x140001_35)]) ?_ 1 _ rfl; (with_reducible repeat (first | refine blk_drewN ?_ _ | refine blk_drew ?_ | refine blk_alloc ?_ _)); refine blk_put (cs := #[.int .i64 0, .int .u64 (Int.tmod x139001_2 x140001_35)]) ?_ 0 _ rfl; (with_reducible repeat (first | refine blk_drewN ?_ _ | refine blk_drew ?_ | refine blk_alloc ?_ _)); exact BK145.out⟩
                  have n8_ : Aside0 (Below w.heap.size w ((w111.setCell ⟨gb145, 0, none⟩ (.int .i64 t148)).setCell ⟨gb145, 1, none⟩ (.int .u64 t149))) := ⟨by repeat (first | (with_reducible first | exact HB.out | apply below_alloc | apply pw_below_drewN | apply below_drew1 | refine below_set ?_ GE134.out | refine below_set ?_ GE135.out | refine below_set ?_ GE136.out | refine below_set ?_ GE137.out | refine below_set ?_ GE138.out | refine below_set ?_ GE139.out | refine below_set ?_ GE144.out | refine below_set ?_ GE145.out) | exact HB.out)⟩
                  (try clear BK134)
                  (try clear BK135)
                  (try clear BK136)
                  (try clear BK137)
                  (try clear BK138)
                  (try clear BK139)
                  (try clear BK144)
                  (try clear BK145)
                  (try clear HB)
                  generalize ((w111.setCell ⟨gb145, 0, none⟩ (.int .i64 t148)).setCell ⟨gb145, 1, none⟩ (.int .u64 t149)) = w113 at n0_ n1_ n2_ n3_ n4_ n5_ n6_ n7_ n8_ ⊢
                  have BK134 := n0_
                  have BK135 := n1_
                  have BK136 := n2_
                  have BK137 := n3_
                  have BK138 := n4_
                  have BK139 := n5_
                  have BK144 := n6_
                  have BK145 := n7_
                  have HB := n8_
                  clear n0_ n1_ n2_ n3_ n4_ n5_ n6_ n7_ n8_
                  have n0_ := Aside0.mk (blk_drew BK134.out)
                  have n1_ := Aside0.mk (blk_drew BK135.out)
                  have n2_ := Aside0.mk (blk_drew BK136.out)
                  have n3_ := Aside0.mk (blk_drew BK137.out)
                  have n4_ := Aside0.mk (blk_drew BK138.out)
                  have n5_ := Aside0.mk (blk_drew BK139.out)
                  have n6_ := Aside0.mk (blk_drew BK144.out)
                  have n7_ := Aside0.mk (blk_drew BK145.out)
                  have n8_ := Aside0.mk (below_drew1 HB.out)
                  clear BK134
                  clear BK135
                  clear BK136
                  clear BK137
                  clear BK138
                  clear BK139
                  clear BK144
                  clear BK145
                  clear HB
                  have BK134 := n0_
                  have BK135 := n1_
                  have BK136 := n2_
                  have BK137 := n3_
                  have BK138 := n4_
                  have BK139 := n5_
                  have BK144 := n6_
                  have BK145 := n7_
                  have HB := n8_
                  clear n0_ n1_ n2_ n3_ n4_ n5_ n6_ n7_ n8_
                  refine start_ (n := 4) (S := fun w' => w'.cell? ⟨gb144, 0, none⟩ = some (.int .i64 x145000_57) ∧ w'.cell? ⟨gb144, 1, none⟩ = some (.int .u64 x145001_57) ∧ w'.cell? ⟨gb145, 0, none⟩ = some (.int .i64 t148) ∧ w'.cell? ⟨gb145, 1, none⟩ = some (.int .u64 t149)) (ds := []) #[false, false, false, false] (by kernel_rfl) rfl rfl ⟨(blk_cell BK144.out 0).trans rfl, (blk_cell BK144.out 1).trans rfl, (blk_cell BK145.out 0).trans rfl, (blk_cell BK145.out 1).trans rfl⟩ (fun hHeld => ?_)
                  generalize w113.drew = w114 at BK134 BK135 BK136 BK137 BK138 BK139 BK144 BK145 HB hHeld ⊢
                  refine take_ (i := 0) (N := some 46) (v := ?_) (a' := ?_) #[true, false, false, false] rfl rfl (by kernel_rfl) (fun _ _ _ h => h) (Or.inl ⟨by rfl, ?_⟩) hHeld ?_ ?_
                  rotate_left
                  · rintro w' ⟨s0, s1, s2, s3⟩
                    go_simp
                    with_reducible rfl
                  rotate_left
                  · simp only [Act.put, List.setIfInBounds_toArray, List.set_cons_zero, List.set_cons_succ, i64_w, i32_w]
                    rfl
                  refine take_ (i := 1) (N := some 47) (v := ?_) (a' := ?_) #[true, true, false, false] rfl rfl (by kernel_rfl) (fun _ _ _ h => h) (Or.inl ⟨by rfl, ?_⟩) hHeld ?_ ?_
                  rotate_left
                  · rintro w' ⟨s0, s1, s2, s3⟩
                    go_simp
                    with_reducible rfl
                  rotate_left
                  · simp only [Act.put, List.setIfInBounds_toArray, List.set_cons_zero, List.set_cons_succ, i64_w, i32_w]
                    rfl
                  refine one_ (i := 2) (N := none) #[true, true, true, false] rfl rfl (by kernel_rfl) (by decide) (fun K hK => ?_)
                  have hs115 : w114.cell? ⟨gb136, 0, none⟩ = some (.int .i64 0) := (blk_cell BK136.out 0).trans rfl
                  have hfs115 := blk_frozen BK136.out 0
                  have hns115_0 := NB134_136.out
                  have hns115_1 := NB135_136.out
                  have hns115_3 := NB137_136.out
                  have hns115_4 := NB138_136.out
                  have hns115_5 := NB139_136.out
                  have hns115_6 := NB144_136.out
                  have hns115_7 := NB145_136.out
                  have hms115_0 := NB136_134.out
                  have hms115_1 := NB136_135.out
                  have hms115_3 := NB136_137.out
                  have hms115_4 := NB136_138.out
                  have hms115_5 := NB136_139.out
                  have hms115_6 := NB136_144.out
                  have hms115_7 := NB136_145.out
                  have hs116 : w114.cell? ⟨gb136, 1, none⟩ = some (.int .u64 0) := (blk_cell BK136.out 1).trans rfl
                  have hfs116 := blk_frozen BK136.out 1
                  have hns116_0 := NB134_136.out
                  have hns116_1 := NB135_136.out
                  have hns116_3 := NB137_136.out
                  have hns116_4 := NB138_136.out
                  have hns116_5 := NB139_136.out
                  have hns116_6 := NB144_136.out
                  have hns116_7 := NB145_136.out
                  have hms116_0 := NB136_134.out
                  have hms116_1 := NB136_135.out
                  have hms116_3 := NB136_137.out
                  have hms116_4 := NB136_138.out
                  have hms116_5 := NB136_139.out
                  have hms116_6 := NB136_144.out
                  have hms116_7 := NB136_145.out
                  refine skip_ (w1 := ?_) (by rfl) rfl ?_ ?_
                  rotate_left
                  · go_simp
                    rfl
                  refine hK.out _ _ ⟨((cell_far (p := ⟨gb136, _, none⟩) NB144_136.out _).trans (((cell_far (p := ⟨gb136, _, none⟩) NB144_136.out _).trans (hHeld.1)))), ((cell_far (p := ⟨gb136, _, none⟩) NB144_136.out _).trans (((cell_far (p := ⟨gb136, _, none⟩) NB144_136.out _).trans (hHeld.2.1)))), ((cell_far (p := ⟨gb136, _, none⟩) NB145_136.out _).trans (((cell_far (p := ⟨gb136, _, none⟩) NB145_136.out _).trans (hHeld.2.2.1)))), ((cell_far (p := ⟨gb136, _, none⟩) NB145_136.out _).trans (((cell_far (p := ⟨gb136, _, none⟩) NB145_136.out _).trans (hHeld.2.2.2))))⟩ (fun hHeld => ?_)
                  clear hK K
                  refine one_ (i := 3) (N := none) #[true, true, true, true] rfl rfl (by kernel_rfl) (by decide) (fun K hK => ?_)
                  have hs117 : w114.cell? ⟨gb137, 0, none⟩ = some (.int .i64 0) := (blk_cell BK137.out 0).trans rfl
                  have hfs117 := blk_frozen BK137.out 0
                  have hns117_0 := NB134_137.out
                  have hns117_1 := NB135_137.out
                  have hns117_2 := NB136_137.out
                  have hns117_4 := NB138_137.out
                  have hns117_5 := NB139_137.out
                  have hns117_6 := NB144_137.out
                  have hns117_7 := NB145_137.out
                  have hms117_0 := NB137_134.out
                  have hms117_1 := NB137_135.out
                  have hms117_2 := NB137_136.out
                  have hms117_4 := NB137_138.out
                  have hms117_5 := NB137_139.out
                  have hms117_6 := NB137_144.out
                  have hms117_7 := NB137_145.out
                  have hs118 : w114.cell? ⟨gb137, 1, none⟩ = some (.int .u64 0) := (blk_cell BK137.out 1).trans rfl
                  have hfs118 := blk_frozen BK137.out 1
                  have hns118_0 := NB134_137.out
                  have hns118_1 := NB135_137.out
                  have hns118_2 := NB136_137.out
                  have hns118_4 := NB138_137.out
                  have hns118_5 := NB139_137.out
                  have hns118_6 := NB144_137.out
                  have hns118_7 := NB145_137.out
                  have hms118_0 := NB137_134.out
                  have hms118_1 := NB137_135.out
                  have hms118_2 := NB137_136.out
                  have hms118_4 := NB137_138.out
                  have hms118_5 := NB137_139.out
                  have hms118_6 := NB137_144.out
                  have hms118_7 := NB137_145.out
                  refine skip_ (w1 := ?_) (by rfl) rfl ?_ ?_
                  rotate_left
                  · go_simp
                    rfl
                  refine hK.out _ _ ⟨((cell_far (p := ⟨gb137, _, none⟩) NB144_137.out _).trans (((cell_far (p := ⟨gb137, _, none⟩) NB144_137.out _).trans (hHeld.1)))), ((cell_far (p := ⟨gb137, _, none⟩) NB144_137.out _).trans (((cell_far (p := ⟨gb137, _, none⟩) NB144_137.out _).trans (hHeld.2.1)))), ((cell_far (p := ⟨gb137, _, none⟩) NB145_137.out _).trans (((cell_far (p := ⟨gb137, _, none⟩) NB145_137.out _).trans (hHeld.2.2.1)))), ((cell_far (p := ⟨gb137, _, none⟩) NB145_137.out _).trans (((cell_far (p := ⟨gb137, _, none⟩) NB145_137.out _).trans (hHeld.2.2.2))))⟩ (fun hHeld => ?_)
                  clear hK K
                  refine done_ (by kernel_rfl) ?_
                  try go_wp2
                  refine bodyPost_ret (results_cc rfl _ _ gb136 gb137 37 37 #[.int .i64 x145000_57, .int .u64 x145001_57] #[.int .i64 t148, .int .u64 t149] (0, 0) (0, 0) _ _ rfl (by (with_reducible repeat (first | refine blk_drewN ?_ _ | refine blk_drew ?_ | refine blk_alloc ?_ _)); refine blk_far ?_ NB136_137.out _; (with_reducible repeat (first | refine blk_drewN ?_ _ | refine blk_drew ?_ | refine blk_alloc ?_ _)); refine blk_far ?_ NB136_137.out _; (with_reducible repeat (first | refine blk_drewN ?_ _ | refine blk_drew ?_ | refine blk_alloc ?_ _)); refine blk_put (cs := #[.int .i64 x145000_57, .int .u64 0]) ?_ 1 _ rfl; (with_reducible repeat (first | refine blk_drewN ?_ _ | refine blk_drew ?_ | refine blk_alloc ?_ _)); refine blk_put (cs := #[.int .i64 0, .int .u64 0]) ?_ 0 _ rfl; (with_reducible repeat (first | refine blk_drewN ?_ _ | refine blk_drew ?_ | refine blk_alloc ?_ _)); exact BK136.out) Tryd.underlying37 rfl (by kernel_rfl) rfl (by (with_reducible repeat (first | refine blk_drewN ?_ _ | refine blk_drew ?_ | refine blk_alloc ?_ _)); refine blk_put (cs := #[.int .i64 t148, .int .u64 0]) ?_ 1 _ rfl; (with_reducible repeat (first | refine blk_drewN ?_ _ | refine blk_drew ?_ | refine blk_alloc ?_ _)); refine blk_put (cs := #[.int .i64 0, .int .u64 0]) ?_ 0 _ rfl; (with_reducible repeat (first | refine blk_drewN ?_ _ | refine blk_drew ?_ | refine blk_alloc ?_ _)); refine blk_far ?_ NB137_136.out _; (with_reducible repeat (first | refine blk_drewN ?_ _ | refine blk_drew ?_ | refine blk_alloc ?_ _)); refine blk_far ?_ NB137_136.out _; (with_reducible repeat (first | refine blk_drewN ?_ _ | refine blk_drew ?_ | refine blk_alloc ?_ _)); exact BK137.out) Tryd.underlying37 rfl (by kernel_rfl)) rfl ?_
                  exact ⟨by first | rfl | (simp [errW_none, errW_some] <;> rfl) | (simp [*, errW_none, errW_some] <;> rfl), by repeat (first | (with_reducible first | exact HB.out | apply below_alloc | apply pw_below_drewN | apply below_drew1 | refine below_set ?_ GE134.out | refine below_set ?_ GE135.out | refine below_set ?_ GE136.out | refine below_set ?_ GE137.out | refine below_set ?_ GE138.out | refine below_set ?_ GE139.out | refine below_set ?_ GE144.out | refine below_set ?_ GE145.out) | exact HB.out)⟩
                · rw [if_neg c94] at H
                  have c94b0 : decide (a0_0 < 0) = false := decide_eq_false c94
                  clear c94
                  simp only [Option.some.injEq, Prod.mk.injEq] at H
                  obtain ⟨rfl, rfl, rfl, rfl⟩ := H
                  have hnb119 := NB134_135.out
                  have hnc119 := NB135_134.out
                  have hnb120 := NB134_136.out
                  have hnc120 := NB136_134.out
                  have hnb121 := NB134_137.out
                  have hnc121 := NB137_134.out
                  have hnb122 := NB134_138.out
                  have hnc122 := NB138_134.out
                  have hnb123 := NB134_139.out
                  have hnc123 := NB139_134.out
                  have hnb124 := NB134_144.out
                  have hnc124 := NB144_134.out
                  have hnb125 := NB134_145.out
                  have hnc125 := NB145_134.out
                  have hcz126_0 : wc.cell? ⟨gb134, 0, none⟩ = some (.int .i64 a0_0) := (blk_cell BK134.out 0).trans rfl
                  have hcz126_1 : wc.cell? ⟨gb134, 1, none⟩ = some (.int .u64 a0_1) := (blk_cell BK134.out 1).trans rfl
                  have hfz126_0 := blk_frozen BK134.out 0
                  have hfz126_1 := blk_frozen BK134.out 1
                  try go_wp2
                  have n0_ := Aside0.mk (blk_drew BK134.out)
                  have n1_ := Aside0.mk (blk_drew BK135.out)
                  have n2_ := Aside0.mk (blk_drew BK136.out)
                  have n3_ := Aside0.mk (blk_drew BK137.out)
                  have n4_ := Aside0.mk (blk_drew BK138.out)
                  have n5_ := Aside0.mk (blk_drew BK139.out)
                  have n6_ := Aside0.mk (blk_drew BK144.out)
                  have n7_ := Aside0.mk (blk_drew BK145.out)
                  have n8_ := Aside0.mk (below_drew1 HB.out)
                  clear BK134
                  clear BK135
                  clear BK136
                  clear BK137
                  clear BK138
                  clear BK139
                  clear BK144
                  clear BK145
                  clear HB
                  have BK134 := n0_
                  have BK135 := n1_
                  have BK136 := n2_
                  have BK137 := n3_
                  have BK138 := n4_
                  have BK139 := n5_
                  have BK144 := n6_
                  have BK145 := n7_
                  have HB := n8_
                  clear n0_ n1_ n2_ n3_ n4_ n5_ n6_ n7_ n8_
                  refine start_ (n := 4) (S := fun w' => w'.cell? ⟨gb144, 0, none⟩ = some (.int .i64 x145000_57) ∧ w'.cell? ⟨gb144, 1, none⟩ = some (.int .u64 x145001_57) ∧ w'.cell? ⟨gb145, 0, none⟩ = some (.int .i64 0) ∧ w'.cell? ⟨gb145, 1, none⟩ = some (.int .u64 (Int.tmod x139001_2 x140001_35))) (ds := []) #[false, false, false, false] (by kernel_rfl) rfl rfl ⟨(blk_cell BK144.out 0).trans rfl, (blk_cell BK144.out 1).trans rfl, (blk_cell BK145.out 0).trans rfl, (blk_cell BK145.out 1).trans rfl⟩ (fun hHeld => ?_)
                  generalize wc.drew = w127 at BK134 BK135 BK136 BK137 BK138 BK139 BK144 BK145 HB hHeld ⊢
                  refine take_ (i := 0) (N := some 46) (v := ?_) (a' := ?_) #[true, false, false, false] rfl rfl (by kernel_rfl) (fun _ _ _ h => h) (Or.inl ⟨by rfl, ?_⟩) hHeld ?_ ?_
                  rotate_left
                  · rintro w' ⟨s0, s1, s2, s3⟩
                    go_simp
                    with_reducible rfl
                  rotate_left
                  · simp only [Act.put, List.setIfInBounds_toArray, List.set_cons_zero, List.set_cons_succ, i64_w, i32_w]
                    rfl
                  refine take_ (i := 1) (N := some 47) (v := ?_) (a' := ?_) #[true, true, false, false] rfl rfl (by kernel_rfl) (fun _ _ _ h => h) (Or.inl ⟨by rfl, ?_⟩) hHeld ?_ ?_
                  rotate_left
                  · rintro w' ⟨s0, s1, s2, s3⟩
                    go_simp
                    with_reducible rfl
                  rotate_left
                  · simp only [Act.put, List.setIfInBounds_toArray, List.set_cons_zero, List.set_cons_succ, i64_w, i32_w]
                    rfl
                  refine one_ (i := 2) (N := none) #[true, true, true, false] rfl rfl (by kernel_rfl) (by decide) (fun K hK => ?_)
                  have hs128 : w127.cell? ⟨gb136, 0, none⟩ = some (.int .i64 0) := (blk_cell BK136.out 0).trans rfl
                  have hfs128 := blk_frozen BK136.out 0
                  have hns128_0 := NB134_136.out
                  have hns128_1 := NB135_136.out
                  have hns128_3 := NB137_136.out
                  have hns128_4 := NB138_136.out
                  have hns128_5 := NB139_136.out
                  have hns128_6 := NB144_136.out
                  have hns128_7 := NB145_136.out
                  have hms128_0 := NB136_134.out
                  have hms128_1 := NB136_135.out
                  have hms128_3 := NB136_137.out
                  have hms128_4 := NB136_138.out
                  have hms128_5 := NB136_139.out
                  have hms128_6 := NB136_144.out
                  have hms128_7 := NB136_145.out
                  have hs129 : w127.cell? ⟨gb136, 1, none⟩ = some (.int .u64 0) := (blk_cell BK136.out 1).trans rfl
                  have hfs129 := blk_frozen BK136.out 1
                  have hns129_0 := NB134_136.out
                  have hns129_1 := NB135_136.out
                  have hns129_3 := NB137_136.out
                  have hns129_4 := NB138_136.out
                  have hns129_5 := NB139_136.out
                  have hns129_6 := NB144_136.out
                  have hns129_7 := NB145_136.out
                  have hms129_0 := NB136_134.out
                  have hms129_1 := NB136_135.out
                  have hms129_3 := NB136_137.out
                  have hms129_4 := NB136_138.out
                  have hms129_5 := NB136_139.out
                  have hms129_6 := NB136_144.out
                  have hms129_7 := NB136_145.out
                  refine skip_ (w1 := ?_) (by rfl) rfl ?_ ?_
                  rotate_left
                  · go_simp
                    rfl
                  refine hK.out _ _ ⟨((cell_far (p := ⟨gb136, _, none⟩) NB144_136.out _).trans (((cell_far (p := ⟨gb136, _, none⟩) NB144_136.out _).trans (hHeld.1)))), ((cell_far (p := ⟨gb136, _, none⟩) NB144_136.out _).trans (((cell_far (p := ⟨gb136, _, none⟩) NB144_136.out _).trans (hHeld.2.1)))), ((cell_far (p := ⟨gb136, _, none⟩) NB145_136.out _).trans (((cell_far (p := ⟨gb136, _, none⟩) NB145_136.out _).trans (hHeld.2.2.1)))), ((cell_far (p := ⟨gb136, _, none⟩) NB145_136.out _).trans (((cell_far (p := ⟨gb136, _, none⟩) NB145_136.out _).trans (hHeld.2.2.2))))⟩ (fun hHeld => ?_)
                  clear hK K
                  refine one_ (i := 3) (N := none) #[true, true, true, true] rfl rfl (by kernel_rfl) (by decide) (fun K hK => ?_)
                  have hs130 : w127.cell? ⟨gb137, 0, none⟩ = some (.int .i64 0) := (blk_cell BK137.out 0).trans rfl
                  have hfs130 := blk_frozen BK137.out 0
                  have hns130_0 := NB134_137.out
                  have hns130_1 := NB135_137.out
                  have hns130_2 := NB136_137.out
                  have hns130_4 := NB138_137.out
                  have hns130_5 := NB139_137.out
                  have hns130_6 := NB144_137.out
                  have hns130_7 := NB145_137.out
                  have hms130_0 := NB137_134.out
                  have hms130_1 := NB137_135.out
                  have hms130_2 := NB137_136.out
                  have hms130_4 := NB137_138.out
                  have hms130_5 := NB137_139.out
                  have hms130_6 := NB137_144.out
                  have hms130_7 := NB137_145.out
                  have hs131 : w127.cell? ⟨gb137, 1, none⟩ = some (.int .u64 0) := (blk_cell BK137.out 1).trans rfl
                  have hfs131 := blk_frozen BK137.out 1
                  have hns131_0 := NB134_137.out
                  have hns131_1 := NB135_137.out
                  have hns131_2 := NB136_137.out
                  have hns131_4 := NB138_137.out
                  have hns131_5 := NB139_137.out
                  have hns131_6 := NB144_137.out
                  have hns131_7 := NB145_137.out
                  have hms131_0 := NB137_134.out
                  have hms131_1 := NB137_135.out
                  have hms131_2 := NB137_136.out
                  have hms131_4 := NB137_138.out
                  have hms131_5 := NB137_139.out
                  have hms131_6 := NB137_144.out
                  have hms131_7 := NB137_145.out
                  refine skip_ (w1 := ?_) (by rfl) rfl ?_ ?_
                  rotate_left
                  · go_simp
                    rfl
                  refine hK.out _ _ ⟨((cell_far (p := ⟨gb137, _, none⟩) NB144_137.out _).trans (((cell_far (p := ⟨gb137, _, none⟩) NB144_137.out _).trans (hHeld.1)))), ((cell_far (p := ⟨gb137, _, none⟩) NB144_137.out _).trans (((cell_far (p := ⟨gb137, _, none⟩) NB144_137.out _).trans (hHeld.2.1)))), ((cell_far (p := ⟨gb137, _, none⟩) NB145_137.out _).trans (((cell_far (p := ⟨gb137, _, none⟩) NB145_137.out _).trans (hHeld.2.2.1)))), ((cell_far (p := ⟨gb137, _, none⟩) NB145_137.out _).trans (((cell_far (p := ⟨gb137, _, none⟩) NB145_137.out _).trans (hHeld.2.2.2))))⟩ (fun hHeld => ?_)
                  clear hK K
                  refine done_ (by kernel_rfl) ?_
                  try go_wp2
                  refine bodyPost_ret (results_cc rfl _ _ gb136 gb137 37 37 #[.int .i64 x145000_57, .int .u64 x145001_57] #[.int .i64 0, .int .u64 (Int.tmod x139001_2 x140001_35)] (0, 0) (0, 0) _ _ rfl (by (with_reducible repeat (first | refine blk_drewN ?_ _ | refine blk_drew ?_ | refine blk_alloc ?_ _)); refine blk_far ?_ NB136_137.out _; (with_reducible repeat (first | refine blk_drewN ?_ _ | refine blk_drew ?_ | refine blk_alloc ?_ _)); refine blk_far ?_ NB136_137.out _; (with_reducible repeat (first | refine blk_drewN ?_ _ | refine blk_drew ?_ | refine blk_alloc ?_ _)); refine blk_put (cs := #[.int .i64 x145000_57, .int .u64 0]) ?_ 1 _ rfl; (with_reducible repeat (first | refine blk_drewN ?_ _ | refine blk_drew ?_ | refine blk_alloc ?_ _)); refine blk_put (cs := #[.int .i64 0, .int .u64 0]) ?_ 0 _ rfl; (with_reducible repeat (first | refine blk_drewN ?_ _ | refine blk_drew ?_ | refine blk_alloc ?_ _)); exact BK136.out) Tryd.underlying37 rfl (by kernel_rfl) rfl (by (with_reducible repeat (first | refine blk_drewN ?_ _ | refine blk_drew ?_ | refine blk_alloc ?_ _)); refine blk_put (cs := #[.int .i64 0, .int .u64 0]) ?_ 1 _ rfl; (with_reducible repeat (first | refine blk_drewN ?_ _ | refine blk_drew ?_ | refine blk_alloc ?_ _)); refine blk_put (cs := #[.int .i64 0, .int .u64 0]) ?_ 0 _ rfl; (with_reducible repeat (first | refine blk_drewN ?_ _ | refine blk_drew ?_ | refine blk_alloc ?_ _)); refine blk_far ?_ NB137_136.out _; (with_reducible repeat (first | refine blk_drewN ?_ _ | refine blk_drew ?_ | refine blk_alloc ?_ _)); refine blk_far ?_ NB137_136.out _; (with_reducible repeat (first | refine blk_drewN ?_ _ | refine blk_drew ?_ | refine blk_alloc ?_ _)); exact BK137.out) Tryd.underlying37 rfl (by kernel_rfl)) rfl ?_
                  exact ⟨by first | rfl | (simp [errW_none, errW_some] <;> rfl) | (simp [*, errW_none, errW_some] <;> rfl), by repeat (first | (with_reducible first | exact HB.out | apply below_alloc | apply pw_below_drewN | apply below_drew1 | refine below_set ?_ GE134.out | refine below_set ?_ GE135.out | refine below_set ?_ GE136.out | refine below_set ?_ GE137.out | refine below_set ?_ GE138.out | refine below_set ?_ GE139.out | refine below_set ?_ GE144.out | refine below_set ?_ GE145.out) | exact HB.out)⟩

end Go.Proofs.YtbbepiechehojaaDoor.PA
