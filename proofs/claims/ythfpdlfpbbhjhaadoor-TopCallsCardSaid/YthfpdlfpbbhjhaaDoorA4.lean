import Derived.Test.YthfpdlfpbbhjhaaDoorA0
import Derived.Test.YthfpdlfpbbhjhaaDoorA3
namespace Go.Proofs.YthfpdlfpbbhjhaaDoor.PA
open Go.RowKit Go.Proofs.YthfpdlfpbbhjhaaDoorX Go.Proofs.YthfpdlfpbbhjhaaDoorW.PrintWords Go.Proofs.YthfpdlfpbbhjhaaDoorW.PrintLast Go.Proofs.YthfpdlfpbbhjhaaDoorW.PrintMore
attribute [local go_sem] max2_int min2_int max_two min_two max_three min_three max_four min_four   -- for this text's walks alone
set_option linter.unusedVariables false
set_option linter.unusedSimpArgs false
mutual
def arith_divided.j0 : Nat → Int → Int → Int → Int → Int → Int → Int → Int → Option (Int × Int × Int × Int)
 | 0, _, _, _, _, _, _, _, _ => none
 | k + 1, x239000, x239001, x240000, x240001, x243000, x243001, x244000, x244001 => if x240000 < 0 then ((arith_wide_neg.f x240000 x240001).bind fun bt246 => (arith_divided.j1 k x239000 x239001 x240000 x240001 x243000 x243001 bt246.1 bt246.2)) else (arith_divided.j1 k x239000 x239001 x240000 x240001 x243000 x243001 x244000 x244001)
def arith_divided.j1 : Nat → Int → Int → Int → Int → Int → Int → Int → Int → Option (Int × Int × Int × Int)
 | 0, _, _, _, _, _, _, _, _ => none
 | k + 1, x239000, x239001, x240000, x240001, x243000, x243001, x244000, x244001 => if x244001 = 0 then (none) else (if x239000 = x240000 then (arith_divided.j2 k x239000 x239001 0 (IntKind.u64.wrap (Int.tdiv x243001 x244001)) 0 (Int.tmod x243001 x244001)) else ((arith_wide_neg.f 0 (IntKind.u64.wrap (Int.tdiv x243001 x244001))).bind fun bt250 => (arith_divided.j2 k x239000 x239001 bt250.1 bt250.2 0 (Int.tmod x243001 x244001))))
def arith_divided.j2 : Nat → Int → Int → Int → Int → Int → Int → Option (Int × Int × Int × Int)
 | 0, _, _, _, _, _, _ => none
 | k + 1, x239000, x239001, x249000, x249001, x250000, x250001 => if x239000 < 0 then ((arith_wide_neg.f x250000 x250001).bind fun bt252 => (some (x249000, x249001, bt252.1, bt252.2))) else (some (x249000, x249001, x250000, x250001))
end
def arith_divided.f (k : Nat) (a0_0 : Int) (a0_1 : Int) (a1_0 : Int) (a1_1 : Int) : Option (Int × Int × Int × Int) := if a0_0 < 0 then ((arith_wide_neg.f a0_0 a0_1).bind fun bt244 => (arith_divided.j0 k a0_0 a0_1 a1_0 a1_1 bt244.1 bt244.2 a1_0 a1_1)) else (arith_divided.j0 k a0_0 a0_1 a1_0 a1_1 a0_0 a0_1 a1_0 a1_1)
def arith_divided.T6 : Bool × List (List Nat × List Nat) := (true, [([], []), ([0], [0]), ([], []), ([2], [2]), ([1, 3], [1, 3]), ([4], [4]), ([], []), ([6], [6]), ([], []), ([8], [8]), ([7, 9], [7, 9]), ([10], [10]), ([], []), ([], []), ([12, 5, 0, 1, 2, 3, 4, 5, 12, 13], [5, 12]), ([13, 11, 14, 0, 1, 2, 3, 4, 5, 6, 7, 8, 9, 10, 11, 12, 13, 14], [11, 13])])
def arith_divided.B6 : List Nat := [0, 1, 0, 4, 15, 31, 0, 64, 0, 256, 960, 1984, 0, 0, 12351, 32767]
theorem arith_divided.tab6 : rtab .any (opsOf Tryd.f86 6) = arith_divided.T6 := by kernel_rfl
theorem arith_divided.bits6 : waitsOk arith_divided.T6.2 arith_divided.B6 = true := by kernel_rfl
set_option maxHeartbeats 8000000 in
set_option maxRecDepth 100000 in
theorem arith_divided.calls (k : Nat) (a0_0 : Int) (a0_1 : Int) (a1_0 : Int) (a1_1 : Int) (r1 : Int) (r2 : Int) (r3 : Int) (r4 : Int) (w : World) (h : arith_divided.f k a0_0 a0_1 a1_0 a1_1 = some (r1, r2, r3, r4)) :
  Calls Tryd.prog 86 #[.agg #[.int .i64 a0_0, .int .u64 a0_1], .agg #[.int .i64 a1_0, .int .u64 a1_1]] w fun e w' => e = .returned (.tuple #[.agg #[.int .i64 r1, .int .u64 r2], .agg #[.int .i64 r3, .int .u64 r4]]) ∧ Below w.heap.size w w' := by
 have hu143 := Tryd.underlying143
 have HB := Aside0.mk (Below.refl w.heap.size w)
 have H : (if a0_0 < 0 then ((arith_wide_neg.f a0_0 a0_1).bind fun bt244 => (arith_divided.j0 k a0_0 a0_1 a1_0 a1_1 bt244.1 bt244.2 a1_0 a1_1)) else (arith_divided.j0 k a0_0 a0_1 a1_0 a1_1 a0_0 a0_1 a1_0 a1_1)) = some (r1, r2, r3, r4) := h
 clear h
 have HC3 := Aside0.mk H
 clear H
 go_enter Tryd.func86, Tryd.ntmps86
 try go_wp2_with (first | ((with_reducible refine gate_dst (N := 2) rfl ?_); refine box_event ?hg (N := 2) ?hd (cs := #[.int .i64 a0_0, .int .u64 a0_1]) (t := 143) ?hr ?_; (case hd => rfl); (case hg => rfl); (case hr => first | (go_simp; done) | (go_simp; rfl)); intro gb238 hg w4 hbox hb; have n0_ := Aside0.mk (below_step (by repeat (with_reducible first | exact HB.out | apply below_alloc | apply pw_below_drewN | apply below_drew1)) hb); have n1_ := Aside0.mk (hbox); have n2_ := Aside0.mk ((by rw [hg]; exact (below_size (by repeat (with_reducible first | exact HB.out | apply below_alloc | apply pw_below_drewN | apply below_drew1))) : w.heap.size ≤ gb238)); have n3_ := n2_; clear HB; have HB := n0_; have BK238 := n1_; have GW238 := n2_; have GE238 := n3_; clear n0_ n1_ n2_ n3_; clear hb hbox hg) | ((with_reducible refine gate_dst (N := 3) rfl ?_); refine box_event ?hg (N := 3) ?hd (cs := #[.int .i64 a1_0, .int .u64 a1_1]) (t := 143) ?hr ?_; (case hd => rfl); (case hg => rfl); (case hr => first | (go_simp; done) | (go_simp; rfl)); intro gb239 hg w5 hbox hb; have n0_ := Aside0.mk (blk_below (g := gb238) (o := .cells #[.int .i64 a0_0, .int .u64 a0_1] 143 (0, 0)) (by (with_reducible repeat (first | refine blk_drewN ?_ _ | refine blk_drew ?_ | refine blk_alloc ?_ _)); exact BK238.out) hb); have n1_ := Aside0.mk (below_step (by repeat (with_reducible first | exact HB.out | apply below_alloc | apply pw_below_drewN | apply below_drew1 | refine below_set ?_ GE238.out)) hb); have n2_ := Aside0.mk (hbox); have n3_ := Aside0.mk ((by rw [hg]; exact (below_size (by repeat (with_reducible first | exact HB.out | apply below_alloc | apply pw_below_drewN | apply below_drew1 | refine below_set ?_ GE238.out))) : w.heap.size ≤ gb239)); have n4_ := n3_; have n5_ := Aside0.mk ((by rw [hg]; exact Nat.ne_of_lt (blk_lt (g := gb238) (o := .cells #[.int .i64 a0_0, .int .u64 a0_1] 143 (0, 0)) (by (with_reducible repeat (first | refine blk_drewN ?_ _ | refine blk_drew ?_ | refine blk_alloc ?_ _)); exact BK238.out)) : gb238 ≠ gb239)); have n6_ := Aside0.mk ((by rw [hg]; exact Nat.ne_of_gt (blk_lt (g := gb238) (o := .cells #[.int .i64 a0_0, .int .u64 a0_1] 143 (0, 0)) (by (with_reducible repeat (first | refine blk_drewN ?_ _ | refine blk_drew ?_ | refine blk_alloc ?_ _)); exact BK238.out)) : gb239 ≠ gb238)); clear BK238; clear HB; have BK238 := n0_; have HB := n1_; have BK239 := n2_; have GW239 := n3_; have GE239 := n4_; have NB238_239 := n5_; have NB239_238 := n6_; clear n0_ n1_ n2_ n3_ n4_ n5_ n6_; clear hb hbox hg) | ((with_reducible refine gate_dst (N := 4) rfl ?_); refine box_event ?hg (N := 4) ?hd (cs := #[.int .i64 0, .int .u64 0]) (t := 143) ?hr ?_; (case hd => rfl); (case hg => rfl); (case hr => first | (go_simp; done) | (go_simp; rfl)); intro gb240 hg w6 hbox hb; have n0_ := Aside0.mk (blk_below (g := gb238) (o := .cells #[.int .i64 a0_0, .int .u64 a0_1] 143 (0, 0)) (by (with_reducible repeat (first | refine blk_drewN ?_ _ | refine blk_drew ?_ | refine blk_alloc ?_ _)); exact BK238.out) hb); have n1_ := Aside0.mk (blk_below (g := gb239) (o := .cells #[.int .i64 a1_0, .int .u64 a1_1] 143 (0, 0)) (by (with_reducible repeat (first | refine blk_drewN ?_ _ | refine blk_drew ?_ | refine blk_alloc ?_ _)); exact BK239.out) hb); have n2_ := Aside0.mk (below_step (by repeat (with_reducible first | exact HB.out | apply below_alloc | apply pw_below_drewN | apply below_drew1 | refine below_set ?_ GE238.out | refine below_set ?_ GE239.out)) hb); have n3_ := Aside0.mk (hbox); have n4_ := Aside0.mk ((by rw [hg]; exact (below_size (by repeat (with_reducible first | exact HB.out | apply below_alloc | apply pw_below_drewN | apply below_drew1 | refine below_set ?_ GE238.out | refine below_set ?_ GE239.out))) : w.heap.size ≤ gb240)); have n5_ := n4_; have n6_ := Aside0.mk ((by rw [hg]; exact Nat.ne_of_lt (blk_lt (g := gb238) (o := .cells #[.int .i64 a0_0, .int .u64 a0_1] 143 (0, 0)) (by (with_reducible repeat (first | refine blk_drewN ?_ _ | refine blk_drew ?_ | refine blk_alloc ?_ _)); exact BK238.out)) : gb238 ≠ gb240)); have n7_ := Aside0.mk ((by rw [hg]; exact Nat.ne_of_gt (blk_lt (g := gb238) (o := .cells #[.int .i64 a0_0, .int .u64 a0_1] 143 (0, 0)) (by (with_reducible repeat (first | refine blk_drewN ?_ _ | refine blk_drew ?_ | refine blk_alloc ?_ _)); exact BK238.out)) : gb240 ≠ gb238)); have n8_ := Aside0.mk ((by rw [hg]; exact Nat.ne_of_lt (blk_lt (g := gb239) (o := .cells #[.int .i64 a1_0, .int .u64 a1_1] 143 (0, 0)) (by (with_reducible repeat (first | refine blk_drewN ?_ _ | refine blk_drew ?_ | refine blk_alloc ?_ _)); exact BK239.out)) : gb239 ≠ gb240)); have n9_ := Aside0.mk ((by rw [hg]; exact Nat.ne_of_gt (blk_lt (g := gb239) (o := .cells #[.int .i64 a1_0, .int .u64 a1_1] 143 (0, 0)) (by (with_reducible repeat (first | refine blk_drewN ?_ _ | refine blk_drew ?_ | refine blk_alloc ?_ _)); exact BK239.out)) : gb240 ≠ gb239)); clear BK238; clear BK239; clear HB; have BK238 := n0_; have BK239 := n1_; have HB := n2_; have BK240 := n3_; have GW240 := n4_; have GE240 := n5_; have NB238_240 := n6_; have NB240_238 := n7_; have NB239_240 := n8_; have NB240_239 := n9_; clear n0_ n1_ n2_ n3_ n4_ n5_ n6_ n7_ n8_ n9_; clear hb hbox hg) | ((with_reducible refine gate_dst (N := 5) rfl ?_); refine box_event ?hg (N := 5) ?hd (cs := #[.int .i64 0, .int .u64 0]) (t := 143) ?hr ?_; (case hd => rfl); (case hg => rfl); (case hr => first | (go_simp; done) | (go_simp; rfl)); intro gb241 hg w7 hbox hb; have n0_ := Aside0.mk (blk_below (g := gb238) (o := .cells #[.int .i64 a0_0, .int .u64 a0_1] 143 (0, 0)) (by (with_reducible repeat (first | refine blk_drewN ?_ _ | refine blk_drew ?_ | refine blk_alloc ?_ _)); exact BK238.out) hb); have n1_ := Aside0.mk (blk_below (g := gb239) (o := .cells #[.int .i64 a1_0, .int .u64 a1_1] 143 (0, 0)) (by (with_reducible repeat (first | refine blk_drewN ?_ _ | refine blk_drew ?_ | refine blk_alloc ?_ _)); exact BK239.out) hb); have n2_ := Aside0.mk (blk_below (g := gb240) (o := .cells #[.int .i64 0, .int .u64 0] 143 (0, 0)) (by (with_reducible repeat (first | refine blk_drewN ?_ _ | refine blk_drew ?_ | refine blk_alloc ?_ _)); exact BK240.out) hb); have n3_ := Aside0.mk (below_step (by repeat (with_reducible first | exact HB.out | apply below_alloc | apply pw_below_drewN | apply below_drew1 | refine below_set ?_ GE238.out | refine below_set ?_ GE239.out | refine below_set ?_ GE240.out)) hb); have n4_ := Aside0.mk (hbox); have n5_ := Aside0.mk ((by rw [hg]; exact (below_size (by repeat (with_reducible first | exact HB.out | apply below_alloc | apply pw_below_drewN | apply below_drew1 | refine below_set ?_ GE238.out | refine below_set ?_ GE239.out | refine below_set ?_ GE240.out))) : w.heap.size ≤ gb241)); have n6_ := n5_; have n7_ := Aside0.mk ((by rw [hg]; exact Nat.ne_of_lt (blk_lt (g := gb238) (o := .cells #[.int .i64 a0_0, .int .u64 a0_1] 143 (0, 0)) (by (with_reducible repeat (first | refine blk_drewN ?_ _ | refine blk_drew ?_ | refine blk_alloc ?_ _)); exact BK238.out)) : gb238 ≠ gb241)); have n8_ := Aside0.mk ((by rw [hg]; exact Nat.ne_of_gt (blk_lt (g := gb238) (o := .cells #[.int .i64 a0_0, .int .u64 a0_1] 143 (0, 0)) (by (with_reducible repeat (first | refine blk_drewN ?_ _ | refine blk_drew ?_ | refine blk_alloc ?_ _)); exact BK238.out)) : gb241 ≠ gb238)); have n9_ := Aside0.mk ((by rw [hg]; exact Nat.ne_of_lt (blk_lt (g := gb239) (o := .cells #[.int .i64 a1_0, .int .u64 a1_1] 143 (0, 0)) (by (with_reducible repeat (first | refine blk_drewN ?_ _ | refine blk_drew ?_ | refine blk_alloc ?_ _)); exact BK239.out)) : gb239 ≠ gb241)); have n10_ := Aside0.mk ((by rw [hg]; exact Nat.ne_of_gt (blk_lt (g := gb239) (o := .cells #[.int .i64 a1_0, .int .u64 a1_1] 143 (0, 0)) (by (with_reducible repeat (first | refine blk_drewN ?_ _ | refine blk_drew ?_ | refine blk_alloc ?_ _)); exact BK239.out)) : gb241 ≠ gb239)); have n11_ := Aside0.mk ((by rw [hg]; exact Nat.ne_of_lt (blk_lt (g := gb240) (o := .cells #[.int .i64 0, .int .u64 0] 143 (0, 0)) (by (with_reducible repeat (first | refine blk_drewN ?_ _ | refine blk_drew ?_ | refine blk_alloc ?_ _)); exact BK240.out)) : gb240 ≠ gb241)); have n12_ := Aside0.mk ((by rw [hg]; exact Nat.ne_of_gt (blk_lt (g := gb240) (o := .cells #[.int .i64 0, .int .u64 0] 143 (0, 0)) (by (with_reducible repeat (first | refine blk_drewN ?_ _ | refine blk_drew ?_ | refine blk_alloc ?_ _)); exact BK240.out)) : gb241 ≠ gb240)); clear BK238; clear BK239; clear BK240; clear HB; have BK238 := n0_; have BK239 := n1_; have BK240 := n2_; have HB := n3_; have BK241 := n4_; have GW241 := n5_; have GE241 := n6_; have NB238_241 := n7_; have NB241_238 := n8_; have NB239_241 := n9_; have NB241_239 := n10_; have NB240_241 := n11_; have NB241_240 := n12_; clear n0_ n1_ n2_ n3_ n4_ n5_ n6_ n7_ n8_ n9_ n10_ n11_ n12_; clear hb hbox hg))
 have n0_ := Aside0.mk (blk_drew BK238.out)
 have n1_ := Aside0.mk (blk_drew BK239.out)
 have n2_ := Aside0.mk (blk_drew BK240.out)
 have n3_ := Aside0.mk (blk_drew BK241.out)
 have n4_ := Aside0.mk (below_drew1 HB.out)
 clear BK238
 clear BK239
 clear BK240
 clear BK241
 clear HB
 have BK238 := n0_
 have BK239 := n1_
 have BK240 := n2_
 have BK241 := n3_
 have HB := n4_
 clear n0_ n1_ n2_ n3_ n4_
 refine start_ (n := 6) (S := fun w' => w'.cell? ⟨gb238, 0, none⟩ = some (.int .i64 a0_0) ∧ w'.cell? ⟨gb238, 1, none⟩ = some (.int .u64 a0_1) ∧ w'.cell? ⟨gb239, 0, none⟩ = some (.int .i64 a1_0) ∧ w'.cell? ⟨gb239, 1, none⟩ = some (.int .u64 a1_1)) (ds := []) #[false, false, false, false, false, false] (by kernel_rfl) rfl rfl ⟨(blk_cell BK238.out 0).trans rfl, (blk_cell BK238.out 1).trans rfl, (blk_cell BK239.out 0).trans rfl, (blk_cell BK239.out 1).trans rfl⟩ (fun hHeld => ?_)
 generalize w7.drew = w8 at BK238 BK239 BK240 BK241 HB hHeld ⊢
 refine take_ (i := 0) (N := some 10) (v := ?_) (a' := ?_) #[true, false, false, false, false, false] rfl rfl (by kernel_rfl) (fun _ _ _ h => h) (Or.inl ⟨by rfl, ?_⟩) hHeld ?_ ?_
 rotate_left
 ·rintro w' ⟨s0, s1, s2, s3⟩
  go_simp
  with_reducible rfl
 rotate_left
 ·simp only [Act.put, List.setIfInBounds_toArray, List.set_cons_zero, List.set_cons_succ, i64_w, i32_w]
  rfl
 refine take_ (i := 1) (N := some 11) (v := ?_) (a' := ?_) #[true, true, false, false, false, false] rfl rfl (by kernel_rfl) (fun _ _ _ h => h) (Or.inl ⟨by rfl, ?_⟩) hHeld ?_ ?_
 rotate_left
 ·rintro w' ⟨s0, s1, s2, s3⟩
  go_simp
  with_reducible rfl
 rotate_left
 ·simp only [Act.put, List.setIfInBounds_toArray, List.set_cons_zero, List.set_cons_succ, i64_w, i32_w]
  rfl
 refine join_ (σ := Nat × Nat) 2 #[true, true, true, true, false, false] (fun s_ => [(6, .pointer (some ⟨s_.1, 0, none⟩)), (7, .pointer (some ⟨s_.2, 0, none⟩))]) (fun s_ w' => (w'.cell? ⟨gb238, 0, none⟩ = some (.int .i64 a0_0) ∧ w'.cell? ⟨gb238, 1, none⟩ = some (.int .u64 a0_1) ∧ w'.cell? ⟨gb239, 0, none⟩ = some (.int .i64 a1_0) ∧ w'.cell? ⟨gb239, 1, none⟩ = some (.int .u64 a1_1)) ∧ (w'.heap[gb238]? = some (.cells #[.int .i64 a0_0, .int .u64 a0_1] 143 (0, 0))) ∧ (w'.heap[gb239]? = some (.cells #[.int .i64 a1_0, .int .u64 a1_1] 143 (0, 0))) ∧ (w'.heap[gb240]? = some (.cells #[.int .i64 0, .int .u64 0] 143 (0, 0))) ∧ (w'.heap[gb241]? = some (.cells #[.int .i64 0, .int .u64 0] 143 (0, 0))) ∧ (w'.heap[s_.1]? = some (.cells #[.int .i64 0, .int .u64 0] 143 (0, 0))) ∧ (w'.heap[s_.2]? = some (.cells #[.int .i64 0, .int .u64 0] 143 (0, 0))) ∧ (w.heap.size ≤ s_.1) ∧ (w.heap.size ≤ s_.1) ∧ (gb238 ≠ s_.1) ∧ (s_.1 ≠ gb238) ∧ (gb239 ≠ s_.1) ∧ (s_.1 ≠ gb239) ∧ (gb240 ≠ s_.1) ∧ (s_.1 ≠ gb240) ∧ (gb241 ≠ s_.1) ∧ (s_.1 ≠ gb241) ∧ (s_.2 ≠ s_.1) ∧ (s_.1 ≠ s_.2) ∧ (w.heap.size ≤ s_.2) ∧ (w.heap.size ≤ s_.2) ∧ (gb238 ≠ s_.2) ∧ (s_.2 ≠ gb238) ∧ (gb239 ≠ s_.2) ∧ (s_.2 ≠ gb239) ∧ (gb240 ≠ s_.2) ∧ (s_.2 ≠ gb240) ∧ (gb241 ≠ s_.2) ∧ (s_.2 ≠ gb241) ∧ (Below w.heap.size w w')) ?_ ?_
 rotate_left
 ·intro hCont
  refine two_ (i := 2) (j := 3) (Ni := some 6) (Nj := some 7) #[true, true, true, false, false, false] #[true, true, false, true, false, false] rfl rfl rfl rfl (by kernel_rfl) (by decide) (by decide) (fun K hK => ?_) (fun K hK => ?_)
  ·skip
   refine box_step ?hg (N := 6) ?hd (cs := #[.int .i64 0, .int .u64 0]) (t := 143) ?hr ?_; (case hd => rfl); (case hg => rfl); (case hr => first | (go_simp; done) | (go_simp; rfl))
   intro gb242 hg w9 hbox hb
   have n0_ := Aside0.mk (blk_below (g := gb238) (o := .cells #[.int .i64 a0_0, .int .u64 a0_1] 143 (0, 0)) (by (with_reducible repeat (first | refine blk_drewN ?_ _ | refine blk_drew ?_ | refine blk_alloc ?_ _)); exact BK238.out) hb)
   have n1_ := Aside0.mk (blk_below (g := gb239) (o := .cells #[.int .i64 a1_0, .int .u64 a1_1] 143 (0, 0)) (by (with_reducible repeat (first | refine blk_drewN ?_ _ | refine blk_drew ?_ | refine blk_alloc ?_ _)); exact BK239.out) hb)
   have n2_ := Aside0.mk (blk_below (g := gb240) (o := .cells #[.int .i64 0, .int .u64 0] 143 (0, 0)) (by (with_reducible repeat (first | refine blk_drewN ?_ _ | refine blk_drew ?_ | refine blk_alloc ?_ _)); exact BK240.out) hb)
   have n3_ := Aside0.mk (blk_below (g := gb241) (o := .cells #[.int .i64 0, .int .u64 0] 143 (0, 0)) (by (with_reducible repeat (first | refine blk_drewN ?_ _ | refine blk_drew ?_ | refine blk_alloc ?_ _)); exact BK241.out) hb)
   have n4_ := Aside0.mk (below_step (by repeat (with_reducible first | exact HB.out | apply below_alloc | apply pw_below_drewN | apply below_drew1 | refine below_set ?_ GE238.out | refine below_set ?_ GE239.out | refine below_set ?_ GE240.out | refine below_set ?_ GE241.out)) hb)
   have n5_ := Aside0.mk (hbox)
   have n6_ := Aside0.mk ((by rw [hg]; exact (below_size (by repeat (with_reducible first | exact HB.out | apply below_alloc | apply pw_below_drewN | apply below_drew1 | refine below_set ?_ GE238.out | refine below_set ?_ GE239.out | refine below_set ?_ GE240.out | refine below_set ?_ GE241.out))) : w.heap.size ≤ gb242))
   have n7_ := Aside0.mk ((by rw [hg]; exact (below_size (by repeat (with_reducible first | exact HB.out | apply below_alloc | apply pw_below_drewN | apply below_drew1 | refine below_set ?_ GE238.out | refine below_set ?_ GE239.out | refine below_set ?_ GE240.out | refine below_set ?_ GE241.out))) : w.heap.size ≤ gb242))
   have n8_ := Aside0.mk ((by rw [hg]; exact Nat.ne_of_lt (blk_lt (g := gb238) (o := .cells #[.int .i64 a0_0, .int .u64 a0_1] 143 (0, 0)) (by (with_reducible repeat (first | refine blk_drewN ?_ _ | refine blk_drew ?_ | refine blk_alloc ?_ _)); exact BK238.out)) : gb238 ≠ gb242))
   have n9_ := Aside0.mk ((by rw [hg]; exact Nat.ne_of_gt (blk_lt (g := gb238) (o := .cells #[.int .i64 a0_0, .int .u64 a0_1] 143 (0, 0)) (by (with_reducible repeat (first | refine blk_drewN ?_ _ | refine blk_drew ?_ | refine blk_alloc ?_ _)); exact BK238.out)) : gb242 ≠ gb238))
   have n10_ := Aside0.mk ((by rw [hg]; exact Nat.ne_of_lt (blk_lt (g := gb239) (o := .cells #[.int .i64 a1_0, .int .u64 a1_1] 143 (0, 0)) (by (with_reducible repeat (first | refine blk_drewN ?_ _ | refine blk_drew ?_ | refine blk_alloc ?_ _)); exact BK239.out)) : gb239 ≠ gb242))
   have n11_ := Aside0.mk ((by rw [hg]; exact Nat.ne_of_gt (blk_lt (g := gb239) (o := .cells #[.int .i64 a1_0, .int .u64 a1_1] 143 (0, 0)) (by (with_reducible repeat (first | refine blk_drewN ?_ _ | refine blk_drew ?_ | refine blk_alloc ?_ _)); exact BK239.out)) : gb242 ≠ gb239))
   have n12_ := Aside0.mk ((by rw [hg]; exact Nat.ne_of_lt (blk_lt (g := gb240) (o := .cells #[.int .i64 0, .int .u64 0] 143 (0, 0)) (by (with_reducible repeat (first | refine blk_drewN ?_ _ | refine blk_drew ?_ | refine blk_alloc ?_ _)); exact BK240.out)) : gb240 ≠ gb242))
   have n13_ := Aside0.mk ((by rw [hg]; exact Nat.ne_of_gt (blk_lt (g := gb240) (o := .cells #[.int .i64 0, .int .u64 0] 143 (0, 0)) (by (with_reducible repeat (first | refine blk_drewN ?_ _ | refine blk_drew ?_ | refine blk_alloc ?_ _)); exact BK240.out)) : gb242 ≠ gb240))
   have n14_ := Aside0.mk ((by rw [hg]; exact Nat.ne_of_lt (blk_lt (g := gb241) (o := .cells #[.int .i64 0, .int .u64 0] 143 (0, 0)) (by (with_reducible repeat (first | refine blk_drewN ?_ _ | refine blk_drew ?_ | refine blk_alloc ?_ _)); exact BK241.out)) : gb241 ≠ gb242))
   have n15_ := Aside0.mk ((by rw [hg]; exact Nat.ne_of_gt (blk_lt (g := gb241) (o := .cells #[.int .i64 0, .int .u64 0] 143 (0, 0)) (by (with_reducible repeat (first | refine blk_drewN ?_ _ | refine blk_drew ?_ | refine blk_alloc ?_ _)); exact BK241.out)) : gb242 ≠ gb241))
   clear BK238
   clear BK239
   clear BK240
   clear BK241
   clear HB
   have BK238 := n0_
   have BK239 := n1_
   have BK240 := n2_
   have BK241 := n3_
   have HB := n4_
   have BK242 := n5_
   have GW242 := n6_
   have GE242 := n7_
   have NB238_242 := n8_
   have NB242_238 := n9_
   have NB239_242 := n10_
   have NB242_239 := n11_
   have NB240_242 := n12_
   have NB242_240 := n13_
   have NB241_242 := n14_
   have NB242_241 := n15_
   clear n0_ n1_ n2_ n3_ n4_ n5_ n6_ n7_ n8_ n9_ n10_ n11_ n12_ n13_ n14_ n15_
   clear hb hbox hg
   refine hK.out _ _ ⟨(blk_cell BK238.out 0).trans rfl, (blk_cell BK238.out 1).trans rfl, (blk_cell BK239.out 0).trans rfl, (blk_cell BK239.out 1).trans rfl⟩ (fun hHeld => ?_)
   clear hK K
   refine norm_ (a' := ?_) ?_ ?_
   rotate_left
   ·show Act.put _ (some 6) _ = _
    simp only [Act.put, List.setIfInBounds_toArray, List.set_cons_zero, List.set_cons_succ, i64_w, i32_w]
    rfl
   refine one_ (i := 3) (N := some 7) #[true, true, true, true, false, false] rfl rfl (by kernel_rfl) (by decide) (fun K hK => ?_)
   refine box_step ?hg (N := 7) ?hd (cs := #[.int .i64 0, .int .u64 0]) (t := 143) ?hr ?_; (case hd => rfl); (case hg => rfl); (case hr => first | (go_simp; done) | (go_simp; rfl))
   intro gb243 hg w10 hbox hb
   have n0_ := Aside0.mk (blk_below (g := gb238) (o := .cells #[.int .i64 a0_0, .int .u64 a0_1] 143 (0, 0)) (by (with_reducible repeat (first | refine blk_drewN ?_ _ | refine blk_drew ?_ | refine blk_alloc ?_ _)); exact BK238.out) hb)
   have n1_ := Aside0.mk (blk_below (g := gb239) (o := .cells #[.int .i64 a1_0, .int .u64 a1_1] 143 (0, 0)) (by (with_reducible repeat (first | refine blk_drewN ?_ _ | refine blk_drew ?_ | refine blk_alloc ?_ _)); exact BK239.out) hb)
   have n2_ := Aside0.mk (blk_below (g := gb240) (o := .cells #[.int .i64 0, .int .u64 0] 143 (0, 0)) (by (with_reducible repeat (first | refine blk_drewN ?_ _ | refine blk_drew ?_ | refine blk_alloc ?_ _)); exact BK240.out) hb)
   have n3_ := Aside0.mk (blk_below (g := gb241) (o := .cells #[.int .i64 0, .int .u64 0] 143 (0, 0)) (by (with_reducible repeat (first | refine blk_drewN ?_ _ | refine blk_drew ?_ | refine blk_alloc ?_ _)); exact BK241.out) hb)
   have n4_ := Aside0.mk (blk_below (g := gb242) (o := .cells #[.int .i64 0, .int .u64 0] 143 (0, 0)) (by (with_reducible repeat (first | refine blk_drewN ?_ _ | refine blk_drew ?_ | refine blk_alloc ?_ _)); exact BK242.out) hb)
   have n5_ := Aside0.mk (below_step (by repeat (with_reducible first | exact HB.out | apply below_alloc | apply pw_below_drewN | apply below_drew1 | refine below_set ?_ GE238.out | refine below_set ?_ GE239.out | refine below_set ?_ GE240.out | refine below_set ?_ GE241.out | refine below_set ?_ GE242.out)) hb)
   have n6_ := Aside0.mk (hbox)
   have n7_ := Aside0.mk ((by rw [hg]; exact (below_size (by repeat (with_reducible first | exact HB.out | apply below_alloc | apply pw_below_drewN | apply below_drew1 | refine below_set ?_ GE238.out | refine below_set ?_ GE239.out | refine below_set ?_ GE240.out | refine below_set ?_ GE241.out | refine below_set ?_ GE242.out))) : w.heap.size ≤ gb243))
   have n8_ := Aside0.mk ((by rw [hg]; exact (below_size (by repeat (with_reducible first | exact HB.out | apply below_alloc | apply pw_below_drewN | apply below_drew1 | refine below_set ?_ GE238.out | refine below_set ?_ GE239.out | refine below_set ?_ GE240.out | refine below_set ?_ GE241.out | refine below_set ?_ GE242.out))) : w.heap.size ≤ gb243))
   have n9_ := Aside0.mk ((by rw [hg]; exact Nat.ne_of_lt (blk_lt (g := gb238) (o := .cells #[.int .i64 a0_0, .int .u64 a0_1] 143 (0, 0)) (by (with_reducible repeat (first | refine blk_drewN ?_ _ | refine blk_drew ?_ | refine blk_alloc ?_ _)); exact BK238.out)) : gb238 ≠ gb243))
   have n10_ := Aside0.mk ((by rw [hg]; exact Nat.ne_of_gt (blk_lt (g := gb238) (o := .cells #[.int .i64 a0_0, .int .u64 a0_1] 143 (0, 0)) (by (with_reducible repeat (first | refine blk_drewN ?_ _ | refine blk_drew ?_ | refine blk_alloc ?_ _)); exact BK238.out)) : gb243 ≠ gb238))
   have n11_ := Aside0.mk ((by rw [hg]; exact Nat.ne_of_lt (blk_lt (g := gb239) (o := .cells #[.int .i64 a1_0, .int .u64 a1_1] 143 (0, 0)) (by (with_reducible repeat (first | refine blk_drewN ?_ _ | refine blk_drew ?_ | refine blk_alloc ?_ _)); exact BK239.out)) : gb239 ≠ gb243))
   have n12_ := Aside0.mk ((by rw [hg]; exact Nat.ne_of_gt (blk_lt (g := gb239) (o := .cells #[.int .i64 a1_0, .int .u64 a1_1] 143 (0, 0)) (by (with_reducible repeat (first | refine blk_drewN ?_ _ | refine blk_drew ?_ | refine blk_alloc ?_ _)); exact BK239.out)) : gb243 ≠ gb239))
   have n13_ := Aside0.mk ((by rw [hg]; exact Nat.ne_of_lt (blk_lt (g := gb240) (o := .cells #[.int .i64 0, .int .u64 0] 143 (0, 0)) (by (with_reducible repeat (first | refine blk_drewN ?_ _ | refine blk_drew ?_ | refine blk_alloc ?_ _)); exact BK240.out)) : gb240 ≠ gb243))
   have n14_ := Aside0.mk ((by rw [hg]; exact Nat.ne_of_gt (blk_lt (g := gb240) (o := .cells #[.int .i64 0, .int .u64 0] 143 (0, 0)) (by (with_reducible repeat (first | refine blk_drewN ?_ _ | refine blk_drew ?_ | refine blk_alloc ?_ _)); exact BK240.out)) : gb243 ≠ gb240))
   have n15_ := Aside0.mk ((by rw [hg]; exact Nat.ne_of_lt (blk_lt (g := gb241) (o := .cells #[.int .i64 0, .int .u64 0] 143 (0, 0)) (by (with_reducible repeat (first | refine blk_drewN ?_ _ | refine blk_drew ?_ | refine blk_alloc ?_ _)); exact BK241.out)) : gb241 ≠ gb243))
   have n16_ := Aside0.mk ((by rw [hg]; exact Nat.ne_of_gt (blk_lt (g := gb241) (o := .cells #[.int .i64 0, .int .u64 0] 143 (0, 0)) (by (with_reducible repeat (first | refine blk_drewN ?_ _ | refine blk_drew ?_ | refine blk_alloc ?_ _)); exact BK241.out)) : gb243 ≠ gb241))
   have n17_ := Aside0.mk ((by rw [hg]; exact Nat.ne_of_lt (blk_lt (g := gb242) (o := .cells #[.int .i64 0, .int .u64 0] 143 (0, 0)) (by (with_reducible repeat (first | refine blk_drewN ?_ _ | refine blk_drew ?_ | refine blk_alloc ?_ _)); exact BK242.out)) : gb242 ≠ gb243))
   have n18_ := Aside0.mk ((by rw [hg]; exact Nat.ne_of_gt (blk_lt (g := gb242) (o := .cells #[.int .i64 0, .int .u64 0] 143 (0, 0)) (by (with_reducible repeat (first | refine blk_drewN ?_ _ | refine blk_drew ?_ | refine blk_alloc ?_ _)); exact BK242.out)) : gb243 ≠ gb242))
   clear BK238
   clear BK239
   clear BK240
   clear BK241
   clear BK242
   clear HB
   have BK238 := n0_
   have BK239 := n1_
   have BK240 := n2_
   have BK241 := n3_
   have BK242 := n4_
   have HB := n5_
   have BK243 := n6_
   have GW243 := n7_
   have GE243 := n8_
   have NB238_243 := n9_
   have NB243_238 := n10_
   have NB239_243 := n11_
   have NB243_239 := n12_
   have NB240_243 := n13_
   have NB243_240 := n14_
   have NB241_243 := n15_
   have NB243_241 := n16_
   have NB242_243 := n17_
   have NB243_242 := n18_
   clear n0_ n1_ n2_ n3_ n4_ n5_ n6_ n7_ n8_ n9_ n10_ n11_ n12_ n13_ n14_ n15_ n16_ n17_ n18_
   clear hb hbox hg
   refine hK.out _ _ ⟨(blk_cell BK238.out 0).trans rfl, (blk_cell BK238.out 1).trans rfl, (blk_cell BK239.out 0).trans rfl, (blk_cell BK239.out 1).trans rfl⟩ (fun hHeld => ?_)
   clear hK K
   refine norm_ (a' := ?_) ?_ ?_
   rotate_left
   ·show Act.put _ (some 7) _ = _
    simp only [Act.put, List.setIfInBounds_toArray, List.set_cons_zero, List.set_cons_succ, i64_w, i32_w]
    rfl
   exact norm_ (by simp only [putAll, Act.put, List.setIfInBounds_toArray, List.set_cons_zero, List.set_cons_succ]) (hCont (gb242, gb243) _ ⟨hHeld, (by (with_reducible repeat (first | refine blk_drewN ?_ _ | refine blk_drew ?_ | refine blk_alloc ?_ _)); exact BK238.out), (by (with_reducible repeat (first | refine blk_drewN ?_ _ | refine blk_drew ?_ | refine blk_alloc ?_ _)); exact BK239.out), (by (with_reducible repeat (first | refine blk_drewN ?_ _ | refine blk_drew ?_ | refine blk_alloc ?_ _)); exact BK240.out), (by (with_reducible repeat (first | refine blk_drewN ?_ _ | refine blk_drew ?_ | refine blk_alloc ?_ _)); exact BK241.out), (by (with_reducible repeat (first | refine blk_drewN ?_ _ | refine blk_drew ?_ | refine blk_alloc ?_ _)); exact BK242.out), (by (with_reducible repeat (first | refine blk_drewN ?_ _ | refine blk_drew ?_ | refine blk_alloc ?_ _)); exact BK243.out), GW242.out, GE242.out, NB238_242.out, NB242_238.out, NB239_242.out, NB242_239.out, NB240_242.out, NB242_240.out, NB241_242.out, NB242_241.out, NB243_242.out, NB242_243.out, GW243.out, GE243.out, NB238_243.out, NB243_238.out, NB239_243.out, NB243_239.out, NB240_243.out, NB243_240.out, NB241_243.out, NB243_241.out, (by repeat (with_reducible first | exact HB.out | apply below_alloc | apply pw_below_drewN | apply below_drew1 | refine below_set ?_ GE238.out | refine below_set ?_ GE239.out | refine below_set ?_ GE240.out | refine below_set ?_ GE241.out | refine below_set ?_ GE242.out | refine below_set ?_ GE243.out))⟩)
  ·skip
   refine box_step ?hg (N := 7) ?hd (cs := #[.int .i64 0, .int .u64 0]) (t := 143) ?hr ?_; (case hd => rfl); (case hg => rfl); (case hr => first | (go_simp; done) | (go_simp; rfl))
   intro gb243 hg w9 hbox hb
   have n0_ := Aside0.mk (blk_below (g := gb238) (o := .cells #[.int .i64 a0_0, .int .u64 a0_1] 143 (0, 0)) (by (with_reducible repeat (first | refine blk_drewN ?_ _ | refine blk_drew ?_ | refine blk_alloc ?_ _)); exact BK238.out) hb)
   have n1_ := Aside0.mk (blk_below (g := gb239) (o := .cells #[.int .i64 a1_0, .int .u64 a1_1] 143 (0, 0)) (by (with_reducible repeat (first | refine blk_drewN ?_ _ | refine blk_drew ?_ | refine blk_alloc ?_ _)); exact BK239.out) hb)
   have n2_ := Aside0.mk (blk_below (g := gb240) (o := .cells #[.int .i64 0, .int .u64 0] 143 (0, 0)) (by (with_reducible repeat (first | refine blk_drewN ?_ _ | refine blk_drew ?_ | refine blk_alloc ?_ _)); exact BK240.out) hb)
   have n3_ := Aside0.mk (blk_below (g := gb241) (o := .cells #[.int .i64 0, .int .u64 0] 143 (0, 0)) (by (with_reducible repeat (first | refine blk_drewN ?_ _ | refine blk_drew ?_ | refine blk_alloc ?_ _)); exact BK241.out) hb)
   have n4_ := Aside0.mk (below_step (by repeat (with_reducible first | exact HB.out | apply below_alloc | apply pw_below_drewN | apply below_drew1 | refine below_set ?_ GE238.out | refine below_set ?_ GE239.out | refine below_set ?_ GE240.out | refine below_set ?_ GE241.out)) hb)
   have n5_ := Aside0.mk (hbox)
   have n6_ := Aside0.mk ((by rw [hg]; exact (below_size (by repeat (with_reducible first | exact HB.out | apply below_alloc | apply pw_below_drewN | apply below_drew1 | refine below_set ?_ GE238.out | refine below_set ?_ GE239.out | refine below_set ?_ GE240.out | refine below_set ?_ GE241.out))) : w.heap.size ≤ gb243))
   have n7_ := Aside0.mk ((by rw [hg]; exact (below_size (by repeat (with_reducible first | exact HB.out | apply below_alloc | apply pw_below_drewN | apply below_drew1 | refine below_set ?_ GE238.out | refine below_set ?_ GE239.out | refine below_set ?_ GE240.out | refine below_set ?_ GE241.out))) : w.heap.size ≤ gb243))
   have n8_ := Aside0.mk ((by rw [hg]; exact Nat.ne_of_lt (blk_lt (g := gb238) (o := .cells #[.int .i64 a0_0, .int .u64 a0_1] 143 (0, 0)) (by (with_reducible repeat (first | refine blk_drewN ?_ _ | refine blk_drew ?_ | refine blk_alloc ?_ _)); exact BK238.out)) : gb238 ≠ gb243))
   have n9_ := Aside0.mk ((by rw [hg]; exact Nat.ne_of_gt (blk_lt (g := gb238) (o := .cells #[.int .i64 a0_0, .int .u64 a0_1] 143 (0, 0)) (by (with_reducible repeat (first | refine blk_drewN ?_ _ | refine blk_drew ?_ | refine blk_alloc ?_ _)); exact BK238.out)) : gb243 ≠ gb238))
   have n10_ := Aside0.mk ((by rw [hg]; exact Nat.ne_of_lt (blk_lt (g := gb239) (o := .cells #[.int .i64 a1_0, .int .u64 a1_1] 143 (0, 0)) (by (with_reducible repeat (first | refine blk_drewN ?_ _ | refine blk_drew ?_ | refine blk_alloc ?_ _)); exact BK239.out)) : gb239 ≠ gb243))
   have n11_ := Aside0.mk ((by rw [hg]; exact Nat.ne_of_gt (blk_lt (g := gb239) (o := .cells #[.int .i64 a1_0, .int .u64 a1_1] 143 (0, 0)) (by (with_reducible repeat (first | refine blk_drewN ?_ _ | refine blk_drew ?_ | refine blk_alloc ?_ _)); exact BK239.out)) : gb243 ≠ gb239))
   have n12_ := Aside0.mk ((by rw [hg]; exact Nat.ne_of_lt (blk_lt (g := gb240) (o := .cells #[.int .i64 0, .int .u64 0] 143 (0, 0)) (by (with_reducible repeat (first | refine blk_drewN ?_ _ | refine blk_drew ?_ | refine blk_alloc ?_ _)); exact BK240.out)) : gb240 ≠ gb243))
   have n13_ := Aside0.mk ((by rw [hg]; exact Nat.ne_of_gt (blk_lt (g := gb240) (o := .cells #[.int .i64 0, .int .u64 0] 143 (0, 0)) (by (with_reducible repeat (first | refine blk_drewN ?_ _ | refine blk_drew ?_ | refine blk_alloc ?_ _)); exact BK240.out)) : gb243 ≠ gb240))
   have n14_ := Aside0.mk ((by rw [hg]; exact Nat.ne_of_lt (blk_lt (g := gb241) (o := .cells #[.int .i64 0, .int .u64 0] 143 (0, 0)) (by (with_reducible repeat (first | refine blk_drewN ?_ _ | refine blk_drew ?_ | refine blk_alloc ?_ _)); exact BK241.out)) : gb241 ≠ gb243))
   have n15_ := Aside0.mk ((by rw [hg]; exact Nat.ne_of_gt (blk_lt (g := gb241) (o := .cells #[.int .i64 0, .int .u64 0] 143 (0, 0)) (by (with_reducible repeat (first | refine blk_drewN ?_ _ | refine blk_drew ?_ | refine blk_alloc ?_ _)); exact BK241.out)) : gb243 ≠ gb241))
   clear BK238
   clear BK239
   clear BK240
   clear BK241
   clear HB
   have BK238 := n0_
   have BK239 := n1_
   have BK240 := n2_
   have BK241 := n3_
   have HB := n4_
   have BK243 := n5_
   have GW243 := n6_
   have GE243 := n7_
   have NB238_243 := n8_
   have NB243_238 := n9_
   have NB239_243 := n10_
   have NB243_239 := n11_
   have NB240_243 := n12_
   have NB243_240 := n13_
   have NB241_243 := n14_
   have NB243_241 := n15_
   clear n0_ n1_ n2_ n3_ n4_ n5_ n6_ n7_ n8_ n9_ n10_ n11_ n12_ n13_ n14_ n15_
   clear hb hbox hg
   refine hK.out _ _ ⟨(blk_cell BK238.out 0).trans rfl, (blk_cell BK238.out 1).trans rfl, (blk_cell BK239.out 0).trans rfl, (blk_cell BK239.out 1).trans rfl⟩ (fun hHeld => ?_)
   clear hK K
   refine norm_ (a' := ?_) ?_ ?_
   rotate_left
   ·show Act.put _ (some 7) _ = _
    simp only [Act.put, List.setIfInBounds_toArray, List.set_cons_zero, List.set_cons_succ, i64_w, i32_w]
    rfl
   refine one_ (i := 2) (N := some 6) #[true, true, true, true, false, false] rfl rfl (by kernel_rfl) (by decide) (fun K hK => ?_)
   refine box_step ?hg (N := 6) ?hd (cs := #[.int .i64 0, .int .u64 0]) (t := 143) ?hr ?_; (case hd => rfl); (case hg => rfl); (case hr => first | (go_simp; done) | (go_simp; rfl))
   intro gb242 hg w10 hbox hb
   have n0_ := Aside0.mk (blk_below (g := gb238) (o := .cells #[.int .i64 a0_0, .int .u64 a0_1] 143 (0, 0)) (by (with_reducible repeat (first | refine blk_drewN ?_ _ | refine blk_drew ?_ | refine blk_alloc ?_ _)); exact BK238.out) hb)
   have n1_ := Aside0.mk (blk_below (g := gb239) (o := .cells #[.int .i64 a1_0, .int .u64 a1_1] 143 (0, 0)) (by (with_reducible repeat (first | refine blk_drewN ?_ _ | refine blk_drew ?_ | refine blk_alloc ?_ _)); exact BK239.out) hb)
   have n2_ := Aside0.mk (blk_below (g := gb240) (o := .cells #[.int .i64 0, .int .u64 0] 143 (0, 0)) (by (with_reducible repeat (first | refine blk_drewN ?_ _ | refine blk_drew ?_ | refine blk_alloc ?_ _)); exact BK240.out) hb)
   have n3_ := Aside0.mk (blk_below (g := gb241) (o := .cells #[.int .i64 0, .int .u64 0] 143 (0, 0)) (by (with_reducible repeat (first | refine blk_drewN ?_ _ | refine blk_drew ?_ | refine blk_alloc ?_ _)); exact BK241.out) hb)
   have n4_ := Aside0.mk (blk_below (g := gb243) (o := .cells #[.int .i64 0, .int .u64 0] 143 (0, 0)) (by (with_reducible repeat (first | refine blk_drewN ?_ _ | refine blk_drew ?_ | refine blk_alloc ?_ _)); exact BK243.out) hb)
   have n5_ := Aside0.mk (below_step (by repeat (with_reducible first | exact HB.out | apply below_alloc | apply pw_below_drewN | apply below_drew1 | refine below_set ?_ GE238.out | refine below_set ?_ GE239.out | refine below_set ?_ GE240.out | refine below_set ?_ GE241.out | refine below_set ?_ GE243.out)) hb)
   have n6_ := Aside0.mk (hbox)
   have n7_ := Aside0.mk ((by rw [hg]; exact (below_size (by repeat (with_reducible first | exact HB.out | apply below_alloc | apply pw_below_drewN | apply below_drew1 | refine below_set ?_ GE238.out | refine below_set ?_ GE239.out | refine below_set ?_ GE240.out | refine below_set ?_ GE241.out | refine below_set ?_ GE243.out))) : w.heap.size ≤ gb242))
   have n8_ := Aside0.mk ((by rw [hg]; exact (below_size (by repeat (with_reducible first | exact HB.out | apply below_alloc | apply pw_below_drewN | apply below_drew1 | refine below_set ?_ GE238.out | refine below_set ?_ GE239.out | refine below_set ?_ GE240.out | refine below_set ?_ GE241.out | refine below_set ?_ GE243.out))) : w.heap.size ≤ gb242))
   have n9_ := Aside0.mk ((by rw [hg]; exact Nat.ne_of_lt (blk_lt (g := gb238) (o := .cells #[.int .i64 a0_0, .int .u64 a0_1] 143 (0, 0)) (by (with_reducible repeat (first | refine blk_drewN ?_ _ | refine blk_drew ?_ | refine blk_alloc ?_ _)); exact BK238.out)) : gb238 ≠ gb242))
   have n10_ := Aside0.mk ((by rw [hg]; exact Nat.ne_of_gt (blk_lt (g := gb238) (o := .cells #[.int .i64 a0_0, .int .u64 a0_1] 143 (0, 0)) (by (with_reducible repeat (first | refine blk_drewN ?_ _ | refine blk_drew ?_ | refine blk_alloc ?_ _)); exact BK238.out)) : gb242 ≠ gb238))
   have n11_ := Aside0.mk ((by rw [hg]; exact Nat.ne_of_lt (blk_lt (g := gb239) (o := .cells #[.int .i64 a1_0, .int .u64 a1_1] 143 (0, 0)) (by (with_reducible repeat (first | refine blk_drewN ?_ _ | refine blk_drew ?_ | refine blk_alloc ?_ _)); exact BK239.out)) : gb239 ≠ gb242))
   have n12_ := Aside0.mk ((by rw [hg]; exact Nat.ne_of_gt (blk_lt (g := gb239) (o := .cells #[.int .i64 a1_0, .int .u64 a1_1] 143 (0, 0)) (by (with_reducible repeat (first | refine blk_drewN ?_ _ | refine blk_drew ?_ | refine blk_alloc ?_ _)); exact BK239.out)) : gb242 ≠ gb239))
   have n13_ := Aside0.mk ((by rw [hg]; exact Nat.ne_of_lt (blk_lt (g := gb240) (o := .cells #[.int .i64 0, .int .u64 0] 143 (0, 0)) (by (with_reducible repeat (first | refine blk_drewN ?_ _ | refine blk_drew ?_ | refine blk_alloc ?_ _)); exact BK240.out)) : gb240 ≠ gb242))
   have n14_ := Aside0.mk ((by rw [hg]; exact Nat.ne_of_gt (blk_lt (g := gb240) (o := .cells #[.int .i64 0, .int .u64 0] 143 (0, 0)) (by (with_reducible repeat (first | refine blk_drewN ?_ _ | refine blk_drew ?_ | refine blk_alloc ?_ _)); exact BK240.out)) : gb242 ≠ gb240))
   have n15_ := Aside0.mk ((by rw [hg]; exact Nat.ne_of_lt (blk_lt (g := gb241) (o := .cells #[.int .i64 0, .int .u64 0] 143 (0, 0)) (by (with_reducible repeat (first | refine blk_drewN ?_ _ | refine blk_drew ?_ | refine blk_alloc ?_ _)); exact BK241.out)) : gb241 ≠ gb242))
   have n16_ := Aside0.mk ((by rw [hg]; exact Nat.ne_of_gt (blk_lt (g := gb241) (o := .cells #[.int .i64 0, .int .u64 0] 143 (0, 0)) (by (with_reducible repeat (first | refine blk_drewN ?_ _ | refine blk_drew ?_ | refine blk_alloc ?_ _)); exact BK241.out)) : gb242 ≠ gb241))
   have n17_ := Aside0.mk ((by rw [hg]; exact Nat.ne_of_lt (blk_lt (g := gb243) (o := .cells #[.int .i64 0, .int .u64 0] 143 (0, 0)) (by (with_reducible repeat (first | refine blk_drewN ?_ _ | refine blk_drew ?_ | refine blk_alloc ?_ _)); exact BK243.out)) : gb243 ≠ gb242))
   have n18_ := Aside0.mk ((by rw [hg]; exact Nat.ne_of_gt (blk_lt (g := gb243) (o := .cells #[.int .i64 0, .int .u64 0] 143 (0, 0)) (by (with_reducible repeat (first | refine blk_drewN ?_ _ | refine blk_drew ?_ | refine blk_alloc ?_ _)); exact BK243.out)) : gb242 ≠ gb243))
   clear BK238
   clear BK239
   clear BK240
   clear BK241
   clear BK243
   clear HB
   have BK238 := n0_
   have BK239 := n1_
   have BK240 := n2_
   have BK241 := n3_
   have BK243 := n4_
   have HB := n5_
   have BK242 := n6_
   have GW242 := n7_
   have GE242 := n8_
   have NB238_242 := n9_
   have NB242_238 := n10_
   have NB239_242 := n11_
   have NB242_239 := n12_
   have NB240_242 := n13_
   have NB242_240 := n14_
   have NB241_242 := n15_
   have NB242_241 := n16_
   have NB243_242 := n17_
   have NB242_243 := n18_
   clear n0_ n1_ n2_ n3_ n4_ n5_ n6_ n7_ n8_ n9_ n10_ n11_ n12_ n13_ n14_ n15_ n16_ n17_ n18_
   clear hb hbox hg
   refine hK.out _ _ ⟨(blk_cell BK238.out 0).trans rfl, (blk_cell BK238.out 1).trans rfl, (blk_cell BK239.out 0).trans rfl, (blk_cell BK239.out 1).trans rfl⟩ (fun hHeld => ?_)
   clear hK K
   refine norm_ (a' := ?_) ?_ ?_
   rotate_left
   ·show Act.put _ (some 6) _ = _
    simp only [Act.put, List.setIfInBounds_toArray, List.set_cons_zero, List.set_cons_succ, i64_w, i32_w]
    rfl
   exact norm_ (by simp only [putAll, Act.put, List.setIfInBounds_toArray, List.set_cons_zero, List.set_cons_succ]) (hCont (gb242, gb243) _ ⟨hHeld, (by (with_reducible repeat (first | refine blk_drewN ?_ _ | refine blk_drew ?_ | refine blk_alloc ?_ _)); exact BK238.out), (by (with_reducible repeat (first | refine blk_drewN ?_ _ | refine blk_drew ?_ | refine blk_alloc ?_ _)); exact BK239.out), (by (with_reducible repeat (first | refine blk_drewN ?_ _ | refine blk_drew ?_ | refine blk_alloc ?_ _)); exact BK240.out), (by (with_reducible repeat (first | refine blk_drewN ?_ _ | refine blk_drew ?_ | refine blk_alloc ?_ _)); exact BK241.out), (by (with_reducible repeat (first | refine blk_drewN ?_ _ | refine blk_drew ?_ | refine blk_alloc ?_ _)); exact BK242.out), (by (with_reducible repeat (first | refine blk_drewN ?_ _ | refine blk_drew ?_ | refine blk_alloc ?_ _)); exact BK243.out), GW242.out, GE242.out, NB238_242.out, NB242_238.out, NB239_242.out, NB242_239.out, NB240_242.out, NB242_240.out, NB241_242.out, NB242_241.out, NB243_242.out, NB242_243.out, GW243.out, GE243.out, NB238_243.out, NB243_238.out, NB239_243.out, NB243_239.out, NB240_243.out, NB243_240.out, NB241_243.out, NB243_241.out, (by repeat (with_reducible first | exact HB.out | apply below_alloc | apply pw_below_drewN | apply below_drew1 | refine below_set ?_ GE238.out | refine below_set ?_ GE239.out | refine below_set ?_ GE240.out | refine below_set ?_ GE241.out | refine below_set ?_ GE243.out | refine below_set ?_ GE242.out))⟩)
 rintro ⟨gb242, gb243⟩ w11 ⟨hS_, h0_, h1_, h2_, h3_, h4_, h5_, h6_, h7_, h8_, h9_, h10_, h11_, h12_, h13_, h14_, h15_, h16_, h17_, h18_, h19_, h20_, h21_, h22_, h23_, h24_, h25_, h26_, h27_, h28_⟩
 have n0_ : Aside0 (w11.heap[gb238]? = some (.cells #[.int .i64 a0_0, .int .u64 a0_1] 143 (0, 0))) := ⟨h0_⟩
 have n1_ : Aside0 (w11.heap[gb239]? = some (.cells #[.int .i64 a1_0, .int .u64 a1_1] 143 (0, 0))) := ⟨h1_⟩
 have n2_ : Aside0 (w11.heap[gb240]? = some (.cells #[.int .i64 0, .int .u64 0] 143 (0, 0))) := ⟨h2_⟩
 have n3_ : Aside0 (w11.heap[gb241]? = some (.cells #[.int .i64 0, .int .u64 0] 143 (0, 0))) := ⟨h3_⟩
 have n4_ : Aside0 (w11.heap[gb242]? = some (.cells #[.int .i64 0, .int .u64 0] 143 (0, 0))) := ⟨h4_⟩
 have n5_ : Aside0 (w11.heap[gb243]? = some (.cells #[.int .i64 0, .int .u64 0] 143 (0, 0))) := ⟨h5_⟩
 have n6_ : Aside0 (w.heap.size ≤ gb242) := ⟨h6_⟩
 have n7_ : Aside0 (w.heap.size ≤ gb242) := ⟨h7_⟩
 have n8_ : Aside0 (gb238 ≠ gb242) := ⟨h8_⟩
 have n9_ : Aside0 (gb242 ≠ gb238) := ⟨h9_⟩
 have n10_ : Aside0 (gb239 ≠ gb242) := ⟨h10_⟩
 have n11_ : Aside0 (gb242 ≠ gb239) := ⟨h11_⟩
 have n12_ : Aside0 (gb240 ≠ gb242) := ⟨h12_⟩
 have n13_ : Aside0 (gb242 ≠ gb240) := ⟨h13_⟩
 have n14_ : Aside0 (gb241 ≠ gb242) := ⟨h14_⟩
 have n15_ : Aside0 (gb242 ≠ gb241) := ⟨h15_⟩
 have n16_ : Aside0 (gb243 ≠ gb242) := ⟨h16_⟩
 have n17_ : Aside0 (gb242 ≠ gb243) := ⟨h17_⟩
 have n18_ : Aside0 (w.heap.size ≤ gb243) := ⟨h18_⟩
 have n19_ : Aside0 (w.heap.size ≤ gb243) := ⟨h19_⟩
 have n20_ : Aside0 (gb238 ≠ gb243) := ⟨h20_⟩
 have n21_ : Aside0 (gb243 ≠ gb238) := ⟨h21_⟩
 have n22_ : Aside0 (gb239 ≠ gb243) := ⟨h22_⟩
 have n23_ : Aside0 (gb243 ≠ gb239) := ⟨h23_⟩
 have n24_ : Aside0 (gb240 ≠ gb243) := ⟨h24_⟩
 have n25_ : Aside0 (gb243 ≠ gb240) := ⟨h25_⟩
 have n26_ : Aside0 (gb241 ≠ gb243) := ⟨h26_⟩
 have n27_ : Aside0 (gb243 ≠ gb241) := ⟨h27_⟩
 have n28_ : Aside0 (Below w.heap.size w w11) := ⟨h28_⟩
 clear BK238
 clear BK239
 clear BK240
 clear BK241
 clear HB
 clear h0_ h1_ h2_ h3_ h4_ h5_ h6_ h7_ h8_ h9_ h10_ h11_ h12_ h13_ h14_ h15_ h16_ h17_ h18_ h19_ h20_ h21_ h22_ h23_ h24_ h25_ h26_ h27_ h28_
 have BK238 := n0_
 have BK239 := n1_
 have BK240 := n2_
 have BK241 := n3_
 have BK242 := n4_
 have BK243 := n5_
 have GW242 := n6_
 have GE242 := n7_
 have NB238_242 := n8_
 have NB242_238 := n9_
 have NB239_242 := n10_
 have NB242_239 := n11_
 have NB240_242 := n12_
 have NB242_240 := n13_
 have NB241_242 := n14_
 have NB242_241 := n15_
 have NB243_242 := n16_
 have NB242_243 := n17_
 have GW243 := n18_
 have GE243 := n19_
 have NB238_243 := n20_
 have NB243_238 := n21_
 have NB239_243 := n22_
 have NB243_239 := n23_
 have NB240_243 := n24_
 have NB243_240 := n25_
 have NB241_243 := n26_
 have NB243_241 := n27_
 have HB := n28_
 clear n0_ n1_ n2_ n3_ n4_ n5_ n6_ n7_ n8_ n9_ n10_ n11_ n12_ n13_ n14_ n15_ n16_ n17_ n18_ n19_ n20_ n21_ n22_ n23_ n24_ n25_ n26_ n27_ n28_
 have hHeld : w11.cell? ⟨gb238, 0, none⟩ = some (.int .i64 a0_0) ∧ w11.cell? ⟨gb238, 1, none⟩ = some (.int .u64 a0_1) ∧ w11.cell? ⟨gb239, 0, none⟩ = some (.int .i64 a1_0) ∧ w11.cell? ⟨gb239, 1, none⟩ = some (.int .u64 a1_1) := hS_
 refine norm_ (a' := ?_) ?_ ?_
 rotate_left
 ·simp only [putAll, Act.put, List.setIfInBounds_toArray, List.set_cons_zero, List.set_cons_succ]
  rfl
 refine one_ (i := 4) (N := none) #[true, true, true, true, true, false] rfl rfl (by kernel_rfl) (by decide) (fun K hK => ?_)
 have hs12 : w11.cell? ⟨gb242, 0, none⟩ = some (.int .i64 0) := (blk_cell BK242.out 0).trans rfl
 have hfs12 := blk_frozen BK242.out 0
 have hns12_0 := NB238_242.out
 have hns12_1 := NB239_242.out
 have hns12_2 := NB240_242.out
 have hns12_3 := NB241_242.out
 have hns12_5 := NB243_242.out
 have hms12_0 := NB242_238.out
 have hms12_1 := NB242_239.out
 have hms12_2 := NB242_240.out
 have hms12_3 := NB242_241.out
 have hms12_5 := NB242_243.out
 have hs13 : w11.cell? ⟨gb242, 1, none⟩ = some (.int .u64 0) := (blk_cell BK242.out 1).trans rfl
 have hfs13 := blk_frozen BK242.out 1
 have hns13_0 := NB238_242.out
 have hns13_1 := NB239_242.out
 have hns13_2 := NB240_242.out
 have hns13_3 := NB241_242.out
 have hns13_5 := NB243_242.out
 have hms13_0 := NB242_238.out
 have hms13_1 := NB242_239.out
 have hms13_2 := NB242_240.out
 have hms13_3 := NB242_241.out
 have hms13_5 := NB242_243.out
 refine skip_ (w1 := ?_) (by rfl) rfl ?_ ?_
 rotate_left
 ·go_simp
  rfl
 refine hK.out _ _ ⟨((cell_far (p := ⟨gb242, _, none⟩) NB238_242.out _).trans (((cell_far (p := ⟨gb242, _, none⟩) NB238_242.out _).trans (hHeld.1)))), ((cell_far (p := ⟨gb242, _, none⟩) NB238_242.out _).trans (((cell_far (p := ⟨gb242, _, none⟩) NB238_242.out _).trans (hHeld.2.1)))), ((cell_far (p := ⟨gb242, _, none⟩) NB239_242.out _).trans (((cell_far (p := ⟨gb242, _, none⟩) NB239_242.out _).trans (hHeld.2.2.1)))), ((cell_far (p := ⟨gb242, _, none⟩) NB239_242.out _).trans (((cell_far (p := ⟨gb242, _, none⟩) NB239_242.out _).trans (hHeld.2.2.2))))⟩ (fun hHeld => ?_)
 clear hK K
 refine one_ (i := 5) (N := none) #[true, true, true, true, true, true] rfl rfl (by kernel_rfl) (by decide) (fun K hK => ?_)
 have hs14 : w11.cell? ⟨gb243, 0, none⟩ = some (.int .i64 0) := (blk_cell BK243.out 0).trans rfl
 have hfs14 := blk_frozen BK243.out 0
 have hns14_0 := NB238_243.out
 have hns14_1 := NB239_243.out
 have hns14_2 := NB240_243.out
 have hns14_3 := NB241_243.out
 have hns14_4 := NB242_243.out
 have hms14_0 := NB243_238.out
 have hms14_1 := NB243_239.out
 have hms14_2 := NB243_240.out
 have hms14_3 := NB243_241.out
 have hms14_4 := NB243_242.out
 have hs15 : w11.cell? ⟨gb243, 1, none⟩ = some (.int .u64 0) := (blk_cell BK243.out 1).trans rfl
 have hfs15 := blk_frozen BK243.out 1
 have hns15_0 := NB238_243.out
 have hns15_1 := NB239_243.out
 have hns15_2 := NB240_243.out
 have hns15_3 := NB241_243.out
 have hns15_4 := NB242_243.out
 have hms15_0 := NB243_238.out
 have hms15_1 := NB243_239.out
 have hms15_2 := NB243_240.out
 have hms15_3 := NB243_241.out
 have hms15_4 := NB243_242.out
 refine skip_ (w1 := ?_) (by rfl) rfl ?_ ?_
 rotate_left
 ·go_simp
  rfl
 refine hK.out _ _ ⟨((cell_far (p := ⟨gb243, _, none⟩) NB238_243.out _).trans (((cell_far (p := ⟨gb243, _, none⟩) NB238_243.out _).trans (hHeld.1)))), ((cell_far (p := ⟨gb243, _, none⟩) NB238_243.out _).trans (((cell_far (p := ⟨gb243, _, none⟩) NB238_243.out _).trans (hHeld.2.1)))), ((cell_far (p := ⟨gb243, _, none⟩) NB239_243.out _).trans (((cell_far (p := ⟨gb243, _, none⟩) NB239_243.out _).trans (hHeld.2.2.1)))), ((cell_far (p := ⟨gb243, _, none⟩) NB239_243.out _).trans (((cell_far (p := ⟨gb243, _, none⟩) NB239_243.out _).trans (hHeld.2.2.2))))⟩ (fun hHeld => ?_)
 clear hK K
 refine done_ (by kernel_rfl) ?_
 have hnb16 := NB238_239.out
 have hnc16 := NB239_238.out
 have hnb17 := NB238_240.out
 have hnc17 := NB240_238.out
 have hnb18 := NB238_241.out
 have hnc18 := NB241_238.out
 have hnb19 := NB238_242.out
 have hnc19 := NB242_238.out
 have hnb20 := NB238_243.out
 have hnc20 := NB243_238.out
 have hcz21_0 : w11.cell? ⟨gb238, 0, none⟩ = some (.int .i64 a0_0) := (blk_cell BK238.out 0).trans rfl
 have hcz21_1 : w11.cell? ⟨gb238, 1, none⟩ = some (.int .u64 a0_1) := (blk_cell BK238.out 1).trans rfl
 have hfz21_0 := blk_frozen BK238.out 0
 have hfz21_1 := blk_frozen BK238.out 1
 go_upto_if 14 with (fail)
 go_cut [] (fun wc => ∃ (kq : Nat) (x243000_2 : Int) (x243001_2 : Int), Aside0 (arith_divided.j0 kq a0_0 a0_1 a1_0 a1_1 x243000_2 x243001_2 a1_0 a1_1 = some (r1, r2, r3, r4)) ∧ Aside0 (kq ≤ k) ∧ Aside0 (wc.heap[gb238]? = some (.cells #[.int .i64 a0_0, .int .u64 a0_1] 143 (0, 0))) ∧ Aside0 (wc.heap[gb239]? = some (.cells #[.int .i64 a1_0, .int .u64 a1_1] 143 (0, 0))) ∧ Aside0 (wc.heap[gb240]? = some (.cells #[.int .i64 0, .int .u64 0] 143 (0, 0))) ∧ Aside0 (wc.heap[gb241]? = some (.cells #[.int .i64 0, .int .u64 0] 143 (0, 0))) ∧ Aside0 (wc.heap[gb242]? = some (.cells #[.int .i64 x243000_2, .int .u64 x243001_2] 143 (0, 0))) ∧ Aside0 (wc.heap[gb243]? = some (.cells #[.int .i64 a1_0, .int .u64 a1_1] 143 (0, 0))) ∧ Aside0 (Below w.heap.size w wc))
 case first =>
  have H := HC3.out
  clear HC3
  by_cases c22 : a0_0 < 0
  ·rw [if_pos c22] at H
   have c22b0 : decide (a0_0 < 0) = true := decide_eq_true c22
   clear c22
   (first | rw [c22b0] | (simp only [i64_w, i32_w]; rw [c22b0]) | skip)
   replace H := Option.bind_eq_some_iff.mp H
   obtain ⟨⟨t244, t245⟩, A230, H⟩ := H
   replace H : (arith_divided.j0 k a0_0 a0_1 a1_0 a1_1 t244 t245 a1_0 a1_1) = some (r1, r2, r3, r4) := H
   have A23 := Aside0.mk A230
   clear A230
   have H' := Aside0.mk H
   clear H
   have hnb24 := NB238_239.out
   have hnc24 := NB239_238.out
   have hnb25 := NB238_240.out
   have hnc25 := NB240_238.out
   have hnb26 := NB238_241.out
   have hnc26 := NB241_238.out
   have hnb27 := NB238_242.out
   have hnc27 := NB242_238.out
   have hnb28 := NB238_243.out
   have hnc28 := NB243_238.out
   have hcz29_0 : w11.cell? ⟨gb238, 0, none⟩ = some (.int .i64 a0_0) := (blk_cell BK238.out 0).trans rfl
   have hcz29_1 : w11.cell? ⟨gb238, 1, none⟩ = some (.int .u64 a0_1) := (blk_cell BK238.out 1).trans rfl
   have hfz29_0 := blk_frozen BK238.out 0
   have hfz29_1 := blk_frozen BK238.out 1
   go_wp2_with (first | ((with_reducible refine gate_callee (f := 84) rfl ?_); refine goesL_ (some 16) rfl rfl Tryd.func84 (by kernel_rfl) rfl #[.agg #[.int .i64 a0_0, .int .u64 a0_1]] rfl (by (try simp only [List.map_toArray, List.map_cons, List.map_nil]); first | done | rfl | (simp only [List.length_drop, List.length_take]; rfl)) ?_; (with_reducible refine (arith_wide_neg.calls a0_0 a0_1 t244 t245 _ A23.out).mono ?_); rintro e w30 ⟨rfl, hb⟩; refine ⟨_, rfl, ?_⟩; have n0_ := Aside0.mk (blk_below (g := gb238) (o := .cells #[.int .i64 a0_0, .int .u64 a0_1] 143 (0, 0)) (by (with_reducible repeat (first | refine blk_drewN ?_ _ | refine blk_drew ?_ | refine blk_alloc ?_ _)); refine blk_far ?_ NB238_243.out _; (with_reducible repeat (first | refine blk_drewN ?_ _ | refine blk_drew ?_ | refine blk_alloc ?_ _)); refine blk_far ?_ NB238_243.out _; (with_reducible repeat (first | refine blk_drewN ?_ _ | refine blk_drew ?_ | refine blk_alloc ?_ _)); refine blk_far ?_ NB238_242.out _; (with_reducible repeat (first | refine blk_drewN ?_ _ | refine blk_drew ?_ | refine blk_alloc ?_ _)); refine blk_far ?_ NB238_242.out _; (with_reducible repeat (first | refine blk_drewN ?_ _ | refine blk_drew ?_ | refine blk_alloc ?_ _)); exact BK238.out) hb); have n1_ := Aside0.mk (blk_below (g := gb239) (o := .cells #[.int .i64 a1_0, .int .u64 a1_1] 143 (0, 0)) (by (with_reducible repeat (first | refine blk_drewN ?_ _ | refine blk_drew ?_ | refine blk_alloc ?_ _)); refine blk_far ?_ NB239_243.out _; (with_reducible repeat (first | refine blk_drewN ?_ _ | refine blk_drew ?_ | refine blk_alloc ?_ _)); refine blk_far ?_ NB239_243.out _; (with_reducible repeat (first | refine blk_drewN ?_ _ | refine blk_drew ?_ | refine blk_alloc ?_ _)); refine blk_far ?_ NB239_242.out _; (with_reducible repeat (first | refine blk_drewN ?_ _ | refine blk_drew ?_ | refine blk_alloc ?_ _)); refine blk_far ?_ NB239_242.out _; (with_reducible repeat (first | refine blk_drewN ?_ _ | refine blk_drew ?_ | refine blk_alloc ?_ _)); exact BK239.out) hb); have n2_ := Aside0.mk (blk_below (g := gb240) (o := .cells #[.int .i64 0, .int .u64 0] 143 (0, 0)) (by (with_reducible repeat (first | refine blk_drewN ?_ _ | refine blk_drew ?_ | refine blk_alloc ?_ _)); refine blk_far ?_ NB240_243.out _; (with_reducible repeat (first | refine blk_drewN ?_ _ | refine blk_drew ?_ | refine blk_alloc ?_ _)); refine blk_far ?_ NB240_243.out _; (with_reducible repeat (first | refine blk_drewN ?_ _ | refine blk_drew ?_ | refine blk_alloc ?_ _)); refine blk_far ?_ NB240_242.out _; (with_reducible repeat (first | refine blk_drewN ?_ _ | refine blk_drew ?_ | refine blk_alloc ?_ _)); refine blk_far ?_ NB240_242.out _; (with_reducible repeat (first | refine blk_drewN ?_ _ | refine blk_drew ?_ | refine blk_alloc ?_ _)); exact BK240.out) hb); have n3_ := Aside0.mk (blk_below (g := gb241) (o := .cells #[.int .i64 0, .int .u64 0] 143 (0, 0)) (by (with_reducible repeat (first | refine blk_drewN ?_ _ | refine blk_drew ?_ | refine blk_alloc ?_ _)); refine blk_far ?_ NB241_243.out _; (with_reducible repeat (first | refine blk_drewN ?_ _ | refine blk_drew ?_ | refine blk_alloc ?_ _)); refine blk_far ?_ NB241_243.out _; (with_reducible repeat (first | refine blk_drewN ?_ _ | refine blk_drew ?_ | refine blk_alloc ?_ _)); refine blk_far ?_ NB241_242.out _; (with_reducible repeat (first | refine blk_drewN ?_ _ | refine blk_drew ?_ | refine blk_alloc ?_ _)); refine blk_far ?_ NB241_242.out _; (with_reducible repeat (first | refine blk_drewN ?_ _ | refine blk_drew ?_ | refine blk_alloc ?_ _)); exact BK241.out) hb); have n4_ := Aside0.mk (blk_below (g := gb242) (o := .cells #[.int .i64 a0_0, .int .u64 a0_1] 143 (0, 0)) (by (with_reducible repeat (first | refine blk_drewN ?_ _ | refine blk_drew ?_ | refine blk_alloc ?_ _)); refine blk_far ?_ NB242_243.out _; (with_reducible repeat (first | refine blk_drewN ?_ _ | refine blk_drew ?_ | refine blk_alloc ?_ _)); refine blk_far ?_ NB242_243.out _; (with_reducible repeat (first | refine blk_drewN ?_ _ | refine blk_drew ?_ | refine blk_alloc ?_ _)); refine blk_put (cs := #[.int .i64 a0_0, .int .u64 0]) ?_ 1 _ rfl; (with_reducible repeat (first | refine blk_drewN ?_ _ | refine blk_drew ?_ | refine blk_alloc ?_ _)); refine blk_put (cs := #[.int .i64 0, .int .u64 0]) ?_ 0 _ rfl; (with_reducible repeat (first | refine blk_drewN ?_ _ | refine blk_drew ?_ | refine blk_alloc ?_ _)); exact BK242.out) hb); have n5_ := Aside0.mk (blk_below (g := gb243) (o := .cells #[.int .i64 a1_0, .int .u64 a1_1] 143 (0, 0)) (by (with_reducible repeat (first | refine blk_drewN ?_ _ | refine blk_drew ?_ | refine blk_alloc ?_ _)); refine blk_put (cs := #[.int .i64 a1_0, .int .u64 0]) ?_ 1 _ rfl; (with_reducible repeat (first | refine blk_drewN ?_ _ | refine blk_drew ?_ | refine blk_alloc ?_ _)); refine blk_put (cs := #[.int .i64 0, .int .u64 0]) ?_ 0 _ rfl; (with_reducible repeat (first | refine blk_drewN ?_ _ | refine blk_drew ?_ | refine blk_alloc ?_ _)); refine blk_far ?_ NB243_242.out _; (with_reducible repeat (first | refine blk_drewN ?_ _ | refine blk_drew ?_ | refine blk_alloc ?_ _)); refine blk_far ?_ NB243_242.out _; (with_reducible repeat (first | refine blk_drewN ?_ _ | refine blk_drew ?_ | refine blk_alloc ?_ _)); exact BK243.out) hb); have n6_ := Aside0.mk (below_step (by repeat (with_reducible first | exact HB.out | apply below_alloc | apply pw_below_drewN | apply below_drew1 | refine below_set ?_ GE238.out | refine below_set ?_ GE239.out | refine below_set ?_ GE240.out | refine below_set ?_ GE241.out | refine below_set ?_ GE242.out | refine below_set ?_ GE243.out)) hb); clear BK238; clear BK239; clear BK240; clear BK241; clear BK242; clear BK243; clear HB; have BK238 := n0_; have BK239 := n1_; have BK240 := n2_; have BK241 := n3_; have BK242 := n4_; have BK243 := n5_; have HB := n6_; clear n0_ n1_ n2_ n3_ n4_ n5_ n6_; (try clear hb); (try clear hb2); (try clear hk); (try clear hi); have hnb31 := NB242_239.out; have hnc31 := NB239_242.out; have hnb32 := NB242_240.out; have hnc32 := NB240_242.out; have hnb33 := NB242_241.out; have hnc33 := NB241_242.out; have hnb34 := NB242_243.out; have hnc34 := NB243_242.out; have hcz35_0 : w30.cell? ⟨gb242, 0, none⟩ = some (.int .i64 a0_0) := (blk_cell BK242.out 0).trans rfl; have hcz35_1 : w30.cell? ⟨gb242, 1, none⟩ = some (.int .u64 a0_1) := (blk_cell BK242.out 1).trans rfl; have hfz35_0 := blk_frozen BK242.out 0; have hfz35_1 := blk_frozen BK242.out 1))
   go_meet
   case rel => exact ⟨_, (t244), (t245), H', ⟨by first | omega | exact Nat.le_refl _⟩, ⟨by (with_reducible repeat (first | refine blk_drewN ?_ _ | refine blk_drew ?_ | refine blk_alloc ?_ _)); refine blk_far ?_ NB238_242.out _; (with_reducible repeat (first | refine blk_drewN ?_ _ | refine blk_drew ?_ | refine blk_alloc ?_ _)); refine blk_far ?_ NB238_242.out _; (with_reducible repeat (first | refine blk_drewN ?_ _ | refine blk_drew ?_ | refine blk_alloc ?_ _)); exact BK238.out⟩, ⟨by (with_reducible repeat (first | refine blk_drewN ?_ _ | refine blk_drew ?_ | refine blk_alloc ?_ _)); refine blk_far ?_ NB239_242.out _; (with_reducible repeat (first | refine blk_drewN ?_ _ | refine blk_drew ?_ | refine blk_alloc ?_ _)); refine blk_far ?_ NB239_242.out _; (with_reducible repeat (first | refine blk_drewN ?_ _ | refine blk_drew ?_ | refine blk_alloc ?_ _)); exact BK239.out⟩, ⟨by (with_reducible repeat (first | refine blk_drewN ?_ _ | refine blk_drew ?_ | refine blk_alloc ?_ _)); refine blk_far ?_ NB240_242.out _; (with_reducible repeat (first | refine blk_drewN ?_ _ | refine blk_drew ?_ | refine blk_alloc ?_ _)); refine blk_far ?_ NB240_242.out _; (with_reducible repeat (first | refine blk_drewN ?_ _ | refine blk_drew ?_ | refine blk_alloc ?_ _)); exact BK240.out⟩, ⟨by (with_reducible repeat (first | refine blk_drewN ?_ _ | refine blk_drew ?_ | refine blk_alloc ?_ _)); refine blk_far ?_ NB241_242.out _; (with_reducible repeat (first | refine blk_drewN ?_ _ | refine blk_drew ?_ | refine blk_alloc ?_ _)); refine blk_far ?_ NB241_242.out _; (with_reducible repeat (first | refine blk_drewN ?_ _ | refine blk_drew ?_ | refine blk_alloc ?_ _)); exact BK241.out⟩, ⟨by (with_reducible repeat (first | refine blk_drewN ?_ _ | refine blk_drew ?_ | refine blk_alloc ?_ _)); refine blk_put (cs := #[.int .i64 t244, .int .u64 a0_1]) ?_ 1 _ rfl; (with_reducible repeat (first | refine blk_drewN ?_ _ | refine blk_drew ?_ | refine blk_alloc ?_ _)); refine blk_put (cs := #[.int .i64 a0_0, .int .u64 a0_1]) ?_ 0 _ rfl; (with_reducible repeat (first | refine blk_drewN ?_ _ | refine blk_drew ?_ | refine blk_alloc ?_ _)); exact BK242.out⟩, ⟨by (with_reducible repeat (first | refine blk_drewN ?_ _ | refine blk_drew ?_ | refine blk_alloc ?_ _)); refine blk_far ?_ NB243_242.out _; (with_reducible repeat (first | refine blk_drewN ?_ _ | refine blk_drew ?_ | refine blk_alloc ?_ _)); refine blk_far ?_ NB243_242.out _; (with_reducible repeat (first | refine blk_drewN ?_ _ | refine blk_drew ?_ | refine blk_alloc ?_ _)); exact BK243.out⟩, ⟨by repeat (with_reducible first | exact HB.out | apply below_alloc | apply pw_below_drewN | apply below_drew1 | refine below_set ?_ GE238.out | refine below_set ?_ GE239.out | refine below_set ?_ GE240.out | refine below_set ?_ GE241.out | refine below_set ?_ GE242.out | refine below_set ?_ GE243.out)⟩⟩
  ·rw [if_neg c22] at H
   have c22b0 : decide (a0_0 < 0) = false := decide_eq_false c22
   clear c22
   (first | rw [c22b0] | (simp only [i64_w, i32_w]; rw [c22b0]) | skip)
   have H' := Aside0.mk H
   clear H
   go_wp2
   go_meet
   case rel => exact ⟨_, (a0_0), (a0_1), H', ⟨by first | omega | exact Nat.le_refl _⟩, ⟨by (with_reducible repeat (first | refine blk_drewN ?_ _ | refine blk_drew ?_ | refine blk_alloc ?_ _)); refine blk_far ?_ NB238_243.out _; (with_reducible repeat (first | refine blk_drewN ?_ _ | refine blk_drew ?_ | refine blk_alloc ?_ _)); refine blk_far ?_ NB238_243.out _; (with_reducible repeat (first | refine blk_drewN ?_ _ | refine blk_drew ?_ | refine blk_alloc ?_ _)); refine blk_far ?_ NB238_242.out _; (with_reducible repeat (first | refine blk_drewN ?_ _ | refine blk_drew ?_ | refine blk_alloc ?_ _)); refine blk_far ?_ NB238_242.out _; (with_reducible repeat (first | refine blk_drewN ?_ _ | refine blk_drew ?_ | refine blk_alloc ?_ _)); exact BK238.out⟩, ⟨by (with_reducible repeat (first | refine blk_drewN ?_ _ | refine blk_drew ?_ | refine blk_alloc ?_ _)); refine blk_far ?_ NB239_243.out _; (with_reducible repeat (first | refine blk_drewN ?_ _ | refine blk_drew ?_ | refine blk_alloc ?_ _)); refine blk_far ?_ NB239_243.out _; (with_reducible repeat (first | refine blk_drewN ?_ _ | refine blk_drew ?_ | refine blk_alloc ?_ _)); refine blk_far ?_ NB239_242.out _; (with_reducible repeat (first | refine blk_drewN ?_ _ | refine blk_drew ?_ | refine blk_alloc ?_ _)); refine blk_far ?_ NB239_242.out _; (with_reducible repeat (first | refine blk_drewN ?_ _ | refine blk_drew ?_ | refine blk_alloc ?_ _)); exact BK239.out⟩, ⟨by (with_reducible repeat (first | refine blk_drewN ?_ _ | refine blk_drew ?_ | refine blk_alloc ?_ _)); refine blk_far ?_ NB240_243.out _; (with_reducible repeat (first | refine blk_drewN ?_ _ | refine blk_drew ?_ | refine blk_alloc ?_ _)); refine blk_far ?_ NB240_243.out _; (with_reducible repeat (first | refine blk_drewN ?_ _ | refine blk_drew ?_ | refine blk_alloc ?_ _)); refine blk_far ?_ NB240_242.out _; (with_reducible repeat (first | refine blk_drewN ?_ _ | refine blk_drew ?_ | refine blk_alloc ?_ _)); refine blk_far ?_ NB240_242.out _; (with_reducible repeat (first | refine blk_drewN ?_ _ | refine blk_drew ?_ | refine blk_alloc ?_ _)); exact BK240.out⟩, ⟨by (with_reducible repeat (first | refine blk_drewN ?_ _ | refine blk_drew ?_ | refine blk_alloc ?_ _)); refine blk_far ?_ NB241_243.out _; (with_reducible repeat (first | refine blk_drewN ?_ _ | refine blk_drew ?_ | refine blk_alloc ?_ _)); refine blk_far ?_ NB241_243.out _; (with_reducible repeat (first | refine blk_drewN ?_ _ | refine blk_drew ?_ | refine blk_alloc ?_ _)); refine blk_far ?_ NB241_242.out _; (with_reducible repeat (first | refine blk_drewN ?_ _ | refine blk_drew ?_ | refine blk_alloc ?_ _)); refine blk_far ?_ NB241_242.out _; (with_reducible repeat (first | refine blk_drewN ?_ _ | refine blk_drew ?_ | refine blk_alloc ?_ _)); exact BK241.out⟩, ⟨by (with_reducible repeat (first | refine blk_drewN ?_ _ | refine blk_drew ?_ | refine blk_alloc ?_ _)); refine blk_far ?_ NB242_243.out _; (with_reducible repeat (first | refine blk_drewN ?_ _ | refine blk_drew ?_ | refine blk_alloc ?_ _)); refine blk_far ?_ NB242_243.out _; (with_reducible repeat (first | refine blk_drewN ?_ _ | refine blk_drew ?_ | refine blk_alloc ?_ _)); refine blk_put (cs := #[.int .i64 a0_0, .int .u64 0]) ?_ 1 _ rfl; (with_reducible repeat (first | refine blk_drewN ?_ _ | refine blk_drew ?_ | refine blk_alloc ?_ _)); refine blk_put (cs := #[.int .i64 0, .int .u64 0]) ?_ 0 _ rfl; (with_reducible repeat (first | refine blk_drewN ?_ _ | refine blk_drew ?_ | refine blk_alloc ?_ _)); exact BK242.out⟩, ⟨by (with_reducible repeat (first | refine blk_drewN ?_ _ | refine blk_drew ?_ | refine blk_alloc ?_ _)); refine blk_put (cs := #[.int .i64 a1_0, .int .u64 0]) ?_ 1 _ rfl; (with_reducible repeat (first | refine blk_drewN ?_ _ | refine blk_drew ?_ | refine blk_alloc ?_ _)); refine blk_put (cs := #[.int .i64 0, .int .u64 0]) ?_ 0 _ rfl; (with_reducible repeat (first | refine blk_drewN ?_ _ | refine blk_drew ?_ | refine blk_alloc ?_ _)); refine blk_far ?_ NB243_242.out _; (with_reducible repeat (first | refine blk_drewN ?_ _ | refine blk_drew ?_ | refine blk_alloc ?_ _)); refine blk_far ?_ NB243_242.out _; (with_reducible repeat (first | refine blk_drewN ?_ _ | refine blk_drew ?_ | refine blk_alloc ?_ _)); exact BK243.out⟩, ⟨by repeat (with_reducible first | exact HB.out | apply below_alloc | apply pw_below_drewN | apply below_drew1 | refine below_set ?_ GE238.out | refine below_set ?_ GE239.out | refine below_set ?_ GE240.out | refine below_set ?_ GE241.out | refine below_set ?_ GE242.out | refine below_set ?_ GE243.out)⟩⟩
 case rest =>
  clear HC3
  try clear c1
  try clear c2
  try clear p2
  try clear c3
  try clear c8
  try clear c16
  try clear c17
  try clear c18
  try clear c19
  try clear c20
  try clear c22
  try clear c22b0
  try clear c24
  try clear c25
  try clear c26
  try clear c27
  try clear c28
  try clear c31
  try clear c32
  try clear c33
  try clear c34
  try clear hcz21_0
  try clear hcz21_1
  try clear hcz29_0
  try clear hcz29_1
  try clear hcz35_0
  try clear hcz35_1
  try clear hfz21_0
  try clear hfz21_1
  try clear hfz29_0
  try clear hfz29_1
  try clear hfz35_0
  try clear hfz35_1
  obtain ⟨kq, x243000_2, x243001_2, HA, HJ2, BK238, BK239, BK240, BK241, BK242, BK243, HB⟩ := hcut
  cases kq with
  | zero => exact absurd HA.out (by simp [arith_divided.j0])
  | succ kj2 =>
   have H := HA.out
   clear HA
   simp only [arith_divided.j0] at H
   have HC36 := Aside0.mk H
   clear H
   have hnb37 := NB239_238.out
   have hnc37 := NB238_239.out
   have hnb38 := NB239_240.out
   have hnc38 := NB240_239.out
   have hnb39 := NB239_241.out
   have hnc39 := NB241_239.out
   have hnb40 := NB239_242.out
   have hnc40 := NB242_239.out
   have hnb41 := NB239_243.out
   have hnc41 := NB243_239.out
   have hcz42_0 : wc.cell? ⟨gb239, 0, none⟩ = some (.int .i64 a1_0) := (blk_cell BK239.out 0).trans rfl
   have hcz42_1 : wc.cell? ⟨gb239, 1, none⟩ = some (.int .u64 a1_1) := (blk_cell BK239.out 1).trans rfl
   have hfz42_0 := blk_frozen BK239.out 0
   have hfz42_1 := blk_frozen BK239.out 1
   go_upto_if 19 with (fail)
   go_cut [] (fun wc => ∃ (kq : Nat) (x244000_35 : Int) (x244001_35 : Int), Aside0 (arith_divided.j1 kq a0_0 a0_1 a1_0 a1_1 x243000_2 x243001_2 x244000_35 x244001_35 = some (r1, r2, r3, r4)) ∧ Aside0 (kq ≤ kj2) ∧ Aside0 (wc.heap[gb238]? = some (.cells #[.int .i64 a0_0, .int .u64 a0_1] 143 (0, 0))) ∧ Aside0 (wc.heap[gb239]? = some (.cells #[.int .i64 a1_0, .int .u64 a1_1] 143 (0, 0))) ∧ Aside0 (wc.heap[gb240]? = some (.cells #[.int .i64 0, .int .u64 0] 143 (0, 0))) ∧ Aside0 (wc.heap[gb241]? = some (.cells #[.int .i64 0, .int .u64 0] 143 (0, 0))) ∧ Aside0 (wc.heap[gb242]? = some (.cells #[.int .i64 x243000_2, .int .u64 x243001_2] 143 (0, 0))) ∧ Aside0 (wc.heap[gb243]? = some (.cells #[.int .i64 x244000_35, .int .u64 x244001_35] 143 (0, 0))) ∧ Aside0 (Below w.heap.size w wc))
   case first =>
    have H := HC36.out
    clear HC36
    by_cases c43 : a1_0 < 0
    ·rw [if_pos c43] at H
     have c43b0 : decide (a1_0 < 0) = true := decide_eq_true c43
     clear c43
     (first | rw [c43b0] | (simp only [i64_w, i32_w]; rw [c43b0]) | skip)
     replace H := Option.bind_eq_some_iff.mp H
     obtain ⟨⟨t246, t247⟩, A440, H⟩ := H
     replace H : (arith_divided.j1 kj2 a0_0 a0_1 a1_0 a1_1 x243000_2 x243001_2 t246 t247) = some (r1, r2, r3, r4) := H
     have A44 := Aside0.mk A440
     clear A440
     have H' := Aside0.mk H
     clear H
     have hnb45 := NB239_238.out
     have hnc45 := NB238_239.out
     have hnb46 := NB239_240.out
     have hnc46 := NB240_239.out
     have hnb47 := NB239_241.out
     have hnc47 := NB241_239.out
     have hnb48 := NB239_242.out
     have hnc48 := NB242_239.out
     have hnb49 := NB239_243.out
     have hnc49 := NB243_239.out
     have hcz50_0 : wc.cell? ⟨gb239, 0, none⟩ = some (.int .i64 a1_0) := (blk_cell BK239.out 0).trans rfl
     have hcz50_1 : wc.cell? ⟨gb239, 1, none⟩ = some (.int .u64 a1_1) := (blk_cell BK239.out 1).trans rfl
     have hfz50_0 := blk_frozen BK239.out 0
     have hfz50_1 := blk_frozen BK239.out 1
     go_wp2_with (first | ((with_reducible refine gate_callee (f := 84) rfl ?_); refine goesL_ (some 21) rfl rfl Tryd.func84 (by kernel_rfl) rfl #[.agg #[.int .i64 a1_0, .int .u64 a1_1]] rfl (by (try simp only [List.map_toArray, List.map_cons, List.map_nil]); first | done | rfl | (simp only [List.length_drop, List.length_take]; rfl)) ?_; (with_reducible refine (arith_wide_neg.calls a1_0 a1_1 t246 t247 _ A44.out).mono ?_); rintro e w51 ⟨rfl, hb⟩; refine ⟨_, rfl, ?_⟩; have n0_ := Aside0.mk (blk_below (g := gb238) (o := .cells #[.int .i64 a0_0, .int .u64 a0_1] 143 (0, 0)) (by (with_reducible repeat (first | refine blk_drewN ?_ _ | refine blk_drew ?_ | refine blk_alloc ?_ _)); exact BK238.out) hb); have n1_ := Aside0.mk (blk_below (g := gb239) (o := .cells #[.int .i64 a1_0, .int .u64 a1_1] 143 (0, 0)) (by (with_reducible repeat (first | refine blk_drewN ?_ _ | refine blk_drew ?_ | refine blk_alloc ?_ _)); exact BK239.out) hb); have n2_ := Aside0.mk (blk_below (g := gb240) (o := .cells #[.int .i64 0, .int .u64 0] 143 (0, 0)) (by (with_reducible repeat (first | refine blk_drewN ?_ _ | refine blk_drew ?_ | refine blk_alloc ?_ _)); exact BK240.out) hb); have n3_ := Aside0.mk (blk_below (g := gb241) (o := .cells #[.int .i64 0, .int .u64 0] 143 (0, 0)) (by (with_reducible repeat (first | refine blk_drewN ?_ _ | refine blk_drew ?_ | refine blk_alloc ?_ _)); exact BK241.out) hb); have n4_ := Aside0.mk (blk_below (g := gb242) (o := .cells #[.int .i64 x243000_2, .int .u64 x243001_2] 143 (0, 0)) (by (with_reducible repeat (first | refine blk_drewN ?_ _ | refine blk_drew ?_ | refine blk_alloc ?_ _)); exact BK242.out) hb); have n5_ := Aside0.mk (blk_below (g := gb243) (o := .cells #[.int .i64 a1_0, .int .u64 a1_1] 143 (0, 0)) (by (with_reducible repeat (first | refine blk_drewN ?_ _ | refine blk_drew ?_ | refine blk_alloc ?_ _)); exact BK243.out) hb); have n6_ := Aside0.mk (below_step (by repeat (with_reducible first | exact HB.out | apply below_alloc | apply pw_below_drewN | apply below_drew1 | refine below_set ?_ GE238.out | refine below_set ?_ GE239.out | refine below_set ?_ GE240.out | refine below_set ?_ GE241.out | refine below_set ?_ GE242.out | refine below_set ?_ GE243.out)) hb); clear BK238; clear BK239; clear BK240; clear BK241; clear BK242; clear BK243; clear HB; have BK238 := n0_; have BK239 := n1_; have BK240 := n2_; have BK241 := n3_; have BK242 := n4_; have BK243 := n5_; have HB := n6_; clear n0_ n1_ n2_ n3_ n4_ n5_ n6_; (try clear hb); (try clear hb2); (try clear hk); (try clear hi); have hnb52 := NB243_238.out; have hnc52 := NB238_243.out; have hnb53 := NB243_240.out; have hnc53 := NB240_243.out; have hnb54 := NB243_241.out; have hnc54 := NB241_243.out; have hnb55 := NB243_242.out; have hnc55 := NB242_243.out; have hcz56_0 : w51.cell? ⟨gb243, 0, none⟩ = some (.int .i64 a1_0) := (blk_cell BK243.out 0).trans rfl; have hcz56_1 : w51.cell? ⟨gb243, 1, none⟩ = some (.int .u64 a1_1) := (blk_cell BK243.out 1).trans rfl; have hfz56_0 := blk_frozen BK243.out 0; have hfz56_1 := blk_frozen BK243.out 1))
     go_meet
     case rel => exact ⟨_, (t246), (t247), H', ⟨by have := HJ2.out; first | omega | exact Nat.le_refl _⟩, ⟨by (with_reducible repeat (first | refine blk_drewN ?_ _ | refine blk_drew ?_ | refine blk_alloc ?_ _)); refine blk_far ?_ NB238_243.out _; (with_reducible repeat (first | refine blk_drewN ?_ _ | refine blk_drew ?_ | refine blk_alloc ?_ _)); refine blk_far ?_ NB238_243.out _; (with_reducible repeat (first | refine blk_drewN ?_ _ | refine blk_drew ?_ | refine blk_alloc ?_ _)); exact BK238.out⟩, ⟨by (with_reducible repeat (first | refine blk_drewN ?_ _ | refine blk_drew ?_ | refine blk_alloc ?_ _)); refine blk_far ?_ NB239_243.out _; (with_reducible repeat (first | refine blk_drewN ?_ _ | refine blk_drew ?_ | refine blk_alloc ?_ _)); refine blk_far ?_ NB239_243.out _; (with_reducible repeat (first | refine blk_drewN ?_ _ | refine blk_drew ?_ | refine blk_alloc ?_ _)); exact BK239.out⟩, ⟨by (with_reducible repeat (first | refine blk_drewN ?_ _ | refine blk_drew ?_ | refine blk_alloc ?_ _)); refine blk_far ?_ NB240_243.out _; (with_reducible repeat (first | refine blk_drewN ?_ _ | refine blk_drew ?_ | refine blk_alloc ?_ _)); refine blk_far ?_ NB240_243.out _; (with_reducible repeat (first | refine blk_drewN ?_ _ | refine blk_drew ?_ | refine blk_alloc ?_ _)); exact BK240.out⟩, ⟨by (with_reducible repeat (first | refine blk_drewN ?_ _ | refine blk_drew ?_ | refine blk_alloc ?_ _)); refine blk_far ?_ NB241_243.out _; (with_reducible repeat (first | refine blk_drewN ?_ _ | refine blk_drew ?_ | refine blk_alloc ?_ _)); refine blk_far ?_ NB241_243.out _; (with_reducible repeat (first | refine blk_drewN ?_ _ | refine blk_drew ?_ | refine blk_alloc ?_ _)); exact BK241.out⟩, ⟨by (with_reducible repeat (first | refine blk_drewN ?_ _ | refine blk_drew ?_ | refine blk_alloc ?_ _)); refine blk_far ?_ NB242_243.out _; (with_reducible repeat (first | refine blk_drewN ?_ _ | refine blk_drew ?_ | refine blk_alloc ?_ _)); refine blk_far ?_ NB242_243.out _; (with_reducible repeat (first | refine blk_drewN ?_ _ | refine blk_drew ?_ | refine blk_alloc ?_ _)); exact BK242.out⟩, ⟨by (with_reducible repeat (first | refine blk_drewN ?_ _ | refine blk_drew ?_ | refine blk_alloc ?_ _)); refine blk_put (cs := #[.int .i64 t246, .int .u64 a1_1]) ?_ 1 _ rfl; (with_reducible repeat (first | refine blk_drewN ?_ _ | refine blk_drew ?_ | refine blk_alloc ?_ _)); refine blk_put (cs := #[.int .i64 a1_0, .int .u64 a1_1]) ?_ 0 _ rfl; (with_reducible repeat (first | refine blk_drewN ?_ _ | refine blk_drew ?_ | refine blk_alloc ?_ _)); exact BK243.out⟩, ⟨by repeat (with_reducible first | exact HB.out | apply below_alloc | apply pw_below_drewN | apply below_drew1 | refine below_set ?_ GE238.out | refine below_set ?_ GE239.out | refine below_set ?_ GE240.out | refine below_set ?_ GE241.out | refine below_set ?_ GE242.out | refine below_set ?_ GE243.out)⟩⟩
    ·rw [if_neg c43] at H
     have c43b0 : decide (a1_0 < 0) = false := decide_eq_false c43
     clear c43
     (first | rw [c43b0] | (simp only [i64_w, i32_w]; rw [c43b0]) | skip)
     have H' := Aside0.mk H
     clear H
     go_wp2
     go_meet
     case rel => exact ⟨_, (a1_0), (a1_1), H', ⟨by have := HJ2.out; first | omega | exact Nat.le_refl _⟩, ⟨by (with_reducible repeat (first | refine blk_drewN ?_ _ | refine blk_drew ?_ | refine blk_alloc ?_ _)); exact BK238.out⟩, ⟨by (with_reducible repeat (first | refine blk_drewN ?_ _ | refine blk_drew ?_ | refine blk_alloc ?_ _)); exact BK239.out⟩, ⟨by (with_reducible repeat (first | refine blk_drewN ?_ _ | refine blk_drew ?_ | refine blk_alloc ?_ _)); exact BK240.out⟩, ⟨by (with_reducible repeat (first | refine blk_drewN ?_ _ | refine blk_drew ?_ | refine blk_alloc ?_ _)); exact BK241.out⟩, ⟨by (with_reducible repeat (first | refine blk_drewN ?_ _ | refine blk_drew ?_ | refine blk_alloc ?_ _)); exact BK242.out⟩, ⟨by (with_reducible repeat (first | refine blk_drewN ?_ _ | refine blk_drew ?_ | refine blk_alloc ?_ _)); exact BK243.out⟩, ⟨by repeat (with_reducible first | exact HB.out | apply below_alloc | apply pw_below_drewN | apply below_drew1 | refine below_set ?_ GE238.out | refine below_set ?_ GE239.out | refine below_set ?_ GE240.out | refine below_set ?_ GE241.out | refine below_set ?_ GE242.out | refine below_set ?_ GE243.out)⟩⟩
   case rest =>
    clear HC36
    try clear c1
    try clear c2
    try clear p2
    try clear c3
    try clear c4
    try clear c5
    try clear c8
    try clear c16
    try clear c17
    try clear c18
    try clear c19
    try clear c20
    try clear c22
    try clear c22b0
    try clear c24
    try clear c25
    try clear c26
    try clear c27
    try clear c28
    try clear c31
    try clear c32
    try clear c33
    try clear c34
    try clear c37
    try clear c38
    try clear c39
    try clear c40
    try clear c41
    try clear c43
    try clear c43b0
    try clear c45
    try clear c46
    try clear c47
    try clear c48
    try clear c49
    try clear c52
    try clear c53
    try clear c54
    try clear c55
    try clear hcz21_0
    try clear hcz21_1
    try clear hcz29_0
    try clear hcz29_1
    try clear hcz35_0
    try clear hcz35_1
    try clear hcz42_0
    try clear hcz42_1
    try clear hcz50_0
    try clear hcz50_1
    try clear hcz56_0
    try clear hcz56_1
    try clear hfz21_0
    try clear hfz21_1
    try clear hfz29_0
    try clear hfz29_1
    try clear hfz35_0
    try clear hfz35_1
    try clear hfz42_0
    try clear hfz42_1
    try clear hfz50_0
    try clear hfz50_1
    try clear hfz56_0
    try clear hfz56_1
    try clear p2
    obtain ⟨kq, x244000_35, x244001_35, HA, HJ35, BK238, BK239, BK240, BK241, BK242, BK243, HB⟩ := hcut
    cases kq with
    | zero => exact absurd HA.out (by simp [arith_divided.j1])
    | succ kj35 =>
     have H := HA.out
     clear HA
     simp only [arith_divided.j1] at H
     by_cases c57 : x244001_35 = 0
     ·rw [if_pos c57] at H
      exact absurd H (by simp)
     ·rw [if_neg c57] at H
      have c57b0 : (x244001_35 == 0) = false := beq_eq_false_iff_ne.mpr c57
      have c57b1 : (x244001_35 != 0) = true := bne_iff_ne.mpr c57
      have HC58 := Aside0.mk H
      clear H
      try go_wp2
      have n0_ := Aside0.mk (blk_drew BK238.out)
      have n1_ := Aside0.mk (blk_drew BK239.out)
      have n2_ := Aside0.mk (blk_drew BK240.out)
      have n3_ := Aside0.mk (blk_drew BK241.out)
      have n4_ := Aside0.mk (blk_drew BK242.out)
      have n5_ := Aside0.mk (blk_drew BK243.out)
      have n6_ := Aside0.mk (below_drew1 HB.out)
      clear BK238
      clear BK239
      clear BK240
      clear BK241
      clear BK242
      clear BK243
      clear HB
      have BK238 := n0_
      have BK239 := n1_
      have BK240 := n2_
      have BK241 := n3_
      have BK242 := n4_
      have BK243 := n5_
      have HB := n6_
      clear n0_ n1_ n2_ n3_ n4_ n5_ n6_
      refine start_ (n := 16) (S := fun w' => w'.cell? ⟨gb242, 0, none⟩ = some (.int .i64 x243000_2) ∧ w'.cell? ⟨gb242, 1, none⟩ = some (.int .u64 x243001_2) ∧ w'.cell? ⟨gb243, 0, none⟩ = some (.int .i64 x244000_35) ∧ w'.cell? ⟨gb243, 1, none⟩ = some (.int .u64 x244001_35)) (ds := []) #[false, false, false, false, false, false, false, false, false, false, false, false, false, false, false, false] (by kernel_rfl) rfl rfl ⟨(blk_cell BK242.out 0).trans rfl, (blk_cell BK242.out 1).trans rfl, (blk_cell BK243.out 0).trans rfl, (blk_cell BK243.out 1).trans rfl⟩ (fun hHeld => ?_); refine with_tabW arith_divided.tab6 arith_divided.bits6 (fun HT_ HW_ => ?_)
      generalize wc.drew = w59 at BK238 BK239 BK240 BK241 BK242 BK243 HB hHeld ⊢
      refine pure_ (i := 0) (N := some 22) (v := ?_) (a' := ?_) #[true, false, false, false, false, false, false, false, false, false, false, false, false, false, false, false] rfl rfl (any_of HT_.out (by kernel_rfl)) (fun _ _ _ h => h) (Or.inl ⟨by rfl, ?_⟩) ?_ ?_
      rotate_left
      ·intro w'
       go_simp
       with_reducible rfl
      rotate_left
      ·simp only [Act.put, List.setIfInBounds_toArray, List.set_cons_zero, List.set_cons_succ, i64_w, i32_w]
       rfl
      refine pure_ (i := 2) (N := some 24) (v := ?_) (a' := ?_) #[true, false, true, false, false, false, false, false, false, false, false, false, false, false, false, false] rfl rfl (any_of HT_.out (by kernel_rfl)) (fun _ _ _ h => h) (Or.inl ⟨by rfl, ?_⟩) ?_ ?_
      rotate_left
      ·intro w'
       go_simp
       with_reducible rfl
      rotate_left
      ·simp only [Act.put, List.setIfInBounds_toArray, List.set_cons_zero, List.set_cons_succ, i64_w, i32_w]
       rfl
      refine pure_ (i := 6) (N := some 28) (v := ?_) (a' := ?_) #[true, false, true, false, false, false, true, false, false, false, false, false, false, false, false, false] rfl rfl (any_of HT_.out (by kernel_rfl)) (fun _ _ _ h => h) (Or.inl ⟨by rfl, ?_⟩) ?_ ?_
      rotate_left
      ·intro w'
       go_simp
       with_reducible rfl
      rotate_left
      ·simp only [Act.put, List.setIfInBounds_toArray, List.set_cons_zero, List.set_cons_succ, i64_w, i32_w]
       rfl
      refine pure_ (i := 8) (N := some 30) (v := ?_) (a' := ?_) #[true, false, true, false, false, false, true, false, true, false, false, false, false, false, false, false] rfl rfl (any_of HT_.out (by kernel_rfl)) (fun _ _ _ h => h) (Or.inl ⟨by rfl, ?_⟩) ?_ ?_
      rotate_left
      ·intro w'
       go_simp
       with_reducible rfl
      rotate_left
      ·simp only [Act.put, List.setIfInBounds_toArray, List.set_cons_zero, List.set_cons_succ, i64_w, i32_w]
       rfl
      refine take_ (i := 1) (N := some 23) (v := ?_) (a' := ?_) #[true, true, true, false, false, false, true, false, true, false, false, false, false, false, false, false] rfl rfl (take_ofW HT_.out HW_.out (by kernel_rfl)) (fun _ _ _ h => h) (Or.inl ⟨by rfl, ?_⟩) hHeld ?_ ?_
      rotate_left
      ·rintro w' ⟨s0, s1, s2, s3⟩
       go_simp
       with_reducible rfl
      rotate_left
      ·simp only [Act.put, List.setIfInBounds_toArray, List.set_cons_zero, List.set_cons_succ, i64_w, i32_w]
       rfl
      refine take_ (i := 3) (N := some 25) (v := ?_) (a' := ?_) #[true, true, true, true, false, false, true, false, true, false, false, false, false, false, false, false] rfl rfl (take_ofW HT_.out HW_.out (by kernel_rfl)) (fun _ _ _ h => h) (Or.inl ⟨by rfl, ?_⟩) hHeld ?_ ?_
      rotate_left
      ·rintro w' ⟨s0, s1, s2, s3⟩
       go_simp
       with_reducible rfl
      rotate_left
      ·simp only [Act.put, List.setIfInBounds_toArray, List.set_cons_zero, List.set_cons_succ, i64_w, i32_w]
       rfl
      refine pure_ (i := 4) (N := some 26) (v := ?_) (a' := ?_) #[true, true, true, true, true, false, true, false, true, false, false, false, false, false, false, false] rfl rfl (any_of HT_.out (by kernel_rfl)) (fun _ _ _ h => h) (Or.inl ⟨by rfl, ?_⟩) ?_ ?_
      rotate_left
      ·intro w'
       go_simp
       with_reducible rfl
      rotate_left
      ·simp only [Act.put, List.setIfInBounds_toArray, List.set_cons_zero, List.set_cons_succ, i64_w, i32_w]
       rfl
      refine pure_ (i := 5) (N := some 27) (v := ?_) (a' := ?_) #[true, true, true, true, true, true, true, false, true, false, false, false, false, false, false, false] rfl rfl (any_of HT_.out (by kernel_rfl)) (fun _ _ _ h => h) (Or.inl ⟨by rfl, ?_⟩) ?_ ?_
      rotate_left
      ·intro w'
       go_simp
       with_reducible rfl
      rotate_left
      ·simp only [Act.put, List.setIfInBounds_toArray, List.set_cons_zero, List.set_cons_succ, i64_w, i32_w]
       rfl
      refine take_ (i := 7) (N := some 29) (v := ?_) (a' := ?_) #[true, true, true, true, true, true, true, true, true, false, false, false, false, false, false, false] rfl rfl (take_ofW HT_.out HW_.out (by kernel_rfl)) (fun _ _ _ h => h) (Or.inl ⟨by rfl, ?_⟩) hHeld ?_ ?_
      rotate_left
      ·rintro w' ⟨s0, s1, s2, s3⟩
       go_simp
       with_reducible rfl
      rotate_left
      ·simp only [Act.put, List.setIfInBounds_toArray, List.set_cons_zero, List.set_cons_succ, i64_w, i32_w]
       rfl
      refine take_ (i := 9) (N := some 31) (v := ?_) (a' := ?_) #[true, true, true, true, true, true, true, true, true, true, false, false, false, false, false, false] rfl rfl (take_ofW HT_.out HW_.out (by kernel_rfl)) (fun _ _ _ h => h) (Or.inl ⟨by rfl, ?_⟩) hHeld ?_ ?_
      rotate_left
      ·rintro w' ⟨s0, s1, s2, s3⟩
       go_simp
       with_reducible rfl
      rotate_left
      ·simp only [Act.put, List.setIfInBounds_toArray, List.set_cons_zero, List.set_cons_succ, i64_w, i32_w]
       rfl
      refine pure_ (i := 10) (N := some 32) (v := ?_) (a' := ?_) #[true, true, true, true, true, true, true, true, true, true, true, false, false, false, false, false] rfl rfl (any_of HT_.out (by kernel_rfl)) (fun _ _ _ h => h) (Or.inl ⟨by rfl, ?_⟩) ?_ ?_
      rotate_left
      ·intro w'
       go_simp
       with_reducible rfl
      rotate_left
      ·simp only [Act.put, List.setIfInBounds_toArray, List.set_cons_zero, List.set_cons_succ, i64_w, i32_w]
       rfl
      refine pure_ (i := 11) (N := some 33) (v := ?_) (a' := ?_) #[true, true, true, true, true, true, true, true, true, true, true, true, false, false, false, false] rfl rfl (any_of HT_.out (by kernel_rfl)) (fun _ _ _ h => h) (Or.inl ⟨by rfl, ?_⟩) ?_ ?_
      rotate_left
      ·intro w'
       go_simp
       with_reducible rfl
      rotate_left
      ·simp only [Act.put, List.setIfInBounds_toArray, List.set_cons_zero, List.set_cons_succ, i64_w, i32_w]
       rfl
      refine join_ (σ := Nat × Nat) 2 #[true, true, true, true, true, true, true, true, true, true, true, true, true, true, false, false] (fun s_ => [(8, .pointer (some ⟨s_.1, 0, none⟩)), (9, .pointer (some ⟨s_.2, 0, none⟩))]) (fun s_ w' => (w'.cell? ⟨gb242, 0, none⟩ = some (.int .i64 x243000_2) ∧ w'.cell? ⟨gb242, 1, none⟩ = some (.int .u64 x243001_2) ∧ w'.cell? ⟨gb243, 0, none⟩ = some (.int .i64 x244000_35) ∧ w'.cell? ⟨gb243, 1, none⟩ = some (.int .u64 x244001_35)) ∧ (w'.heap[gb238]? = some (.cells #[.int .i64 a0_0, .int .u64 a0_1] 143 (0, 0))) ∧ (w'.heap[gb239]? = some (.cells #[.int .i64 a1_0, .int .u64 a1_1] 143 (0, 0))) ∧ (w'.heap[gb240]? = some (.cells #[.int .i64 0, .int .u64 0] 143 (0, 0))) ∧ (w'.heap[gb241]? = some (.cells #[.int .i64 0, .int .u64 0] 143 (0, 0))) ∧ (w'.heap[gb242]? = some (.cells #[.int .i64 x243000_2, .int .u64 x243001_2] 143 (0, 0))) ∧ (w'.heap[gb243]? = some (.cells #[.int .i64 x244000_35, .int .u64 x244001_35] 143 (0, 0))) ∧ (w'.heap[s_.1]? = some (.cells #[.int .i64 0, .int .u64 0] 143 (0, 0))) ∧ (w'.heap[s_.2]? = some (.cells #[.int .i64 0, .int .u64 0] 143 (0, 0))) ∧ (w.heap.size ≤ s_.1) ∧ (w.heap.size ≤ s_.1) ∧ (gb238 ≠ s_.1) ∧ (s_.1 ≠ gb238) ∧ (gb239 ≠ s_.1) ∧ (s_.1 ≠ gb239) ∧ (gb240 ≠ s_.1) ∧ (s_.1 ≠ gb240) ∧ (gb241 ≠ s_.1) ∧ (s_.1 ≠ gb241) ∧ (gb242 ≠ s_.1) ∧ (s_.1 ≠ gb242) ∧ (gb243 ≠ s_.1) ∧ (s_.1 ≠ gb243) ∧ (s_.2 ≠ s_.1) ∧ (s_.1 ≠ s_.2) ∧ (w.heap.size ≤ s_.2) ∧ (w.heap.size ≤ s_.2) ∧ (gb238 ≠ s_.2) ∧ (s_.2 ≠ gb238) ∧ (gb239 ≠ s_.2) ∧ (s_.2 ≠ gb239) ∧ (gb240 ≠ s_.2) ∧ (s_.2 ≠ gb240) ∧ (gb241 ≠ s_.2) ∧ (s_.2 ≠ gb241) ∧ (gb242 ≠ s_.2) ∧ (s_.2 ≠ gb242) ∧ (gb243 ≠ s_.2) ∧ (s_.2 ≠ gb243) ∧ (Below w.heap.size w w')) ?_ ?_
      rotate_left
      ·intro hCont
       refine two_ (i := 12) (j := 13) (Ni := some 8) (Nj := some 9) #[true, true, true, true, true, true, true, true, true, true, true, true, true, false, false, false] #[true, true, true, true, true, true, true, true, true, true, true, true, false, true, false, false] rfl rfl rfl rfl (two_of HT_.out (by kernel_rfl)) (by decide) (by decide) (fun K hK => ?_) (fun K hK => ?_)
       ·skip
        refine box_step ?hg (N := 8) ?hd (cs := #[.int .i64 0, .int .u64 0]) (t := 143) ?hr ?_; (case hd => rfl); (case hg => rfl); (case hr => first | (go_simp; done) | (go_simp; rfl))
        intro gb248 hg w60 hbox hb
        have n0_ := Aside0.mk (blk_below (g := gb238) (o := .cells #[.int .i64 a0_0, .int .u64 a0_1] 143 (0, 0)) (by (with_reducible repeat (first | refine blk_drewN ?_ _ | refine blk_drew ?_ | refine blk_alloc ?_ _)); exact BK238.out) hb)
        have n1_ := Aside0.mk (blk_below (g := gb239) (o := .cells #[.int .i64 a1_0, .int .u64 a1_1] 143 (0, 0)) (by (with_reducible repeat (first | refine blk_drewN ?_ _ | refine blk_drew ?_ | refine blk_alloc ?_ _)); exact BK239.out) hb)
        have n2_ := Aside0.mk (blk_below (g := gb240) (o := .cells #[.int .i64 0, .int .u64 0] 143 (0, 0)) (by (with_reducible repeat (first | refine blk_drewN ?_ _ | refine blk_drew ?_ | refine blk_alloc ?_ _)); exact BK240.out) hb)
        have n3_ := Aside0.mk (blk_below (g := gb241) (o := .cells #[.int .i64 0, .int .u64 0] 143 (0, 0)) (by (with_reducible repeat (first | refine blk_drewN ?_ _ | refine blk_drew ?_ | refine blk_alloc ?_ _)); exact BK241.out) hb)
        have n4_ := Aside0.mk (blk_below (g := gb242) (o := .cells #[.int .i64 x243000_2, .int .u64 x243001_2] 143 (0, 0)) (by (with_reducible repeat (first | refine blk_drewN ?_ _ | refine blk_drew ?_ | refine blk_alloc ?_ _)); exact BK242.out) hb)
        have n5_ := Aside0.mk (blk_below (g := gb243) (o := .cells #[.int .i64 x244000_35, .int .u64 x244001_35] 143 (0, 0)) (by (with_reducible repeat (first | refine blk_drewN ?_ _ | refine blk_drew ?_ | refine blk_alloc ?_ _)); exact BK243.out) hb)
        have n6_ := Aside0.mk (below_step (by repeat (with_reducible first | exact HB.out | apply below_alloc | apply pw_below_drewN | apply below_drew1 | refine below_set ?_ GE238.out | refine below_set ?_ GE239.out | refine below_set ?_ GE240.out | refine below_set ?_ GE241.out | refine below_set ?_ GE242.out | refine below_set ?_ GE243.out)) hb)
        have n7_ := Aside0.mk (hbox)
        have n8_ := Aside0.mk ((by rw [hg]; exact (below_size (by repeat (with_reducible first | exact HB.out | apply below_alloc | apply pw_below_drewN | apply below_drew1 | refine below_set ?_ GE238.out | refine below_set ?_ GE239.out | refine below_set ?_ GE240.out | refine below_set ?_ GE241.out | refine below_set ?_ GE242.out | refine below_set ?_ GE243.out))) : w.heap.size ≤ gb248))
        have n9_ := Aside0.mk ((by rw [hg]; exact (below_size (by repeat (with_reducible first | exact HB.out | apply below_alloc | apply pw_below_drewN | apply below_drew1 | refine below_set ?_ GE238.out | refine below_set ?_ GE239.out | refine below_set ?_ GE240.out | refine below_set ?_ GE241.out | refine below_set ?_ GE242.out | refine below_set ?_ GE243.out))) : w.heap.size ≤ gb248))
        have n10_ := Aside0.mk ((by rw [hg]; exact Nat.ne_of_lt (blk_lt (g := gb238) (o := .cells #[.int .i64 a0_0, .int .u64 a0_1] 143 (0, 0)) (by (with_reducible repeat (first | refine blk_drewN ?_ _ | refine blk_drew ?_ | refine blk_alloc ?_ _)); exact BK238.out)) : gb238 ≠ gb248))
        have n11_ := Aside0.mk ((by rw [hg]; exact Nat.ne_of_gt (blk_lt (g := gb238) (o := .cells #[.int .i64 a0_0, .int .u64 a0_1] 143 (0, 0)) (by (with_reducible repeat (first | refine blk_drewN ?_ _ | refine blk_drew ?_ | refine blk_alloc ?_ _)); exact BK238.out)) : gb248 ≠ gb238))
        have n12_ := Aside0.mk ((by rw [hg]; exact Nat.ne_of_lt (blk_lt (g := gb239) (o := .cells #[.int .i64 a1_0, .int .u64 a1_1] 143 (0, 0)) (by (with_reducible repeat (first | refine blk_drewN ?_ _ | refine blk_drew ?_ | refine blk_alloc ?_ _)); exact BK239.out)) : gb239 ≠ gb248))
        have n13_ := Aside0.mk ((by rw [hg]; exact Nat.ne_of_gt (blk_lt (g := gb239) (o := .cells #[.int .i64 a1_0, .int .u64 a1_1] 143 (0, 0)) (by (with_reducible repeat (first | refine blk_drewN ?_ _ | refine blk_drew ?_ | refine blk_alloc ?_ _)); exact BK239.out)) : gb248 ≠ gb239))
        have n14_ := Aside0.mk ((by rw [hg]; exact Nat.ne_of_lt (blk_lt (g := gb240) (o := .cells #[.int .i64 0, .int .u64 0] 143 (0, 0)) (by (with_reducible repeat (first | refine blk_drewN ?_ _ | refine blk_drew ?_ | refine blk_alloc ?_ _)); exact BK240.out)) : gb240 ≠ gb248))
        have n15_ := Aside0.mk ((by rw [hg]; exact Nat.ne_of_gt (blk_lt (g := gb240) (o := .cells #[.int .i64 0, .int .u64 0] 143 (0, 0)) (by (with_reducible repeat (first | refine blk_drewN ?_ _ | refine blk_drew ?_ | refine blk_alloc ?_ _)); exact BK240.out)) : gb248 ≠ gb240))
        have n16_ := Aside0.mk ((by rw [hg]; exact Nat.ne_of_lt (blk_lt (g := gb241) (o := .cells #[.int .i64 0, .int .u64 0] 143 (0, 0)) (by (with_reducible repeat (first | refine blk_drewN ?_ _ | refine blk_drew ?_ | refine blk_alloc ?_ _)); exact BK241.out)) : gb241 ≠ gb248))
        have n17_ := Aside0.mk ((by rw [hg]; exact Nat.ne_of_gt (blk_lt (g := gb241) (o := .cells #[.int .i64 0, .int .u64 0] 143 (0, 0)) (by (with_reducible repeat (first | refine blk_drewN ?_ _ | refine blk_drew ?_ | refine blk_alloc ?_ _)); exact BK241.out)) : gb248 ≠ gb241))
        have n18_ := Aside0.mk ((by rw [hg]; exact Nat.ne_of_lt (blk_lt (g := gb242) (o := .cells #[.int .i64 x243000_2, .int .u64 x243001_2] 143 (0, 0)) (by (with_reducible repeat (first | refine blk_drewN ?_ _ | refine blk_drew ?_ | refine blk_alloc ?_ _)); exact BK242.out)) : gb242 ≠ gb248))
        have n19_ := Aside0.mk ((by rw [hg]; exact Nat.ne_of_gt (blk_lt (g := gb242) (o := .cells #[.int .i64 x243000_2, .int .u64 x243001_2] 143 (0, 0)) (by (with_reducible repeat (first | refine blk_drewN ?_ _ | refine blk_drew ?_ | refine blk_alloc ?_ _)); exact BK242.out)) : gb248 ≠ gb242))
        have n20_ := Aside0.mk ((by rw [hg]; exact Nat.ne_of_lt (blk_lt (g := gb243) (o := .cells #[.int .i64 x244000_35, .int .u64 x244001_35] 143 (0, 0)) (by (with_reducible repeat (first | refine blk_drewN ?_ _ | refine blk_drew ?_ | refine blk_alloc ?_ _)); exact BK243.out)) : gb243 ≠ gb248))
        have n21_ := Aside0.mk ((by rw [hg]; exact Nat.ne_of_gt (blk_lt (g := gb243) (o := .cells #[.int .i64 x244000_35, .int .u64 x244001_35] 143 (0, 0)) (by (with_reducible repeat (first | refine blk_drewN ?_ _ | refine blk_drew ?_ | refine blk_alloc ?_ _)); exact BK243.out)) : gb248 ≠ gb243))
        clear BK238
        clear BK239
        clear BK240
        clear BK241
        clear BK242
        clear BK243
        clear HB
        have BK238 := n0_
        have BK239 := n1_
        have BK240 := n2_
        have BK241 := n3_
        have BK242 := n4_
        have BK243 := n5_
        have HB := n6_
        have BK248 := n7_
        have GW248 := n8_
        have GE248 := n9_
        have NB238_248 := n10_
        have NB248_238 := n11_
        have NB239_248 := n12_
        have NB248_239 := n13_
        have NB240_248 := n14_
        have NB248_240 := n15_
        have NB241_248 := n16_
        have NB248_241 := n17_
        have NB242_248 := n18_
        have NB248_242 := n19_
        have NB243_248 := n20_
        have NB248_243 := n21_
        clear n0_ n1_ n2_ n3_ n4_ n5_ n6_ n7_ n8_ n9_ n10_ n11_ n12_ n13_ n14_ n15_ n16_ n17_ n18_ n19_ n20_ n21_
        clear hb hbox hg
        refine hK.out _ _ ⟨(blk_cell BK242.out 0).trans rfl, (blk_cell BK242.out 1).trans rfl, (blk_cell BK243.out 0).trans rfl, (blk_cell BK243.out 1).trans rfl⟩ (fun hHeld => ?_)
        clear hK K
        refine norm_ (a' := ?_) ?_ ?_
        rotate_left
        ·show Act.put _ (some 8) _ = _
         simp only [Act.put, List.setIfInBounds_toArray, List.set_cons_zero, List.set_cons_succ, i64_w, i32_w]
         rfl
        refine one_ (i := 13) (N := some 9) #[true, true, true, true, true, true, true, true, true, true, true, true, true, true, false, false] rfl rfl (one_of HT_.out (by kernel_rfl)) (by decide) (fun K hK => ?_)
        refine box_step ?hg (N := 9) ?hd (cs := #[.int .i64 0, .int .u64 0]) (t := 143) ?hr ?_; (case hd => rfl); (case hg => rfl); (case hr => first | (go_simp; done) | (go_simp; rfl))
        intro gb249 hg w61 hbox hb
        have n0_ := Aside0.mk (blk_below (g := gb238) (o := .cells #[.int .i64 a0_0, .int .u64 a0_1] 143 (0, 0)) (by (with_reducible repeat (first | refine blk_drewN ?_ _ | refine blk_drew ?_ | refine blk_alloc ?_ _)); exact BK238.out) hb)
        have n1_ := Aside0.mk (blk_below (g := gb239) (o := .cells #[.int .i64 a1_0, .int .u64 a1_1] 143 (0, 0)) (by (with_reducible repeat (first | refine blk_drewN ?_ _ | refine blk_drew ?_ | refine blk_alloc ?_ _)); exact BK239.out) hb)
        have n2_ := Aside0.mk (blk_below (g := gb240) (o := .cells #[.int .i64 0, .int .u64 0] 143 (0, 0)) (by (with_reducible repeat (first | refine blk_drewN ?_ _ | refine blk_drew ?_ | refine blk_alloc ?_ _)); exact BK240.out) hb)
        have n3_ := Aside0.mk (blk_below (g := gb241) (o := .cells #[.int .i64 0, .int .u64 0] 143 (0, 0)) (by (with_reducible repeat (first | refine blk_drewN ?_ _ | refine blk_drew ?_ | refine blk_alloc ?_ _)); exact BK241.out) hb)
        have n4_ := Aside0.mk (blk_below (g := gb242) (o := .cells #[.int .i64 x243000_2, .int .u64 x243001_2] 143 (0, 0)) (by (with_reducible repeat (first | refine blk_drewN ?_ _ | refine blk_drew ?_ | refine blk_alloc ?_ _)); exact BK242.out) hb)
        have n5_ := Aside0.mk (blk_below (g := gb243) (o := .cells #[.int .i64 x244000_35, .int .u64 x244001_35] 143 (0, 0)) (by (with_reducible repeat (first | refine blk_drewN ?_ _ | refine blk_drew ?_ | refine blk_alloc ?_ _)); exact BK243.out) hb)
        have n6_ := Aside0.mk (blk_below (g := gb248) (o := .cells #[.int .i64 0, .int .u64 0] 143 (0, 0)) (by (with_reducible repeat (first | refine blk_drewN ?_ _ | refine blk_drew ?_ | refine blk_alloc ?_ _)); exact BK248.out) hb)
        have n7_ := Aside0.mk (below_step (by repeat (with_reducible first | exact HB.out | apply below_alloc | apply pw_below_drewN | apply below_drew1 | refine below_set ?_ GE238.out | refine below_set ?_ GE239.out | refine below_set ?_ GE240.out | refine below_set ?_ GE241.out | refine below_set ?_ GE242.out | refine below_set ?_ GE243.out | refine below_set ?_ GE248.out)) hb)
        have n8_ := Aside0.mk (hbox)
        have n9_ := Aside0.mk ((by rw [hg]; exact (below_size (by repeat (with_reducible first | exact HB.out | apply below_alloc | apply pw_below_drewN | apply below_drew1 | refine below_set ?_ GE238.out | refine below_set ?_ GE239.out | refine below_set ?_ GE240.out | refine below_set ?_ GE241.out | refine below_set ?_ GE242.out | refine below_set ?_ GE243.out | refine below_set ?_ GE248.out))) : w.heap.size ≤ gb249))
        have n10_ := Aside0.mk ((by rw [hg]; exact (below_size (by repeat (with_reducible first | exact HB.out | apply below_alloc | apply pw_below_drewN | apply below_drew1 | refine below_set ?_ GE238.out | refine below_set ?_ GE239.out | refine below_set ?_ GE240.out | refine below_set ?_ GE241.out | refine below_set ?_ GE242.out | refine below_set ?_ GE243.out | refine below_set ?_ GE248.out))) : w.heap.size ≤ gb249))
        have n11_ := Aside0.mk ((by rw [hg]; exact Nat.ne_of_lt (blk_lt (g := gb238) (o := .cells #[.int .i64 a0_0, .int .u64 a0_1] 143 (0, 0)) (by (with_reducible repeat (first | refine blk_drewN ?_ _ | refine blk_drew ?_ | refine blk_alloc ?_ _)); exact BK238.out)) : gb238 ≠ gb249))
        have n12_ := Aside0.mk ((by rw [hg]; exact Nat.ne_of_gt (blk_lt (g := gb238) (o := .cells #[.int .i64 a0_0, .int .u64 a0_1] 143 (0, 0)) (by (with_reducible repeat (first | refine blk_drewN ?_ _ | refine blk_drew ?_ | refine blk_alloc ?_ _)); exact BK238.out)) : gb249 ≠ gb238))
        have n13_ := Aside0.mk ((by rw [hg]; exact Nat.ne_of_lt (blk_lt (g := gb239) (o := .cells #[.int .i64 a1_0, .int .u64 a1_1] 143 (0, 0)) (by (with_reducible repeat (first | refine blk_drewN ?_ _ | refine blk_drew ?_ | refine blk_alloc ?_ _)); exact BK239.out)) : gb239 ≠ gb249))
        have n14_ := Aside0.mk ((by rw [hg]; exact Nat.ne_of_gt (blk_lt (g := gb239) (o := .cells #[.int .i64 a1_0, .int .u64 a1_1] 143 (0, 0)) (by (with_reducible repeat (first | refine blk_drewN ?_ _ | refine blk_drew ?_ | refine blk_alloc ?_ _)); exact BK239.out)) : gb249 ≠ gb239))
        have n15_ := Aside0.mk ((by rw [hg]; exact Nat.ne_of_lt (blk_lt (g := gb240) (o := .cells #[.int .i64 0, .int .u64 0] 143 (0, 0)) (by (with_reducible repeat (first | refine blk_drewN ?_ _ | refine blk_drew ?_ | refine blk_alloc ?_ _)); exact BK240.out)) : gb240 ≠ gb249))
        have n16_ := Aside0.mk ((by rw [hg]; exact Nat.ne_of_gt (blk_lt (g := gb240) (o := .cells #[.int .i64 0, .int .u64 0] 143 (0, 0)) (by (with_reducible repeat (first | refine blk_drewN ?_ _ | refine blk_drew ?_ | refine blk_alloc ?_ _)); exact BK240.out)) : gb249 ≠ gb240))
        have n17_ := Aside0.mk ((by rw [hg]; exact Nat.ne_of_lt (blk_lt (g := gb241) (o := .cells #[.int .i64 0, .int .u64 0] 143 (0, 0)) (by (with_reducible repeat (first | refine blk_drewN ?_ _ | refine blk_drew ?_ | refine blk_alloc ?_ _)); exact BK241.out)) : gb241 ≠ gb249))
        have n18_ := Aside0.mk ((by rw [hg]; exact Nat.ne_of_gt (blk_lt (g := gb241) (o := .cells #[.int .i64 0, .int .u64 0] 143 (0, 0)) (by (with_reducible repeat (first | refine blk_drewN ?_ _ | refine blk_drew ?_ | refine blk_alloc ?_ _)); exact BK241.out)) : gb249 ≠ gb241))
        have n19_ := Aside0.mk ((by rw [hg]; exact Nat.ne_of_lt (blk_lt (g := gb242) (o := .cells #[.int .i64 x243000_2, .int .u64 x243001_2] 143 (0, 0)) (by (with_reducible repeat (first | refine blk_drewN ?_ _ | refine blk_drew ?_ | refine blk_alloc ?_ _)); exact BK242.out)) : gb242 ≠ gb249))
        have n20_ := Aside0.mk ((by rw [hg]; exact Nat.ne_of_gt (blk_lt (g := gb242) (o := .cells #[.int .i64 x243000_2, .int .u64 x243001_2] 143 (0, 0)) (by (with_reducible repeat (first | refine blk_drewN ?_ _ | refine blk_drew ?_ | refine blk_alloc ?_ _)); exact BK242.out)) : gb249 ≠ gb242))
        have n21_ := Aside0.mk ((by rw [hg]; exact Nat.ne_of_lt (blk_lt (g := gb243) (o := .cells #[.int .i64 x244000_35, .int .u64 x244001_35] 143 (0, 0)) (by (with_reducible repeat (first | refine blk_drewN ?_ _ | refine blk_drew ?_ | refine blk_alloc ?_ _)); exact BK243.out)) : gb243 ≠ gb249))
        have n22_ := Aside0.mk ((by rw [hg]; exact Nat.ne_of_gt (blk_lt (g := gb243) (o := .cells #[.int .i64 x244000_35, .int .u64 x244001_35] 143 (0, 0)) (by (with_reducible repeat (first | refine blk_drewN ?_ _ | refine blk_drew ?_ | refine blk_alloc ?_ _)); exact BK243.out)) : gb249 ≠ gb243))
        have n23_ := Aside0.mk ((by rw [hg]; exact Nat.ne_of_lt (blk_lt (g := gb248) (o := .cells #[.int .i64 0, .int .u64 0] 143 (0, 0)) (by (with_reducible repeat (first | refine blk_drewN ?_ _ | refine blk_drew ?_ | refine blk_alloc ?_ _)); exact BK248.out)) : gb248 ≠ gb249))
        have n24_ := Aside0.mk ((by rw [hg]; exact Nat.ne_of_gt (blk_lt (g := gb248) (o := .cells #[.int .i64 0, .int .u64 0] 143 (0, 0)) (by (with_reducible repeat (first | refine blk_drewN ?_ _ | refine blk_drew ?_ | refine blk_alloc ?_ _)); exact BK248.out)) : gb249 ≠ gb248))
        clear BK238
        clear BK239
        clear BK240
        clear BK241
        clear BK242
        clear BK243
        clear BK248
        clear HB
        have BK238 := n0_
        have BK239 := n1_
        have BK240 := n2_
        have BK241 := n3_
        have BK242 := n4_
        have BK243 := n5_
        have BK248 := n6_
        have HB := n7_
        have BK249 := n8_
        have GW249 := n9_
        have GE249 := n10_
        have NB238_249 := n11_
        have NB249_238 := n12_
        have NB239_249 := n13_
        have NB249_239 := n14_
        have NB240_249 := n15_
        have NB249_240 := n16_
        have NB241_249 := n17_
        have NB249_241 := n18_
        have NB242_249 := n19_
        have NB249_242 := n20_
        have NB243_249 := n21_
        have NB249_243 := n22_
        have NB248_249 := n23_
        have NB249_248 := n24_
        clear n0_ n1_ n2_ n3_ n4_ n5_ n6_ n7_ n8_ n9_ n10_ n11_ n12_ n13_ n14_ n15_ n16_ n17_ n18_ n19_ n20_ n21_ n22_ n23_ n24_
        clear hb hbox hg
        refine hK.out _ _ ⟨(blk_cell BK242.out 0).trans rfl, (blk_cell BK242.out 1).trans rfl, (blk_cell BK243.out 0).trans rfl, (blk_cell BK243.out 1).trans rfl⟩ (fun hHeld => ?_)
        clear hK K
        refine norm_ (a' := ?_) ?_ ?_
        rotate_left
        ·show Act.put _ (some 9) _ = _
         simp only [Act.put, List.setIfInBounds_toArray, List.set_cons_zero, List.set_cons_succ, i64_w, i32_w]
         rfl
        exact norm_ (by simp only [putAll, Act.put, List.setIfInBounds_toArray, List.set_cons_zero, List.set_cons_succ]) (hCont (gb248, gb249) _ ⟨hHeld, (by (with_reducible repeat (first | refine blk_drewN ?_ _ | refine blk_drew ?_ | refine blk_alloc ?_ _)); exact BK238.out), (by (with_reducible repeat (first | refine blk_drewN ?_ _ | refine blk_drew ?_ | refine blk_alloc ?_ _)); exact BK239.out), (by (with_reducible repeat (first | refine blk_drewN ?_ _ | refine blk_drew ?_ | refine blk_alloc ?_ _)); exact BK240.out), (by (with_reducible repeat (first | refine blk_drewN ?_ _ | refine blk_drew ?_ | refine blk_alloc ?_ _)); exact BK241.out), (by (with_reducible repeat (first | refine blk_drewN ?_ _ | refine blk_drew ?_ | refine blk_alloc ?_ _)); exact BK242.out), (by (with_reducible repeat (first | refine blk_drewN ?_ _ | refine blk_drew ?_ | refine blk_alloc ?_ _)); exact BK243.out), (by (with_reducible repeat (first | refine blk_drewN ?_ _ | refine blk_drew ?_ | refine blk_alloc ?_ _)); exact BK248.out), (by (with_reducible repeat (first | refine blk_drewN ?_ _ | refine blk_drew ?_ | refine blk_alloc ?_ _)); exact BK249.out), GW248.out, GE248.out, NB238_248.out, NB248_238.out, NB239_248.out, NB248_239.out, NB240_248.out, NB248_240.out, NB241_248.out, NB248_241.out, NB242_248.out, NB248_242.out, NB243_248.out, NB248_243.out, NB249_248.out, NB248_249.out, GW249.out, GE249.out, NB238_249.out, NB249_238.out, NB239_249.out, NB249_239.out, NB240_249.out, NB249_240.out, NB241_249.out, NB249_241.out, NB242_249.out, NB249_242.out, NB243_249.out, NB249_243.out, (by repeat (with_reducible first | exact HB.out | apply below_alloc | apply pw_below_drewN | apply below_drew1 | refine below_set ?_ GE238.out | refine below_set ?_ GE239.out | refine below_set ?_ GE240.out | refine below_set ?_ GE241.out | refine below_set ?_ GE242.out | refine below_set ?_ GE243.out | refine below_set ?_ GE248.out | refine below_set ?_ GE249.out))⟩)
       ·skip
        refine box_step ?hg (N := 9) ?hd (cs := #[.int .i64 0, .int .u64 0]) (t := 143) ?hr ?_; (case hd => rfl); (case hg => rfl); (case hr => first | (go_simp; done) | (go_simp; rfl))
        intro gb249 hg w60 hbox hb
        have n0_ := Aside0.mk (blk_below (g := gb238) (o := .cells #[.int .i64 a0_0, .int .u64 a0_1] 143 (0, 0)) (by (with_reducible repeat (first | refine blk_drewN ?_ _ | refine blk_drew ?_ | refine blk_alloc ?_ _)); exact BK238.out) hb)
        have n1_ := Aside0.mk (blk_below (g := gb239) (o := .cells #[.int .i64 a1_0, .int .u64 a1_1] 143 (0, 0)) (by (with_reducible repeat (first | refine blk_drewN ?_ _ | refine blk_drew ?_ | refine blk_alloc ?_ _)); exact BK239.out) hb)
        have n2_ := Aside0.mk (blk_below (g := gb240) (o := .cells #[.int .i64 0, .int .u64 0] 143 (0, 0)) (by (with_reducible repeat (first | refine blk_drewN ?_ _ | refine blk_drew ?_ | refine blk_alloc ?_ _)); exact BK240.out) hb)
        have n3_ := Aside0.mk (blk_below (g := gb241) (o := .cells #[.int .i64 0, .int .u64 0] 143 (0, 0)) (by (with_reducible repeat (first | refine blk_drewN ?_ _ | refine blk_drew ?_ | refine blk_alloc ?_ _)); exact BK241.out) hb)
        have n4_ := Aside0.mk (blk_below (g := gb242) (o := .cells #[.int .i64 x243000_2, .int .u64 x243001_2] 143 (0, 0)) (by (with_reducible repeat (first | refine blk_drewN ?_ _ | refine blk_drew ?_ | refine blk_alloc ?_ _)); exact BK242.out) hb)
        have n5_ := Aside0.mk (blk_below (g := gb243) (o := .cells #[.int .i64 x244000_35, .int .u64 x244001_35] 143 (0, 0)) (by (with_reducible repeat (first | refine blk_drewN ?_ _ | refine blk_drew ?_ | refine blk_alloc ?_ _)); exact BK243.out) hb)
        have n6_ := Aside0.mk (below_step (by repeat (with_reducible first | exact HB.out | apply below_alloc | apply pw_below_drewN | apply below_drew1 | refine below_set ?_ GE238.out | refine below_set ?_ GE239.out | refine below_set ?_ GE240.out | refine below_set ?_ GE241.out | refine below_set ?_ GE242.out | refine below_set ?_ GE243.out)) hb)
        have n7_ := Aside0.mk (hbox)
        have n8_ := Aside0.mk ((by rw [hg]; exact (below_size (by repeat (with_reducible first | exact HB.out | apply below_alloc | apply pw_below_drewN | apply below_drew1 | refine below_set ?_ GE238.out | refine below_set ?_ GE239.out | refine below_set ?_ GE240.out | refine below_set ?_ GE241.out | refine below_set ?_ GE242.out | refine below_set ?_ GE243.out))) : w.heap.size ≤ gb249))
        have n9_ := Aside0.mk ((by rw [hg]; exact (below_size (by repeat (with_reducible first | exact HB.out | apply below_alloc | apply pw_below_drewN | apply below_drew1 | refine below_set ?_ GE238.out | refine below_set ?_ GE239.out | refine below_set ?_ GE240.out | refine below_set ?_ GE241.out | refine below_set ?_ GE242.out | refine below_set ?_ GE243.out))) : w.heap.size ≤ gb249))
        have n10_ := Aside0.mk ((by rw [hg]; exact Nat.ne_of_lt (blk_lt (g := gb238) (o := .cells #[.int .i64 a0_0, .int .u64 a0_1] 143 (0, 0)) (by (with_reducible repeat (first | refine blk_drewN ?_ _ | refine blk_drew ?_ | refine blk_alloc ?_ _)); exact BK238.out)) : gb238 ≠ gb249))
        have n11_ := Aside0.mk ((by rw [hg]; exact Nat.ne_of_gt (blk_lt (g := gb238) (o := .cells #[.int .i64 a0_0, .int .u64 a0_1] 143 (0, 0)) (by (with_reducible repeat (first | refine blk_drewN ?_ _ | refine blk_drew ?_ | refine blk_alloc ?_ _)); exact BK238.out)) : gb249 ≠ gb238))
        have n12_ := Aside0.mk ((by rw [hg]; exact Nat.ne_of_lt (blk_lt (g := gb239) (o := .cells #[.int .i64 a1_0, .int .u64 a1_1] 143 (0, 0)) (by (with_reducible repeat (first | refine blk_drewN ?_ _ | refine blk_drew ?_ | refine blk_alloc ?_ _)); exact BK239.out)) : gb239 ≠ gb249))
        have n13_ := Aside0.mk ((by rw [hg]; exact Nat.ne_of_gt (blk_lt (g := gb239) (o := .cells #[.int .i64 a1_0, .int .u64 a1_1] 143 (0, 0)) (by (with_reducible repeat (first | refine blk_drewN ?_ _ | refine blk_drew ?_ | refine blk_alloc ?_ _)); exact BK239.out)) : gb249 ≠ gb239))
        have n14_ := Aside0.mk ((by rw [hg]; exact Nat.ne_of_lt (blk_lt (g := gb240) (o := .cells #[.int .i64 0, .int .u64 0] 143 (0, 0)) (by (with_reducible repeat (first | refine blk_drewN ?_ _ | refine blk_drew ?_ | refine blk_alloc ?_ _)); exact BK240.out)) : gb240 ≠ gb249))
        have n15_ := Aside0.mk ((by rw [hg]; exact Nat.ne_of_gt (blk_lt (g := gb240) (o := .cells #[.int .i64 0, .int .u64 0] 143 (0, 0)) (by (with_reducible repeat (first | refine blk_drewN ?_ _ | refine blk_drew ?_ | refine blk_alloc ?_ _)); exact BK240.out)) : gb249 ≠ gb240))
        have n16_ := Aside0.mk ((by rw [hg]; exact Nat.ne_of_lt (blk_lt (g := gb241) (o := .cells #[.int .i64 0, .int .u64 0] 143 (0, 0)) (by (with_reducible repeat (first | refine blk_drewN ?_ _ | refine blk_drew ?_ | refine blk_alloc ?_ _)); exact BK241.out)) : gb241 ≠ gb249))
        have n17_ := Aside0.mk ((by rw [hg]; exact Nat.ne_of_gt (blk_lt (g := gb241) (o := .cells #[.int .i64 0, .int .u64 0] 143 (0, 0)) (by (with_reducible repeat (first | refine blk_drewN ?_ _ | refine blk_drew ?_ | refine blk_alloc ?_ _)); exact BK241.out)) : gb249 ≠ gb241))
        have n18_ := Aside0.mk ((by rw [hg]; exact Nat.ne_of_lt (blk_lt (g := gb242) (o := .cells #[.int .i64 x243000_2, .int .u64 x243001_2] 143 (0, 0)) (by (with_reducible repeat (first | refine blk_drewN ?_ _ | refine blk_drew ?_ | refine blk_alloc ?_ _)); exact BK242.out)) : gb242 ≠ gb249))
        have n19_ := Aside0.mk ((by rw [hg]; exact Nat.ne_of_gt (blk_lt (g := gb242) (o := .cells #[.int .i64 x243000_2, .int .u64 x243001_2] 143 (0, 0)) (by (with_reducible repeat (first | refine blk_drewN ?_ _ | refine blk_drew ?_ | refine blk_alloc ?_ _)); exact BK242.out)) : gb249 ≠ gb242))
        have n20_ := Aside0.mk ((by rw [hg]; exact Nat.ne_of_lt (blk_lt (g := gb243) (o := .cells #[.int .i64 x244000_35, .int .u64 x244001_35] 143 (0, 0)) (by (with_reducible repeat (first | refine blk_drewN ?_ _ | refine blk_drew ?_ | refine blk_alloc ?_ _)); exact BK243.out)) : gb243 ≠ gb249))
        have n21_ := Aside0.mk ((by rw [hg]; exact Nat.ne_of_gt (blk_lt (g := gb243) (o := .cells #[.int .i64 x244000_35, .int .u64 x244001_35] 143 (0, 0)) (by (with_reducible repeat (first | refine blk_drewN ?_ _ | refine blk_drew ?_ | refine blk_alloc ?_ _)); exact BK243.out)) : gb249 ≠ gb243))
        clear BK238
        clear BK239
        clear BK240
        clear BK241
        clear BK242
        clear BK243
        clear HB
        have BK238 := n0_
        have BK239 := n1_
        have BK240 := n2_
        have BK241 := n3_
        have BK242 := n4_
        have BK243 := n5_
        have HB := n6_
        have BK249 := n7_
        have GW249 := n8_
        have GE249 := n9_
        have NB238_249 := n10_
        have NB249_238 := n11_
        have NB239_249 := n12_
        have NB249_239 := n13_
        have NB240_249 := n14_
        have NB249_240 := n15_
        have NB241_249 := n16_
        have NB249_241 := n17_
        have NB242_249 := n18_
        have NB249_242 := n19_
        have NB243_249 := n20_
        have NB249_243 := n21_
        clear n0_ n1_ n2_ n3_ n4_ n5_ n6_ n7_ n8_ n9_ n10_ n11_ n12_ n13_ n14_ n15_ n16_ n17_ n18_ n19_ n20_ n21_
        clear hb hbox hg
        refine hK.out _ _ ⟨(blk_cell BK242.out 0).trans rfl, (blk_cell BK242.out 1).trans rfl, (blk_cell BK243.out 0).trans rfl, (blk_cell BK243.out 1).trans rfl⟩ (fun hHeld => ?_)
        clear hK K
        refine norm_ (a' := ?_) ?_ ?_
        rotate_left
        ·show Act.put _ (some 9) _ = _
         simp only [Act.put, List.setIfInBounds_toArray, List.set_cons_zero, List.set_cons_succ, i64_w, i32_w]
         rfl
        refine one_ (i := 12) (N := some 8) #[true, true, true, true, true, true, true, true, true, true, true, true, true, true, false, false] rfl rfl (one_of HT_.out (by kernel_rfl)) (by decide) (fun K hK => ?_)
        refine box_step ?hg (N := 8) ?hd (cs := #[.int .i64 0, .int .u64 0]) (t := 143) ?hr ?_; (case hd => rfl); (case hg => rfl); (case hr => first | (go_simp; done) | (go_simp; rfl))
        intro gb248 hg w61 hbox hb
        have n0_ := Aside0.mk (blk_below (g := gb238) (o := .cells #[.int .i64 a0_0, .int .u64 a0_1] 143 (0, 0)) (by (with_reducible repeat (first | refine blk_drewN ?_ _ | refine blk_drew ?_ | refine blk_alloc ?_ _)); exact BK238.out) hb)
        have n1_ := Aside0.mk (blk_below (g := gb239) (o := .cells #[.int .i64 a1_0, .int .u64 a1_1] 143 (0, 0)) (by (with_reducible repeat (first | refine blk_drewN ?_ _ | refine blk_drew ?_ | refine blk_alloc ?_ _)); exact BK239.out) hb)
        have n2_ := Aside0.mk (blk_below (g := gb240) (o := .cells #[.int .i64 0, .int .u64 0] 143 (0, 0)) (by (with_reducible repeat (first | refine blk_drewN ?_ _ | refine blk_drew ?_ | refine blk_alloc ?_ _)); exact BK240.out) hb)
        have n3_ := Aside0.mk (blk_below (g := gb241) (o := .cells #[.int .i64 0, .int .u64 0] 143 (0, 0)) (by (with_reducible repeat (first | refine blk_drewN ?_ _ | refine blk_drew ?_ | refine blk_alloc ?_ _)); exact BK241.out) hb)
        have n4_ := Aside0.mk (blk_below (g := gb242) (o := .cells #[.int .i64 x243000_2, .int .u64 x243001_2] 143 (0, 0)) (by (with_reducible repeat (first | refine blk_drewN ?_ _ | refine blk_drew ?_ | refine blk_alloc ?_ _)); exact BK242.out) hb)
        have n5_ := Aside0.mk (blk_below (g := gb243) (o := .cells #[.int .i64 x244000_35, .int .u64 x244001_35] 143 (0, 0)) (by (with_reducible repeat (first | refine blk_drewN ?_ _ | refine blk_drew ?_ | refine blk_alloc ?_ _)); exact BK243.out) hb)
        have n6_ := Aside0.mk (blk_below (g := gb249) (o := .cells #[.int .i64 0, .int .u64 0] 143 (0, 0)) (by (with_reducible repeat (first | refine blk_drewN ?_ _ | refine blk_drew ?_ | refine blk_alloc ?_ _)); exact BK249.out) hb)
        have n7_ := Aside0.mk (below_step (by repeat (with_reducible first | exact HB.out | apply below_alloc | apply pw_below_drewN | apply below_drew1 | refine below_set ?_ GE238.out | refine below_set ?_ GE239.out | refine below_set ?_ GE240.out | refine below_set ?_ GE241.out | refine below_set ?_ GE242.out | refine below_set ?_ GE243.out | refine below_set ?_ GE249.out)) hb)
        have n8_ := Aside0.mk (hbox)
        have n9_ := Aside0.mk ((by rw [hg]; exact (below_size (by repeat (with_reducible first | exact HB.out | apply below_alloc | apply pw_below_drewN | apply below_drew1 | refine below_set ?_ GE238.out | refine below_set ?_ GE239.out | refine below_set ?_ GE240.out | refine below_set ?_ GE241.out | refine below_set ?_ GE242.out | refine below_set ?_ GE243.out | refine below_set ?_ GE249.out))) : w.heap.size ≤ gb248))
        have n10_ := Aside0.mk ((by rw [hg]; exact (below_size (by repeat (with_reducible first | exact HB.out | apply below_alloc | apply pw_below_drewN | apply below_drew1 | refine below_set ?_ GE238.out | refine below_set ?_ GE239.out | refine below_set ?_ GE240.out | refine below_set ?_ GE241.out | refine below_set ?_ GE242.out | refine below_set ?_ GE243.out | refine below_set ?_ GE249.out))) : w.heap.size ≤ gb248))
        have n11_ := Aside0.mk ((by rw [hg]; exact Nat.ne_of_lt (blk_lt (g := gb238) (o := .cells #[.int .i64 a0_0, .int .u64 a0_1] 143 (0, 0)) (by (with_reducible repeat (first | refine blk_drewN ?_ _ | refine blk_drew ?_ | refine blk_alloc ?_ _)); exact BK238.out)) : gb238 ≠ gb248))
        have n12_ := Aside0.mk ((by rw [hg]; exact Nat.ne_of_gt (blk_lt (g := gb238) (o := .cells #[.int .i64 a0_0, .int .u64 a0_1] 143 (0, 0)) (by (with_reducible repeat (first | refine blk_drewN ?_ _ | refine blk_drew ?_ | refine blk_alloc ?_ _)); exact BK238.out)) : gb248 ≠ gb238))
        have n13_ := Aside0.mk ((by rw [hg]; exact Nat.ne_of_lt (blk_lt (g := gb239) (o := .cells #[.int .i64 a1_0, .int .u64 a1_1] 143 (0, 0)) (by (with_reducible repeat (first | refine blk_drewN ?_ _ | refine blk_drew ?_ | refine blk_alloc ?_ _)); exact BK239.out)) : gb239 ≠ gb248))
        have n14_ := Aside0.mk ((by rw [hg]; exact Nat.ne_of_gt (blk_lt (g := gb239) (o := .cells #[.int .i64 a1_0, .int .u64 a1_1] 143 (0, 0)) (by (with_reducible repeat (first | refine blk_drewN ?_ _ | refine blk_drew ?_ | refine blk_alloc ?_ _)); exact BK239.out)) : gb248 ≠ gb239))
        have n15_ := Aside0.mk ((by rw [hg]; exact Nat.ne_of_lt (blk_lt (g := gb240) (o := .cells #[.int .i64 0, .int .u64 0] 143 (0, 0)) (by (with_reducible repeat (first | refine blk_drewN ?_ _ | refine blk_drew ?_ | refine blk_alloc ?_ _)); exact BK240.out)) : gb240 ≠ gb248))
        have n16_ := Aside0.mk ((by rw [hg]; exact Nat.ne_of_gt (blk_lt (g := gb240) (o := .cells #[.int .i64 0, .int .u64 0] 143 (0, 0)) (by (with_reducible repeat (first | refine blk_drewN ?_ _ | refine blk_drew ?_ | refine blk_alloc ?_ _)); exact BK240.out)) : gb248 ≠ gb240))
        have n17_ := Aside0.mk ((by rw [hg]; exact Nat.ne_of_lt (blk_lt (g := gb241) (o := .cells #[.int .i64 0, .int .u64 0] 143 (0, 0)) (by (with_reducible repeat (first | refine blk_drewN ?_ _ | refine blk_drew ?_ | refine blk_alloc ?_ _)); exact BK241.out)) : gb241 ≠ gb248))
        have n18_ := Aside0.mk ((by rw [hg]; exact Nat.ne_of_gt (blk_lt (g := gb241) (o := .cells #[.int .i64 0, .int .u64 0] 143 (0, 0)) (by (with_reducible repeat (first | refine blk_drewN ?_ _ | refine blk_drew ?_ | refine blk_alloc ?_ _)); exact BK241.out)) : gb248 ≠ gb241))
        have n19_ := Aside0.mk ((by rw [hg]; exact Nat.ne_of_lt (blk_lt (g := gb242) (o := .cells #[.int .i64 x243000_2, .int .u64 x243001_2] 143 (0, 0)) (by (with_reducible repeat (first | refine blk_drewN ?_ _ | refine blk_drew ?_ | refine blk_alloc ?_ _)); exact BK242.out)) : gb242 ≠ gb248))
        have n20_ := Aside0.mk ((by rw [hg]; exact Nat.ne_of_gt (blk_lt (g := gb242) (o := .cells #[.int .i64 x243000_2, .int .u64 x243001_2] 143 (0, 0)) (by (with_reducible repeat (first | refine blk_drewN ?_ _ | refine blk_drew ?_ | refine blk_alloc ?_ _)); exact BK242.out)) : gb248 ≠ gb242))
        have n21_ := Aside0.mk ((by rw [hg]; exact Nat.ne_of_lt (blk_lt (g := gb243) (o := .cells #[.int .i64 x244000_35, .int .u64 x244001_35] 143 (0, 0)) (by (with_reducible repeat (first | refine blk_drewN ?_ _ | refine blk_drew ?_ | refine blk_alloc ?_ _)); exact BK243.out)) : gb243 ≠ gb248))
        have n22_ := Aside0.mk ((by rw [hg]; exact Nat.ne_of_gt (blk_lt (g := gb243) (o := .cells #[.int .i64 x244000_35, .int .u64 x244001_35] 143 (0, 0)) (by (with_reducible repeat (first | refine blk_drewN ?_ _ | refine blk_drew ?_ | refine blk_alloc ?_ _)); exact BK243.out)) : gb248 ≠ gb243))
        have n23_ := Aside0.mk ((by rw [hg]; exact Nat.ne_of_lt (blk_lt (g := gb249) (o := .cells #[.int .i64 0, .int .u64 0] 143 (0, 0)) (by (with_reducible repeat (first | refine blk_drewN ?_ _ | refine blk_drew ?_ | refine blk_alloc ?_ _)); exact BK249.out)) : gb249 ≠ gb248))
        have n24_ := Aside0.mk ((by rw [hg]; exact Nat.ne_of_gt (blk_lt (g := gb249) (o := .cells #[.int .i64 0, .int .u64 0] 143 (0, 0)) (by (with_reducible repeat (first | refine blk_drewN ?_ _ | refine blk_drew ?_ | refine blk_alloc ?_ _)); exact BK249.out)) : gb248 ≠ gb249))
        clear BK238
        clear BK239
        clear BK240
        clear BK241
        clear BK242
        clear BK243
        clear BK249
        clear HB
        have BK238 := n0_
        have BK239 := n1_
        have BK240 := n2_
        have BK241 := n3_
        have BK242 := n4_
        have BK243 := n5_
        have BK249 := n6_
        have HB := n7_
        have BK248 := n8_
        have GW248 := n9_
        have GE248 := n10_
        have NB238_248 := n11_
        have NB248_238 := n12_
        have NB239_248 := n13_
        have NB248_239 := n14_
        have NB240_248 := n15_
        have NB248_240 := n16_
        have NB241_248 := n17_
        have NB248_241 := n18_
        have NB242_248 := n19_
        have NB248_242 := n20_
        have NB243_248 := n21_
        have NB248_243 := n22_
        have NB249_248 := n23_
        have NB248_249 := n24_
        clear n0_ n1_ n2_ n3_ n4_ n5_ n6_ n7_ n8_ n9_ n10_ n11_ n12_ n13_ n14_ n15_ n16_ n17_ n18_ n19_ n20_ n21_ n22_ n23_ n24_
        clear hb hbox hg
        refine hK.out _ _ ⟨(blk_cell BK242.out 0).trans rfl, (blk_cell BK242.out 1).trans rfl, (blk_cell BK243.out 0).trans rfl, (blk_cell BK243.out 1).trans rfl⟩ (fun hHeld => ?_)
        clear hK K
        refine norm_ (a' := ?_) ?_ ?_
        rotate_left
        ·show Act.put _ (some 8) _ = _
         simp only [Act.put, List.setIfInBounds_toArray, List.set_cons_zero, List.set_cons_succ, i64_w, i32_w]
         rfl
        exact norm_ (by simp only [putAll, Act.put, List.setIfInBounds_toArray, List.set_cons_zero, List.set_cons_succ]) (hCont (gb248, gb249) _ ⟨hHeld, (by (with_reducible repeat (first | refine blk_drewN ?_ _ | refine blk_drew ?_ | refine blk_alloc ?_ _)); exact BK238.out), (by (with_reducible repeat (first | refine blk_drewN ?_ _ | refine blk_drew ?_ | refine blk_alloc ?_ _)); exact BK239.out), (by (with_reducible repeat (first | refine blk_drewN ?_ _ | refine blk_drew ?_ | refine blk_alloc ?_ _)); exact BK240.out), (by (with_reducible repeat (first | refine blk_drewN ?_ _ | refine blk_drew ?_ | refine blk_alloc ?_ _)); exact BK241.out), (by (with_reducible repeat (first | refine blk_drewN ?_ _ | refine blk_drew ?_ | refine blk_alloc ?_ _)); exact BK242.out), (by (with_reducible repeat (first | refine blk_drewN ?_ _ | refine blk_drew ?_ | refine blk_alloc ?_ _)); exact BK243.out), (by (with_reducible repeat (first | refine blk_drewN ?_ _ | refine blk_drew ?_ | refine blk_alloc ?_ _)); exact BK248.out), (by (with_reducible repeat (first | refine blk_drewN ?_ _ | refine blk_drew ?_ | refine blk_alloc ?_ _)); exact BK249.out), GW248.out, GE248.out, NB238_248.out, NB248_238.out, NB239_248.out, NB248_239.out, NB240_248.out, NB248_240.out, NB241_248.out, NB248_241.out, NB242_248.out, NB248_242.out, NB243_248.out, NB248_243.out, NB249_248.out, NB248_249.out, GW249.out, GE249.out, NB238_249.out, NB249_238.out, NB239_249.out, NB249_239.out, NB240_249.out, NB249_240.out, NB241_249.out, NB249_241.out, NB242_249.out, NB249_242.out, NB243_249.out, NB249_243.out, (by repeat (with_reducible first | exact HB.out | apply below_alloc | apply pw_below_drewN | apply below_drew1 | refine below_set ?_ GE238.out | refine below_set ?_ GE239.out | refine below_set ?_ GE240.out | refine below_set ?_ GE241.out | refine below_set ?_ GE242.out | refine below_set ?_ GE243.out | refine below_set ?_ GE249.out | refine below_set ?_ GE248.out))⟩)
      rintro ⟨gb248, gb249⟩ w62 ⟨hS_, h0_, h1_, h2_, h3_, h4_, h5_, h6_, h7_, h8_, h9_, h10_, h11_, h12_, h13_, h14_, h15_, h16_, h17_, h18_, h19_, h20_, h21_, h22_, h23_, h24_, h25_, h26_, h27_, h28_, h29_, h30_, h31_, h32_, h33_, h34_, h35_, h36_, h37_, h38_⟩
      have n0_ : Aside0 (w62.heap[gb238]? = some (.cells #[.int .i64 a0_0, .int .u64 a0_1] 143 (0, 0))) := ⟨h0_⟩
      have n1_ : Aside0 (w62.heap[gb239]? = some (.cells #[.int .i64 a1_0, .int .u64 a1_1] 143 (0, 0))) := ⟨h1_⟩
      have n2_ : Aside0 (w62.heap[gb240]? = some (.cells #[.int .i64 0, .int .u64 0] 143 (0, 0))) := ⟨h2_⟩
      have n3_ : Aside0 (w62.heap[gb241]? = some (.cells #[.int .i64 0, .int .u64 0] 143 (0, 0))) := ⟨h3_⟩
      have n4_ : Aside0 (w62.heap[gb242]? = some (.cells #[.int .i64 x243000_2, .int .u64 x243001_2] 143 (0, 0))) := ⟨h4_⟩
      have n5_ : Aside0 (w62.heap[gb243]? = some (.cells #[.int .i64 x244000_35, .int .u64 x244001_35] 143 (0, 0))) := ⟨h5_⟩
      have n6_ : Aside0 (w62.heap[gb248]? = some (.cells #[.int .i64 0, .int .u64 0] 143 (0, 0))) := ⟨h6_⟩
      have n7_ : Aside0 (w62.heap[gb249]? = some (.cells #[.int .i64 0, .int .u64 0] 143 (0, 0))) := ⟨h7_⟩
      have n8_ : Aside0 (w.heap.size ≤ gb248) := ⟨h8_⟩
      have n9_ : Aside0 (w.heap.size ≤ gb248) := ⟨h9_⟩
      have n10_ : Aside0 (gb238 ≠ gb248) := ⟨h10_⟩
      have n11_ : Aside0 (gb248 ≠ gb238) := ⟨h11_⟩
      have n12_ : Aside0 (gb239 ≠ gb248) := ⟨h12_⟩
      have n13_ : Aside0 (gb248 ≠ gb239) := ⟨h13_⟩
      have n14_ : Aside0 (gb240 ≠ gb248) := ⟨h14_⟩
      have n15_ : Aside0 (gb248 ≠ gb240) := ⟨h15_⟩
      have n16_ : Aside0 (gb241 ≠ gb248) := ⟨h16_⟩
      have n17_ : Aside0 (gb248 ≠ gb241) := ⟨h17_⟩
      have n18_ : Aside0 (gb242 ≠ gb248) := ⟨h18_⟩
      have n19_ : Aside0 (gb248 ≠ gb242) := ⟨h19_⟩
      have n20_ : Aside0 (gb243 ≠ gb248) := ⟨h20_⟩
      have n21_ : Aside0 (gb248 ≠ gb243) := ⟨h21_⟩
      have n22_ : Aside0 (gb249 ≠ gb248) := ⟨h22_⟩
      have n23_ : Aside0 (gb248 ≠ gb249) := ⟨h23_⟩
      have n24_ : Aside0 (w.heap.size ≤ gb249) := ⟨h24_⟩
      have n25_ : Aside0 (w.heap.size ≤ gb249) := ⟨h25_⟩
      have n26_ : Aside0 (gb238 ≠ gb249) := ⟨h26_⟩
      have n27_ : Aside0 (gb249 ≠ gb238) := ⟨h27_⟩
      have n28_ : Aside0 (gb239 ≠ gb249) := ⟨h28_⟩
      have n29_ : Aside0 (gb249 ≠ gb239) := ⟨h29_⟩
      have n30_ : Aside0 (gb240 ≠ gb249) := ⟨h30_⟩
      have n31_ : Aside0 (gb249 ≠ gb240) := ⟨h31_⟩
      have n32_ : Aside0 (gb241 ≠ gb249) := ⟨h32_⟩
      have n33_ : Aside0 (gb249 ≠ gb241) := ⟨h33_⟩
      have n34_ : Aside0 (gb242 ≠ gb249) := ⟨h34_⟩
      have n35_ : Aside0 (gb249 ≠ gb242) := ⟨h35_⟩
      have n36_ : Aside0 (gb243 ≠ gb249) := ⟨h36_⟩
      have n37_ : Aside0 (gb249 ≠ gb243) := ⟨h37_⟩
      have n38_ : Aside0 (Below w.heap.size w w62) := ⟨h38_⟩
      clear BK238
      clear BK239
      clear BK240
      clear BK241
      clear BK242
      clear BK243
      clear HB
      clear h0_ h1_ h2_ h3_ h4_ h5_ h6_ h7_ h8_ h9_ h10_ h11_ h12_ h13_ h14_ h15_ h16_ h17_ h18_ h19_ h20_ h21_ h22_ h23_ h24_ h25_ h26_ h27_ h28_ h29_ h30_ h31_ h32_ h33_ h34_ h35_ h36_ h37_ h38_
      have BK238 := n0_
      have BK239 := n1_
      have BK240 := n2_
      have BK241 := n3_
      have BK242 := n4_
      have BK243 := n5_
      have BK248 := n6_
      have BK249 := n7_
      have GW248 := n8_
      have GE248 := n9_
      have NB238_248 := n10_
      have NB248_238 := n11_
      have NB239_248 := n12_
      have NB248_239 := n13_
      have NB240_248 := n14_
      have NB248_240 := n15_
      have NB241_248 := n16_
      have NB248_241 := n17_
      have NB242_248 := n18_
      have NB248_242 := n19_
      have NB243_248 := n20_
      have NB248_243 := n21_
      have NB249_248 := n22_
      have NB248_249 := n23_
      have GW249 := n24_
      have GE249 := n25_
      have NB238_249 := n26_
      have NB249_238 := n27_
      have NB239_249 := n28_
      have NB249_239 := n29_
      have NB240_249 := n30_
      have NB249_240 := n31_
      have NB241_249 := n32_
      have NB249_241 := n33_
      have NB242_249 := n34_
      have NB249_242 := n35_
      have NB243_249 := n36_
      have NB249_243 := n37_
      have HB := n38_
      clear n0_ n1_ n2_ n3_ n4_ n5_ n6_ n7_ n8_ n9_ n10_ n11_ n12_ n13_ n14_ n15_ n16_ n17_ n18_ n19_ n20_ n21_ n22_ n23_ n24_ n25_ n26_ n27_ n28_ n29_ n30_ n31_ n32_ n33_ n34_ n35_ n36_ n37_ n38_
      have hHeld : w62.cell? ⟨gb242, 0, none⟩ = some (.int .i64 x243000_2) ∧ w62.cell? ⟨gb242, 1, none⟩ = some (.int .u64 x243001_2) ∧ w62.cell? ⟨gb243, 0, none⟩ = some (.int .i64 x244000_35) ∧ w62.cell? ⟨gb243, 1, none⟩ = some (.int .u64 x244001_35) := hS_
      refine norm_ (a' := ?_) ?_ ?_
      rotate_left
      ·simp only [putAll, Act.put, List.setIfInBounds_toArray, List.set_cons_zero, List.set_cons_succ]
       rfl
      refine one_ (i := 14) (N := none) #[true, true, true, true, true, true, true, true, true, true, true, true, true, true, true, false] rfl rfl (one_of HT_.out (by kernel_rfl)) (by decide) (fun K hK => ?_)
      have hs63 : w62.cell? ⟨gb248, 0, none⟩ = some (.int .i64 0) := (blk_cell BK248.out 0).trans rfl
      have hfs63 := blk_frozen BK248.out 0
      have hns63_0 := NB238_248.out
      have hns63_1 := NB239_248.out
      have hns63_2 := NB240_248.out
      have hns63_3 := NB241_248.out
      have hns63_4 := NB242_248.out
      have hns63_5 := NB243_248.out
      have hns63_7 := NB249_248.out
      have hms63_0 := NB248_238.out
      have hms63_1 := NB248_239.out
      have hms63_2 := NB248_240.out
      have hms63_3 := NB248_241.out
      have hms63_4 := NB248_242.out
      have hms63_5 := NB248_243.out
      have hms63_7 := NB248_249.out
      have hs64 : w62.cell? ⟨gb248, 1, none⟩ = some (.int .u64 0) := (blk_cell BK248.out 1).trans rfl
      have hfs64 := blk_frozen BK248.out 1
      have hns64_0 := NB238_248.out
      have hns64_1 := NB239_248.out
      have hns64_2 := NB240_248.out
      have hns64_3 := NB241_248.out
      have hns64_4 := NB242_248.out
      have hns64_5 := NB243_248.out
      have hns64_7 := NB249_248.out
      have hms64_0 := NB248_238.out
      have hms64_1 := NB248_239.out
      have hms64_2 := NB248_240.out
      have hms64_3 := NB248_241.out
      have hms64_4 := NB248_242.out
      have hms64_5 := NB248_243.out
      have hms64_7 := NB248_249.out
      refine skip_ (w1 := ?_) (by rfl) rfl ?_ ?_
      rotate_left
      ·go_simp
       rfl
      refine hK.out _ _ ⟨((cell_far (p := ⟨gb248, _, none⟩) NB242_248.out _).trans (((cell_far (p := ⟨gb248, _, none⟩) NB242_248.out _).trans (hHeld.1)))), ((cell_far (p := ⟨gb248, _, none⟩) NB242_248.out _).trans (((cell_far (p := ⟨gb248, _, none⟩) NB242_248.out _).trans (hHeld.2.1)))), ((cell_far (p := ⟨gb248, _, none⟩) NB243_248.out _).trans (((cell_far (p := ⟨gb248, _, none⟩) NB243_248.out _).trans (hHeld.2.2.1)))), ((cell_far (p := ⟨gb248, _, none⟩) NB243_248.out _).trans (((cell_far (p := ⟨gb248, _, none⟩) NB243_248.out _).trans (hHeld.2.2.2))))⟩ (fun hHeld => ?_)
      clear hK K
      refine one_ (i := 15) (N := none) #[true, true, true, true, true, true, true, true, true, true, true, true, true, true, true, true] rfl rfl (one_of HT_.out (by kernel_rfl)) (by decide) (fun K hK => ?_)
      have hs65 : w62.cell? ⟨gb249, 0, none⟩ = some (.int .i64 0) := (blk_cell BK249.out 0).trans rfl
      have hfs65 := blk_frozen BK249.out 0
      have hns65_0 := NB238_249.out
      have hns65_1 := NB239_249.out
      have hns65_2 := NB240_249.out
      have hns65_3 := NB241_249.out
      have hns65_4 := NB242_249.out
      have hns65_5 := NB243_249.out
      have hns65_6 := NB248_249.out
      have hms65_0 := NB249_238.out
      have hms65_1 := NB249_239.out
      have hms65_2 := NB249_240.out
      have hms65_3 := NB249_241.out
      have hms65_4 := NB249_242.out
      have hms65_5 := NB249_243.out
      have hms65_6 := NB249_248.out
      have hs66 : w62.cell? ⟨gb249, 1, none⟩ = some (.int .u64 0) := (blk_cell BK249.out 1).trans rfl
      have hfs66 := blk_frozen BK249.out 1
      have hns66_0 := NB238_249.out
      have hns66_1 := NB239_249.out
      have hns66_2 := NB240_249.out
      have hns66_3 := NB241_249.out
      have hns66_4 := NB242_249.out
      have hns66_5 := NB243_249.out
      have hns66_6 := NB248_249.out
      have hms66_0 := NB249_238.out
      have hms66_1 := NB249_239.out
      have hms66_2 := NB249_240.out
      have hms66_3 := NB249_241.out
      have hms66_4 := NB249_242.out
      have hms66_5 := NB249_243.out
      have hms66_6 := NB249_248.out
      refine skip_ (w1 := ?_) (by rfl) rfl ?_ ?_
      rotate_left
      ·go_simp
       rfl
      refine hK.out _ _ ⟨((cell_far (p := ⟨gb249, _, none⟩) NB242_249.out _).trans (((cell_far (p := ⟨gb249, _, none⟩) NB242_249.out _).trans (hHeld.1)))), ((cell_far (p := ⟨gb249, _, none⟩) NB242_249.out _).trans (((cell_far (p := ⟨gb249, _, none⟩) NB242_249.out _).trans (hHeld.2.1)))), ((cell_far (p := ⟨gb249, _, none⟩) NB243_249.out _).trans (((cell_far (p := ⟨gb249, _, none⟩) NB243_249.out _).trans (hHeld.2.2.1)))), ((cell_far (p := ⟨gb249, _, none⟩) NB243_249.out _).trans (((cell_far (p := ⟨gb249, _, none⟩) NB243_249.out _).trans (hHeld.2.2.2))))⟩ (fun hHeld => ?_)
      clear hK K
      refine done_ (done_of HT_.out (by kernel_rfl)) ?_
      have hnb67 := NB238_239.out
      have hnc67 := NB239_238.out
      have hnb68 := NB238_240.out
      have hnc68 := NB240_238.out
      have hnb69 := NB238_241.out
      have hnc69 := NB241_238.out
      have hnb70 := NB238_242.out
      have hnc70 := NB242_238.out
      have hnb71 := NB238_243.out
      have hnc71 := NB243_238.out
      have hnb72 := NB238_248.out
      have hnc72 := NB248_238.out
      have hnb73 := NB238_249.out
      have hnc73 := NB249_238.out
      have hcz74_0 : w62.cell? ⟨gb238, 0, none⟩ = some (.int .i64 a0_0) := (blk_cell BK238.out 0).trans rfl
      have hcz74_1 : w62.cell? ⟨gb238, 1, none⟩ = some (.int .u64 a0_1) := (blk_cell BK238.out 1).trans rfl
      have hfz74_0 := blk_frozen BK238.out 0
      have hfz74_1 := blk_frozen BK238.out 1
      have hnb75 := NB239_240.out
      have hnc75 := NB240_239.out
      have hnb76 := NB239_241.out
      have hnc76 := NB241_239.out
      have hnb77 := NB239_242.out
      have hnc77 := NB242_239.out
      have hnb78 := NB239_243.out
      have hnc78 := NB243_239.out
      have hnb79 := NB239_248.out
      have hnc79 := NB248_239.out
      have hnb80 := NB239_249.out
      have hnc80 := NB249_239.out
      have hcz81_0 : w62.cell? ⟨gb239, 0, none⟩ = some (.int .i64 a1_0) := (blk_cell BK239.out 0).trans rfl
      have hcz81_1 : w62.cell? ⟨gb239, 1, none⟩ = some (.int .u64 a1_1) := (blk_cell BK239.out 1).trans rfl
      have hfz81_0 := blk_frozen BK239.out 0
      have hfz81_1 := blk_frozen BK239.out 1
      go_upto_if 38 with (fail)
      go_cut [] (fun wc => ∃ (kq : Nat) (x249000_57 : Int) (x249001_57 : Int), Aside0 (arith_divided.j2 kq a0_0 a0_1 x249000_57 x249001_57 0 (Int.tmod x243001_2 x244001_35) = some (r1, r2, r3, r4)) ∧ Aside0 (kq ≤ kj35) ∧ Aside0 (wc.heap[gb238]? = some (.cells #[.int .i64 a0_0, .int .u64 a0_1] 143 (0, 0))) ∧ Aside0 (wc.heap[gb239]? = some (.cells #[.int .i64 a1_0, .int .u64 a1_1] 143 (0, 0))) ∧ Aside0 (wc.heap[gb240]? = some (.cells #[.int .i64 0, .int .u64 0] 143 (0, 0))) ∧ Aside0 (wc.heap[gb241]? = some (.cells #[.int .i64 0, .int .u64 0] 143 (0, 0))) ∧ Aside0 (wc.heap[gb242]? = some (.cells #[.int .i64 x243000_2, .int .u64 x243001_2] 143 (0, 0))) ∧ Aside0 (wc.heap[gb243]? = some (.cells #[.int .i64 x244000_35, .int .u64 x244001_35] 143 (0, 0))) ∧ Aside0 (wc.heap[gb248]? = some (.cells #[.int .i64 x249000_57, .int .u64 x249001_57] 143 (0, 0))) ∧ Aside0 (wc.heap[gb249]? = some (.cells #[.int .i64 0, .int .u64 (Int.tmod x243001_2 x244001_35)] 143 (0, 0))) ∧ Aside0 (Below w.heap.size w wc))
      case first =>
       have H := HC58.out
       clear HC58
       by_cases c82 : a0_0 = a1_0
       ·rw [if_pos c82] at H
        have c82b0 : (a0_0 == a1_0) = true := beq_iff_eq.mpr c82
        have c82b1 : (a0_0 != a1_0) = false := bne_eq_false_iff_eq.mpr c82
        clear c82
        (first | rw [c82b0] | (simp only [i64_w, i32_w]; rw [c82b0]) | skip)
        have H' := Aside0.mk H
        clear H
        go_wp2
        go_meet
        case rel => exact ⟨_, (0), (IntKind.u64.wrap (Int.tdiv x243001_2 x244001_35)), H', ⟨by have := HJ2.out; have := HJ35.out; first | omega | exact Nat.le_refl _⟩, ⟨by (with_reducible repeat (first | refine blk_drewN ?_ _ | refine blk_drew ?_ | refine blk_alloc ?_ _)); refine blk_far ?_ NB238_249.out _; (with_reducible repeat (first | refine blk_drewN ?_ _ | refine blk_drew ?_ | refine blk_alloc ?_ _)); refine blk_far ?_ NB238_249.out _; (with_reducible repeat (first | refine blk_drewN ?_ _ | refine blk_drew ?_ | refine blk_alloc ?_ _)); refine blk_far ?_ NB238_248.out _; (with_reducible repeat (first | refine blk_drewN ?_ _ | refine blk_drew ?_ | refine blk_alloc ?_ _)); refine blk_far ?_ NB238_248.out _; (with_reducible repeat (first | refine blk_drewN ?_ _ | refine blk_drew ?_ | refine blk_alloc ?_ _)); exact BK238.out⟩, ⟨by (with_reducible repeat (first | refine blk_drewN ?_ _ | refine blk_drew ?_ | refine blk_alloc ?_ _)); refine blk_far ?_ NB239_249.out _; (with_reducible repeat (first | refine blk_drewN ?_ _ | refine blk_drew ?_ | refine blk_alloc ?_ _)); refine blk_far ?_ NB239_249.out _; (with_reducible repeat (first | refine blk_drewN ?_ _ | refine blk_drew ?_ | refine blk_alloc ?_ _)); refine blk_far ?_ NB239_248.out _; (with_reducible repeat (first | refine blk_drewN ?_ _ | refine blk_drew ?_ | refine blk_alloc ?_ _)); refine blk_far ?_ NB239_248.out _; (with_reducible repeat (first | refine blk_drewN ?_ _ | refine blk_drew ?_ | refine blk_alloc ?_ _)); exact BK239.out⟩, ⟨by (with_reducible repeat (first | refine blk_drewN ?_ _ | refine blk_drew ?_ | refine blk_alloc ?_ _)); refine blk_far ?_ NB240_249.out _; (with_reducible repeat (first | refine blk_drewN ?_ _ | refine blk_drew ?_ | refine blk_alloc ?_ _)); refine blk_far ?_ NB240_249.out _; (with_reducible repeat (first | refine blk_drewN ?_ _ | refine blk_drew ?_ | refine blk_alloc ?_ _)); refine blk_far ?_ NB240_248.out _; (with_reducible repeat (first | refine blk_drewN ?_ _ | refine blk_drew ?_ | refine blk_alloc ?_ _)); refine blk_far ?_ NB240_248.out _; (with_reducible repeat (first | refine blk_drewN ?_ _ | refine blk_drew ?_ | refine blk_alloc ?_ _)); exact BK240.out⟩, ⟨by (with_reducible repeat (first | refine blk_drewN ?_ _ | refine blk_drew ?_ | refine blk_alloc ?_ _)); refine blk_far ?_ NB241_249.out _; (with_reducible repeat (first | refine blk_drewN ?_ _ | refine blk_drew ?_ | refine blk_alloc ?_ _)); refine blk_far ?_ NB241_249.out _; (with_reducible repeat (first | refine blk_drewN ?_ _ | refine blk_drew ?_ | refine blk_alloc ?_ _)); refine blk_far ?_ NB241_248.out _; (with_reducible repeat (first | refine blk_drewN ?_ _ | refine blk_drew ?_ | refine blk_alloc ?_ _)); refine blk_far ?_ NB241_248.out _; (with_reducible repeat (first | refine blk_drewN ?_ _ | refine blk_drew ?_ | refine blk_alloc ?_ _)); exact BK241.out⟩, ⟨by (with_reducible repeat (first | refine blk_drewN ?_ _ | refine blk_drew ?_ | refine blk_alloc ?_ _)); refine blk_far ?_ NB242_249.out _; (with_reducible repeat (first | refine blk_drewN ?_ _ | refine blk_drew ?_ | refine blk_alloc ?_ _)); refine blk_far ?_ NB242_249.out _; (with_reducible repeat (first | refine blk_drewN ?_ _ | refine blk_drew ?_ | refine blk_alloc ?_ _)); refine blk_far ?_ NB242_248.out _; (with_reducible repeat (first | refine blk_drewN ?_ _ | refine blk_drew ?_ | refine blk_alloc ?_ _)); refine blk_far ?_ NB242_248.out _; (with_reducible repeat (first | refine blk_drewN ?_ _ | refine blk_drew ?_ | refine blk_alloc ?_ _)); exact BK242.out⟩, ⟨by (with_reducible repeat (first | refine blk_drewN ?_ _ | refine blk_drew ?_ | refine blk_alloc ?_ _)); refine blk_far ?_ NB243_249.out _; (with_reducible repeat (first | refine blk_drewN ?_ _ | refine blk_drew ?_ | refine blk_alloc ?_ _)); refine blk_far ?_ NB243_249.out _; (with_reducible repeat (first | refine blk_drewN ?_ _ | refine blk_drew ?_ | refine blk_alloc ?_ _)); refine blk_far ?_ NB243_248.out _; (with_reducible repeat (first | refine blk_drewN ?_ _ | refine blk_drew ?_ | refine blk_alloc ?_ _)); refine blk_far ?_ NB243_248.out _; (with_reducible repeat (first | refine blk_drewN ?_ _ | refine blk_drew ?_ | refine blk_alloc ?_ _)); exact BK243.out⟩, ⟨by (with_reducible repeat (first | refine blk_drewN ?_ _ | refine blk_drew ?_ | refine blk_alloc ?_ _)); refine blk_far ?_ NB248_249.out _; (with_reducible repeat (first | refine blk_drewN ?_ _ | refine blk_drew ?_ | refine blk_alloc ?_ _)); refine blk_far ?_ NB248_249.out _; (with_reducible repeat (first | refine blk_drewN ?_ _ | refine blk_drew ?_ | refine blk_alloc ?_ _)); refine blk_put (cs := #[.int .i64 0, .int .u64 0]) ?_ 1 _ rfl; (with_reducible repeat (first | refine blk_drewN ?_ _ | refine blk_drew ?_ | refine blk_alloc ?_ _)); refine blk_put (cs := #[.int .i64 0, .int .u64 0]) ?_ 0 _ rfl; (with_reducible repeat (first | refine blk_drewN ?_ _ | refine blk_drew ?_ | refine blk_alloc ?_ _)); exact BK248.out⟩, ⟨by (with_reducible repeat (first | refine blk_drewN ?_ _ | refine blk_drew ?_ | refine blk_alloc ?_ _)); refine blk_put (cs := #[.int .i64 0, .int .u64 0]) ?_ 1 _ rfl; (with_reducible repeat (first | refine blk_drewN ?_ _ | refine blk_drew ?_ | refine blk_alloc ?_ _)); refine blk_put (cs := #[.int .i64 0, .int .u64 0]) ?_ 0 _ rfl; (with_reducible repeat (first | refine blk_drewN ?_ _ | refine blk_drew ?_ | refine blk_alloc ?_ _)); refine blk_far ?_ NB249_248.out _; (with_reducible repeat (first | refine blk_drewN ?_ _ | refine blk_drew ?_ | refine blk_alloc ?_ _)); refine blk_far ?_ NB249_248.out _; (with_reducible repeat (first | refine blk_drewN ?_ _ | refine blk_drew ?_ | refine blk_alloc ?_ _)); exact BK249.out⟩, ⟨by repeat (with_reducible first | exact HB.out | apply below_alloc | apply pw_below_drewN | apply below_drew1 | refine below_set ?_ GE238.out | refine below_set ?_ GE239.out | refine below_set ?_ GE240.out | refine below_set ?_ GE241.out | refine below_set ?_ GE242.out | refine below_set ?_ GE243.out | refine below_set ?_ GE248.out | refine below_set ?_ GE249.out)⟩⟩
       ·rw [if_neg c82] at H
        have c82b0 : (a0_0 == a1_0) = false := beq_eq_false_iff_ne.mpr c82
        have c82b1 : (a0_0 != a1_0) = true := bne_iff_ne.mpr c82
        (first | rw [c82b0] | (simp only [i64_w, i32_w]; rw [c82b0]) | skip)
        replace H := Option.bind_eq_some_iff.mp H
        obtain ⟨⟨t250, t251⟩, A830, H⟩ := H
        replace H : (arith_divided.j2 kj35 a0_0 a0_1 t250 t251 0 (Int.tmod x243001_2 x244001_35)) = some (r1, r2, r3, r4) := H
        have A83 := Aside0.mk A830
        clear A830
        have H' := Aside0.mk H
        clear H
        have hnb84 := NB248_238.out
        have hnc84 := NB238_248.out
        have hnb85 := NB248_239.out
        have hnc85 := NB239_248.out
        have hnb86 := NB248_240.out
        have hnc86 := NB240_248.out
        have hnb87 := NB248_241.out
        have hnc87 := NB241_248.out
        have hnb88 := NB248_242.out
        have hnc88 := NB242_248.out
        have hnb89 := NB248_243.out
        have hnc89 := NB243_248.out
        have hnb90 := NB248_249.out
        have hnc90 := NB249_248.out
        have hcz91_0 : w62.cell? ⟨gb248, 0, none⟩ = some (.int .i64 0) := (blk_cell BK248.out 0).trans rfl
        have hcz91_1 : w62.cell? ⟨gb248, 1, none⟩ = some (.int .u64 0) := (blk_cell BK248.out 1).trans rfl
        have hfz91_0 := blk_frozen BK248.out 0
        have hfz91_1 := blk_frozen BK248.out 1
        go_wp2_with (first | ((with_reducible refine gate_callee (f := 84) rfl ?_); refine goesL_ (some 40) rfl rfl Tryd.func84 (by kernel_rfl) rfl #[.agg #[.int .i64 0, .int .u64 (IntKind.u64.wrap (Int.tdiv x243001_2 x244001_35))]] rfl (by (try simp only [List.map_toArray, List.map_cons, List.map_nil]); first | done | rfl | (simp only [List.length_drop, List.length_take]; rfl)) ?_; (with_reducible refine (arith_wide_neg.calls 0 (IntKind.u64.wrap (Int.tdiv x243001_2 x244001_35)) t250 t251 _ A83.out).mono ?_); rintro e w92 ⟨rfl, hb⟩; refine ⟨_, rfl, ?_⟩; have n0_ := Aside0.mk (blk_below (g := gb238) (o := .cells #[.int .i64 a0_0, .int .u64 a0_1] 143 (0, 0)) (by (with_reducible repeat (first | refine blk_drewN ?_ _ | refine blk_drew ?_ | refine blk_alloc ?_ _)); refine blk_far ?_ NB238_249.out _; (with_reducible repeat (first | refine blk_drewN ?_ _ | refine blk_drew ?_ | refine blk_alloc ?_ _)); refine blk_far ?_ NB238_249.out _; (with_reducible repeat (first | refine blk_drewN ?_ _ | refine blk_drew ?_ | refine blk_alloc ?_ _)); refine blk_far ?_ NB238_248.out _; (with_reducible repeat (first | refine blk_drewN ?_ _ | refine blk_drew ?_ | refine blk_alloc ?_ _)); refine blk_far ?_ NB238_248.out _; (with_reducible repeat (first | refine blk_drewN ?_ _ | refine blk_drew ?_ | refine blk_alloc ?_ _)); exact BK238.out) hb); have n1_ := Aside0.mk (blk_below (g := gb239) (o := .cells #[.int .i64 a1_0, .int .u64 a1_1] 143 (0, 0)) (by (with_reducible repeat (first | refine blk_drewN ?_ _ | refine blk_drew ?_ | refine blk_alloc ?_ _)); refine blk_far ?_ NB239_249.out _; (with_reducible repeat (first | refine blk_drewN ?_ _ | refine blk_drew ?_ | refine blk_alloc ?_ _)); refine blk_far ?_ NB239_249.out _; (with_reducible repeat (first | refine blk_drewN ?_ _ | refine blk_drew ?_ | refine blk_alloc ?_ _)); refine blk_far ?_ NB239_248.out _; (with_reducible repeat (first | refine blk_drewN ?_ _ | refine blk_drew ?_ | refine blk_alloc ?_ _)); refine blk_far ?_ NB239_248.out _; (with_reducible repeat (first | refine blk_drewN ?_ _ | refine blk_drew ?_ | refine blk_alloc ?_ _)); exact BK239.out) hb); have n2_ := Aside0.mk (blk_below (g := gb240) (o := .cells #[.int .i64 0, .int .u64 0] 143 (0, 0)) (by (with_reducible repeat (first | refine blk_drewN ?_ _ | refine blk_drew ?_ | refine blk_alloc ?_ _)); refine blk_far ?_ NB240_249.out _; (with_reducible repeat (first | refine blk_drewN ?_ _ | refine blk_drew ?_ | refine blk_alloc ?_ _)); refine blk_far ?_ NB240_249.out _; (with_reducible repeat (first | refine blk_drewN ?_ _ | refine blk_drew ?_ | refine blk_alloc ?_ _)); refine blk_far ?_ NB240_248.out _; (with_reducible repeat (first | refine blk_drewN ?_ _ | refine blk_drew ?_ | refine blk_alloc ?_ _)); refine blk_far ?_ NB240_248.out _; (with_reducible repeat (first | refine blk_drewN ?_ _ | refine blk_drew ?_ | refine blk_alloc ?_ _)); exact BK240.out) hb); have n3_ := Aside0.mk (blk_below (g := gb241) (o := .cells #[.int .i64 0, .int .u64 0] 143 (0, 0)) (by (with_reducible repeat (first | refine blk_drewN ?_ _ | refine blk_drew ?_ | refine blk_alloc ?_ _)); refine blk_far ?_ NB241_249.out _; (with_reducible repeat (first | refine blk_drewN ?_ _ | refine blk_drew ?_ | refine blk_alloc ?_ _)); refine blk_far ?_ NB241_249.out _; (with_reducible repeat (first | refine blk_drewN ?_ _ | refine blk_drew ?_ | refine blk_alloc ?_ _)); refine blk_far ?_ NB241_248.out _; (with_reducible repeat (first | refine blk_drewN ?_ _ | refine blk_drew ?_ | refine blk_alloc ?_ _)); refine blk_far ?_ NB241_248.out _; (with_reducible repeat (first | refine blk_drewN ?_ _ | refine blk_drew ?_ | refine blk_alloc ?_ _)); exact BK241.out) hb); have n4_ := Aside0.mk (blk_below (g := gb242) (o := .cells #[.int .i64 x243000_2, .int .u64 x243001_2] 143 (0, 0)) (by (with_reducible repeat (first | refine blk_drewN ?_ _ | refine blk_drew ?_ | refine blk_alloc ?_ _)); refine blk_far ?_ NB242_249.out _; (with_reducible repeat (first | refine blk_drewN ?_ _ | refine blk_drew ?_ | refine blk_alloc ?_ _)); refine blk_far ?_ NB242_249.out _; (with_reducible repeat (first | refine blk_drewN ?_ _ | refine blk_drew ?_ | refine blk_alloc ?_ _)); refine blk_far ?_ NB242_248.out _; (with_reducible repeat (first | refine blk_drewN ?_ _ | refine blk_drew ?_ | refine blk_alloc ?_ _)); refine blk_far ?_ NB242_248.out _; (with_reducible repeat (first | refine blk_drewN ?_ _ | refine blk_drew ?_ | refine blk_alloc ?_ _)); exact BK242.out) hb); have n5_ := Aside0.mk (blk_below (g := gb243) (o := .cells #[.int .i64 x244000_35, .int .u64 x244001_35] 143 (0, 0)) (by (with_reducible repeat (first | refine blk_drewN ?_ _ | refine blk_drew ?_ | refine blk_alloc ?_ _)); refine blk_far ?_ NB243_249.out _; (with_reducible repeat (first | refine blk_drewN ?_ _ | refine blk_drew ?_ | refine blk_alloc ?_ _)); refine blk_far ?_ NB243_249.out _; (with_reducible repeat (first | refine blk_drewN ?_ _ | refine blk_drew ?_ | refine blk_alloc ?_ _)); refine blk_far ?_ NB243_248.out _; (with_reducible repeat (first | refine blk_drewN ?_ _ | refine blk_drew ?_ | refine blk_alloc ?_ _)); refine blk_far ?_ NB243_248.out _; (with_reducible repeat (first | refine blk_drewN ?_ _ | refine blk_drew ?_ | refine blk_alloc ?_ _)); exact BK243.out) hb); have n6_ := Aside0.mk (blk_below (g := gb248) (o := .cells #[.int .i64 0, .int .u64 (IntKind.u64.wrap (Int.tdiv x243001_2 x244001_35))] 143 (0, 0)) (by (with_reducible repeat (first | refine blk_drewN ?_ _ | refine blk_drew ?_ | refine blk_alloc ?_ _)); refine blk_far ?_ NB248_249.out _; (with_reducible repeat (first | refine blk_drewN ?_ _ | refine blk_drew ?_ | refine blk_alloc ?_ _)); refine blk_far ?_ NB248_249.out _; (with_reducible repeat (first | refine blk_drewN ?_ _ | refine blk_drew ?_ | refine blk_alloc ?_ _)); refine blk_put (cs := #[.int .i64 0, .int .u64 0]) ?_ 1 _ rfl; (with_reducible repeat (first | refine blk_drewN ?_ _ | refine blk_drew ?_ | refine blk_alloc ?_ _)); refine blk_put (cs := #[.int .i64 0, .int .u64 0]) ?_ 0 _ rfl; (with_reducible repeat (first | refine blk_drewN ?_ _ | refine blk_drew ?_ | refine blk_alloc ?_ _)); exact BK248.out) hb); have n7_ := Aside0.mk (blk_below (g := gb249) (o := .cells #[.int .i64 0, .int .u64 (Int.tmod x243001_2 x244001_35)] 143 (0, 0)) (by (with_reducible repeat (first | refine blk_drewN ?_ _ | refine blk_drew ?_ | refine blk_alloc ?_ _)); refine blk_put (cs := #[.int .i64 0, .int .u64 0]) ?_ 1 _ rfl; (with_reducible repeat (first | refine blk_drewN ?_ _ | refine blk_drew ?_ | refine blk_alloc ?_ _)); refine blk_put (cs := #[.int .i64 0, .int .u64 0]) ?_ 0 _ rfl; (with_reducible repeat (first | refine blk_drewN ?_ _ | refine blk_drew ?_ | refine blk_alloc ?_ _)); refine blk_far ?_ NB249_248.out _; (with_reducible repeat (first | refine blk_drewN ?_ _ | refine blk_drew ?_ | refine blk_alloc ?_ _)); refine blk_far ?_ NB249_248.out _; (with_reducible repeat (first | refine blk_drewN ?_ _ | refine blk_drew ?_ | refine blk_alloc ?_ _)); exact BK249.out) hb); have n8_ := Aside0.mk (below_step (by repeat (with_reducible first | exact HB.out | apply below_alloc | apply pw_below_drewN | apply below_drew1 | refine below_set ?_ GE238.out | refine below_set ?_ GE239.out | refine below_set ?_ GE240.out | refine below_set ?_ GE241.out | refine below_set ?_ GE242.out | refine below_set ?_ GE243.out | refine below_set ?_ GE248.out | refine below_set ?_ GE249.out)) hb); clear BK238; clear BK239; clear BK240; clear BK241; clear BK242; clear BK243; clear BK248; clear BK249; clear HB; have BK238 := n0_; have BK239 := n1_; have BK240 := n2_; have BK241 := n3_; have BK242 := n4_; have BK243 := n5_; have BK248 := n6_; have BK249 := n7_; have HB := n8_; clear n0_ n1_ n2_ n3_ n4_ n5_ n6_ n7_ n8_; (try clear hb); (try clear hb2); (try clear hk); (try clear hi); have hcz93_0 : w92.cell? ⟨gb248, 0, none⟩ = some (.int .i64 0) := (blk_cell BK248.out 0).trans rfl; have hcz93_1 : w92.cell? ⟨gb248, 1, none⟩ = some (.int .u64 (IntKind.u64.wrap (Int.tdiv x243001_2 x244001_35))) := (blk_cell BK248.out 1).trans rfl; have hfz93_0 := blk_frozen BK248.out 0; have hfz93_1 := blk_frozen BK248.out 1))
        go_meet
        case rel => exact ⟨_, (t250), (t251), H', ⟨by have := HJ2.out; have := HJ35.out; first | omega | exact Nat.le_refl _⟩, ⟨by (with_reducible repeat (first | refine blk_drewN ?_ _ | refine blk_drew ?_ | refine blk_alloc ?_ _)); refine blk_far ?_ NB238_248.out _; (with_reducible repeat (first | refine blk_drewN ?_ _ | refine blk_drew ?_ | refine blk_alloc ?_ _)); refine blk_far ?_ NB238_248.out _; (with_reducible repeat (first | refine blk_drewN ?_ _ | refine blk_drew ?_ | refine blk_alloc ?_ _)); exact BK238.out⟩, ⟨by (with_reducible repeat (first | refine blk_drewN ?_ _ | refine blk_drew ?_ | refine blk_alloc ?_ _)); refine blk_far ?_ NB239_248.out _; (with_reducible repeat (first | refine blk_drewN ?_ _ | refine blk_drew ?_ | refine blk_alloc ?_ _)); refine blk_far ?_ NB239_248.out _; (with_reducible repeat (first | refine blk_drewN ?_ _ | refine blk_drew ?_ | refine blk_alloc ?_ _)); exact BK239.out⟩, ⟨by (with_reducible repeat (first | refine blk_drewN ?_ _ | refine blk_drew ?_ | refine blk_alloc ?_ _)); refine blk_far ?_ NB240_248.out _; (with_reducible repeat (first | refine blk_drewN ?_ _ | refine blk_drew ?_ | refine blk_alloc ?_ _)); refine blk_far ?_ NB240_248.out _; (with_reducible repeat (first | refine blk_drewN ?_ _ | refine blk_drew ?_ | refine blk_alloc ?_ _)); exact BK240.out⟩, ⟨by (with_reducible repeat (first | refine blk_drewN ?_ _ | refine blk_drew ?_ | refine blk_alloc ?_ _)); refine blk_far ?_ NB241_248.out _; (with_reducible repeat (first | refine blk_drewN ?_ _ | refine blk_drew ?_ | refine blk_alloc ?_ _)); refine blk_far ?_ NB241_248.out _; (with_reducible repeat (first | refine blk_drewN ?_ _ | refine blk_drew ?_ | refine blk_alloc ?_ _)); exact BK241.out⟩, ⟨by (with_reducible repeat (first | refine blk_drewN ?_ _ | refine blk_drew ?_ | refine blk_alloc ?_ _)); refine blk_far ?_ NB242_248.out _; (with_reducible repeat (first | refine blk_drewN ?_ _ | refine blk_drew ?_ | refine blk_alloc ?_ _)); refine blk_far ?_ NB242_248.out _; (with_reducible repeat (first | refine blk_drewN ?_ _ | refine blk_drew ?_ | refine blk_alloc ?_ _)); exact BK242.out⟩, ⟨by (with_reducible repeat (first | refine blk_drewN ?_ _ | refine blk_drew ?_ | refine blk_alloc ?_ _)); refine blk_far ?_ NB243_248.out _; (with_reducible repeat (first | refine blk_drewN ?_ _ | refine blk_drew ?_ | refine blk_alloc ?_ _)); refine blk_far ?_ NB243_248.out _; (with_reducible repeat (first | refine blk_drewN ?_ _ | refine blk_drew ?_ | refine blk_alloc ?_ _)); exact BK243.out⟩, ⟨by (with_reducible repeat (first | refine blk_drewN ?_ _ | refine blk_drew ?_ | refine blk_alloc ?_ _)); refine blk_put (cs := #[.int .i64 t250, .int .u64 (IntKind.u64.wrap (Int.tdiv x243001_2 x244001_35))]) ?_ 1 _ rfl; (with_reducible repeat (first | refine blk_drewN ?_ _ | refine blk_drew ?_ | refine blk_alloc ?_ _)); refine blk_put (cs := #[.int .i64 0, .int .u64 (IntKind.u64.wrap (Int.tdiv x243001_2 x244001_35))]) ?_ 0 _ rfl; (with_reducible repeat (first | refine blk_drewN ?_ _ | refine blk_drew ?_ | refine blk_alloc ?_ _)); exact BK248.out⟩, ⟨by (with_reducible repeat (first | refine blk_drewN ?_ _ | refine blk_drew ?_ | refine blk_alloc ?_ _)); refine blk_far ?_ NB249_248.out _; (with_reducible repeat (first | refine blk_drewN ?_ _ | refine blk_drew ?_ | refine blk_alloc ?_ _)); refine blk_far ?_ NB249_248.out _; (with_reducible repeat (first | refine blk_drewN ?_ _ | refine blk_drew ?_ | refine blk_alloc ?_ _)); exact BK249.out⟩, ⟨by repeat (with_reducible first | exact HB.out | apply below_alloc | apply pw_below_drewN | apply below_drew1 | refine below_set ?_ GE238.out | refine below_set ?_ GE239.out | refine below_set ?_ GE240.out | refine below_set ?_ GE241.out | refine below_set ?_ GE242.out | refine below_set ?_ GE243.out | refine below_set ?_ GE248.out | refine below_set ?_ GE249.out)⟩⟩
      case rest =>
       clear HC58
       try clear p2
       try clear c6
       try clear c7
       try clear c8
       try clear c9
       try clear c67
       try clear c68
       try clear c69
       try clear c70
       try clear c71
       try clear c72
       try clear c73
       try clear c75
       try clear c76
       try clear c77
       try clear c78
       try clear c79
       try clear c80
       try clear c82
       try clear c82b0
       try clear c82b1
       try clear c84
       try clear c85
       try clear c86
       try clear c87
       try clear c88
       try clear c89
       try clear c90
       try clear hcz74_0
       try clear hcz74_1
       try clear hcz81_0
       try clear hcz81_1
       try clear hcz91_0
       try clear hcz91_1
       try clear hcz93_0
       try clear hcz93_1
       try clear hfz74_0
       try clear hfz74_1
       try clear hfz81_0
       try clear hfz81_1
       try clear hfz91_0
       try clear hfz91_1
       try clear hfz93_0
       try clear hfz93_1
       obtain ⟨kq, x249000_57, x249001_57, HA, HJ57, BK238, BK239, BK240, BK241, BK242, BK243, BK248, BK249, HB⟩ := hcut
       cases kq with
       | zero => exact absurd HA.out (by simp [arith_divided.j2])
       | succ kj57 =>
        have H := HA.out
        clear HA
        simp only [arith_divided.j2] at H
        by_cases c94 : a0_0 < 0
        ·rw [if_pos c94] at H
         have c94b0 : decide (a0_0 < 0) = true := decide_eq_true c94
         clear c94
         replace H := Option.bind_eq_some_iff.mp H
         obtain ⟨⟨t252, t253⟩, A950, H⟩ := H
         replace H : (some (x249000_57, x249001_57, t252, t253)) = some (r1, r2, r3, r4) := H
         have A95 := Aside0.mk A950
         clear A950
         simp only [Option.some.injEq, Prod.mk.injEq] at H
         obtain ⟨rfl, rfl, rfl, rfl⟩ := H
         have hnb96 := NB238_239.out
         have hnc96 := NB239_238.out
         have hnb97 := NB238_240.out
         have hnc97 := NB240_238.out
         have hnb98 := NB238_241.out
         have hnc98 := NB241_238.out
         have hnb99 := NB238_242.out
         have hnc99 := NB242_238.out
         have hnb100 := NB238_243.out
         have hnc100 := NB243_238.out
         have hnb101 := NB238_248.out
         have hnc101 := NB248_238.out
         have hnb102 := NB238_249.out
         have hnc102 := NB249_238.out
         have hcz103_0 : wc.cell? ⟨gb238, 0, none⟩ = some (.int .i64 a0_0) := (blk_cell BK238.out 0).trans rfl
         have hcz103_1 : wc.cell? ⟨gb238, 1, none⟩ = some (.int .u64 a0_1) := (blk_cell BK238.out 1).trans rfl
         have hfz103_0 := blk_frozen BK238.out 0
         have hfz103_1 := blk_frozen BK238.out 1
         have hnb104 := NB249_239.out
         have hnc104 := NB239_249.out
         have hnb105 := NB249_240.out
         have hnc105 := NB240_249.out
         have hnb106 := NB249_241.out
         have hnc106 := NB241_249.out
         have hnb107 := NB249_242.out
         have hnc107 := NB242_249.out
         have hnb108 := NB249_243.out
         have hnc108 := NB243_249.out
         have hnb109 := NB249_248.out
         have hnc109 := NB248_249.out
         have hcz110_0 : wc.cell? ⟨gb249, 0, none⟩ = some (.int .i64 0) := (blk_cell BK249.out 0).trans rfl
         have hcz110_1 : wc.cell? ⟨gb249, 1, none⟩ = some (.int .u64 (Int.tmod x243001_2 x244001_35)) := (blk_cell BK249.out 1).trans rfl
         have hfz110_0 := blk_frozen BK249.out 0
         have hfz110_1 := blk_frozen BK249.out 1
         try go_wp2_with (first | ((with_reducible refine gate_callee (f := 84) rfl ?_); refine goesL_ (some 45) rfl rfl Tryd.func84 (by kernel_rfl) rfl #[.agg #[.int .i64 0, .int .u64 (Int.tmod x243001_2 x244001_35)]] rfl (by (try simp only [List.map_toArray, List.map_cons, List.map_nil]); first | done | rfl | (simp only [List.length_drop, List.length_take]; rfl)) ?_; (with_reducible refine (arith_wide_neg.calls 0 (Int.tmod x243001_2 x244001_35) t252 t253 _ A95.out).mono ?_); rintro e w111 ⟨rfl, hb⟩; refine ⟨_, rfl, ?_⟩; have n0_ := Aside0.mk (blk_below (g := gb238) (o := .cells #[.int .i64 a0_0, .int .u64 a0_1] 143 (0, 0)) (by (with_reducible repeat (first | refine blk_drewN ?_ _ | refine blk_drew ?_ | refine blk_alloc ?_ _)); exact BK238.out) hb); have n1_ := Aside0.mk (blk_below (g := gb239) (o := .cells #[.int .i64 a1_0, .int .u64 a1_1] 143 (0, 0)) (by (with_reducible repeat (first | refine blk_drewN ?_ _ | refine blk_drew ?_ | refine blk_alloc ?_ _)); exact BK239.out) hb); have n2_ := Aside0.mk (blk_below (g := gb240) (o := .cells #[.int .i64 0, .int .u64 0] 143 (0, 0)) (by (with_reducible repeat (first | refine blk_drewN ?_ _ | refine blk_drew ?_ | refine blk_alloc ?_ _)); exact BK240.out) hb); have n3_ := Aside0.mk (blk_below (g := gb241) (o := .cells #[.int .i64 0, .int .u64 0] 143 (0, 0)) (by (with_reducible repeat (first | refine blk_drewN ?_ _ | refine blk_drew ?_ | refine blk_alloc ?_ _)); exact BK241.out) hb); have n4_ := Aside0.mk (blk_below (g := gb242) (o := .cells #[.int .i64 x243000_2, .int .u64 x243001_2] 143 (0, 0)) (by (with_reducible repeat (first | refine blk_drewN ?_ _ | refine blk_drew ?_ | refine blk_alloc ?_ _)); exact BK242.out) hb); have n5_ := Aside0.mk (blk_below (g := gb243) (o := .cells #[.int .i64 x244000_35, .int .u64 x244001_35] 143 (0, 0)) (by (with_reducible repeat (first | refine blk_drewN ?_ _ | refine blk_drew ?_ | refine blk_alloc ?_ _)); exact BK243.out) hb); have n6_ := Aside0.mk (blk_below (g := gb248) (o := .cells #[.int .i64 x249000_57, .int .u64 x249001_57] 143 (0, 0)) (by (with_reducible repeat (first | refine blk_drewN ?_ _ | refine blk_drew ?_ | refine blk_alloc ?_ _)); exact BK248.out) hb); have n7_ := Aside0.mk (blk_below (g := gb249) (o := .cells #[.int .i64 0, .int .u64 (Int.tmod x243001_2 x244001_35)] 143 (0, 0)) (by (with_reducible repeat (first | refine blk_drewN ?_ _ | refine blk_drew ?_ | refine blk_alloc ?_ _)); exact BK249.out) hb); have n8_ := Aside0.mk (below_step (by repeat (with_reducible first | exact HB.out | apply below_alloc | apply pw_below_drewN | apply below_drew1 | refine below_set ?_ GE238.out | refine below_set ?_ GE239.out | refine below_set ?_ GE240.out | refine below_set ?_ GE241.out | refine below_set ?_ GE242.out | refine below_set ?_ GE243.out | refine below_set ?_ GE248.out | refine below_set ?_ GE249.out)) hb); clear BK238; clear BK239; clear BK240; clear BK241; clear BK242; clear BK243; clear BK248; clear BK249; clear HB; have BK238 := n0_; have BK239 := n1_; have BK240 := n2_; have BK241 := n3_; have BK242 := n4_; have BK243 := n5_; have BK248 := n6_; have BK249 := n7_; have HB := n8_; clear n0_ n1_ n2_ n3_ n4_ n5_ n6_ n7_ n8_; (try clear hb); (try clear hb2); (try clear hk); (try clear hi); have hcz112_0 : w111.cell? ⟨gb249, 0, none⟩ = some (.int .i64 0) := (blk_cell BK249.out 0).trans rfl; have hcz112_1 : w111.cell? ⟨gb249, 1, none⟩ = some (.int .u64 (Int.tmod x243001_2 x244001_35)) := (blk_cell BK249.out 1).trans rfl; have hfz112_0 := blk_frozen BK249.out 0; have hfz112_1 := blk_frozen BK249.out 1))
         have n0_ : Aside0 (((w111.setCell ⟨gb249, 0, none⟩ (.int .i64 t252)).setCell ⟨gb249, 1, none⟩ (.int .u64 t253)).heap[gb238]? = some (.cells #[.int .i64 a0_0, .int .u64 a0_1] 143 (0, 0))) := ⟨by (with_reducible repeat (first | refine blk_drewN ?_ _ | refine blk_drew ?_ | refine blk_alloc ?_ _)); refine blk_far ?_ NB238_249.out _; (with_reducible repeat (first | refine blk_drewN ?_ _ | refine blk_drew ?_ | refine blk_alloc ?_ _)); refine blk_far ?_ NB238_249.out _; (with_reducible repeat (first | refine blk_drewN ?_ _ | refine blk_drew ?_ | refine blk_alloc ?_ _)); exact BK238.out⟩
         have n1_ : Aside0 (((w111.setCell ⟨gb249, 0, none⟩ (.int .i64 t252)).setCell ⟨gb249, 1, none⟩ (.int .u64 t253)).heap[gb239]? = some (.cells #[.int .i64 a1_0, .int .u64 a1_1] 143 (0, 0))) := ⟨by (with_reducible repeat (first | refine blk_drewN ?_ _ | refine blk_drew ?_ | refine blk_alloc ?_ _)); refine blk_far ?_ NB239_249.out _; (with_reducible repeat (first | refine blk_drewN ?_ _ | refine blk_drew ?_ | refine blk_alloc ?_ _)); refine blk_far ?_ NB239_249.out _; (with_reducible repeat (first | refine blk_drewN ?_ _ | refine blk_drew ?_ | refine blk_alloc ?_ _)); exact BK239.out⟩
         have n2_ : Aside0 (((w111.setCell ⟨gb249, 0, none⟩ (.int .i64 t252)).setCell ⟨gb249, 1, none⟩ (.int .u64 t253)).heap[gb240]? = some (.cells #[.int .i64 0, .int .u64 0] 143 (0, 0))) := ⟨by (with_reducible repeat (first | refine blk_drewN ?_ _ | refine blk_drew ?_ | refine blk_alloc ?_ _)); refine blk_far ?_ NB240_249.out _; (with_reducible repeat (first | refine blk_drewN ?_ _ | refine blk_drew ?_ | refine blk_alloc ?_ _)); refine blk_far ?_ NB240_249.out _; (with_reducible repeat (first | refine blk_drewN ?_ _ | refine blk_drew ?_ | refine blk_alloc ?_ _)); exact BK240.out⟩
         have n3_ : Aside0 (((w111.setCell ⟨gb249, 0, none⟩ (.int .i64 t252)).setCell ⟨gb249, 1, none⟩ (.int .u64 t253)).heap[gb241]? = some (.cells #[.int .i64 0, .int .u64 0] 143 (0, 0))) := ⟨by (with_reducible repeat (first | refine blk_drewN ?_ _ | refine blk_drew ?_ | refine blk_alloc ?_ _)); refine blk_far ?_ NB241_249.out _; (with_reducible repeat (first | refine blk_drewN ?_ _ | refine blk_drew ?_ | refine blk_alloc ?_ _)); refine blk_far ?_ NB241_249.out _; (with_reducible repeat (first | refine blk_drewN ?_ _ | refine blk_drew ?_ | refine blk_alloc ?_ _)); exact BK241.out⟩
         have n4_ : Aside0 (((w111.setCell ⟨gb249, 0, none⟩ (.int .i64 t252)).setCell ⟨gb249, 1, none⟩ (.int .u64 t253)).heap[gb242]? = some (.cells #[.int .i64 x243000_2, .int .u64 x243001_2] 143 (0, 0))) := ⟨by (with_reducible repeat (first | refine blk_drewN ?_ _ | refine blk_drew ?_ | refine blk_alloc ?_ _)); refine blk_far ?_ NB242_249.out _; (with_reducible repeat (first | refine blk_drewN ?_ _ | refine blk_drew ?_ | refine blk_alloc ?_ _)); refine blk_far ?_ NB242_249.out _; (with_reducible repeat (first | refine blk_drewN ?_ _ | refine blk_drew ?_ | refine blk_alloc ?_ _)); exact BK242.out⟩
         have n5_ : Aside0 (((w111.setCell ⟨gb249, 0, none⟩ (.int .i64 t252)).setCell ⟨gb249, 1, none⟩ (.int .u64 t253)).heap[gb243]? = some (.cells #[.int .i64 x244000_35, .int .u64 x244001_35] 143 (0, 0))) := ⟨by (with_reducible repeat (first | refine blk_drewN ?_ _ | refine blk_drew ?_ | refine blk_alloc ?_ _)); refine blk_far ?_ NB243_249.out _; (with_reducible repeat (first | refine blk_drewN ?_ _ | refine blk_drew ?_ | refine blk_alloc ?_ _)); refine blk_far ?_ NB243_249.out _; (with_reducible repeat (first | refine blk_drewN ?_ _ | refine blk_drew ?_ | refine blk_alloc ?_ _)); exact BK243.out⟩
         have n6_ : Aside0 (((w111.setCell ⟨gb249, 0, none⟩ (.int .i64 t252)).setCell ⟨gb249, 1, none⟩ (.int .u64 t253)).heap[gb248]? = some (.cells #[.int .i64 x249000_57, .int .u64 x249001_57] 143 (0, 0))) := ⟨by (with_reducible repeat (first | refine blk_drewN ?_ _ | refine blk_drew ?_ | refine blk_alloc ?_ _)); refine blk_far ?_ NB248_249.out _; (with_reducible repeat (first | refine blk_drewN ?_ _ | refine blk_drew ?_ | refine blk_alloc ?_ _)); refine blk_far ?_ NB248_249.out _; (with_reducible repeat (first | refine blk_drewN ?_ _ | refine blk_drew ?_ | refine blk_alloc ?_ _)); exact BK248.out⟩
         have n7_ : Aside0 (((w111.setCell ⟨gb249, 0, none⟩ (.int .i64 t252)).setCell ⟨gb249, 1, none⟩ (.int .u64 t253)).heap[gb249]? = some (.cells #[.int .i64 t252, .int .u64 t253] 143 (0, 0))) := ⟨by (with_reducible repeat (first | refine blk_drewN ?_ _ | refine blk_drew ?_ | refine blk_alloc ?_ _)); refine blk_put (cs := #[.int .i64 t252, .int .u64 (Int.tmod x243001_2 x244001_35)]) ?_ 1 _ rfl; (with_reducible repeat (first | refine blk_drewN ?_ _ | refine blk_drew ?_ | refine blk_alloc ?_ _)); refine blk_put (cs := #[.int .i64 0, .int .u64 (Int.tmod x243001_2 x244001_35)]) ?_ 0 _ rfl; (with_reducible repeat (first | refine blk_drewN ?_ _ | refine blk_drew ?_ | refine blk_alloc ?_ _)); exact BK249.out⟩
         have n8_ : Aside0 (Below w.heap.size w ((w111.setCell ⟨gb249, 0, none⟩ (.int .i64 t252)).setCell ⟨gb249, 1, none⟩ (.int .u64 t253))) := ⟨by repeat (with_reducible first | exact HB.out | apply below_alloc | apply pw_below_drewN | apply below_drew1 | refine below_set ?_ GE238.out | refine below_set ?_ GE239.out | refine below_set ?_ GE240.out | refine below_set ?_ GE241.out | refine below_set ?_ GE242.out | refine below_set ?_ GE243.out | refine below_set ?_ GE248.out | refine below_set ?_ GE249.out)⟩
         (try clear BK238)
         (try clear BK239)
         (try clear BK240)
         (try clear BK241)
         (try clear BK242)
         (try clear BK243)
         (try clear BK248)
         (try clear BK249)
         (try clear HB)
         generalize ((w111.setCell ⟨gb249, 0, none⟩ (.int .i64 t252)).setCell ⟨gb249, 1, none⟩ (.int .u64 t253)) = w113 at n0_ n1_ n2_ n3_ n4_ n5_ n6_ n7_ n8_ ⊢
         have BK238 := n0_
         have BK239 := n1_
         have BK240 := n2_
         have BK241 := n3_
         have BK242 := n4_
         have BK243 := n5_
         have BK248 := n6_
         have BK249 := n7_
         have HB := n8_
         clear n0_ n1_ n2_ n3_ n4_ n5_ n6_ n7_ n8_
         have n0_ := Aside0.mk (blk_drew BK238.out)
         have n1_ := Aside0.mk (blk_drew BK239.out)
         have n2_ := Aside0.mk (blk_drew BK240.out)
         have n3_ := Aside0.mk (blk_drew BK241.out)
         have n4_ := Aside0.mk (blk_drew BK242.out)
         have n5_ := Aside0.mk (blk_drew BK243.out)
         have n6_ := Aside0.mk (blk_drew BK248.out)
         have n7_ := Aside0.mk (blk_drew BK249.out)
         have n8_ := Aside0.mk (below_drew1 HB.out)
         clear BK238
         clear BK239
         clear BK240
         clear BK241
         clear BK242
         clear BK243
         clear BK248
         clear BK249
         clear HB
         have BK238 := n0_
         have BK239 := n1_
         have BK240 := n2_
         have BK241 := n3_
         have BK242 := n4_
         have BK243 := n5_
         have BK248 := n6_
         have BK249 := n7_
         have HB := n8_
         clear n0_ n1_ n2_ n3_ n4_ n5_ n6_ n7_ n8_
         refine start_ (n := 4) (S := fun w' => w'.cell? ⟨gb248, 0, none⟩ = some (.int .i64 x249000_57) ∧ w'.cell? ⟨gb248, 1, none⟩ = some (.int .u64 x249001_57) ∧ w'.cell? ⟨gb249, 0, none⟩ = some (.int .i64 t252) ∧ w'.cell? ⟨gb249, 1, none⟩ = some (.int .u64 t253)) (ds := []) #[false, false, false, false] (by kernel_rfl) rfl rfl ⟨(blk_cell BK248.out 0).trans rfl, (blk_cell BK248.out 1).trans rfl, (blk_cell BK249.out 0).trans rfl, (blk_cell BK249.out 1).trans rfl⟩ (fun hHeld => ?_)
         generalize w113.drew = w114 at BK238 BK239 BK240 BK241 BK242 BK243 BK248 BK249 HB hHeld ⊢
         refine take_ (i := 0) (N := some 46) (v := ?_) (a' := ?_) #[true, false, false, false] rfl rfl (by kernel_rfl) (fun _ _ _ h => h) (Or.inl ⟨by rfl, ?_⟩) hHeld ?_ ?_
         rotate_left
         ·rintro w' ⟨s0, s1, s2, s3⟩
          go_simp
          with_reducible rfl
         rotate_left
         ·simp only [Act.put, List.setIfInBounds_toArray, List.set_cons_zero, List.set_cons_succ, i64_w, i32_w]
          rfl
         refine take_ (i := 1) (N := some 47) (v := ?_) (a' := ?_) #[true, true, false, false] rfl rfl (by kernel_rfl) (fun _ _ _ h => h) (Or.inl ⟨by rfl, ?_⟩) hHeld ?_ ?_
         rotate_left
         ·rintro w' ⟨s0, s1, s2, s3⟩
          go_simp
          with_reducible rfl
         rotate_left
         ·simp only [Act.put, List.setIfInBounds_toArray, List.set_cons_zero, List.set_cons_succ, i64_w, i32_w]
          rfl
         refine one_ (i := 2) (N := none) #[true, true, true, false] rfl rfl (by kernel_rfl) (by decide) (fun K hK => ?_)
         have hs115 : w114.cell? ⟨gb240, 0, none⟩ = some (.int .i64 0) := (blk_cell BK240.out 0).trans rfl
         have hfs115 := blk_frozen BK240.out 0
         have hns115_0 := NB238_240.out
         have hns115_1 := NB239_240.out
         have hns115_3 := NB241_240.out
         have hns115_4 := NB242_240.out
         have hns115_5 := NB243_240.out
         have hns115_6 := NB248_240.out
         have hns115_7 := NB249_240.out
         have hms115_0 := NB240_238.out
         have hms115_1 := NB240_239.out
         have hms115_3 := NB240_241.out
         have hms115_4 := NB240_242.out
         have hms115_5 := NB240_243.out
         have hms115_6 := NB240_248.out
         have hms115_7 := NB240_249.out
         have hs116 : w114.cell? ⟨gb240, 1, none⟩ = some (.int .u64 0) := (blk_cell BK240.out 1).trans rfl
         have hfs116 := blk_frozen BK240.out 1
         have hns116_0 := NB238_240.out
         have hns116_1 := NB239_240.out
         have hns116_3 := NB241_240.out
         have hns116_4 := NB242_240.out
         have hns116_5 := NB243_240.out
         have hns116_6 := NB248_240.out
         have hns116_7 := NB249_240.out
         have hms116_0 := NB240_238.out
         have hms116_1 := NB240_239.out
         have hms116_3 := NB240_241.out
         have hms116_4 := NB240_242.out
         have hms116_5 := NB240_243.out
         have hms116_6 := NB240_248.out
         have hms116_7 := NB240_249.out
         refine skip_ (w1 := ?_) (by rfl) rfl ?_ ?_
         rotate_left
         ·go_simp
          rfl
         refine hK.out _ _ ⟨((cell_far (p := ⟨gb240, _, none⟩) NB248_240.out _).trans (((cell_far (p := ⟨gb240, _, none⟩) NB248_240.out _).trans (hHeld.1)))), ((cell_far (p := ⟨gb240, _, none⟩) NB248_240.out _).trans (((cell_far (p := ⟨gb240, _, none⟩) NB248_240.out _).trans (hHeld.2.1)))), ((cell_far (p := ⟨gb240, _, none⟩) NB249_240.out _).trans (((cell_far (p := ⟨gb240, _, none⟩) NB249_240.out _).trans (hHeld.2.2.1)))), ((cell_far (p := ⟨gb240, _, none⟩) NB249_240.out _).trans (((cell_far (p := ⟨gb240, _, none⟩) NB249_240.out _).trans (hHeld.2.2.2))))⟩ (fun hHeld => ?_)
         clear hK K
         refine one_ (i := 3) (N := none) #[true, true, true, true] rfl rfl (by kernel_rfl) (by decide) (fun K hK => ?_)
         have hs117 : w114.cell? ⟨gb241, 0, none⟩ = some (.int .i64 0) := (blk_cell BK241.out 0).trans rfl
         have hfs117 := blk_frozen BK241.out 0
         have hns117_0 := NB238_241.out
         have hns117_1 := NB239_241.out
         have hns117_2 := NB240_241.out
         have hns117_4 := NB242_241.out
         have hns117_5 := NB243_241.out
         have hns117_6 := NB248_241.out
         have hns117_7 := NB249_241.out
         have hms117_0 := NB241_238.out
         have hms117_1 := NB241_239.out
         have hms117_2 := NB241_240.out
         have hms117_4 := NB241_242.out
         have hms117_5 := NB241_243.out
         have hms117_6 := NB241_248.out
         have hms117_7 := NB241_249.out
         have hs118 : w114.cell? ⟨gb241, 1, none⟩ = some (.int .u64 0) := (blk_cell BK241.out 1).trans rfl
         have hfs118 := blk_frozen BK241.out 1
         have hns118_0 := NB238_241.out
         have hns118_1 := NB239_241.out
         have hns118_2 := NB240_241.out
         have hns118_4 := NB242_241.out
         have hns118_5 := NB243_241.out
         have hns118_6 := NB248_241.out
         have hns118_7 := NB249_241.out
         have hms118_0 := NB241_238.out
         have hms118_1 := NB241_239.out
         have hms118_2 := NB241_240.out
         have hms118_4 := NB241_242.out
         have hms118_5 := NB241_243.out
         have hms118_6 := NB241_248.out
         have hms118_7 := NB241_249.out
         refine skip_ (w1 := ?_) (by rfl) rfl ?_ ?_
         rotate_left
         ·go_simp
          rfl
         refine hK.out _ _ ⟨((cell_far (p := ⟨gb241, _, none⟩) NB248_241.out _).trans (((cell_far (p := ⟨gb241, _, none⟩) NB248_241.out _).trans (hHeld.1)))), ((cell_far (p := ⟨gb241, _, none⟩) NB248_241.out _).trans (((cell_far (p := ⟨gb241, _, none⟩) NB248_241.out _).trans (hHeld.2.1)))), ((cell_far (p := ⟨gb241, _, none⟩) NB249_241.out _).trans (((cell_far (p := ⟨gb241, _, none⟩) NB249_241.out _).trans (hHeld.2.2.1)))), ((cell_far (p := ⟨gb241, _, none⟩) NB249_241.out _).trans (((cell_far (p := ⟨gb241, _, none⟩) NB249_241.out _).trans (hHeld.2.2.2))))⟩ (fun hHeld => ?_)
         clear hK K
         refine done_ (by kernel_rfl) ?_
         try go_wp2
         refine bodyPost_ret (results_cc rfl _ _ gb240 gb241 143 143 #[.int .i64 x249000_57, .int .u64 x249001_57] #[.int .i64 t252, .int .u64 t253] (0, 0) (0, 0) _ _ rfl (by (with_reducible repeat (first | refine blk_drewN ?_ _ | refine blk_drew ?_ | refine blk_alloc ?_ _)); refine blk_far ?_ NB240_241.out _; (with_reducible repeat (first | refine blk_drewN ?_ _ | refine blk_drew ?_ | refine blk_alloc ?_ _)); refine blk_far ?_ NB240_241.out _; (with_reducible repeat (first | refine blk_drewN ?_ _ | refine blk_drew ?_ | refine blk_alloc ?_ _)); refine blk_put (cs := #[.int .i64 x249000_57, .int .u64 0]) ?_ 1 _ rfl; (with_reducible repeat (first | refine blk_drewN ?_ _ | refine blk_drew ?_ | refine blk_alloc ?_ _)); refine blk_put (cs := #[.int .i64 0, .int .u64 0]) ?_ 0 _ rfl; (with_reducible repeat (first | refine blk_drewN ?_ _ | refine blk_drew ?_ | refine blk_alloc ?_ _)); exact BK240.out) Tryd.underlying143 rfl (by kernel_rfl) rfl (by (with_reducible repeat (first | refine blk_drewN ?_ _ | refine blk_drew ?_ | refine blk_alloc ?_ _)); refine blk_put (cs := #[.int .i64 t252, .int .u64 0]) ?_ 1 _ rfl; (with_reducible repeat (first | refine blk_drewN ?_ _ | refine blk_drew ?_ | refine blk_alloc ?_ _)); refine blk_put (cs := #[.int .i64 0, .int .u64 0]) ?_ 0 _ rfl; (with_reducible repeat (first | refine blk_drewN ?_ _ | refine blk_drew ?_ | refine blk_alloc ?_ _)); refine blk_far ?_ NB241_240.out _; (with_reducible repeat (first | refine blk_drewN ?_ _ | refine blk_drew ?_ | refine blk_alloc ?_ _)); refine blk_far ?_ NB241_240.out _; (with_reducible repeat (first | refine blk_drewN ?_ _ | refine blk_drew ?_ | refine blk_alloc ?_ _)); exact BK241.out) Tryd.underlying143 rfl (by kernel_rfl)) rfl ?_
         exact ⟨by first | rfl | (simp [errW_none, errW_some] <;> rfl) | (simp [*, errW_none, errW_some] <;> rfl), by repeat (with_reducible first | exact HB.out | apply below_alloc | apply pw_below_drewN | apply below_drew1 | refine below_set ?_ GE238.out | refine below_set ?_ GE239.out | refine below_set ?_ GE240.out | refine below_set ?_ GE241.out | refine below_set ?_ GE242.out | refine below_set ?_ GE243.out | refine below_set ?_ GE248.out | refine below_set ?_ GE249.out)⟩
        ·rw [if_neg c94] at H
         have c94b0 : decide (a0_0 < 0) = false := decide_eq_false c94
         clear c94
         simp only [Option.some.injEq, Prod.mk.injEq] at H
         obtain ⟨rfl, rfl, rfl, rfl⟩ := H
         have hnb119 := NB238_239.out
         have hnc119 := NB239_238.out
         have hnb120 := NB238_240.out
         have hnc120 := NB240_238.out
         have hnb121 := NB238_241.out
         have hnc121 := NB241_238.out
         have hnb122 := NB238_242.out
         have hnc122 := NB242_238.out
         have hnb123 := NB238_243.out
         have hnc123 := NB243_238.out
         have hnb124 := NB238_248.out
         have hnc124 := NB248_238.out
         have hnb125 := NB238_249.out
         have hnc125 := NB249_238.out
         have hcz126_0 : wc.cell? ⟨gb238, 0, none⟩ = some (.int .i64 a0_0) := (blk_cell BK238.out 0).trans rfl
         have hcz126_1 : wc.cell? ⟨gb238, 1, none⟩ = some (.int .u64 a0_1) := (blk_cell BK238.out 1).trans rfl
         have hfz126_0 := blk_frozen BK238.out 0
         have hfz126_1 := blk_frozen BK238.out 1
         try go_wp2
         have n0_ := Aside0.mk (blk_drew BK238.out)
         have n1_ := Aside0.mk (blk_drew BK239.out)
         have n2_ := Aside0.mk (blk_drew BK240.out)
         have n3_ := Aside0.mk (blk_drew BK241.out)
         have n4_ := Aside0.mk (blk_drew BK242.out)
         have n5_ := Aside0.mk (blk_drew BK243.out)
         have n6_ := Aside0.mk (blk_drew BK248.out)
         have n7_ := Aside0.mk (blk_drew BK249.out)
         have n8_ := Aside0.mk (below_drew1 HB.out)
         clear BK238
         clear BK239
         clear BK240
         clear BK241
         clear BK242
         clear BK243
         clear BK248
         clear BK249
         clear HB
         have BK238 := n0_
         have BK239 := n1_
         have BK240 := n2_
         have BK241 := n3_
         have BK242 := n4_
         have BK243 := n5_
         have BK248 := n6_
         have BK249 := n7_
         have HB := n8_
         clear n0_ n1_ n2_ n3_ n4_ n5_ n6_ n7_ n8_
         refine start_ (n := 4) (S := fun w' => w'.cell? ⟨gb248, 0, none⟩ = some (.int .i64 x249000_57) ∧ w'.cell? ⟨gb248, 1, none⟩ = some (.int .u64 x249001_57) ∧ w'.cell? ⟨gb249, 0, none⟩ = some (.int .i64 0) ∧ w'.cell? ⟨gb249, 1, none⟩ = some (.int .u64 (Int.tmod x243001_2 x244001_35))) (ds := []) #[false, false, false, false] (by kernel_rfl) rfl rfl ⟨(blk_cell BK248.out 0).trans rfl, (blk_cell BK248.out 1).trans rfl, (blk_cell BK249.out 0).trans rfl, (blk_cell BK249.out 1).trans rfl⟩ (fun hHeld => ?_)
         generalize wc.drew = w127 at BK238 BK239 BK240 BK241 BK242 BK243 BK248 BK249 HB hHeld ⊢
         refine take_ (i := 0) (N := some 46) (v := ?_) (a' := ?_) #[true, false, false, false] rfl rfl (by kernel_rfl) (fun _ _ _ h => h) (Or.inl ⟨by rfl, ?_⟩) hHeld ?_ ?_
         rotate_left
         ·rintro w' ⟨s0, s1, s2, s3⟩
          go_simp
          with_reducible rfl
         rotate_left
         ·simp only [Act.put, List.setIfInBounds_toArray, List.set_cons_zero, List.set_cons_succ, i64_w, i32_w]
          rfl
         refine take_ (i := 1) (N := some 47) (v := ?_) (a' := ?_) #[true, true, false, false] rfl rfl (by kernel_rfl) (fun _ _ _ h => h) (Or.inl ⟨by rfl, ?_⟩) hHeld ?_ ?_
         rotate_left
         ·rintro w' ⟨s0, s1, s2, s3⟩
          go_simp
          with_reducible rfl
         rotate_left
         ·simp only [Act.put, List.setIfInBounds_toArray, List.set_cons_zero, List.set_cons_succ, i64_w, i32_w]
          rfl
         refine one_ (i := 2) (N := none) #[true, true, true, false] rfl rfl (by kernel_rfl) (by decide) (fun K hK => ?_)
         have hs128 : w127.cell? ⟨gb240, 0, none⟩ = some (.int .i64 0) := (blk_cell BK240.out 0).trans rfl
         have hfs128 := blk_frozen BK240.out 0
         have hns128_0 := NB238_240.out
         have hns128_1 := NB239_240.out
         have hns128_3 := NB241_240.out
         have hns128_4 := NB242_240.out
         have hns128_5 := NB243_240.out
         have hns128_6 := NB248_240.out
         have hns128_7 := NB249_240.out
         have hms128_0 := NB240_238.out
         have hms128_1 := NB240_239.out
         have hms128_3 := NB240_241.out
         have hms128_4 := NB240_242.out
         have hms128_5 := NB240_243.out
         have hms128_6 := NB240_248.out
         have hms128_7 := NB240_249.out
         have hs129 : w127.cell? ⟨gb240, 1, none⟩ = some (.int .u64 0) := (blk_cell BK240.out 1).trans rfl
         have hfs129 := blk_frozen BK240.out 1
         have hns129_0 := NB238_240.out
         have hns129_1 := NB239_240.out
         have hns129_3 := NB241_240.out
         have hns129_4 := NB242_240.out
         have hns129_5 := NB243_240.out
         have hns129_6 := NB248_240.out
         have hns129_7 := NB249_240.out
         have hms129_0 := NB240_238.out
         have hms129_1 := NB240_239.out
         have hms129_3 := NB240_241.out
         have hms129_4 := NB240_242.out
         have hms129_5 := NB240_243.out
         have hms129_6 := NB240_248.out
         have hms129_7 := NB240_249.out
         refine skip_ (w1 := ?_) (by rfl) rfl ?_ ?_
         rotate_left
         ·go_simp
          rfl
         refine hK.out _ _ ⟨((cell_far (p := ⟨gb240, _, none⟩) NB248_240.out _).trans (((cell_far (p := ⟨gb240, _, none⟩) NB248_240.out _).trans (hHeld.1)))), ((cell_far (p := ⟨gb240, _, none⟩) NB248_240.out _).trans (((cell_far (p := ⟨gb240, _, none⟩) NB248_240.out _).trans (hHeld.2.1)))), ((cell_far (p := ⟨gb240, _, none⟩) NB249_240.out _).trans (((cell_far (p := ⟨gb240, _, none⟩) NB249_240.out _).trans (hHeld.2.2.1)))), ((cell_far (p := ⟨gb240, _, none⟩) NB249_240.out _).trans (((cell_far (p := ⟨gb240, _, none⟩) NB249_240.out _).trans (hHeld.2.2.2))))⟩ (fun hHeld => ?_)
         clear hK K
         refine one_ (i := 3) (N := none) #[true, true, true, true] rfl rfl (by kernel_rfl) (by decide) (fun K hK => ?_)
         have hs130 : w127.cell? ⟨gb241, 0, none⟩ = some (.int .i64 0) := (blk_cell BK241.out 0).trans rfl
         have hfs130 := blk_frozen BK241.out 0
         have hns130_0 := NB238_241.out
         have hns130_1 := NB239_241.out
         have hns130_2 := NB240_241.out
         have hns130_4 := NB242_241.out
         have hns130_5 := NB243_241.out
         have hns130_6 := NB248_241.out
         have hns130_7 := NB249_241.out
         have hms130_0 := NB241_238.out
         have hms130_1 := NB241_239.out
         have hms130_2 := NB241_240.out
         have hms130_4 := NB241_242.out
         have hms130_5 := NB241_243.out
         have hms130_6 := NB241_248.out
         have hms130_7 := NB241_249.out
         have hs131 : w127.cell? ⟨gb241, 1, none⟩ = some (.int .u64 0) := (blk_cell BK241.out 1).trans rfl
         have hfs131 := blk_frozen BK241.out 1
         have hns131_0 := NB238_241.out
         have hns131_1 := NB239_241.out
         have hns131_2 := NB240_241.out
         have hns131_4 := NB242_241.out
         have hns131_5 := NB243_241.out
         have hns131_6 := NB248_241.out
         have hns131_7 := NB249_241.out
         have hms131_0 := NB241_238.out
         have hms131_1 := NB241_239.out
         have hms131_2 := NB241_240.out
         have hms131_4 := NB241_242.out
         have hms131_5 := NB241_243.out
         have hms131_6 := NB241_248.out
         have hms131_7 := NB241_249.out
         refine skip_ (w1 := ?_) (by rfl) rfl ?_ ?_
         rotate_left
         ·go_simp
          rfl
         refine hK.out _ _ ⟨((cell_far (p := ⟨gb241, _, none⟩) NB248_241.out _).trans (((cell_far (p := ⟨gb241, _, none⟩) NB248_241.out _).trans (hHeld.1)))), ((cell_far (p := ⟨gb241, _, none⟩) NB248_241.out _).trans (((cell_far (p := ⟨gb241, _, none⟩) NB248_241.out _).trans (hHeld.2.1)))), ((cell_far (p := ⟨gb241, _, none⟩) NB249_241.out _).trans (((cell_far (p := ⟨gb241, _, none⟩) NB249_241.out _).trans (hHeld.2.2.1)))), ((cell_far (p := ⟨gb241, _, none⟩) NB249_241.out _).trans (((cell_far (p := ⟨gb241, _, none⟩) NB249_241.out _).trans (hHeld.2.2.2))))⟩ (fun hHeld => ?_)
         clear hK K
         refine done_ (by kernel_rfl) ?_
         try go_wp2
         refine bodyPost_ret (results_cc rfl _ _ gb240 gb241 143 143 #[.int .i64 x249000_57, .int .u64 x249001_57] #[.int .i64 0, .int .u64 (Int.tmod x243001_2 x244001_35)] (0, 0) (0, 0) _ _ rfl (by (with_reducible repeat (first | refine blk_drewN ?_ _ | refine blk_drew ?_ | refine blk_alloc ?_ _)); refine blk_far ?_ NB240_241.out _; (with_reducible repeat (first | refine blk_drewN ?_ _ | refine blk_drew ?_ | refine blk_alloc ?_ _)); refine blk_far ?_ NB240_241.out _; (with_reducible repeat (first | refine blk_drewN ?_ _ | refine blk_drew ?_ | refine blk_alloc ?_ _)); refine blk_put (cs := #[.int .i64 x249000_57, .int .u64 0]) ?_ 1 _ rfl; (with_reducible repeat (first | refine blk_drewN ?_ _ | refine blk_drew ?_ | refine blk_alloc ?_ _)); refine blk_put (cs := #[.int .i64 0, .int .u64 0]) ?_ 0 _ rfl; (with_reducible repeat (first | refine blk_drewN ?_ _ | refine blk_drew ?_ | refine blk_alloc ?_ _)); exact BK240.out) Tryd.underlying143 rfl (by kernel_rfl) rfl (by (with_reducible repeat (first | refine blk_drewN ?_ _ | refine blk_drew ?_ | refine blk_alloc ?_ _)); refine blk_put (cs := #[.int .i64 0, .int .u64 0]) ?_ 1 _ rfl; (with_reducible repeat (first | refine blk_drewN ?_ _ | refine blk_drew ?_ | refine blk_alloc ?_ _)); refine blk_put (cs := #[.int .i64 0, .int .u64 0]) ?_ 0 _ rfl; (with_reducible repeat (first | refine blk_drewN ?_ _ | refine blk_drew ?_ | refine blk_alloc ?_ _)); refine blk_far ?_ NB241_240.out _; (with_reducible repeat (first | refine blk_drewN ?_ _ | refine blk_drew ?_ | refine blk_alloc ?_ _)); refine blk_far ?_ NB241_240.out _; (with_reducible repeat (first | refine blk_drewN ?_ _ | refine blk_drew ?_ | refine blk_alloc ?_ _)); exact BK241.out) Tryd.underlying143 rfl (by kernel_rfl)) rfl ?_
         exact ⟨by first | rfl | (simp [errW_none, errW_some] <;> rfl) | (simp [*, errW_none, errW_some] <;> rfl), by repeat (with_reducible first | exact HB.out | apply below_alloc | apply pw_below_drewN | apply below_drew1 | refine below_set ?_ GE238.out | refine below_set ?_ GE239.out | refine below_set ?_ GE240.out | refine below_set ?_ GE241.out | refine below_set ?_ GE242.out | refine below_set ?_ GE243.out | refine below_set ?_ GE248.out | refine below_set ?_ GE249.out)⟩
end Go.Proofs.YthfpdlfpbbhjhaaDoor.PA
