import Derived.Test.YtgdkkcdmflopjaaDoorA0
import Derived.Test.YtgdkkcdmflopjaaDoorA3
namespace Go.Proofs.YtgdkkcdmflopjaaDoor.PA
open Go.RowKit Go.Proofs.YtgdkkcdmflopjaaDoorX Go.Proofs.YtgdkkcdmflopjaaDoorW.PrintWords Go.Proofs.YtgdkkcdmflopjaaDoorW.PrintLast Go.Proofs.YtgdkkcdmflopjaaDoorW.PrintMore
attribute [local go_sem] max2_int min2_int max_two min_two max_three min_three max_four min_four   -- for this text's walks alone
set_option linter.unusedVariables false
set_option linter.unusedSimpArgs false
mutual
def arith_divided.j0 : Nat → Int → Int → Int → Int → Int → Int → Int → Int → Option (Int × Int × Int × Int)
 | 0, _, _, _, _, _, _, _, _ => none
 | k + 1, x215000, x215001, x216000, x216001, x219000, x219001, x220000, x220001 => if x216000 < 0 then ((arith_wide_neg.f x216000 x216001).bind fun bt222 => (arith_divided.j1 k x215000 x215001 x216000 x216001 x219000 x219001 bt222.1 bt222.2)) else (arith_divided.j1 k x215000 x215001 x216000 x216001 x219000 x219001 x220000 x220001)
def arith_divided.j1 : Nat → Int → Int → Int → Int → Int → Int → Int → Int → Option (Int × Int × Int × Int)
 | 0, _, _, _, _, _, _, _, _ => none
 | k + 1, x215000, x215001, x216000, x216001, x219000, x219001, x220000, x220001 => if x220001 = 0 then (none) else (if x215000 = x216000 then (arith_divided.j2 k x215000 x215001 0 (IntKind.u64.wrap (Int.tdiv x219001 x220001)) 0 (Int.tmod x219001 x220001)) else ((arith_wide_neg.f 0 (IntKind.u64.wrap (Int.tdiv x219001 x220001))).bind fun bt226 => (arith_divided.j2 k x215000 x215001 bt226.1 bt226.2 0 (Int.tmod x219001 x220001))))
def arith_divided.j2 : Nat → Int → Int → Int → Int → Int → Int → Option (Int × Int × Int × Int)
 | 0, _, _, _, _, _, _ => none
 | k + 1, x215000, x215001, x225000, x225001, x226000, x226001 => if x215000 < 0 then ((arith_wide_neg.f x226000 x226001).bind fun bt228 => (some (x225000, x225001, bt228.1, bt228.2))) else (some (x225000, x225001, x226000, x226001))
end
def arith_divided.f (k : Nat) (a0_0 : Int) (a0_1 : Int) (a1_0 : Int) (a1_1 : Int) : Option (Int × Int × Int × Int) := if a0_0 < 0 then ((arith_wide_neg.f a0_0 a0_1).bind fun bt220 => (arith_divided.j0 k a0_0 a0_1 a1_0 a1_1 bt220.1 bt220.2 a1_0 a1_1)) else (arith_divided.j0 k a0_0 a0_1 a1_0 a1_1 a0_0 a0_1 a1_0 a1_1)
def arith_divided.T6 : Bool × List (List Nat × List Nat) := (true, [([], []), ([0], [0]), ([], []), ([2], [2]), ([1, 3], [1, 3]), ([4], [4]), ([], []), ([6], [6]), ([], []), ([8], [8]), ([7, 9], [7, 9]), ([10], [10]), ([], []), ([], []), ([12, 5, 0, 1, 2, 3, 4, 5, 12, 13], [5, 12]), ([13, 11, 14, 0, 1, 2, 3, 4, 5, 6, 7, 8, 9, 10, 11, 12, 13, 14], [11, 13])])
def arith_divided.B6 : List Nat := [0, 1, 0, 4, 15, 31, 0, 64, 0, 256, 960, 1984, 0, 0, 12351, 32767]
theorem arith_divided.tab6 : rtab .any (opsOf Tryd.f48 6) = arith_divided.T6 := by kernel_rfl
theorem arith_divided.bits6 : waitsOk arith_divided.T6.2 arith_divided.B6 = true := by kernel_rfl
set_option maxHeartbeats 8000000 in
set_option maxRecDepth 100000 in
theorem arith_divided.calls (k : Nat) (a0_0 : Int) (a0_1 : Int) (a1_0 : Int) (a1_1 : Int) (r1 : Int) (r2 : Int) (r3 : Int) (r4 : Int) (w : World) (h : arith_divided.f k a0_0 a0_1 a1_0 a1_1 = some (r1, r2, r3, r4)) :
  Calls Tryd.prog 48 #[.agg #[.int .i64 a0_0, .int .u64 a0_1], .agg #[.int .i64 a1_0, .int .u64 a1_1]] w fun e w' => e = .returned (.tuple #[.agg #[.int .i64 r1, .int .u64 r2], .agg #[.int .i64 r3, .int .u64 r4]]) ∧ Below w.heap.size w w' := by
 have hu71 := Tryd.underlying71
 have HB := Aside0.mk (Below.refl w.heap.size w)
 have H : (if a0_0 < 0 then ((arith_wide_neg.f a0_0 a0_1).bind fun bt220 => (arith_divided.j0 k a0_0 a0_1 a1_0 a1_1 bt220.1 bt220.2 a1_0 a1_1)) else (arith_divided.j0 k a0_0 a0_1 a1_0 a1_1 a0_0 a0_1 a1_0 a1_1)) = some (r1, r2, r3, r4) := h
 clear h
 have HC3 := Aside0.mk H
 clear H
 go_enter Tryd.func48, Tryd.ntmps48
 try go_wp2_with (first | ((with_reducible refine gate_dst (N := 2) rfl ?_); refine box_event ?hg (N := 2) ?hd (cs := #[.int .i64 a0_0, .int .u64 a0_1]) (t := 71) ?hr ?_; (case hd => rfl); (case hg => rfl); (case hr => first | (go_simp; done) | (go_simp; rfl)); intro gb214 hg w4 hbox hb; have n0_ := Aside0.mk (below_step (by repeat (with_reducible first | exact HB.out | apply below_alloc | apply pw_below_drewN | apply below_drew1)) hb); have n1_ := Aside0.mk (hbox); have n2_ := Aside0.mk ((by rw [hg]; exact (below_size (by repeat (with_reducible first | exact HB.out | apply below_alloc | apply pw_below_drewN | apply below_drew1))) : w.heap.size ≤ gb214)); have n3_ := n2_; clear HB; have HB := n0_; have BK214 := n1_; have GW214 := n2_; have GE214 := n3_; clear n0_ n1_ n2_ n3_; clear hb hbox hg) | ((with_reducible refine gate_dst (N := 3) rfl ?_); refine box_event ?hg (N := 3) ?hd (cs := #[.int .i64 a1_0, .int .u64 a1_1]) (t := 71) ?hr ?_; (case hd => rfl); (case hg => rfl); (case hr => first | (go_simp; done) | (go_simp; rfl)); intro gb215 hg w5 hbox hb; have n0_ := Aside0.mk (blk_below (g := gb214) (o := .cells #[.int .i64 a0_0, .int .u64 a0_1] 71 (0, 0)) (by (with_reducible repeat (first | refine blk_drewN ?_ _ | refine blk_drew ?_ | refine blk_alloc ?_ _)); exact BK214.out) hb); have n1_ := Aside0.mk (below_step (by repeat (with_reducible first | exact HB.out | apply below_alloc | apply pw_below_drewN | apply below_drew1 | refine below_set ?_ GE214.out)) hb); have n2_ := Aside0.mk (hbox); have n3_ := Aside0.mk ((by rw [hg]; exact (below_size (by repeat (with_reducible first | exact HB.out | apply below_alloc | apply pw_below_drewN | apply below_drew1 | refine below_set ?_ GE214.out))) : w.heap.size ≤ gb215)); have n4_ := n3_; have n5_ := Aside0.mk ((by rw [hg]; exact Nat.ne_of_lt (blk_lt (g := gb214) (o := .cells #[.int .i64 a0_0, .int .u64 a0_1] 71 (0, 0)) (by (with_reducible repeat (first | refine blk_drewN ?_ _ | refine blk_drew ?_ | refine blk_alloc ?_ _)); exact BK214.out)) : gb214 ≠ gb215)); have n6_ := Aside0.mk ((by rw [hg]; exact Nat.ne_of_gt (blk_lt (g := gb214) (o := .cells #[.int .i64 a0_0, .int .u64 a0_1] 71 (0, 0)) (by (with_reducible repeat (first | refine blk_drewN ?_ _ | refine blk_drew ?_ | refine blk_alloc ?_ _)); exact BK214.out)) : gb215 ≠ gb214)); clear BK214; clear HB; have BK214 := n0_; have HB := n1_; have BK215 := n2_; have GW215 := n3_; have GE215 := n4_; have NB214_215 := n5_; have NB215_214 := n6_; clear n0_ n1_ n2_ n3_ n4_ n5_ n6_; clear hb hbox hg) | ((with_reducible refine gate_dst (N := 4) rfl ?_); refine box_event ?hg (N := 4) ?hd (cs := #[.int .i64 0, .int .u64 0]) (t := 71) ?hr ?_; (case hd => rfl); (case hg => rfl); (case hr => first | (go_simp; done) | (go_simp; rfl)); intro gb216 hg w6 hbox hb; have n0_ := Aside0.mk (blk_below (g := gb214) (o := .cells #[.int .i64 a0_0, .int .u64 a0_1] 71 (0, 0)) (by (with_reducible repeat (first | refine blk_drewN ?_ _ | refine blk_drew ?_ | refine blk_alloc ?_ _)); exact BK214.out) hb); have n1_ := Aside0.mk (blk_below (g := gb215) (o := .cells #[.int .i64 a1_0, .int .u64 a1_1] 71 (0, 0)) (by (with_reducible repeat (first | refine blk_drewN ?_ _ | refine blk_drew ?_ | refine blk_alloc ?_ _)); exact BK215.out) hb); have n2_ := Aside0.mk (below_step (by repeat (with_reducible first | exact HB.out | apply below_alloc | apply pw_below_drewN | apply below_drew1 | refine below_set ?_ GE214.out | refine below_set ?_ GE215.out)) hb); have n3_ := Aside0.mk (hbox); have n4_ := Aside0.mk ((by rw [hg]; exact (below_size (by repeat (with_reducible first | exact HB.out | apply below_alloc | apply pw_below_drewN | apply below_drew1 | refine below_set ?_ GE214.out | refine below_set ?_ GE215.out))) : w.heap.size ≤ gb216)); have n5_ := n4_; have n6_ := Aside0.mk ((by rw [hg]; exact Nat.ne_of_lt (blk_lt (g := gb214) (o := .cells #[.int .i64 a0_0, .int .u64 a0_1] 71 (0, 0)) (by (with_reducible repeat (first | refine blk_drewN ?_ _ | refine blk_drew ?_ | refine blk_alloc ?_ _)); exact BK214.out)) : gb214 ≠ gb216)); have n7_ := Aside0.mk ((by rw [hg]; exact Nat.ne_of_gt (blk_lt (g := gb214) (o := .cells #[.int .i64 a0_0, .int .u64 a0_1] 71 (0, 0)) (by (with_reducible repeat (first | refine blk_drewN ?_ _ | refine blk_drew ?_ | refine blk_alloc ?_ _)); exact BK214.out)) : gb216 ≠ gb214)); have n8_ := Aside0.mk ((by rw [hg]; exact Nat.ne_of_lt (blk_lt (g := gb215) (o := .cells #[.int .i64 a1_0, .int .u64 a1_1] 71 (0, 0)) (by (with_reducible repeat (first | refine blk_drewN ?_ _ | refine blk_drew ?_ | refine blk_alloc ?_ _)); exact BK215.out)) : gb215 ≠ gb216)); have n9_ := Aside0.mk ((by rw [hg]; exact Nat.ne_of_gt (blk_lt (g := gb215) (o := .cells #[.int .i64 a1_0, .int .u64 a1_1] 71 (0, 0)) (by (with_reducible repeat (first | refine blk_drewN ?_ _ | refine blk_drew ?_ | refine blk_alloc ?_ _)); exact BK215.out)) : gb216 ≠ gb215)); clear BK214; clear BK215; clear HB; have BK214 := n0_; have BK215 := n1_; have HB := n2_; have BK216 := n3_; have GW216 := n4_; have GE216 := n5_; have NB214_216 := n6_; have NB216_214 := n7_; have NB215_216 := n8_; have NB216_215 := n9_; clear n0_ n1_ n2_ n3_ n4_ n5_ n6_ n7_ n8_ n9_; clear hb hbox hg) | ((with_reducible refine gate_dst (N := 5) rfl ?_); refine box_event ?hg (N := 5) ?hd (cs := #[.int .i64 0, .int .u64 0]) (t := 71) ?hr ?_; (case hd => rfl); (case hg => rfl); (case hr => first | (go_simp; done) | (go_simp; rfl)); intro gb217 hg w7 hbox hb; have n0_ := Aside0.mk (blk_below (g := gb214) (o := .cells #[.int .i64 a0_0, .int .u64 a0_1] 71 (0, 0)) (by (with_reducible repeat (first | refine blk_drewN ?_ _ | refine blk_drew ?_ | refine blk_alloc ?_ _)); exact BK214.out) hb); have n1_ := Aside0.mk (blk_below (g := gb215) (o := .cells #[.int .i64 a1_0, .int .u64 a1_1] 71 (0, 0)) (by (with_reducible repeat (first | refine blk_drewN ?_ _ | refine blk_drew ?_ | refine blk_alloc ?_ _)); exact BK215.out) hb); have n2_ := Aside0.mk (blk_below (g := gb216) (o := .cells #[.int .i64 0, .int .u64 0] 71 (0, 0)) (by (with_reducible repeat (first | refine blk_drewN ?_ _ | refine blk_drew ?_ | refine blk_alloc ?_ _)); exact BK216.out) hb); have n3_ := Aside0.mk (below_step (by repeat (with_reducible first | exact HB.out | apply below_alloc | apply pw_below_drewN | apply below_drew1 | refine below_set ?_ GE214.out | refine below_set ?_ GE215.out | refine below_set ?_ GE216.out)) hb); have n4_ := Aside0.mk (hbox); have n5_ := Aside0.mk ((by rw [hg]; exact (below_size (by repeat (with_reducible first | exact HB.out | apply below_alloc | apply pw_below_drewN | apply below_drew1 | refine below_set ?_ GE214.out | refine below_set ?_ GE215.out | refine below_set ?_ GE216.out))) : w.heap.size ≤ gb217)); have n6_ := n5_; have n7_ := Aside0.mk ((by rw [hg]; exact Nat.ne_of_lt (blk_lt (g := gb214) (o := .cells #[.int .i64 a0_0, .int .u64 a0_1] 71 (0, 0)) (by (with_reducible repeat (first | refine blk_drewN ?_ _ | refine blk_drew ?_ | refine blk_alloc ?_ _)); exact BK214.out)) : gb214 ≠ gb217)); have n8_ := Aside0.mk ((by rw [hg]; exact Nat.ne_of_gt (blk_lt (g := gb214) (o := .cells #[.int .i64 a0_0, .int .u64 a0_1] 71 (0, 0)) (by (with_reducible repeat (first | refine blk_drewN ?_ _ | refine blk_drew ?_ | refine blk_alloc ?_ _)); exact BK214.out)) : gb217 ≠ gb214)); have n9_ := Aside0.mk ((by rw [hg]; exact Nat.ne_of_lt (blk_lt (g := gb215) (o := .cells #[.int .i64 a1_0, .int .u64 a1_1] 71 (0, 0)) (by (with_reducible repeat (first | refine blk_drewN ?_ _ | refine blk_drew ?_ | refine blk_alloc ?_ _)); exact BK215.out)) : gb215 ≠ gb217)); have n10_ := Aside0.mk ((by rw [hg]; exact Nat.ne_of_gt (blk_lt (g := gb215) (o := .cells #[.int .i64 a1_0, .int .u64 a1_1] 71 (0, 0)) (by (with_reducible repeat (first | refine blk_drewN ?_ _ | refine blk_drew ?_ | refine blk_alloc ?_ _)); exact BK215.out)) : gb217 ≠ gb215)); have n11_ := Aside0.mk ((by rw [hg]; exact Nat.ne_of_lt (blk_lt (g := gb216) (o := .cells #[.int .i64 0, .int .u64 0] 71 (0, 0)) (by (with_reducible repeat (first | refine blk_drewN ?_ _ | refine blk_drew ?_ | refine blk_alloc ?_ _)); exact BK216.out)) : gb216 ≠ gb217)); have n12_ := Aside0.mk ((by rw [hg]; exact Nat.ne_of_gt (blk_lt (g := gb216) (o := .cells #[.int .i64 0, .int .u64 0] 71 (0, 0)) (by (with_reducible repeat (first | refine blk_drewN ?_ _ | refine blk_drew ?_ | refine blk_alloc ?_ _)); exact BK216.out)) : gb217 ≠ gb216)); clear BK214; clear BK215; clear BK216; clear HB; have BK214 := n0_; have BK215 := n1_; have BK216 := n2_; have HB := n3_; have BK217 := n4_; have GW217 := n5_; have GE217 := n6_; have NB214_217 := n7_; have NB217_214 := n8_; have NB215_217 := n9_; have NB217_215 := n10_; have NB216_217 := n11_; have NB217_216 := n12_; clear n0_ n1_ n2_ n3_ n4_ n5_ n6_ n7_ n8_ n9_ n10_ n11_ n12_; clear hb hbox hg))
 have n0_ := Aside0.mk (blk_drew BK214.out)
 have n1_ := Aside0.mk (blk_drew BK215.out)
 have n2_ := Aside0.mk (blk_drew BK216.out)
 have n3_ := Aside0.mk (blk_drew BK217.out)
 have n4_ := Aside0.mk (below_drew1 HB.out)
 clear BK214
 clear BK215
 clear BK216
 clear BK217
 clear HB
 have BK214 := n0_
 have BK215 := n1_
 have BK216 := n2_
 have BK217 := n3_
 have HB := n4_
 clear n0_ n1_ n2_ n3_ n4_
 refine start_ (n := 6) (S := fun w' => w'.cell? ⟨gb214, 0, none⟩ = some (.int .i64 a0_0) ∧ w'.cell? ⟨gb214, 1, none⟩ = some (.int .u64 a0_1) ∧ w'.cell? ⟨gb215, 0, none⟩ = some (.int .i64 a1_0) ∧ w'.cell? ⟨gb215, 1, none⟩ = some (.int .u64 a1_1)) (ds := []) #[false, false, false, false, false, false] (by kernel_rfl) rfl rfl ⟨(blk_cell BK214.out 0).trans rfl, (blk_cell BK214.out 1).trans rfl, (blk_cell BK215.out 0).trans rfl, (blk_cell BK215.out 1).trans rfl⟩ (fun hHeld => ?_)
 generalize w7.drew = w8 at BK214 BK215 BK216 BK217 HB hHeld ⊢
 refine take_ (i := 0) (N := some 10) (v := ?_) (a' := ?_) #[true, false, false, false, false, false] rfl rfl (by kernel_rfl) (fun _ _ _ h => h) (Or.inl ⟨by rfl, ?_⟩) hHeld ?_ ?_
 rotate_left
 ·rintro w' ⟨s0, s1, s2, s3⟩
  go_simp
  with_reducible rfl
 rotate_left
 ·simp only [Act.put, List.setIfInBounds_toArray, List.set_cons_zero, List.set_cons_succ, i64_w, i32_w]
  rfl
 refine take_ (i := 1) (N := some 11) (v := ?_) (a' := ?_) #[true, true, false, false, false, false] rfl rfl (by kernel_rfl) (fun _ _ _ h => h) (Or.inl ⟨by rfl, ?_⟩) hHeld ?_ ?_
 rotate_left
 ·rintro w' ⟨s0, s1, s2, s3⟩
  go_simp
  with_reducible rfl
 rotate_left
 ·simp only [Act.put, List.setIfInBounds_toArray, List.set_cons_zero, List.set_cons_succ, i64_w, i32_w]
  rfl
 refine join_ (σ := Nat × Nat) 2 #[true, true, true, true, false, false] (fun s_ => [(6, .pointer (some ⟨s_.1, 0, none⟩)), (7, .pointer (some ⟨s_.2, 0, none⟩))]) (fun s_ w' => (w'.cell? ⟨gb214, 0, none⟩ = some (.int .i64 a0_0) ∧ w'.cell? ⟨gb214, 1, none⟩ = some (.int .u64 a0_1) ∧ w'.cell? ⟨gb215, 0, none⟩ = some (.int .i64 a1_0) ∧ w'.cell? ⟨gb215, 1, none⟩ = some (.int .u64 a1_1)) ∧ (w'.heap[gb214]? = some (.cells #[.int .i64 a0_0, .int .u64 a0_1] 71 (0, 0))) ∧ (w'.heap[gb215]? = some (.cells #[.int .i64 a1_0, .int .u64 a1_1] 71 (0, 0))) ∧ (w'.heap[gb216]? = some (.cells #[.int .i64 0, .int .u64 0] 71 (0, 0))) ∧ (w'.heap[gb217]? = some (.cells #[.int .i64 0, .int .u64 0] 71 (0, 0))) ∧ (w'.heap[s_.1]? = some (.cells #[.int .i64 0, .int .u64 0] 71 (0, 0))) ∧ (w'.heap[s_.2]? = some (.cells #[.int .i64 0, .int .u64 0] 71 (0, 0))) ∧ (w.heap.size ≤ s_.1) ∧ (w.heap.size ≤ s_.1) ∧ (gb214 ≠ s_.1) ∧ (s_.1 ≠ gb214) ∧ (gb215 ≠ s_.1) ∧ (s_.1 ≠ gb215) ∧ (gb216 ≠ s_.1) ∧ (s_.1 ≠ gb216) ∧ (gb217 ≠ s_.1) ∧ (s_.1 ≠ gb217) ∧ (s_.2 ≠ s_.1) ∧ (s_.1 ≠ s_.2) ∧ (w.heap.size ≤ s_.2) ∧ (w.heap.size ≤ s_.2) ∧ (gb214 ≠ s_.2) ∧ (s_.2 ≠ gb214) ∧ (gb215 ≠ s_.2) ∧ (s_.2 ≠ gb215) ∧ (gb216 ≠ s_.2) ∧ (s_.2 ≠ gb216) ∧ (gb217 ≠ s_.2) ∧ (s_.2 ≠ gb217) ∧ (Below w.heap.size w w')) ?_ ?_
 rotate_left
 ·intro hCont
  refine two_ (i := 2) (j := 3) (Ni := some 6) (Nj := some 7) #[true, true, true, false, false, false] #[true, true, false, true, false, false] rfl rfl rfl rfl (by kernel_rfl) (by decide) (by decide) (fun K hK => ?_) (fun K hK => ?_)
  ·skip
   refine box_step ?hg (N := 6) ?hd (cs := #[.int .i64 0, .int .u64 0]) (t := 71) ?hr ?_; (case hd => rfl); (case hg => rfl); (case hr => first | (go_simp; done) | (go_simp; rfl))
   intro gb218 hg w9 hbox hb
   have n0_ := Aside0.mk (blk_below (g := gb214) (o := .cells #[.int .i64 a0_0, .int .u64 a0_1] 71 (0, 0)) (by (with_reducible repeat (first | refine blk_drewN ?_ _ | refine blk_drew ?_ | refine blk_alloc ?_ _)); exact BK214.out) hb)
   have n1_ := Aside0.mk (blk_below (g := gb215) (o := .cells #[.int .i64 a1_0, .int .u64 a1_1] 71 (0, 0)) (by (with_reducible repeat (first | refine blk_drewN ?_ _ | refine blk_drew ?_ | refine blk_alloc ?_ _)); exact BK215.out) hb)
   have n2_ := Aside0.mk (blk_below (g := gb216) (o := .cells #[.int .i64 0, .int .u64 0] 71 (0, 0)) (by (with_reducible repeat (first | refine blk_drewN ?_ _ | refine blk_drew ?_ | refine blk_alloc ?_ _)); exact BK216.out) hb)
   have n3_ := Aside0.mk (blk_below (g := gb217) (o := .cells #[.int .i64 0, .int .u64 0] 71 (0, 0)) (by (with_reducible repeat (first | refine blk_drewN ?_ _ | refine blk_drew ?_ | refine blk_alloc ?_ _)); exact BK217.out) hb)
   have n4_ := Aside0.mk (below_step (by repeat (with_reducible first | exact HB.out | apply below_alloc | apply pw_below_drewN | apply below_drew1 | refine below_set ?_ GE214.out | refine below_set ?_ GE215.out | refine below_set ?_ GE216.out | refine below_set ?_ GE217.out)) hb)
   have n5_ := Aside0.mk (hbox)
   have n6_ := Aside0.mk ((by rw [hg]; exact (below_size (by repeat (with_reducible first | exact HB.out | apply below_alloc | apply pw_below_drewN | apply below_drew1 | refine below_set ?_ GE214.out | refine below_set ?_ GE215.out | refine below_set ?_ GE216.out | refine below_set ?_ GE217.out))) : w.heap.size ≤ gb218))
   have n7_ := Aside0.mk ((by rw [hg]; exact (below_size (by repeat (with_reducible first | exact HB.out | apply below_alloc | apply pw_below_drewN | apply below_drew1 | refine below_set ?_ GE214.out | refine below_set ?_ GE215.out | refine below_set ?_ GE216.out | refine below_set ?_ GE217.out))) : w.heap.size ≤ gb218))
   have n8_ := Aside0.mk ((by rw [hg]; exact Nat.ne_of_lt (blk_lt (g := gb214) (o := .cells #[.int .i64 a0_0, .int .u64 a0_1] 71 (0, 0)) (by (with_reducible repeat (first | refine blk_drewN ?_ _ | refine blk_drew ?_ | refine blk_alloc ?_ _)); exact BK214.out)) : gb214 ≠ gb218))
   have n9_ := Aside0.mk ((by rw [hg]; exact Nat.ne_of_gt (blk_lt (g := gb214) (o := .cells #[.int .i64 a0_0, .int .u64 a0_1] 71 (0, 0)) (by (with_reducible repeat (first | refine blk_drewN ?_ _ | refine blk_drew ?_ | refine blk_alloc ?_ _)); exact BK214.out)) : gb218 ≠ gb214))
   have n10_ := Aside0.mk ((by rw [hg]; exact Nat.ne_of_lt (blk_lt (g := gb215) (o := .cells #[.int .i64 a1_0, .int .u64 a1_1] 71 (0, 0)) (by (with_reducible repeat (first | refine blk_drewN ?_ _ | refine blk_drew ?_ | refine blk_alloc ?_ _)); exact BK215.out)) : gb215 ≠ gb218))
   have n11_ := Aside0.mk ((by rw [hg]; exact Nat.ne_of_gt (blk_lt (g := gb215) (o := .cells #[.int .i64 a1_0, .int .u64 a1_1] 71 (0, 0)) (by (with_reducible repeat (first | refine blk_drewN ?_ _ | refine blk_drew ?_ | refine blk_alloc ?_ _)); exact BK215.out)) : gb218 ≠ gb215))
   have n12_ := Aside0.mk ((by rw [hg]; exact Nat.ne_of_lt (blk_lt (g := gb216) (o := .cells #[.int .i64 0, .int .u64 0] 71 (0, 0)) (by (with_reducible repeat (first | refine blk_drewN ?_ _ | refine blk_drew ?_ | refine blk_alloc ?_ _)); exact BK216.out)) : gb216 ≠ gb218))
   have n13_ := Aside0.mk ((by rw [hg]; exact Nat.ne_of_gt (blk_lt (g := gb216) (o := .cells #[.int .i64 0, .int .u64 0] 71 (0, 0)) (by (with_reducible repeat (first | refine blk_drewN ?_ _ | refine blk_drew ?_ | refine blk_alloc ?_ _)); exact BK216.out)) : gb218 ≠ gb216))
   have n14_ := Aside0.mk ((by rw [hg]; exact Nat.ne_of_lt (blk_lt (g := gb217) (o := .cells #[.int .i64 0, .int .u64 0] 71 (0, 0)) (by (with_reducible repeat (first | refine blk_drewN ?_ _ | refine blk_drew ?_ | refine blk_alloc ?_ _)); exact BK217.out)) : gb217 ≠ gb218))
   have n15_ := Aside0.mk ((by rw [hg]; exact Nat.ne_of_gt (blk_lt (g := gb217) (o := .cells #[.int .i64 0, .int .u64 0] 71 (0, 0)) (by (with_reducible repeat (first | refine blk_drewN ?_ _ | refine blk_drew ?_ | refine blk_alloc ?_ _)); exact BK217.out)) : gb218 ≠ gb217))
   clear BK214
   clear BK215
   clear BK216
   clear BK217
   clear HB
   have BK214 := n0_
   have BK215 := n1_
   have BK216 := n2_
   have BK217 := n3_
   have HB := n4_
   have BK218 := n5_
   have GW218 := n6_
   have GE218 := n7_
   have NB214_218 := n8_
   have NB218_214 := n9_
   have NB215_218 := n10_
   have NB218_215 := n11_
   have NB216_218 := n12_
   have NB218_216 := n13_
   have NB217_218 := n14_
   have NB218_217 := n15_
   clear n0_ n1_ n2_ n3_ n4_ n5_ n6_ n7_ n8_ n9_ n10_ n11_ n12_ n13_ n14_ n15_
   clear hb hbox hg
   refine hK.out _ _ ⟨(blk_cell BK214.out 0).trans rfl, (blk_cell BK214.out 1).trans rfl, (blk_cell BK215.out 0).trans rfl, (blk_cell BK215.out 1).trans rfl⟩ (fun hHeld => ?_)
   clear hK K
   refine norm_ (a' := ?_) ?_ ?_
   rotate_left
   ·show Act.put _ (some 6) _ = _
    simp only [Act.put, List.setIfInBounds_toArray, List.set_cons_zero, List.set_cons_succ, i64_w, i32_w]
    rfl
   refine one_ (i := 3) (N := some 7) #[true, true, true, true, false, false] rfl rfl (by kernel_rfl) (by decide) (fun K hK => ?_)
   refine box_step ?hg (N := 7) ?hd (cs := #[.int .i64 0, .int .u64 0]) (t := 71) ?hr ?_; (case hd => rfl); (case hg => rfl); (case hr => first | (go_simp; done) | (go_simp; rfl))
   intro gb219 hg w10 hbox hb
   have n0_ := Aside0.mk (blk_below (g := gb214) (o := .cells #[.int .i64 a0_0, .int .u64 a0_1] 71 (0, 0)) (by (with_reducible repeat (first | refine blk_drewN ?_ _ | refine blk_drew ?_ | refine blk_alloc ?_ _)); exact BK214.out) hb)
   have n1_ := Aside0.mk (blk_below (g := gb215) (o := .cells #[.int .i64 a1_0, .int .u64 a1_1] 71 (0, 0)) (by (with_reducible repeat (first | refine blk_drewN ?_ _ | refine blk_drew ?_ | refine blk_alloc ?_ _)); exact BK215.out) hb)
   have n2_ := Aside0.mk (blk_below (g := gb216) (o := .cells #[.int .i64 0, .int .u64 0] 71 (0, 0)) (by (with_reducible repeat (first | refine blk_drewN ?_ _ | refine blk_drew ?_ | refine blk_alloc ?_ _)); exact BK216.out) hb)
   have n3_ := Aside0.mk (blk_below (g := gb217) (o := .cells #[.int .i64 0, .int .u64 0] 71 (0, 0)) (by (with_reducible repeat (first | refine blk_drewN ?_ _ | refine blk_drew ?_ | refine blk_alloc ?_ _)); exact BK217.out) hb)
   have n4_ := Aside0.mk (blk_below (g := gb218) (o := .cells #[.int .i64 0, .int .u64 0] 71 (0, 0)) (by (with_reducible repeat (first | refine blk_drewN ?_ _ | refine blk_drew ?_ | refine blk_alloc ?_ _)); exact BK218.out) hb)
   have n5_ := Aside0.mk (below_step (by repeat (with_reducible first | exact HB.out | apply below_alloc | apply pw_below_drewN | apply below_drew1 | refine below_set ?_ GE214.out | refine below_set ?_ GE215.out | refine below_set ?_ GE216.out | refine below_set ?_ GE217.out | refine below_set ?_ GE218.out)) hb)
   have n6_ := Aside0.mk (hbox)
   have n7_ := Aside0.mk ((by rw [hg]; exact (below_size (by repeat (with_reducible first | exact HB.out | apply below_alloc | apply pw_below_drewN | apply below_drew1 | refine below_set ?_ GE214.out | refine below_set ?_ GE215.out | refine below_set ?_ GE216.out | refine below_set ?_ GE217.out | refine below_set ?_ GE218.out))) : w.heap.size ≤ gb219))
   have n8_ := Aside0.mk ((by rw [hg]; exact (below_size (by repeat (with_reducible first | exact HB.out | apply below_alloc | apply pw_below_drewN | apply below_drew1 | refine below_set ?_ GE214.out | refine below_set ?_ GE215.out | refine below_set ?_ GE216.out | refine below_set ?_ GE217.out | refine below_set ?_ GE218.out))) : w.heap.size ≤ gb219))
   have n9_ := Aside0.mk ((by rw [hg]; exact Nat.ne_of_lt (blk_lt (g := gb214) (o := .cells #[.int .i64 a0_0, .int .u64 a0_1] 71 (0, 0)) (by (with_reducible repeat (first | refine blk_drewN ?_ _ | refine blk_drew ?_ | refine blk_alloc ?_ _)); exact BK214.out)) : gb214 ≠ gb219))
   have n10_ := Aside0.mk ((by rw [hg]; exact Nat.ne_of_gt (blk_lt (g := gb214) (o := .cells #[.int .i64 a0_0, .int .u64 a0_1] 71 (0, 0)) (by (with_reducible repeat (first | refine blk_drewN ?_ _ | refine blk_drew ?_ | refine blk_alloc ?_ _)); exact BK214.out)) : gb219 ≠ gb214))
   have n11_ := Aside0.mk ((by rw [hg]; exact Nat.ne_of_lt (blk_lt (g := gb215) (o := .cells #[.int .i64 a1_0, .int .u64 a1_1] 71 (0, 0)) (by (with_reducible repeat (first | refine blk_drewN ?_ _ | refine blk_drew ?_ | refine blk_alloc ?_ _)); exact BK215.out)) : gb215 ≠ gb219))
   have n12_ := Aside0.mk ((by rw [hg]; exact Nat.ne_of_gt (blk_lt (g := gb215) (o := .cells #[.int .i64 a1_0, .int .u64 a1_1] 71 (0, 0)) (by (with_reducible repeat (first | refine blk_drewN ?_ _ | refine blk_drew ?_ | refine blk_alloc ?_ _)); exact BK215.out)) : gb219 ≠ gb215))
   have n13_ := Aside0.mk ((by rw [hg]; exact Nat.ne_of_lt (blk_lt (g := gb216) (o := .cells #[.int .i64 0, .int .u64 0] 71 (0, 0)) (by (with_reducible repeat (first | refine blk_drewN ?_ _ | refine blk_drew ?_ | refine blk_alloc ?_ _)); exact BK216.out)) : gb216 ≠ gb219))
   have n14_ := Aside0.mk ((by rw [hg]; exact Nat.ne_of_gt (blk_lt (g := gb216) (o := .cells #[.int .i64 0, .int .u64 0] 71 (0, 0)) (by (with_reducible repeat (first | refine blk_drewN ?_ _ | refine blk_drew ?_ | refine blk_alloc ?_ _)); exact BK216.out)) : gb219 ≠ gb216))
   have n15_ := Aside0.mk ((by rw [hg]; exact Nat.ne_of_lt (blk_lt (g := gb217) (o := .cells #[.int .i64 0, .int .u64 0] 71 (0, 0)) (by (with_reducible repeat (first | refine blk_drewN ?_ _ | refine blk_drew ?_ | refine blk_alloc ?_ _)); exact BK217.out)) : gb217 ≠ gb219))
   have n16_ := Aside0.mk ((by rw [hg]; exact Nat.ne_of_gt (blk_lt (g := gb217) (o := .cells #[.int .i64 0, .int .u64 0] 71 (0, 0)) (by (with_reducible repeat (first | refine blk_drewN ?_ _ | refine blk_drew ?_ | refine blk_alloc ?_ _)); exact BK217.out)) : gb219 ≠ gb217))
   have n17_ := Aside0.mk ((by rw [hg]; exact Nat.ne_of_lt (blk_lt (g := gb218) (o := .cells #[.int .i64 0, .int .u64 0] 71 (0, 0)) (by (with_reducible repeat (first | refine blk_drewN ?_ _ | refine blk_drew ?_ | refine blk_alloc ?_ _)); exact BK218.out)) : gb218 ≠ gb219))
   have n18_ := Aside0.mk ((by rw [hg]; exact Nat.ne_of_gt (blk_lt (g := gb218) (o := .cells #[.int .i64 0, .int .u64 0] 71 (0, 0)) (by (with_reducible repeat (first | refine blk_drewN ?_ _ | refine blk_drew ?_ | refine blk_alloc ?_ _)); exact BK218.out)) : gb219 ≠ gb218))
   clear BK214
   clear BK215
   clear BK216
   clear BK217
   clear BK218
   clear HB
   have BK214 := n0_
   have BK215 := n1_
   have BK216 := n2_
   have BK217 := n3_
   have BK218 := n4_
   have HB := n5_
   have BK219 := n6_
   have GW219 := n7_
   have GE219 := n8_
   have NB214_219 := n9_
   have NB219_214 := n10_
   have NB215_219 := n11_
   have NB219_215 := n12_
   have NB216_219 := n13_
   have NB219_216 := n14_
   have NB217_219 := n15_
   have NB219_217 := n16_
   have NB218_219 := n17_
   have NB219_218 := n18_
   clear n0_ n1_ n2_ n3_ n4_ n5_ n6_ n7_ n8_ n9_ n10_ n11_ n12_ n13_ n14_ n15_ n16_ n17_ n18_
   clear hb hbox hg
   refine hK.out _ _ ⟨(blk_cell BK214.out 0).trans rfl, (blk_cell BK214.out 1).trans rfl, (blk_cell BK215.out 0).trans rfl, (blk_cell BK215.out 1).trans rfl⟩ (fun hHeld => ?_)
   clear hK K
   refine norm_ (a' := ?_) ?_ ?_
   rotate_left
   ·show Act.put _ (some 7) _ = _
    simp only [Act.put, List.setIfInBounds_toArray, List.set_cons_zero, List.set_cons_succ, i64_w, i32_w]
    rfl
   exact norm_ (by simp only [putAll, Act.put, List.setIfInBounds_toArray, List.set_cons_zero, List.set_cons_succ]) (hCont (gb218, gb219) _ ⟨hHeld, (by (with_reducible repeat (first | refine blk_drewN ?_ _ | refine blk_drew ?_ | refine blk_alloc ?_ _)); exact BK214.out), (by (with_reducible repeat (first | refine blk_drewN ?_ _ | refine blk_drew ?_ | refine blk_alloc ?_ _)); exact BK215.out), (by (with_reducible repeat (first | refine blk_drewN ?_ _ | refine blk_drew ?_ | refine blk_alloc ?_ _)); exact BK216.out), (by (with_reducible repeat (first | refine blk_drewN ?_ _ | refine blk_drew ?_ | refine blk_alloc ?_ _)); exact BK217.out), (by (with_reducible repeat (first | refine blk_drewN ?_ _ | refine blk_drew ?_ | refine blk_alloc ?_ _)); exact BK218.out), (by (with_reducible repeat (first | refine blk_drewN ?_ _ | refine blk_drew ?_ | refine blk_alloc ?_ _)); exact BK219.out), GW218.out, GE218.out, NB214_218.out, NB218_214.out, NB215_218.out, NB218_215.out, NB216_218.out, NB218_216.out, NB217_218.out, NB218_217.out, NB219_218.out, NB218_219.out, GW219.out, GE219.out, NB214_219.out, NB219_214.out, NB215_219.out, NB219_215.out, NB216_219.out, NB219_216.out, NB217_219.out, NB219_217.out, (by repeat (with_reducible first | exact HB.out | apply below_alloc | apply pw_below_drewN | apply below_drew1 | refine below_set ?_ GE214.out | refine below_set ?_ GE215.out | refine below_set ?_ GE216.out | refine below_set ?_ GE217.out | refine below_set ?_ GE218.out | refine below_set ?_ GE219.out))⟩)
  ·skip
   refine box_step ?hg (N := 7) ?hd (cs := #[.int .i64 0, .int .u64 0]) (t := 71) ?hr ?_; (case hd => rfl); (case hg => rfl); (case hr => first | (go_simp; done) | (go_simp; rfl))
   intro gb219 hg w9 hbox hb
   have n0_ := Aside0.mk (blk_below (g := gb214) (o := .cells #[.int .i64 a0_0, .int .u64 a0_1] 71 (0, 0)) (by (with_reducible repeat (first | refine blk_drewN ?_ _ | refine blk_drew ?_ | refine blk_alloc ?_ _)); exact BK214.out) hb)
   have n1_ := Aside0.mk (blk_below (g := gb215) (o := .cells #[.int .i64 a1_0, .int .u64 a1_1] 71 (0, 0)) (by (with_reducible repeat (first | refine blk_drewN ?_ _ | refine blk_drew ?_ | refine blk_alloc ?_ _)); exact BK215.out) hb)
   have n2_ := Aside0.mk (blk_below (g := gb216) (o := .cells #[.int .i64 0, .int .u64 0] 71 (0, 0)) (by (with_reducible repeat (first | refine blk_drewN ?_ _ | refine blk_drew ?_ | refine blk_alloc ?_ _)); exact BK216.out) hb)
   have n3_ := Aside0.mk (blk_below (g := gb217) (o := .cells #[.int .i64 0, .int .u64 0] 71 (0, 0)) (by (with_reducible repeat (first | refine blk_drewN ?_ _ | refine blk_drew ?_ | refine blk_alloc ?_ _)); exact BK217.out) hb)
   have n4_ := Aside0.mk (below_step (by repeat (with_reducible first | exact HB.out | apply below_alloc | apply pw_below_drewN | apply below_drew1 | refine below_set ?_ GE214.out | refine below_set ?_ GE215.out | refine below_set ?_ GE216.out | refine below_set ?_ GE217.out)) hb)
   have n5_ := Aside0.mk (hbox)
   have n6_ := Aside0.mk ((by rw [hg]; exact (below_size (by repeat (with_reducible first | exact HB.out | apply below_alloc | apply pw_below_drewN | apply below_drew1 | refine below_set ?_ GE214.out | refine below_set ?_ GE215.out | refine below_set ?_ GE216.out | refine below_set ?_ GE217.out))) : w.heap.size ≤ gb219))
   have n7_ := Aside0.mk ((by rw [hg]; exact (below_size (by repeat (with_reducible first | exact HB.out | apply below_alloc | apply pw_below_drewN | apply below_drew1 | refine below_set ?_ GE214.out | refine below_set ?_ GE215.out | refine below_set ?_ GE216.out | refine below_set ?_ GE217.out))) : w.heap.size ≤ gb219))
   have n8_ := Aside0.mk ((by rw [hg]; exact Nat.ne_of_lt (blk_lt (g := gb214) (o := .cells #[.int .i64 a0_0, .int .u64 a0_1] 71 (0, 0)) (by (with_reducible repeat (first | refine blk_drewN ?_ _ | refine blk_drew ?_ | refine blk_alloc ?_ _)); exact BK214.out)) : gb214 ≠ gb219))
   have n9_ := Aside0.mk ((by rw [hg]; exact Nat.ne_of_gt (blk_lt (g := gb214) (o := .cells #[.int .i64 a0_0, .int .u64 a0_1] 71 (0, 0)) (by (with_reducible repeat (first | refine blk_drewN ?_ _ | refine blk_drew ?_ | refine blk_alloc ?_ _)); exact BK214.out)) : gb219 ≠ gb214))
   have n10_ := Aside0.mk ((by rw [hg]; exact Nat.ne_of_lt (blk_lt (g := gb215) (o := .cells #[.int .i64 a1_0, .int .u64 a1_1] 71 (0, 0)) (by (with_reducible repeat (first | refine blk_drewN ?_ _ | refine blk_drew ?_ | refine blk_alloc ?_ _)); exact BK215.out)) : gb215 ≠ gb219))
   have n11_ := Aside0.mk ((by rw [hg]; exact Nat.ne_of_gt (blk_lt (g := gb215) (o := .cells #[.int .i64 a1_0, .int .u64 a1_1] 71 (0, 0)) (by (with_reducible repeat (first | refine blk_drewN ?_ _ | refine blk_drew ?_ | refine blk_alloc ?_ _)); exact BK215.out)) : gb219 ≠ gb215))
   have n12_ := Aside0.mk ((by rw [hg]; exact Nat.ne_of_lt (blk_lt (g := gb216) (o := .cells #[.int .i64 0, .int .u64 0] 71 (0, 0)) (by (with_reducible repeat (first | refine blk_drewN ?_ _ | refine blk_drew ?_ | refine blk_alloc ?_ _)); exact BK216.out)) : gb216 ≠ gb219))
   have n13_ := Aside0.mk ((by rw [hg]; exact Nat.ne_of_gt (blk_lt (g := gb216) (o := .cells #[.int .i64 0, .int .u64 0] 71 (0, 0)) (by (with_reducible repeat (first | refine blk_drewN ?_ _ | refine blk_drew ?_ | refine blk_alloc ?_ _)); exact BK216.out)) : gb219 ≠ gb216))
   have n14_ := Aside0.mk ((by rw [hg]; exact Nat.ne_of_lt (blk_lt (g := gb217) (o := .cells #[.int .i64 0, .int .u64 0] 71 (0, 0)) (by (with_reducible repeat (first | refine blk_drewN ?_ _ | refine blk_drew ?_ | refine blk_alloc ?_ _)); exact BK217.out)) : gb217 ≠ gb219))
   have n15_ := Aside0.mk ((by rw [hg]; exact Nat.ne_of_gt (blk_lt (g := gb217) (o := .cells #[.int .i64 0, .int .u64 0] 71 (0, 0)) (by (with_reducible repeat (first | refine blk_drewN ?_ _ | refine blk_drew ?_ | refine blk_alloc ?_ _)); exact BK217.out)) : gb219 ≠ gb217))
   clear BK214
   clear BK215
   clear BK216
   clear BK217
   clear HB
   have BK214 := n0_
   have BK215 := n1_
   have BK216 := n2_
   have BK217 := n3_
   have HB := n4_
   have BK219 := n5_
   have GW219 := n6_
   have GE219 := n7_
   have NB214_219 := n8_
   have NB219_214 := n9_
   have NB215_219 := n10_
   have NB219_215 := n11_
   have NB216_219 := n12_
   have NB219_216 := n13_
   have NB217_219 := n14_
   have NB219_217 := n15_
   clear n0_ n1_ n2_ n3_ n4_ n5_ n6_ n7_ n8_ n9_ n10_ n11_ n12_ n13_ n14_ n15_
   clear hb hbox hg
   refine hK.out _ _ ⟨(blk_cell BK214.out 0).trans rfl, (blk_cell BK214.out 1).trans rfl, (blk_cell BK215.out 0).trans rfl, (blk_cell BK215.out 1).trans rfl⟩ (fun hHeld => ?_)
   clear hK K
   refine norm_ (a' := ?_) ?_ ?_
   rotate_left
   ·show Act.put _ (some 7) _ = _
    simp only [Act.put, List.setIfInBounds_toArray, List.set_cons_zero, List.set_cons_succ, i64_w, i32_w]
    rfl
   refine one_ (i := 2) (N := some 6) #[true, true, true, true, false, false] rfl rfl (by kernel_rfl) (by decide) (fun K hK => ?_)
   refine box_step ?hg (N := 6) ?hd (cs := #[.int .i64 0, .int .u64 0]) (t := 71) ?hr ?_; (case hd => rfl); (case hg => rfl); (case hr => first | (go_simp; done) | (go_simp; rfl))
   intro gb218 hg w10 hbox hb
   have n0_ := Aside0.mk (blk_below (g := gb214) (o := .cells #[.int .i64 a0_0, .int .u64 a0_1] 71 (0, 0)) (by (with_reducible repeat (first | refine blk_drewN ?_ _ | refine blk_drew ?_ | refine blk_alloc ?_ _)); exact BK214.out) hb)
   have n1_ := Aside0.mk (blk_below (g := gb215) (o := .cells #[.int .i64 a1_0, .int .u64 a1_1] 71 (0, 0)) (by (with_reducible repeat (first | refine blk_drewN ?_ _ | refine blk_drew ?_ | refine blk_alloc ?_ _)); exact BK215.out) hb)
   have n2_ := Aside0.mk (blk_below (g := gb216) (o := .cells #[.int .i64 0, .int .u64 0] 71 (0, 0)) (by (with_reducible repeat (first | refine blk_drewN ?_ _ | refine blk_drew ?_ | refine blk_alloc ?_ _)); exact BK216.out) hb)
   have n3_ := Aside0.mk (blk_below (g := gb217) (o := .cells #[.int .i64 0, .int .u64 0] 71 (0, 0)) (by (with_reducible repeat (first | refine blk_drewN ?_ _ | refine blk_drew ?_ | refine blk_alloc ?_ _)); exact BK217.out) hb)
   have n4_ := Aside0.mk (blk_below (g := gb219) (o := .cells #[.int .i64 0, .int .u64 0] 71 (0, 0)) (by (with_reducible repeat (first | refine blk_drewN ?_ _ | refine blk_drew ?_ | refine blk_alloc ?_ _)); exact BK219.out) hb)
   have n5_ := Aside0.mk (below_step (by repeat (with_reducible first | exact HB.out | apply below_alloc | apply pw_below_drewN | apply below_drew1 | refine below_set ?_ GE214.out | refine below_set ?_ GE215.out | refine below_set ?_ GE216.out | refine below_set ?_ GE217.out | refine below_set ?_ GE219.out)) hb)
   have n6_ := Aside0.mk (hbox)
   have n7_ := Aside0.mk ((by rw [hg]; exact (below_size (by repeat (with_reducible first | exact HB.out | apply below_alloc | apply pw_below_drewN | apply below_drew1 | refine below_set ?_ GE214.out | refine below_set ?_ GE215.out | refine below_set ?_ GE216.out | refine below_set ?_ GE217.out | refine below_set ?_ GE219.out))) : w.heap.size ≤ gb218))
   have n8_ := Aside0.mk ((by rw [hg]; exact (below_size (by repeat (with_reducible first | exact HB.out | apply below_alloc | apply pw_below_drewN | apply below_drew1 | refine below_set ?_ GE214.out | refine below_set ?_ GE215.out | refine below_set ?_ GE216.out | refine below_set ?_ GE217.out | refine below_set ?_ GE219.out))) : w.heap.size ≤ gb218))
   have n9_ := Aside0.mk ((by rw [hg]; exact Nat.ne_of_lt (blk_lt (g := gb214) (o := .cells #[.int .i64 a0_0, .int .u64 a0_1] 71 (0, 0)) (by (with_reducible repeat (first | refine blk_drewN ?_ _ | refine blk_drew ?_ | refine blk_alloc ?_ _)); exact BK214.out)) : gb214 ≠ gb218))
   have n10_ := Aside0.mk ((by rw [hg]; exact Nat.ne_of_gt (blk_lt (g := gb214) (o := .cells #[.int .i64 a0_0, .int .u64 a0_1] 71 (0, 0)) (by (with_reducible repeat (first | refine blk_drewN ?_ _ | refine blk_drew ?_ | refine blk_alloc ?_ _)); exact BK214.out)) : gb218 ≠ gb214))
   have n11_ := Aside0.mk ((by rw [hg]; exact Nat.ne_of_lt (blk_lt (g := gb215) (o := .cells #[.int .i64 a1_0, .int .u64 a1_1] 71 (0, 0)) (by (with_reducible repeat (first | refine blk_drewN ?_ _ | refine blk_drew ?_ | refine blk_alloc ?_ _)); exact BK215.out)) : gb215 ≠ gb218))
   have n12_ := Aside0.mk ((by rw [hg]; exact Nat.ne_of_gt (blk_lt (g := gb215) (o := .cells #[.int .i64 a1_0, .int .u64 a1_1] 71 (0, 0)) (by (with_reducible repeat (first | refine blk_drewN ?_ _ | refine blk_drew ?_ | refine blk_alloc ?_ _)); exact BK215.out)) : gb218 ≠ gb215))
   have n13_ := Aside0.mk ((by rw [hg]; exact Nat.ne_of_lt (blk_lt (g := gb216) (o := .cells #[.int .i64 0, .int .u64 0] 71 (0, 0)) (by (with_reducible repeat (first | refine blk_drewN ?_ _ | refine blk_drew ?_ | refine blk_alloc ?_ _)); exact BK216.out)) : gb216 ≠ gb218))
   have n14_ := Aside0.mk ((by rw [hg]; exact Nat.ne_of_gt (blk_lt (g := gb216) (o := .cells #[.int .i64 0, .int .u64 0] 71 (0, 0)) (by (with_reducible repeat (first | refine blk_drewN ?_ _ | refine blk_drew ?_ | refine blk_alloc ?_ _)); exact BK216.out)) : gb218 ≠ gb216))
   have n15_ := Aside0.mk ((by rw [hg]; exact Nat.ne_of_lt (blk_lt (g := gb217) (o := .cells #[.int .i64 0, .int .u64 0] 71 (0, 0)) (by (with_reducible repeat (first | refine blk_drewN ?_ _ | refine blk_drew ?_ | refine blk_alloc ?_ _)); exact BK217.out)) : gb217 ≠ gb218))
   have n16_ := Aside0.mk ((by rw [hg]; exact Nat.ne_of_gt (blk_lt (g := gb217) (o := .cells #[.int .i64 0, .int .u64 0] 71 (0, 0)) (by (with_reducible repeat (first | refine blk_drewN ?_ _ | refine blk_drew ?_ | refine blk_alloc ?_ _)); exact BK217.out)) : gb218 ≠ gb217))
   have n17_ := Aside0.mk ((by rw [hg]; exact Nat.ne_of_lt (blk_lt (g := gb219) (o := .cells #[.int .i64 0, .int .u64 0] 71 (0, 0)) (by (with_reducible repeat (first | refine blk_drewN ?_ _ | refine blk_drew ?_ | refine blk_alloc ?_ _)); exact BK219.out)) : gb219 ≠ gb218))
   have n18_ := Aside0.mk ((by rw [hg]; exact Nat.ne_of_gt (blk_lt (g := gb219) (o := .cells #[.int .i64 0, .int .u64 0] 71 (0, 0)) (by (with_reducible repeat (first | refine blk_drewN ?_ _ | refine blk_drew ?_ | refine blk_alloc ?_ _)); exact BK219.out)) : gb218 ≠ gb219))
   clear BK214
   clear BK215
   clear BK216
   clear BK217
   clear BK219
   clear HB
   have BK214 := n0_
   have BK215 := n1_
   have BK216 := n2_
   have BK217 := n3_
   have BK219 := n4_
   have HB := n5_
   have BK218 := n6_
   have GW218 := n7_
   have GE218 := n8_
   have NB214_218 := n9_
   have NB218_214 := n10_
   have NB215_218 := n11_
   have NB218_215 := n12_
   have NB216_218 := n13_
   have NB218_216 := n14_
   have NB217_218 := n15_
   have NB218_217 := n16_
   have NB219_218 := n17_
   have NB218_219 := n18_
   clear n0_ n1_ n2_ n3_ n4_ n5_ n6_ n7_ n8_ n9_ n10_ n11_ n12_ n13_ n14_ n15_ n16_ n17_ n18_
   clear hb hbox hg
   refine hK.out _ _ ⟨(blk_cell BK214.out 0).trans rfl, (blk_cell BK214.out 1).trans rfl, (blk_cell BK215.out 0).trans rfl, (blk_cell BK215.out 1).trans rfl⟩ (fun hHeld => ?_)
   clear hK K
   refine norm_ (a' := ?_) ?_ ?_
   rotate_left
   ·show Act.put _ (some 6) _ = _
    simp only [Act.put, List.setIfInBounds_toArray, List.set_cons_zero, List.set_cons_succ, i64_w, i32_w]
    rfl
   exact norm_ (by simp only [putAll, Act.put, List.setIfInBounds_toArray, List.set_cons_zero, List.set_cons_succ]) (hCont (gb218, gb219) _ ⟨hHeld, (by (with_reducible repeat (first | refine blk_drewN ?_ _ | refine blk_drew ?_ | refine blk_alloc ?_ _)); exact BK214.out), (by (with_reducible repeat (first | refine blk_drewN ?_ _ | refine blk_drew ?_ | refine blk_alloc ?_ _)); exact BK215.out), (by (with_reducible repeat (first | refine blk_drewN ?_ _ | refine blk_drew ?_ | refine blk_alloc ?_ _)); exact BK216.out), (by (with_reducible repeat (first | refine blk_drewN ?_ _ | refine blk_drew ?_ | refine blk_alloc ?_ _)); exact BK217.out), (by (with_reducible repeat (first | refine blk_drewN ?_ _ | refine blk_drew ?_ | refine blk_alloc ?_ _)); exact BK218.out), (by (with_reducible repeat (first | refine blk_drewN ?_ _ | refine blk_drew ?_ | refine blk_alloc ?_ _)); exact BK219.out), GW218.out, GE218.out, NB214_218.out, NB218_214.out, NB215_218.out, NB218_215.out, NB216_218.out, NB218_216.out, NB217_218.out, NB218_217.out, NB219_218.out, NB218_219.out, GW219.out, GE219.out, NB214_219.out, NB219_214.out, NB215_219.out, NB219_215.out, NB216_219.out, NB219_216.out, NB217_219.out, NB219_217.out, (by repeat (with_reducible first | exact HB.out | apply below_alloc | apply pw_below_drewN | apply below_drew1 | refine below_set ?_ GE214.out | refine below_set ?_ GE215.out | refine below_set ?_ GE216.out | refine below_set ?_ GE217.out | refine below_set ?_ GE219.out | refine below_set ?_ GE218.out))⟩)
 rintro ⟨gb218, gb219⟩ w11 ⟨hS_, h0_, h1_, h2_, h3_, h4_, h5_, h6_, h7_, h8_, h9_, h10_, h11_, h12_, h13_, h14_, h15_, h16_, h17_, h18_, h19_, h20_, h21_, h22_, h23_, h24_, h25_, h26_, h27_, h28_⟩
 have n0_ : Aside0 (w11.heap[gb214]? = some (.cells #[.int .i64 a0_0, .int .u64 a0_1] 71 (0, 0))) := ⟨h0_⟩
 have n1_ : Aside0 (w11.heap[gb215]? = some (.cells #[.int .i64 a1_0, .int .u64 a1_1] 71 (0, 0))) := ⟨h1_⟩
 have n2_ : Aside0 (w11.heap[gb216]? = some (.cells #[.int .i64 0, .int .u64 0] 71 (0, 0))) := ⟨h2_⟩
 have n3_ : Aside0 (w11.heap[gb217]? = some (.cells #[.int .i64 0, .int .u64 0] 71 (0, 0))) := ⟨h3_⟩
 have n4_ : Aside0 (w11.heap[gb218]? = some (.cells #[.int .i64 0, .int .u64 0] 71 (0, 0))) := ⟨h4_⟩
 have n5_ : Aside0 (w11.heap[gb219]? = some (.cells #[.int .i64 0, .int .u64 0] 71 (0, 0))) := ⟨h5_⟩
 have n6_ : Aside0 (w.heap.size ≤ gb218) := ⟨h6_⟩
 have n7_ : Aside0 (w.heap.size ≤ gb218) := ⟨h7_⟩
 have n8_ : Aside0 (gb214 ≠ gb218) := ⟨h8_⟩
 have n9_ : Aside0 (gb218 ≠ gb214) := ⟨h9_⟩
 have n10_ : Aside0 (gb215 ≠ gb218) := ⟨h10_⟩
 have n11_ : Aside0 (gb218 ≠ gb215) := ⟨h11_⟩
 have n12_ : Aside0 (gb216 ≠ gb218) := ⟨h12_⟩
 have n13_ : Aside0 (gb218 ≠ gb216) := ⟨h13_⟩
 have n14_ : Aside0 (gb217 ≠ gb218) := ⟨h14_⟩
 have n15_ : Aside0 (gb218 ≠ gb217) := ⟨h15_⟩
 have n16_ : Aside0 (gb219 ≠ gb218) := ⟨h16_⟩
 have n17_ : Aside0 (gb218 ≠ gb219) := ⟨h17_⟩
 have n18_ : Aside0 (w.heap.size ≤ gb219) := ⟨h18_⟩
 have n19_ : Aside0 (w.heap.size ≤ gb219) := ⟨h19_⟩
 have n20_ : Aside0 (gb214 ≠ gb219) := ⟨h20_⟩
 have n21_ : Aside0 (gb219 ≠ gb214) := ⟨h21_⟩
 have n22_ : Aside0 (gb215 ≠ gb219) := ⟨h22_⟩
 have n23_ : Aside0 (gb219 ≠ gb215) := ⟨h23_⟩
 have n24_ : Aside0 (gb216 ≠ gb219) := ⟨h24_⟩
 have n25_ : Aside0 (gb219 ≠ gb216) := ⟨h25_⟩
 have n26_ : Aside0 (gb217 ≠ gb219) := ⟨h26_⟩
 have n27_ : Aside0 (gb219 ≠ gb217) := ⟨h27_⟩
 have n28_ : Aside0 (Below w.heap.size w w11) := ⟨h28_⟩
 clear BK214
 clear BK215
 clear BK216
 clear BK217
 clear HB
 clear h0_ h1_ h2_ h3_ h4_ h5_ h6_ h7_ h8_ h9_ h10_ h11_ h12_ h13_ h14_ h15_ h16_ h17_ h18_ h19_ h20_ h21_ h22_ h23_ h24_ h25_ h26_ h27_ h28_
 have BK214 := n0_
 have BK215 := n1_
 have BK216 := n2_
 have BK217 := n3_
 have BK218 := n4_
 have BK219 := n5_
 have GW218 := n6_
 have GE218 := n7_
 have NB214_218 := n8_
 have NB218_214 := n9_
 have NB215_218 := n10_
 have NB218_215 := n11_
 have NB216_218 := n12_
 have NB218_216 := n13_
 have NB217_218 := n14_
 have NB218_217 := n15_
 have NB219_218 := n16_
 have NB218_219 := n17_
 have GW219 := n18_
 have GE219 := n19_
 have NB214_219 := n20_
 have NB219_214 := n21_
 have NB215_219 := n22_
 have NB219_215 := n23_
 have NB216_219 := n24_
 have NB219_216 := n25_
 have NB217_219 := n26_
 have NB219_217 := n27_
 have HB := n28_
 clear n0_ n1_ n2_ n3_ n4_ n5_ n6_ n7_ n8_ n9_ n10_ n11_ n12_ n13_ n14_ n15_ n16_ n17_ n18_ n19_ n20_ n21_ n22_ n23_ n24_ n25_ n26_ n27_ n28_
 have hHeld : w11.cell? ⟨gb214, 0, none⟩ = some (.int .i64 a0_0) ∧ w11.cell? ⟨gb214, 1, none⟩ = some (.int .u64 a0_1) ∧ w11.cell? ⟨gb215, 0, none⟩ = some (.int .i64 a1_0) ∧ w11.cell? ⟨gb215, 1, none⟩ = some (.int .u64 a1_1) := hS_
 refine norm_ (a' := ?_) ?_ ?_
 rotate_left
 ·simp only [putAll, Act.put, List.setIfInBounds_toArray, List.set_cons_zero, List.set_cons_succ]
  rfl
 refine one_ (i := 4) (N := none) #[true, true, true, true, true, false] rfl rfl (by kernel_rfl) (by decide) (fun K hK => ?_)
 have hs12 : w11.cell? ⟨gb218, 0, none⟩ = some (.int .i64 0) := (blk_cell BK218.out 0).trans rfl
 have hfs12 := blk_frozen BK218.out 0
 have hns12_0 := NB214_218.out
 have hns12_1 := NB215_218.out
 have hns12_2 := NB216_218.out
 have hns12_3 := NB217_218.out
 have hns12_5 := NB219_218.out
 have hms12_0 := NB218_214.out
 have hms12_1 := NB218_215.out
 have hms12_2 := NB218_216.out
 have hms12_3 := NB218_217.out
 have hms12_5 := NB218_219.out
 have hs13 : w11.cell? ⟨gb218, 1, none⟩ = some (.int .u64 0) := (blk_cell BK218.out 1).trans rfl
 have hfs13 := blk_frozen BK218.out 1
 have hns13_0 := NB214_218.out
 have hns13_1 := NB215_218.out
 have hns13_2 := NB216_218.out
 have hns13_3 := NB217_218.out
 have hns13_5 := NB219_218.out
 have hms13_0 := NB218_214.out
 have hms13_1 := NB218_215.out
 have hms13_2 := NB218_216.out
 have hms13_3 := NB218_217.out
 have hms13_5 := NB218_219.out
 refine skip_ (w1 := ?_) (by rfl) rfl ?_ ?_
 rotate_left
 ·go_simp
  rfl
 refine hK.out _ _ ⟨((cell_far (p := ⟨gb218, _, none⟩) NB214_218.out _).trans (((cell_far (p := ⟨gb218, _, none⟩) NB214_218.out _).trans (hHeld.1)))), ((cell_far (p := ⟨gb218, _, none⟩) NB214_218.out _).trans (((cell_far (p := ⟨gb218, _, none⟩) NB214_218.out _).trans (hHeld.2.1)))), ((cell_far (p := ⟨gb218, _, none⟩) NB215_218.out _).trans (((cell_far (p := ⟨gb218, _, none⟩) NB215_218.out _).trans (hHeld.2.2.1)))), ((cell_far (p := ⟨gb218, _, none⟩) NB215_218.out _).trans (((cell_far (p := ⟨gb218, _, none⟩) NB215_218.out _).trans (hHeld.2.2.2))))⟩ (fun hHeld => ?_)
 clear hK K
 refine one_ (i := 5) (N := none) #[true, true, true, true, true, true] rfl rfl (by kernel_rfl) (by decide) (fun K hK => ?_)
 have hs14 : w11.cell? ⟨gb219, 0, none⟩ = some (.int .i64 0) := (blk_cell BK219.out 0).trans rfl
 have hfs14 := blk_frozen BK219.out 0
 have hns14_0 := NB214_219.out
 have hns14_1 := NB215_219.out
 have hns14_2 := NB216_219.out
 have hns14_3 := NB217_219.out
 have hns14_4 := NB218_219.out
 have hms14_0 := NB219_214.out
 have hms14_1 := NB219_215.out
 have hms14_2 := NB219_216.out
 have hms14_3 := NB219_217.out
 have hms14_4 := NB219_218.out
 have hs15 : w11.cell? ⟨gb219, 1, none⟩ = some (.int .u64 0) := (blk_cell BK219.out 1).trans rfl
 have hfs15 := blk_frozen BK219.out 1
 have hns15_0 := NB214_219.out
 have hns15_1 := NB215_219.out
 have hns15_2 := NB216_219.out
 have hns15_3 := NB217_219.out
 have hns15_4 := NB218_219.out
 have hms15_0 := NB219_214.out
 have hms15_1 := NB219_215.out
 have hms15_2 := NB219_216.out
 have hms15_3 := NB219_217.out
 have hms15_4 := NB219_218.out
 refine skip_ (w1 := ?_) (by rfl) rfl ?_ ?_
 rotate_left
 ·go_simp
  rfl
 refine hK.out _ _ ⟨((cell_far (p := ⟨gb219, _, none⟩) NB214_219.out _).trans (((cell_far (p := ⟨gb219, _, none⟩) NB214_219.out _).trans (hHeld.1)))), ((cell_far (p := ⟨gb219, _, none⟩) NB214_219.out _).trans (((cell_far (p := ⟨gb219, _, none⟩) NB214_219.out _).trans (hHeld.2.1)))), ((cell_far (p := ⟨gb219, _, none⟩) NB215_219.out _).trans (((cell_far (p := ⟨gb219, _, none⟩) NB215_219.out _).trans (hHeld.2.2.1)))), ((cell_far (p := ⟨gb219, _, none⟩) NB215_219.out _).trans (((cell_far (p := ⟨gb219, _, none⟩) NB215_219.out _).trans (hHeld.2.2.2))))⟩ (fun hHeld => ?_)
 clear hK K
 refine done_ (by kernel_rfl) ?_
 have hnb16 := NB214_215.out
 have hnc16 := NB215_214.out
 have hnb17 := NB214_216.out
 have hnc17 := NB216_214.out
 have hnb18 := NB214_217.out
 have hnc18 := NB217_214.out
 have hnb19 := NB214_218.out
 have hnc19 := NB218_214.out
 have hnb20 := NB214_219.out
 have hnc20 := NB219_214.out
 have hcz21_0 : w11.cell? ⟨gb214, 0, none⟩ = some (.int .i64 a0_0) := (blk_cell BK214.out 0).trans rfl
 have hcz21_1 : w11.cell? ⟨gb214, 1, none⟩ = some (.int .u64 a0_1) := (blk_cell BK214.out 1).trans rfl
 have hfz21_0 := blk_frozen BK214.out 0
 have hfz21_1 := blk_frozen BK214.out 1
 go_upto_if 14 with (fail)
 go_cut [] (fun wc => ∃ (kq : Nat) (x219000_2 : Int) (x219001_2 : Int), Aside0 (arith_divided.j0 kq a0_0 a0_1 a1_0 a1_1 x219000_2 x219001_2 a1_0 a1_1 = some (r1, r2, r3, r4)) ∧ Aside0 (kq ≤ k) ∧ Aside0 (wc.heap[gb214]? = some (.cells #[.int .i64 a0_0, .int .u64 a0_1] 71 (0, 0))) ∧ Aside0 (wc.heap[gb215]? = some (.cells #[.int .i64 a1_0, .int .u64 a1_1] 71 (0, 0))) ∧ Aside0 (wc.heap[gb216]? = some (.cells #[.int .i64 0, .int .u64 0] 71 (0, 0))) ∧ Aside0 (wc.heap[gb217]? = some (.cells #[.int .i64 0, .int .u64 0] 71 (0, 0))) ∧ Aside0 (wc.heap[gb218]? = some (.cells #[.int .i64 x219000_2, .int .u64 x219001_2] 71 (0, 0))) ∧ Aside0 (wc.heap[gb219]? = some (.cells #[.int .i64 a1_0, .int .u64 a1_1] 71 (0, 0))) ∧ Aside0 (Below w.heap.size w wc))
 case first =>
  have H := HC3.out
  clear HC3
  by_cases c22 : a0_0 < 0
  ·rw [if_pos c22] at H
   have c22b0 : decide (a0_0 < 0) = true := decide_eq_true c22
   clear c22
   (first | rw [c22b0] | (simp only [i64_w, i32_w]; rw [c22b0]) | skip)
   replace H := Option.bind_eq_some_iff.mp H
   obtain ⟨⟨t220, t221⟩, A230, H⟩ := H
   replace H : (arith_divided.j0 k a0_0 a0_1 a1_0 a1_1 t220 t221 a1_0 a1_1) = some (r1, r2, r3, r4) := H
   have A23 := Aside0.mk A230
   clear A230
   have H' := Aside0.mk H
   clear H
   have hnb24 := NB214_215.out
   have hnc24 := NB215_214.out
   have hnb25 := NB214_216.out
   have hnc25 := NB216_214.out
   have hnb26 := NB214_217.out
   have hnc26 := NB217_214.out
   have hnb27 := NB214_218.out
   have hnc27 := NB218_214.out
   have hnb28 := NB214_219.out
   have hnc28 := NB219_214.out
   have hcz29_0 : w11.cell? ⟨gb214, 0, none⟩ = some (.int .i64 a0_0) := (blk_cell BK214.out 0).trans rfl
   have hcz29_1 : w11.cell? ⟨gb214, 1, none⟩ = some (.int .u64 a0_1) := (blk_cell BK214.out 1).trans rfl
   have hfz29_0 := blk_frozen BK214.out 0
   have hfz29_1 := blk_frozen BK214.out 1
   go_wp2_with (first | ((with_reducible refine gate_callee (f := 46) rfl ?_); refine goesL_ (some 16) rfl rfl Tryd.func46 (by kernel_rfl) rfl #[.agg #[.int .i64 a0_0, .int .u64 a0_1]] rfl (by (try simp only [List.map_toArray, List.map_cons, List.map_nil]); first | done | rfl | (simp only [List.length_drop, List.length_take]; rfl)) ?_; (with_reducible refine (arith_wide_neg.calls a0_0 a0_1 t220 t221 _ A23.out).mono ?_); rintro e w30 ⟨rfl, hb⟩; refine ⟨_, rfl, ?_⟩; have n0_ := Aside0.mk (blk_below (g := gb214) (o := .cells #[.int .i64 a0_0, .int .u64 a0_1] 71 (0, 0)) (by (with_reducible repeat (first | refine blk_drewN ?_ _ | refine blk_drew ?_ | refine blk_alloc ?_ _)); refine blk_far ?_ NB214_219.out _; (with_reducible repeat (first | refine blk_drewN ?_ _ | refine blk_drew ?_ | refine blk_alloc ?_ _)); refine blk_far ?_ NB214_219.out _; (with_reducible repeat (first | refine blk_drewN ?_ _ | refine blk_drew ?_ | refine blk_alloc ?_ _)); refine blk_far ?_ NB214_218.out _; (with_reducible repeat (first | refine blk_drewN ?_ _ | refine blk_drew ?_ | refine blk_alloc ?_ _)); refine blk_far ?_ NB214_218.out _; (with_reducible repeat (first | refine blk_drewN ?_ _ | refine blk_drew ?_ | refine blk_alloc ?_ _)); exact BK214.out) hb); have n1_ := Aside0.mk (blk_below (g := gb215) (o := .cells #[.int .i64 a1_0, .int .u64 a1_1] 71 (0, 0)) (by (with_reducible repeat (first | refine blk_drewN ?_ _ | refine blk_drew ?_ | refine blk_alloc ?_ _)); refine blk_far ?_ NB215_219.out _; (with_reducible repeat (first | refine blk_drewN ?_ _ | refine blk_drew ?_ | refine blk_alloc ?_ _)); refine blk_far ?_ NB215_219.out _; (with_reducible repeat (first | refine blk_drewN ?_ _ | refine blk_drew ?_ | refine blk_alloc ?_ _)); refine blk_far ?_ NB215_218.out _; (with_reducible repeat (first | refine blk_drewN ?_ _ | refine blk_drew ?_ | refine blk_alloc ?_ _)); refine blk_far ?_ NB215_218.out _; (with_reducible repeat (first | refine blk_drewN ?_ _ | refine blk_drew ?_ | refine blk_alloc ?_ _)); exact BK215.out) hb); have n2_ := Aside0.mk (blk_below (g := gb216) (o := .cells #[.int .i64 0, .int .u64 0] 71 (0, 0)) (by (with_reducible repeat (first | refine blk_drewN ?_ _ | refine blk_drew ?_ | refine blk_alloc ?_ _)); refine blk_far ?_ NB216_219.out _; (with_reducible repeat (first | refine blk_drewN ?_ _ | refine blk_drew ?_ | refine blk_alloc ?_ _)); refine blk_far ?_ NB216_219.out _; (with_reducible repeat (first | refine blk_drewN ?_ _ | refine blk_drew ?_ | refine blk_alloc ?_ _)); refine blk_far ?_ NB216_218.out _; (with_reducible repeat (first | refine blk_drewN ?_ _ | refine blk_drew ?_ | refine blk_alloc ?_ _)); refine blk_far ?_ NB216_218.out _; (with_reducible repeat (first | refine blk_drewN ?_ _ | refine blk_drew ?_ | refine blk_alloc ?_ _)); exact BK216.out) hb); have n3_ := Aside0.mk (blk_below (g := gb217) (o := .cells #[.int .i64 0, .int .u64 0] 71 (0, 0)) (by (with_reducible repeat (first | refine blk_drewN ?_ _ | refine blk_drew ?_ | refine blk_alloc ?_ _)); refine blk_far ?_ NB217_219.out _; (with_reducible repeat (first | refine blk_drewN ?_ _ | refine blk_drew ?_ | refine blk_alloc ?_ _)); refine blk_far ?_ NB217_219.out _; (with_reducible repeat (first | refine blk_drewN ?_ _ | refine blk_drew ?_ | refine blk_alloc ?_ _)); refine blk_far ?_ NB217_218.out _; (with_reducible repeat (first | refine blk_drewN ?_ _ | refine blk_drew ?_ | refine blk_alloc ?_ _)); refine blk_far ?_ NB217_218.out _; (with_reducible repeat (first | refine blk_drewN ?_ _ | refine blk_drew ?_ | refine blk_alloc ?_ _)); exact BK217.out) hb); have n4_ := Aside0.mk (blk_below (g := gb218) (o := .cells #[.int .i64 a0_0, .int .u64 a0_1] 71 (0, 0)) (by (with_reducible repeat (first | refine blk_drewN ?_ _ | refine blk_drew ?_ | refine blk_alloc ?_ _)); refine blk_far ?_ NB218_219.out _; (with_reducible repeat (first | refine blk_drewN ?_ _ | refine blk_drew ?_ | refine blk_alloc ?_ _)); refine blk_far ?_ NB218_219.out _; (with_reducible repeat (first | refine blk_drewN ?_ _ | refine blk_drew ?_ | refine blk_alloc ?_ _)); refine blk_put (cs := #[.int .i64 a0_0, .int .u64 0]) ?_ 1 _ rfl; (with_reducible repeat (first | refine blk_drewN ?_ _ | refine blk_drew ?_ | refine blk_alloc ?_ _)); refine blk_put (cs := #[.int .i64 0, .int .u64 0]) ?_ 0 _ rfl; (with_reducible repeat (first | refine blk_drewN ?_ _ | refine blk_drew ?_ | refine blk_alloc ?_ _)); exact BK218.out) hb); have n5_ := Aside0.mk (blk_below (g := gb219) (o := .cells #[.int .i64 a1_0, .int .u64 a1_1] 71 (0, 0)) (by (with_reducible repeat (first | refine blk_drewN ?_ _ | refine blk_drew ?_ | refine blk_alloc ?_ _)); refine blk_put (cs := #[.int .i64 a1_0, .int .u64 0]) ?_ 1 _ rfl; (with_reducible repeat (first | refine blk_drewN ?_ _ | refine blk_drew ?_ | refine blk_alloc ?_ _)); refine blk_put (cs := #[.int .i64 0, .int .u64 0]) ?_ 0 _ rfl; (with_reducible repeat (first | refine blk_drewN ?_ _ | refine blk_drew ?_ | refine blk_alloc ?_ _)); refine blk_far ?_ NB219_218.out _; (with_reducible repeat (first | refine blk_drewN ?_ _ | refine blk_drew ?_ | refine blk_alloc ?_ _)); refine blk_far ?_ NB219_218.out _; (with_reducible repeat (first | refine blk_drewN ?_ _ | refine blk_drew ?_ | refine blk_alloc ?_ _)); exact BK219.out) hb); have n6_ := Aside0.mk (below_step (by repeat (with_reducible first | exact HB.out | apply below_alloc | apply pw_below_drewN | apply below_drew1 | refine below_set ?_ GE214.out | refine below_set ?_ GE215.out | refine below_set ?_ GE216.out | refine below_set ?_ GE217.out | refine below_set ?_ GE218.out | refine below_set ?_ GE219.out)) hb); clear BK214; clear BK215; clear BK216; clear BK217; clear BK218; clear BK219; clear HB; have BK214 := n0_; have BK215 := n1_; have BK216 := n2_; have BK217 := n3_; have BK218 := n4_; have BK219 := n5_; have HB := n6_; clear n0_ n1_ n2_ n3_ n4_ n5_ n6_; (try clear hb); (try clear hb2); (try clear hk); (try clear hi); have hnb31 := NB218_215.out; have hnc31 := NB215_218.out; have hnb32 := NB218_216.out; have hnc32 := NB216_218.out; have hnb33 := NB218_217.out; have hnc33 := NB217_218.out; have hnb34 := NB218_219.out; have hnc34 := NB219_218.out; have hcz35_0 : w30.cell? ⟨gb218, 0, none⟩ = some (.int .i64 a0_0) := (blk_cell BK218.out 0).trans rfl; have hcz35_1 : w30.cell? ⟨gb218, 1, none⟩ = some (.int .u64 a0_1) := (blk_cell BK218.out 1).trans rfl; have hfz35_0 := blk_frozen BK218.out 0; have hfz35_1 := blk_frozen BK218.out 1))
   go_meet
   case rel => exact ⟨_, (t220), (t221), H', ⟨by first | omega | exact Nat.le_refl _⟩, ⟨by (with_reducible repeat (first | refine blk_drewN ?_ _ | refine blk_drew ?_ | refine blk_alloc ?_ _)); refine blk_far ?_ NB214_218.out _; (with_reducible repeat (first | refine blk_drewN ?_ _ | refine blk_drew ?_ | refine blk_alloc ?_ _)); refine blk_far ?_ NB214_218.out _; (with_reducible repeat (first | refine blk_drewN ?_ _ | refine blk_drew ?_ | refine blk_alloc ?_ _)); exact BK214.out⟩, ⟨by (with_reducible repeat (first | refine blk_drewN ?_ _ | refine blk_drew ?_ | refine blk_alloc ?_ _)); refine blk_far ?_ NB215_218.out _; (with_reducible repeat (first | refine blk_drewN ?_ _ | refine blk_drew ?_ | refine blk_alloc ?_ _)); refine blk_far ?_ NB215_218.out _; (with_reducible repeat (first | refine blk_drewN ?_ _ | refine blk_drew ?_ | refine blk_alloc ?_ _)); exact BK215.out⟩, ⟨by (with_reducible repeat (first | refine blk_drewN ?_ _ | refine blk_drew ?_ | refine blk_alloc ?_ _)); refine blk_far ?_ NB216_218.out _; (with_reducible repeat (first | refine blk_drewN ?_ _ | refine blk_drew ?_ | refine blk_alloc ?_ _)); refine blk_far ?_ NB216_218.out _; (with_reducible repeat (first | refine blk_drewN ?_ _ | refine blk_drew ?_ | refine blk_alloc ?_ _)); exact BK216.out⟩, ⟨by (with_reducible repeat (first | refine blk_drewN ?_ _ | refine blk_drew ?_ | refine blk_alloc ?_ _)); refine blk_far ?_ NB217_218.out _; (with_reducible repeat (first | refine blk_drewN ?_ _ | refine blk_drew ?_ | refine blk_alloc ?_ _)); refine blk_far ?_ NB217_218.out _; (with_reducible repeat (first | refine blk_drewN ?_ _ | refine blk_drew ?_ | refine blk_alloc ?_ _)); exact BK217.out⟩, ⟨by (with_reducible repeat (first | refine blk_drewN ?_ _ | refine blk_drew ?_ | refine blk_alloc ?_ _)); refine blk_put (cs := #[.int .i64 t220, .int .u64 a0_1]) ?_ 1 _ rfl; (with_reducible repeat (first | refine blk_drewN ?_ _ | refine blk_drew ?_ | refine blk_alloc ?_ _)); refine blk_put (cs := #[.int .i64 a0_0, .int .u64 a0_1]) ?_ 0 _ rfl; (with_reducible repeat (first | refine blk_drewN ?_ _ | refine blk_drew ?_ | refine blk_alloc ?_ _)); exact BK218.out⟩, ⟨by (with_reducible repeat (first | refine blk_drewN ?_ _ | refine blk_drew ?_ | refine blk_alloc ?_ _)); refine blk_far ?_ NB219_218.out _; (with_reducible repeat (first | refine blk_drewN ?_ _ | refine blk_drew ?_ | refine blk_alloc ?_ _)); refine blk_far ?_ NB219_218.out _; (with_reducible repeat (first | refine blk_drewN ?_ _ | refine blk_drew ?_ | refine blk_alloc ?_ _)); exact BK219.out⟩, ⟨by repeat (with_reducible first | exact HB.out | apply below_alloc | apply pw_below_drewN | apply below_drew1 | refine below_set ?_ GE214.out | refine below_set ?_ GE215.out | refine below_set ?_ GE216.out | refine below_set ?_ GE217.out | refine below_set ?_ GE218.out | refine below_set ?_ GE219.out)⟩⟩
  ·rw [if_neg c22] at H
   have c22b0 : decide (a0_0 < 0) = false := decide_eq_false c22
   clear c22
   (first | rw [c22b0] | (simp only [i64_w, i32_w]; rw [c22b0]) | skip)
   have H' := Aside0.mk H
   clear H
   go_wp2
   go_meet
   case rel => exact ⟨_, (a0_0), (a0_1), H', ⟨by first | omega | exact Nat.le_refl _⟩, ⟨by (with_reducible repeat (first | refine blk_drewN ?_ _ | refine blk_drew ?_ | refine blk_alloc ?_ _)); refine blk_far ?_ NB214_219.out _; (with_reducible repeat (first | refine blk_drewN ?_ _ | refine blk_drew ?_ | refine blk_alloc ?_ _)); refine blk_far ?_ NB214_219.out _; (with_reducible repeat (first | refine blk_drewN ?_ _ | refine blk_drew ?_ | refine blk_alloc ?_ _)); refine blk_far ?_ NB214_218.out _; (with_reducible repeat (first | refine blk_drewN ?_ _ | refine blk_drew ?_ | refine blk_alloc ?_ _)); refine blk_far ?_ NB214_218.out _; (with_reducible repeat (first | refine blk_drewN ?_ _ | refine blk_drew ?_ | refine blk_alloc ?_ _)); exact BK214.out⟩, ⟨by (with_reducible repeat (first | refine blk_drewN ?_ _ | refine blk_drew ?_ | refine blk_alloc ?_ _)); refine blk_far ?_ NB215_219.out _; (with_reducible repeat (first | refine blk_drewN ?_ _ | refine blk_drew ?_ | refine blk_alloc ?_ _)); refine blk_far ?_ NB215_219.out _; (with_reducible repeat (first | refine blk_drewN ?_ _ | refine blk_drew ?_ | refine blk_alloc ?_ _)); refine blk_far ?_ NB215_218.out _; (with_reducible repeat (first | refine blk_drewN ?_ _ | refine blk_drew ?_ | refine blk_alloc ?_ _)); refine blk_far ?_ NB215_218.out _; (with_reducible repeat (first | refine blk_drewN ?_ _ | refine blk_drew ?_ | refine blk_alloc ?_ _)); exact BK215.out⟩, ⟨by (with_reducible repeat (first | refine blk_drewN ?_ _ | refine blk_drew ?_ | refine blk_alloc ?_ _)); refine blk_far ?_ NB216_219.out _; (with_reducible repeat (first | refine blk_drewN ?_ _ | refine blk_drew ?_ | refine blk_alloc ?_ _)); refine blk_far ?_ NB216_219.out _; (with_reducible repeat (first | refine blk_drewN ?_ _ | refine blk_drew ?_ | refine blk_alloc ?_ _)); refine blk_far ?_ NB216_218.out _; (with_reducible repeat (first | refine blk_drewN ?_ _ | refine blk_drew ?_ | refine blk_alloc ?_ _)); refine blk_far ?_ NB216_218.out _; (with_reducible repeat (first | refine blk_drewN ?_ _ | refine blk_drew ?_ | refine blk_alloc ?_ _)); exact BK216.out⟩, ⟨by (with_reducible repeat (first | refine blk_drewN ?_ _ | refine blk_drew ?_ | refine blk_alloc ?_ _)); refine blk_far ?_ NB217_219.out _; (with_reducible repeat (first | refine blk_drewN ?_ _ | refine blk_drew ?_ | refine blk_alloc ?_ _)); refine blk_far ?_ NB217_219.out _; (with_reducible repeat (first | refine blk_drewN ?_ _ | refine blk_drew ?_ | refine blk_alloc ?_ _)); refine blk_far ?_ NB217_218.out _; (with_reducible repeat (first | refine blk_drewN ?_ _ | refine blk_drew ?_ | refine blk_alloc ?_ _)); refine blk_far ?_ NB217_218.out _; (with_reducible repeat (first | refine blk_drewN ?_ _ | refine blk_drew ?_ | refine blk_alloc ?_ _)); exact BK217.out⟩, ⟨by (with_reducible repeat (first | refine blk_drewN ?_ _ | refine blk_drew ?_ | refine blk_alloc ?_ _)); refine blk_far ?_ NB218_219.out _; (with_reducible repeat (first | refine blk_drewN ?_ _ | refine blk_drew ?_ | refine blk_alloc ?_ _)); refine blk_far ?_ NB218_219.out _; (with_reducible repeat (first | refine blk_drewN ?_ _ | refine blk_drew ?_ | refine blk_alloc ?_ _)); refine blk_put (cs := #[.int .i64 a0_0, .int .u64 0]) ?_ 1 _ rfl; (with_reducible repeat (first | refine blk_drewN ?_ _ | refine blk_drew ?_ | refine blk_alloc ?_ _)); refine blk_put (cs := #[.int .i64 0, .int .u64 0]) ?_ 0 _ rfl; (with_reducible repeat (first | refine blk_drewN ?_ _ | refine blk_drew ?_ | refine blk_alloc ?_ _)); exact BK218.out⟩, ⟨by (with_reducible repeat (first | refine blk_drewN ?_ _ | refine blk_drew ?_ | refine blk_alloc ?_ _)); refine blk_put (cs := #[.int .i64 a1_0, .int .u64 0]) ?_ 1 _ rfl; (with_reducible repeat (first | refine blk_drewN ?_ _ | refine blk_drew ?_ | refine blk_alloc ?_ _)); refine blk_put (cs := #[.int .i64 0, .int .u64 0]) ?_ 0 _ rfl; (with_reducible repeat (first | refine blk_drewN ?_ _ | refine blk_drew ?_ | refine blk_alloc ?_ _)); refine blk_far ?_ NB219_218.out _; (with_reducible repeat (first | refine blk_drewN ?_ _ | refine blk_drew ?_ | refine blk_alloc ?_ _)); refine blk_far ?_ NB219_218.out _; (with_reducible repeat (first | refine blk_drewN ?_ _ | refine blk_drew ?_ | refine blk_alloc ?_ _)); exact BK219.out⟩, ⟨by repeat (with_reducible first | exact HB.out | apply below_alloc | apply pw_below_drewN | apply below_drew1 | refine below_set ?_ GE214.out | refine below_set ?_ GE215.out | refine below_set ?_ GE216.out | refine below_set ?_ GE217.out | refine below_set ?_ GE218.out | refine below_set ?_ GE219.out)⟩⟩
 case rest =>
  clear HC3
  try clear c1
  try clear c2
  try clear p2
  try clear c3
  try clear c4
  try clear c16
  try clear c17
  try clear c18
  try clear c19
  try clear c20
  try clear c22
  try clear c22b0
  try clear c24
  try clear c25
  try clear c26
  try clear c27
  try clear c28
  try clear c31
  try clear c32
  try clear c33
  try clear c34
  try clear hcz21_0
  try clear hcz21_1
  try clear hcz29_0
  try clear hcz29_1
  try clear hcz35_0
  try clear hcz35_1
  try clear hfz21_0
  try clear hfz21_1
  try clear hfz29_0
  try clear hfz29_1
  try clear hfz35_0
  try clear hfz35_1
  obtain ⟨kq, x219000_2, x219001_2, HA, HJ2, BK214, BK215, BK216, BK217, BK218, BK219, HB⟩ := hcut
  cases kq with
  | zero => exact absurd HA.out (by simp [arith_divided.j0])
  | succ kj2 =>
   have H := HA.out
   clear HA
   simp only [arith_divided.j0] at H
   have HC36 := Aside0.mk H
   clear H
   have hnb37 := NB215_214.out
   have hnc37 := NB214_215.out
   have hnb38 := NB215_216.out
   have hnc38 := NB216_215.out
   have hnb39 := NB215_217.out
   have hnc39 := NB217_215.out
   have hnb40 := NB215_218.out
   have hnc40 := NB218_215.out
   have hnb41 := NB215_219.out
   have hnc41 := NB219_215.out
   have hcz42_0 : wc.cell? ⟨gb215, 0, none⟩ = some (.int .i64 a1_0) := (blk_cell BK215.out 0).trans rfl
   have hcz42_1 : wc.cell? ⟨gb215, 1, none⟩ = some (.int .u64 a1_1) := (blk_cell BK215.out 1).trans rfl
   have hfz42_0 := blk_frozen BK215.out 0
   have hfz42_1 := blk_frozen BK215.out 1
   go_upto_if 19 with (fail)
   go_cut [] (fun wc => ∃ (kq : Nat) (x220000_35 : Int) (x220001_35 : Int), Aside0 (arith_divided.j1 kq a0_0 a0_1 a1_0 a1_1 x219000_2 x219001_2 x220000_35 x220001_35 = some (r1, r2, r3, r4)) ∧ Aside0 (kq ≤ kj2) ∧ Aside0 (wc.heap[gb214]? = some (.cells #[.int .i64 a0_0, .int .u64 a0_1] 71 (0, 0))) ∧ Aside0 (wc.heap[gb215]? = some (.cells #[.int .i64 a1_0, .int .u64 a1_1] 71 (0, 0))) ∧ Aside0 (wc.heap[gb216]? = some (.cells #[.int .i64 0, .int .u64 0] 71 (0, 0))) ∧ Aside0 (wc.heap[gb217]? = some (.cells #[.int .i64 0, .int .u64 0] 71 (0, 0))) ∧ Aside0 (wc.heap[gb218]? = some (.cells #[.int .i64 x219000_2, .int .u64 x219001_2] 71 (0, 0))) ∧ Aside0 (wc.heap[gb219]? = some (.cells #[.int .i64 x220000_35, .int .u64 x220001_35] 71 (0, 0))) ∧ Aside0 (Below w.heap.size w wc))
   case first =>
    have H := HC36.out
    clear HC36
    by_cases c43 : a1_0 < 0
    ·rw [if_pos c43] at H
     have c43b0 : decide (a1_0 < 0) = true := decide_eq_true c43
     clear c43
     (first | rw [c43b0] | (simp only [i64_w, i32_w]; rw [c43b0]) | skip)
     replace H := Option.bind_eq_some_iff.mp H
     obtain ⟨⟨t222, t223⟩, A440, H⟩ := H
     replace H : (arith_divided.j1 kj2 a0_0 a0_1 a1_0 a1_1 x219000_2 x219001_2 t222 t223) = some (r1, r2, r3, r4) := H
     have A44 := Aside0.mk A440
     clear A440
     have H' := Aside0.mk H
     clear H
     have hnb45 := NB215_214.out
     have hnc45 := NB214_215.out
     have hnb46 := NB215_216.out
     have hnc46 := NB216_215.out
     have hnb47 := NB215_217.out
     have hnc47 := NB217_215.out
     have hnb48 := NB215_218.out
     have hnc48 := NB218_215.out
     have hnb49 := NB215_219.out
     have hnc49 := NB219_215.out
     have hcz50_0 : wc.cell? ⟨gb215, 0, none⟩ = some (.int .i64 a1_0) := (blk_cell BK215.out 0).trans rfl
     have hcz50_1 : wc.cell? ⟨gb215, 1, none⟩ = some (.int .u64 a1_1) := (blk_cell BK215.out 1).trans rfl
     have hfz50_0 := blk_frozen BK215.out 0
     have hfz50_1 := blk_frozen BK215.out 1
     go_wp2_with (first | ((with_reducible refine gate_callee (f := 46) rfl ?_); refine goesL_ (some 21) rfl rfl Tryd.func46 (by kernel_rfl) rfl #[.agg #[.int .i64 a1_0, .int .u64 a1_1]] rfl (by (try simp only [List.map_toArray, List.map_cons, List.map_nil]); first | done | rfl | (simp only [List.length_drop, List.length_take]; rfl)) ?_; (with_reducible refine (arith_wide_neg.calls a1_0 a1_1 t222 t223 _ A44.out).mono ?_); rintro e w51 ⟨rfl, hb⟩; refine ⟨_, rfl, ?_⟩; have n0_ := Aside0.mk (blk_below (g := gb214) (o := .cells #[.int .i64 a0_0, .int .u64 a0_1] 71 (0, 0)) (by (with_reducible repeat (first | refine blk_drewN ?_ _ | refine blk_drew ?_ | refine blk_alloc ?_ _)); exact BK214.out) hb); have n1_ := Aside0.mk (blk_below (g := gb215) (o := .cells #[.int .i64 a1_0, .int .u64 a1_1] 71 (0, 0)) (by (with_reducible repeat (first | refine blk_drewN ?_ _ | refine blk_drew ?_ | refine blk_alloc ?_ _)); exact BK215.out) hb); have n2_ := Aside0.mk (blk_below (g := gb216) (o := .cells #[.int .i64 0, .int .u64 0] 71 (0, 0)) (by (with_reducible repeat (first | refine blk_drewN ?_ _ | refine blk_drew ?_ | refine blk_alloc ?_ _)); exact BK216.out) hb); have n3_ := Aside0.mk (blk_below (g := gb217) (o := .cells #[.int .i64 0, .int .u64 0] 71 (0, 0)) (by (with_reducible repeat (first | refine blk_drewN ?_ _ | refine blk_drew ?_ | refine blk_alloc ?_ _)); exact BK217.out) hb); have n4_ := Aside0.mk (blk_below (g := gb218) (o := .cells #[.int .i64 x219000_2, .int .u64 x219001_2] 71 (0, 0)) (by (with_reducible repeat (first | refine blk_drewN ?_ _ | refine blk_drew ?_ | refine blk_alloc ?_ _)); exact BK218.out) hb); have n5_ := Aside0.mk (blk_below (g := gb219) (o := .cells #[.int .i64 a1_0, .int .u64 a1_1] 71 (0, 0)) (by (with_reducible repeat (first | refine blk_drewN ?_ _ | refine blk_drew ?_ | refine blk_alloc ?_ _)); exact BK219.out) hb); have n6_ := Aside0.mk (below_step (by repeat (with_reducible first | exact HB.out | apply below_alloc | apply pw_below_drewN | apply below_drew1 | refine below_set ?_ GE214.out | refine below_set ?_ GE215.out | refine below_set ?_ GE216.out | refine below_set ?_ GE217.out | refine below_set ?_ GE218.out | refine below_set ?_ GE219.out)) hb); clear BK214; clear BK215; clear BK216; clear BK217; clear BK218; clear BK219; clear HB; have BK214 := n0_; have BK215 := n1_; have BK216 := n2_; have BK217 := n3_; have BK218 := n4_; have BK219 := n5_; have HB := n6_; clear n0_ n1_ n2_ n3_ n4_ n5_ n6_; (try clear hb); (try clear hb2); (try clear hk); (try clear hi); have hnb52 := NB219_214.out; have hnc52 := NB214_219.out; have hnb53 := NB219_216.out; have hnc53 := NB216_219.out; have hnb54 := NB219_217.out; have hnc54 := NB217_219.out; have hnb55 := NB219_218.out; have hnc55 := NB218_219.out; have hcz56_0 : w51.cell? ⟨gb219, 0, none⟩ = some (.int .i64 a1_0) := (blk_cell BK219.out 0).trans rfl; have hcz56_1 : w51.cell? ⟨gb219, 1, none⟩ = some (.int .u64 a1_1) := (blk_cell BK219.out 1).trans rfl; have hfz56_0 := blk_frozen BK219.out 0; have hfz56_1 := blk_frozen BK219.out 1))
     go_meet
     case rel => exact ⟨_, (t222), (t223), H', ⟨by have := HJ2.out; first | omega | exact Nat.le_refl _⟩, ⟨by (with_reducible repeat (first | refine blk_drewN ?_ _ | refine blk_drew ?_ | refine blk_alloc ?_ _)); refine blk_far ?_ NB214_219.out _; (with_reducible repeat (first | refine blk_drewN ?_ _ | refine blk_drew ?_ | refine blk_alloc ?_ _)); refine blk_far ?_ NB214_219.out _; (with_reducible repeat (first | refine blk_drewN ?_ _ | refine blk_drew ?_ | refine blk_alloc ?_ _)); exact BK214.out⟩, ⟨by (with_reducible repeat (first | refine blk_drewN ?_ _ | refine blk_drew ?_ | refine blk_alloc ?_ _)); refine blk_far ?_ NB215_219.out _; (with_reducible repeat (first | refine blk_drewN ?_ _ | refine blk_drew ?_ | refine blk_alloc ?_ _)); refine blk_far ?_ NB215_219.out _; (with_reducible repeat (first | refine blk_drewN ?_ _ | refine blk_drew ?_ | refine blk_alloc ?_ _)); exact BK215.out⟩, ⟨by (with_reducible repeat (first | refine blk_drewN ?_ _ | refine blk_drew ?_ | refine blk_alloc ?_ _)); refine blk_far ?_ NB216_219.out _; (with_reducible repeat (first | refine blk_drewN ?_ _ | refine blk_drew ?_ | refine blk_alloc ?_ _)); refine blk_far ?_ NB216_219.out _; (with_reducible repeat (first | refine blk_drewN ?_ _ | refine blk_drew ?_ | refine blk_alloc ?_ _)); exact BK216.out⟩, ⟨by (with_reducible repeat (first | refine blk_drewN ?_ _ | refine blk_drew ?_ | refine blk_alloc ?_ _)); refine blk_far ?_ NB217_219.out _; (with_reducible repeat (first | refine blk_drewN ?_ _ | refine blk_drew ?_ | refine blk_alloc ?_ _)); refine blk_far ?_ NB217_219.out _; (with_reducible repeat (first | refine blk_drewN ?_ _ | refine blk_drew ?_ | refine blk_alloc ?_ _)); exact BK217.out⟩, ⟨by (with_reducible repeat (first | refine blk_drewN ?_ _ | refine blk_drew ?_ | refine blk_alloc ?_ _)); refine blk_far ?_ NB218_219.out _; (with_reducible repeat (first | refine blk_drewN ?_ _ | refine blk_drew ?_ | refine blk_alloc ?_ _)); refine blk_far ?_ NB218_219.out _; (with_reducible repeat (first | refine blk_drewN ?_ _ | refine blk_drew ?_ | refine blk_alloc ?_ _)); exact BK218.out⟩, ⟨by (with_reducible repeat (first | refine blk_drewN ?_ _ | refine blk_drew ?_ | refine blk_alloc ?_ _)); refine blk_put (cs := #[.int .i64 t222, .int .u64 a1_1]) ?_ 1 _ rfl; (with_reducible repeat (first | refine blk_drewN ?_ _ | refine blk_drew ?_ | refine blk_alloc ?_ _)); refine blk_put (cs := #[.int .i64 a1_0, .int .u64 a1_1]) ?_ 0 _ rfl; (with_reducible repeat (first | refine blk_drewN ?_ _ | refine blk_drew ?_ | refine blk_alloc ?_ _)); exact BK219.out⟩, ⟨by repeat (with_reducible first | exact HB.out | apply below_alloc | apply pw_below_drewN | apply below_drew1 | refine below_set ?_ GE214.out | refine below_set ?_ GE215.out | refine below_set ?_ GE216.out | refine below_set ?_ GE217.out | refine below_set ?_ GE218.out | refine below_set ?_ GE219.out)⟩⟩
    ·rw [if_neg c43] at H
     have c43b0 : decide (a1_0 < 0) = false := decide_eq_false c43
     clear c43
     (first | rw [c43b0] | (simp only [i64_w, i32_w]; rw [c43b0]) | skip)
     have H' := Aside0.mk H
     clear H
     go_wp2
     go_meet
     case rel => exact ⟨_, (a1_0), (a1_1), H', ⟨by have := HJ2.out; first | omega | exact Nat.le_refl _⟩, ⟨by (with_reducible repeat (first | refine blk_drewN ?_ _ | refine blk_drew ?_ | refine blk_alloc ?_ _)); exact BK214.out⟩, ⟨by (with_reducible repeat (first | refine blk_drewN ?_ _ | refine blk_drew ?_ | refine blk_alloc ?_ _)); exact BK215.out⟩, ⟨by (with_reducible repeat (first | refine blk_drewN ?_ _ | refine blk_drew ?_ | refine blk_alloc ?_ _)); exact BK216.out⟩, ⟨by (with_reducible repeat (first | refine blk_drewN ?_ _ | refine blk_drew ?_ | refine blk_alloc ?_ _)); exact BK217.out⟩, ⟨by (with_reducible repeat (first | refine blk_drewN ?_ _ | refine blk_drew ?_ | refine blk_alloc ?_ _)); exact BK218.out⟩, ⟨by (with_reducible repeat (first | refine blk_drewN ?_ _ | refine blk_drew ?_ | refine blk_alloc ?_ _)); exact BK219.out⟩, ⟨by repeat (with_reducible first | exact HB.out | apply below_alloc | apply pw_below_drewN | apply below_drew1 | refine below_set ?_ GE214.out | refine below_set ?_ GE215.out | refine below_set ?_ GE216.out | refine below_set ?_ GE217.out | refine below_set ?_ GE218.out | refine below_set ?_ GE219.out)⟩⟩
   case rest =>
    clear HC36
    try clear c1
    try clear c2
    try clear p2
    try clear c3
    try clear c4
    try clear c5
    try clear c16
    try clear c17
    try clear c18
    try clear c19
    try clear c20
    try clear c22
    try clear c22b0
    try clear c24
    try clear c25
    try clear c26
    try clear c27
    try clear c28
    try clear c31
    try clear c32
    try clear c33
    try clear c34
    try clear c37
    try clear c38
    try clear c39
    try clear c40
    try clear c41
    try clear c43
    try clear c43b0
    try clear c45
    try clear c46
    try clear c47
    try clear c48
    try clear c49
    try clear c52
    try clear c53
    try clear c54
    try clear c55
    try clear hcz21_0
    try clear hcz21_1
    try clear hcz29_0
    try clear hcz29_1
    try clear hcz35_0
    try clear hcz35_1
    try clear hcz42_0
    try clear hcz42_1
    try clear hcz50_0
    try clear hcz50_1
    try clear hcz56_0
    try clear hcz56_1
    try clear hfz21_0
    try clear hfz21_1
    try clear hfz29_0
    try clear hfz29_1
    try clear hfz35_0
    try clear hfz35_1
    try clear hfz42_0
    try clear hfz42_1
    try clear hfz50_0
    try clear hfz50_1
    try clear hfz56_0
    try clear hfz56_1
    try clear p2
    obtain ⟨kq, x220000_35, x220001_35, HA, HJ35, BK214, BK215, BK216, BK217, BK218, BK219, HB⟩ := hcut
    cases kq with
    | zero => exact absurd HA.out (by simp [arith_divided.j1])
    | succ kj35 =>
     have H := HA.out
     clear HA
     simp only [arith_divided.j1] at H
     by_cases c57 : x220001_35 = 0
     ·rw [if_pos c57] at H
      exact absurd H (by simp)
     ·rw [if_neg c57] at H
      have c57b0 : (x220001_35 == 0) = false := beq_eq_false_iff_ne.mpr c57
      have c57b1 : (x220001_35 != 0) = true := bne_iff_ne.mpr c57
      have HC58 := Aside0.mk H
      clear H
      try go_wp2
      have n0_ := Aside0.mk (blk_drew BK214.out)
      have n1_ := Aside0.mk (blk_drew BK215.out)
      have n2_ := Aside0.mk (blk_drew BK216.out)
      have n3_ := Aside0.mk (blk_drew BK217.out)
      have n4_ := Aside0.mk (blk_drew BK218.out)
      have n5_ := Aside0.mk (blk_drew BK219.out)
      have n6_ := Aside0.mk (below_drew1 HB.out)
      clear BK214
      clear BK215
      clear BK216
      clear BK217
      clear BK218
      clear BK219
      clear HB
      have BK214 := n0_
      have BK215 := n1_
      have BK216 := n2_
      have BK217 := n3_
      have BK218 := n4_
      have BK219 := n5_
      have HB := n6_
      clear n0_ n1_ n2_ n3_ n4_ n5_ n6_
      refine start_ (n := 16) (S := fun w' => w'.cell? ⟨gb218, 0, none⟩ = some (.int .i64 x219000_2) ∧ w'.cell? ⟨gb218, 1, none⟩ = some (.int .u64 x219001_2) ∧ w'.cell? ⟨gb219, 0, none⟩ = some (.int .i64 x220000_35) ∧ w'.cell? ⟨gb219, 1, none⟩ = some (.int .u64 x220001_35)) (ds := []) #[false, false, false, false, false, false, false, false, false, false, false, false, false, false, false, false] (by kernel_rfl) rfl rfl ⟨(blk_cell BK218.out 0).trans rfl, (blk_cell BK218.out 1).trans rfl, (blk_cell BK219.out 0).trans rfl, (blk_cell BK219.out 1).trans rfl⟩ (fun hHeld => ?_); refine with_tabW arith_divided.tab6 arith_divided.bits6 (fun HT_ HW_ => ?_)
      generalize wc.drew = w59 at BK214 BK215 BK216 BK217 BK218 BK219 HB hHeld ⊢
      refine pure_ (i := 0) (N := some 22) (v := ?_) (a' := ?_) #[true, false, false, false, false, false, false, false, false, false, false, false, false, false, false, false] rfl rfl (any_of HT_.out (by kernel_rfl)) (fun _ _ _ h => h) (Or.inl ⟨by rfl, ?_⟩) ?_ ?_
      rotate_left
      ·intro w'
       go_simp
       with_reducible rfl
      rotate_left
      ·simp only [Act.put, List.setIfInBounds_toArray, List.set_cons_zero, List.set_cons_succ, i64_w, i32_w]
       rfl
      refine pure_ (i := 2) (N := some 24) (v := ?_) (a' := ?_) #[true, false, true, false, false, false, false, false, false, false, false, false, false, false, false, false] rfl rfl (any_of HT_.out (by kernel_rfl)) (fun _ _ _ h => h) (Or.inl ⟨by rfl, ?_⟩) ?_ ?_
      rotate_left
      ·intro w'
       go_simp
       with_reducible rfl
      rotate_left
      ·simp only [Act.put, List.setIfInBounds_toArray, List.set_cons_zero, List.set_cons_succ, i64_w, i32_w]
       rfl
      refine pure_ (i := 6) (N := some 28) (v := ?_) (a' := ?_) #[true, false, true, false, false, false, true, false, false, false, false, false, false, false, false, false] rfl rfl (any_of HT_.out (by kernel_rfl)) (fun _ _ _ h => h) (Or.inl ⟨by rfl, ?_⟩) ?_ ?_
      rotate_left
      ·intro w'
       go_simp
       with_reducible rfl
      rotate_left
      ·simp only [Act.put, List.setIfInBounds_toArray, List.set_cons_zero, List.set_cons_succ, i64_w, i32_w]
       rfl
      refine pure_ (i := 8) (N := some 30) (v := ?_) (a' := ?_) #[true, false, true, false, false, false, true, false, true, false, false, false, false, false, false, false] rfl rfl (any_of HT_.out (by kernel_rfl)) (fun _ _ _ h => h) (Or.inl ⟨by rfl, ?_⟩) ?_ ?_
      rotate_left
      ·intro w'
       go_simp
       with_reducible rfl
      rotate_left
      ·simp only [Act.put, List.setIfInBounds_toArray, List.set_cons_zero, List.set_cons_succ, i64_w, i32_w]
       rfl
      refine take_ (i := 1) (N := some 23) (v := ?_) (a' := ?_) #[true, true, true, false, false, false, true, false, true, false, false, false, false, false, false, false] rfl rfl (take_ofW HT_.out HW_.out (by kernel_rfl)) (fun _ _ _ h => h) (Or.inl ⟨by rfl, ?_⟩) hHeld ?_ ?_
      rotate_left
      ·rintro w' ⟨s0, s1, s2, s3⟩
       go_simp
       with_reducible rfl
      rotate_left
      ·simp only [Act.put, List.setIfInBounds_toArray, List.set_cons_zero, List.set_cons_succ, i64_w, i32_w]
       rfl
      refine take_ (i := 3) (N := some 25) (v := ?_) (a' := ?_) #[true, true, true, true, false, false, true, false, true, false, false, false, false, false, false, false] rfl rfl (take_ofW HT_.out HW_.out (by kernel_rfl)) (fun _ _ _ h => h) (Or.inl ⟨by rfl, ?_⟩) hHeld ?_ ?_
      rotate_left
      ·rintro w' ⟨s0, s1, s2, s3⟩
       go_simp
       with_reducible rfl
      rotate_left
      ·simp only [Act.put, List.setIfInBounds_toArray, List.set_cons_zero, List.set_cons_succ, i64_w, i32_w]
       rfl
      refine pure_ (i := 4) (N := some 26) (v := ?_) (a' := ?_) #[true, true, true, true, true, false, true, false, true, false, false, false, false, false, false, false] rfl rfl (any_of HT_.out (by kernel_rfl)) (fun _ _ _ h => h) (Or.inl ⟨by rfl, ?_⟩) ?_ ?_
      rotate_left
      ·intro w'
       go_simp
       with_reducible rfl
      rotate_left
      ·simp only [Act.put, List.setIfInBounds_toArray, List.set_cons_zero, List.set_cons_succ, i64_w, i32_w]
       rfl
      refine pure_ (i := 5) (N := some 27) (v := ?_) (a' := ?_) #[true, true, true, true, true, true, true, false, true, false, false, false, false, false, false, false] rfl rfl (any_of HT_.out (by kernel_rfl)) (fun _ _ _ h => h) (Or.inl ⟨by rfl, ?_⟩) ?_ ?_
      rotate_left
      ·intro w'
       go_simp
       with_reducible rfl
      rotate_left
      ·simp only [Act.put, List.setIfInBounds_toArray, List.set_cons_zero, List.set_cons_succ, i64_w, i32_w]
       rfl
      refine take_ (i := 7) (N := some 29) (v := ?_) (a' := ?_) #[true, true, true, true, true, true, true, true, true, false, false, false, false, false, false, false] rfl rfl (take_ofW HT_.out HW_.out (by kernel_rfl)) (fun _ _ _ h => h) (Or.inl ⟨by rfl, ?_⟩) hHeld ?_ ?_
      rotate_left
      ·rintro w' ⟨s0, s1, s2, s3⟩
       go_simp
       with_reducible rfl
      rotate_left
      ·simp only [Act.put, List.setIfInBounds_toArray, List.set_cons_zero, List.set_cons_succ, i64_w, i32_w]
       rfl
      refine take_ (i := 9) (N := some 31) (v := ?_) (a' := ?_) #[true, true, true, true, true, true, true, true, true, true, false, false, false, false, false, false] rfl rfl (take_ofW HT_.out HW_.out (by kernel_rfl)) (fun _ _ _ h => h) (Or.inl ⟨by rfl, ?_⟩) hHeld ?_ ?_
      rotate_left
      ·rintro w' ⟨s0, s1, s2, s3⟩
       go_simp
       with_reducible rfl
      rotate_left
      ·simp only [Act.put, List.setIfInBounds_toArray, List.set_cons_zero, List.set_cons_succ, i64_w, i32_w]
       rfl
      refine pure_ (i := 10) (N := some 32) (v := ?_) (a' := ?_) #[true, true, true, true, true, true, true, true, true, true, true, false, false, false, false, false] rfl rfl (any_of HT_.out (by kernel_rfl)) (fun _ _ _ h => h) (Or.inl ⟨by rfl, ?_⟩) ?_ ?_
      rotate_left
      ·intro w'
       go_simp
       with_reducible rfl
      rotate_left
      ·simp only [Act.put, List.setIfInBounds_toArray, List.set_cons_zero, List.set_cons_succ, i64_w, i32_w]
       rfl
      refine pure_ (i := 11) (N := some 33) (v := ?_) (a' := ?_) #[true, true, true, true, true, true, true, true, true, true, true, true, false, false, false, false] rfl rfl (any_of HT_.out (by kernel_rfl)) (fun _ _ _ h => h) (Or.inl ⟨by rfl, ?_⟩) ?_ ?_
      rotate_left
      ·intro w'
       go_simp
       with_reducible rfl
      rotate_left
      ·simp only [Act.put, List.setIfInBounds_toArray, List.set_cons_zero, List.set_cons_succ, i64_w, i32_w]
       rfl
      refine join_ (σ := Nat × Nat) 2 #[true, true, true, true, true, true, true, true, true, true, true, true, true, true, false, false] (fun s_ => [(8, .pointer (some ⟨s_.1, 0, none⟩)), (9, .pointer (some ⟨s_.2, 0, none⟩))]) (fun s_ w' => (w'.cell? ⟨gb218, 0, none⟩ = some (.int .i64 x219000_2) ∧ w'.cell? ⟨gb218, 1, none⟩ = some (.int .u64 x219001_2) ∧ w'.cell? ⟨gb219, 0, none⟩ = some (.int .i64 x220000_35) ∧ w'.cell? ⟨gb219, 1, none⟩ = some (.int .u64 x220001_35)) ∧ (w'.heap[gb214]? = some (.cells #[.int .i64 a0_0, .int .u64 a0_1] 71 (0, 0))) ∧ (w'.heap[gb215]? = some (.cells #[.int .i64 a1_0, .int .u64 a1_1] 71 (0, 0))) ∧ (w'.heap[gb216]? = some (.cells #[.int .i64 0, .int .u64 0] 71 (0, 0))) ∧ (w'.heap[gb217]? = some (.cells #[.int .i64 0, .int .u64 0] 71 (0, 0))) ∧ (w'.heap[gb218]? = some (.cells #[.int .i64 x219000_2, .int .u64 x219001_2] 71 (0, 0))) ∧ (w'.heap[gb219]? = some (.cells #[.int .i64 x220000_35, .int .u64 x220001_35] 71 (0, 0))) ∧ (w'.heap[s_.1]? = some (.cells #[.int .i64 0, .int .u64 0] 71 (0, 0))) ∧ (w'.heap[s_.2]? = some (.cells #[.int .i64 0, .int .u64 0] 71 (0, 0))) ∧ (w.heap.size ≤ s_.1) ∧ (w.heap.size ≤ s_.1) ∧ (gb214 ≠ s_.1) ∧ (s_.1 ≠ gb214) ∧ (gb215 ≠ s_.1) ∧ (s_.1 ≠ gb215) ∧ (gb216 ≠ s_.1) ∧ (s_.1 ≠ gb216) ∧ (gb217 ≠ s_.1) ∧ (s_.1 ≠ gb217) ∧ (gb218 ≠ s_.1) ∧ (s_.1 ≠ gb218) ∧ (gb219 ≠ s_.1) ∧ (s_.1 ≠ gb219) ∧ (s_.2 ≠ s_.1) ∧ (s_.1 ≠ s_.2) ∧ (w.heap.size ≤ s_.2) ∧ (w.heap.size ≤ s_.2) ∧ (gb214 ≠ s_.2) ∧ (s_.2 ≠ gb214) ∧ (gb215 ≠ s_.2) ∧ (s_.2 ≠ gb215) ∧ (gb216 ≠ s_.2) ∧ (s_.2 ≠ gb216) ∧ (gb217 ≠ s_.2) ∧ (s_.2 ≠ gb217) ∧ (gb218 ≠ s_.2) ∧ (s_.2 ≠ gb218) ∧ (gb219 ≠ s_.2) ∧ (s_.2 ≠ gb219) ∧ (Below w.heap.size w w')) ?_ ?_
      rotate_left
      ·intro hCont
       refine two_ (i := 12) (j := 13) (Ni := some 8) (Nj := some 9) #[true, true, true, true, true, true, true, true, true, true, true, true, true, false, false, false] #[true, true, true, true, true, true, true, true, true, true, true, true, false, true, false, false] rfl rfl rfl rfl (two_of HT_.out (by kernel_rfl)) (by decide) (by decide) (fun K hK => ?_) (fun K hK => ?_)
       ·skip
        refine box_step ?hg (N := 8) ?hd (cs := #[.int .i64 0, .int .u64 0]) (t := 71) ?hr ?_; (case hd => rfl); (case hg => rfl); (case hr => first | (go_simp; done) | (go_simp; rfl))
        intro gb224 hg w60 hbox hb
        have n0_ := Aside0.mk (blk_below (g := gb214) (o := .cells #[.int .i64 a0_0, .int .u64 a0_1] 71 (0, 0)) (by (with_reducible repeat (first | refine blk_drewN ?_ _ | refine blk_drew ?_ | refine blk_alloc ?_ _)); exact BK214.out) hb)
        have n1_ := Aside0.mk (blk_below (g := gb215) (o := .cells #[.int .i64 a1_0, .int .u64 a1_1] 71 (0, 0)) (by (with_reducible repeat (first | refine blk_drewN ?_ _ | refine blk_drew ?_ | refine blk_alloc ?_ _)); exact BK215.out) hb)
        have n2_ := Aside0.mk (blk_below (g := gb216) (o := .cells #[.int .i64 0, .int .u64 0] 71 (0, 0)) (by (with_reducible repeat (first | refine blk_drewN ?_ _ | refine blk_drew ?_ | refine blk_alloc ?_ _)); exact BK216.out) hb)
        have n3_ := Aside0.mk (blk_below (g := gb217) (o := .cells #[.int .i64 0, .int .u64 0] 71 (0, 0)) (by (with_reducible repeat (first | refine blk_drewN ?_ _ | refine blk_drew ?_ | refine blk_alloc ?_ _)); exact BK217.out) hb)
        have n4_ := Aside0.mk (blk_below (g := gb218) (o := .cells #[.int .i64 x219000_2, .int .u64 x219001_2] 71 (0, 0)) (by (with_reducible repeat (first | refine blk_drewN ?_ _ | refine blk_drew ?_ | refine blk_alloc ?_ _)); exact BK218.out) hb)
        have n5_ := Aside0.mk (blk_below (g := gb219) (o := .cells #[.int .i64 x220000_35, .int .u64 x220001_35] 71 (0, 0)) (by (with_reducible repeat (first | refine blk_drewN ?_ _ | refine blk_drew ?_ | refine blk_alloc ?_ _)); exact BK219.out) hb)
        have n6_ := Aside0.mk (below_step (by repeat (with_reducible first | exact HB.out | apply below_alloc | apply pw_below_drewN | apply below_drew1 | refine below_set ?_ GE214.out | refine below_set ?_ GE215.out | refine below_set ?_ GE216.out | refine below_set ?_ GE217.out | refine below_set ?_ GE218.out | refine below_set ?_ GE219.out)) hb)
        have n7_ := Aside0.mk (hbox)
        have n8_ := Aside0.mk ((by rw [hg]; exact (below_size (by repeat (with_reducible first | exact HB.out | apply below_alloc | apply pw_below_drewN | apply below_drew1 | refine below_set ?_ GE214.out | refine below_set ?_ GE215.out | refine below_set ?_ GE216.out | refine below_set ?_ GE217.out | refine below_set ?_ GE218.out | refine below_set ?_ GE219.out))) : w.heap.size ≤ gb224))
        have n9_ := Aside0.mk ((by rw [hg]; exact (below_size (by repeat (with_reducible first | exact HB.out | apply below_alloc | apply pw_below_drewN | apply below_drew1 | refine below_set ?_ GE214.out | refine below_set ?_ GE215.out | refine below_set ?_ GE216.out | refine below_set ?_ GE217.out | refine below_set ?_ GE218.out | refine below_set ?_ GE219.out))) : w.heap.size ≤ gb224))
        have n10_ := Aside0.mk ((by rw [hg]; exact Nat.ne_of_lt (blk_lt (g := gb214) (o := .cells #[.int .i64 a0_0, .int .u64 a0_1] 71 (0, 0)) (by (with_reducible repeat (first | refine blk_drewN ?_ _ | refine blk_drew ?_ | refine blk_alloc ?_ _)); exact BK214.out)) : gb214 ≠ gb224))
        have n11_ := Aside0.mk ((by rw [hg]; exact Nat.ne_of_gt (blk_lt (g := gb214) (o := .cells #[.int .i64 a0_0, .int .u64 a0_1] 71 (0, 0)) (by (with_reducible repeat (first | refine blk_drewN ?_ _ | refine blk_drew ?_ | refine blk_alloc ?_ _)); exact BK214.out)) : gb224 ≠ gb214))
        have n12_ := Aside0.mk ((by rw [hg]; exact Nat.ne_of_lt (blk_lt (g := gb215) (o := .cells #[.int .i64 a1_0, .int .u64 a1_1] 71 (0, 0)) (by (with_reducible repeat (first | refine blk_drewN ?_ _ | refine blk_drew ?_ | refine blk_alloc ?_ _)); exact BK215.out)) : gb215 ≠ gb224))
        have n13_ := Aside0.mk ((by rw [hg]; exact Nat.ne_of_gt (blk_lt (g := gb215) (o := .cells #[.int .i64 a1_0, .int .u64 a1_1] 71 (0, 0)) (by (with_reducible repeat (first | refine blk_drewN ?_ _ | refine blk_drew ?_ | refine blk_alloc ?_ _)); exact BK215.out)) : gb224 ≠ gb215))
        have n14_ := Aside0.mk ((by rw [hg]; exact Nat.ne_of_lt (blk_lt (g := gb216) (o := .cells #[.int .i64 0, .int .u64 0] 71 (0, 0)) (by (with_reducible repeat (first | refine blk_drewN ?_ _ | refine blk_drew ?_ | refine blk_alloc ?_ _)); exact BK216.out)) : gb216 ≠ gb224))
        have n15_ := Aside0.mk ((by rw [hg]; exact Nat.ne_of_gt (blk_lt (g := gb216) (o := .cells #[.int .i64 0, .int .u64 0] 71 (0, 0)) (by (with_reducible repeat (first | refine blk_drewN ?_ _ | refine blk_drew ?_ | refine blk_alloc ?_ _)); exact BK216.out)) : gb224 ≠ gb216))
        have n16_ := Aside0.mk ((by rw [hg]; exact Nat.ne_of_lt (blk_lt (g := gb217) (o := .cells #[.int .i64 0, .int .u64 0] 71 (0, 0)) (by (with_reducible repeat (first | refine blk_drewN ?_ _ | refine blk_drew ?_ | refine blk_alloc ?_ _)); exact BK217.out)) : gb217 ≠ gb224))
        have n17_ := Aside0.mk ((by rw [hg]; exact Nat.ne_of_gt (blk_lt (g := gb217) (o := .cells #[.int .i64 0, .int .u64 0] 71 (0, 0)) (by (with_reducible repeat (first | refine blk_drewN ?_ _ | refine blk_drew ?_ | refine blk_alloc ?_ _)); exact BK217.out)) : gb224 ≠ gb217))
        have n18_ := Aside0.mk ((by rw [hg]; exact Nat.ne_of_lt (blk_lt (g := gb218) (o := .cells #[.int .i64 x219000_2, .int .u64 x219001_2] 71 (0, 0)) (by (with_reducible repeat (first | refine blk_drewN ?_ _ | refine blk_drew ?_ | refine blk_alloc ?_ _)); exact BK218.out)) : gb218 ≠ gb224))
        have n19_ := Aside0.mk ((by rw [hg]; exact Nat.ne_of_gt (blk_lt (g := gb218) (o := .cells #[.int .i64 x219000_2, .int .u64 x219001_2] 71 (0, 0)) (by (with_reducible repeat (first | refine blk_drewN ?_ _ | refine blk_drew ?_ | refine blk_alloc ?_ _)); exact BK218.out)) : gb224 ≠ gb218))
        have n20_ := Aside0.mk ((by rw [hg]; exact Nat.ne_of_lt (blk_lt (g := gb219) (o := .cells #[.int .i64 x220000_35, .int .u64 x220001_35] 71 (0, 0)) (by (with_reducible repeat (first | refine blk_drewN ?_ _ | refine blk_drew ?_ | refine blk_alloc ?_ _)); exact BK219.out)) : gb219 ≠ gb224))
        have n21_ := Aside0.mk ((by rw [hg]; exact Nat.ne_of_gt (blk_lt (g := gb219) (o := .cells #[.int .i64 x220000_35, .int .u64 x220001_35] 71 (0, 0)) (by (with_reducible repeat (first | refine blk_drewN ?_ _ | refine blk_drew ?_ | refine blk_alloc ?_ _)); exact BK219.out)) : gb224 ≠ gb219))
        clear BK214
        clear BK215
        clear BK216
        clear BK217
        clear BK218
        clear BK219
        clear HB
        have BK214 := n0_
        have BK215 := n1_
        have BK216 := n2_
        have BK217 := n3_
        have BK218 := n4_
        have BK219 := n5_
        have HB := n6_
        have BK224 := n7_
        have GW224 := n8_
        have GE224 := n9_
        have NB214_224 := n10_
        have NB224_214 := n11_
        have NB215_224 := n12_
        have NB224_215 := n13_
        have NB216_224 := n14_
        have NB224_216 := n15_
        have NB217_224 := n16_
        have NB224_217 := n17_
        have NB218_224 := n18_
        have NB224_218 := n19_
        have NB219_224 := n20_
        have NB224_219 := n21_
        clear n0_ n1_ n2_ n3_ n4_ n5_ n6_ n7_ n8_ n9_ n10_ n11_ n12_ n13_ n14_ n15_ n16_ n17_ n18_ n19_ n20_ n21_
        clear hb hbox hg
        refine hK.out _ _ ⟨(blk_cell BK218.out 0).trans rfl, (blk_cell BK218.out 1).trans rfl, (blk_cell BK219.out 0).trans rfl, (blk_cell BK219.out 1).trans rfl⟩ (fun hHeld => ?_)
        clear hK K
        refine norm_ (a' := ?_) ?_ ?_
        rotate_left
        ·show Act.put _ (some 8) _ = _
         simp only [Act.put, List.setIfInBounds_toArray, List.set_cons_zero, List.set_cons_succ, i64_w, i32_w]
         rfl
        refine one_ (i := 13) (N := some 9) #[true, true, true, true, true, true, true, true, true, true, true, true, true, true, false, false] rfl rfl (one_of HT_.out (by kernel_rfl)) (by decide) (fun K hK => ?_)
        refine box_step ?hg (N := 9) ?hd (cs := #[.int .i64 0, .int .u64 0]) (t := 71) ?hr ?_; (case hd => rfl); (case hg => rfl); (case hr => first | (go_simp; done) | (go_simp; rfl))
        intro gb225 hg w61 hbox hb
        have n0_ := Aside0.mk (blk_below (g := gb214) (o := .cells #[.int .i64 a0_0, .int .u64 a0_1] 71 (0, 0)) (by (with_reducible repeat (first | refine blk_drewN ?_ _ | refine blk_drew ?_ | refine blk_alloc ?_ _)); exact BK214.out) hb)
        have n1_ := Aside0.mk (blk_below (g := gb215) (o := .cells #[.int .i64 a1_0, .int .u64 a1_1] 71 (0, 0)) (by (with_reducible repeat (first | refine blk_drewN ?_ _ | refine blk_drew ?_ | refine blk_alloc ?_ _)); exact BK215.out) hb)
        have n2_ := Aside0.mk (blk_below (g := gb216) (o := .cells #[.int .i64 0, .int .u64 0] 71 (0, 0)) (by (with_reducible repeat (first | refine blk_drewN ?_ _ | refine blk_drew ?_ | refine blk_alloc ?_ _)); exact BK216.out) hb)
        have n3_ := Aside0.mk (blk_below (g := gb217) (o := .cells #[.int .i64 0, .int .u64 0] 71 (0, 0)) (by (with_reducible repeat (first | refine blk_drewN ?_ _ | refine blk_drew ?_ | refine blk_alloc ?_ _)); exact BK217.out) hb)
        have n4_ := Aside0.mk (blk_below (g := gb218) (o := .cells #[.int .i64 x219000_2, .int .u64 x219001_2] 71 (0, 0)) (by (with_reducible repeat (first | refine blk_drewN ?_ _ | refine blk_drew ?_ | refine blk_alloc ?_ _)); exact BK218.out) hb)
        have n5_ := Aside0.mk (blk_below (g := gb219) (o := .cells #[.int .i64 x220000_35, .int .u64 x220001_35] 71 (0, 0)) (by (with_reducible repeat (first | refine blk_drewN ?_ _ | refine blk_drew ?_ | refine blk_alloc ?_ _)); exact BK219.out) hb)
        have n6_ := Aside0.mk (blk_below (g := gb224) (o := .cells #[.int .i64 0, .int .u64 0] 71 (0, 0)) (by (with_reducible repeat (first | refine blk_drewN ?_ _ | refine blk_drew ?_ | refine blk_alloc ?_ _)); exact BK224.out) hb)
        have n7_ := Aside0.mk (below_step (by repeat (with_reducible first | exact HB.out | apply below_alloc | apply pw_below_drewN | apply below_drew1 | refine below_set ?_ GE214.out | refine below_set ?_ GE215.out | refine below_set ?_ GE216.out | refine below_set ?_ GE217.out | refine below_set ?_ GE218.out | refine below_set ?_ GE219.out | refine below_set ?_ GE224.out)) hb)
        have n8_ := Aside0.mk (hbox)
        have n9_ := Aside0.mk ((by rw [hg]; exact (below_size (by repeat (with_reducible first | exact HB.out | apply below_alloc | apply pw_below_drewN | apply below_drew1 | refine below_set ?_ GE214.out | refine below_set ?_ GE215.out | refine below_set ?_ GE216.out | refine below_set ?_ GE217.out | refine below_set ?_ GE218.out | refine below_set ?_ GE219.out | refine below_set ?_ GE224.out))) : w.heap.size ≤ gb225))
        have n10_ := Aside0.mk ((by rw [hg]; exact (below_size (by repeat (with_reducible first | exact HB.out | apply below_alloc | apply pw_below_drewN | apply below_drew1 | refine below_set ?_ GE214.out | refine below_set ?_ GE215.out | refine below_set ?_ GE216.out | refine below_set ?_ GE217.out | refine below_set ?_ GE218.out | refine below_set ?_ GE219.out | refine below_set ?_ GE224.out))) : w.heap.size ≤ gb225))
        have n11_ := Aside0.mk ((by rw [hg]; exact Nat.ne_of_lt (blk_lt (g := gb214) (o := .cells #[.int .i64 a0_0, .int .u64 a0_1] 71 (0, 0)) (by (with_reducible repeat (first | refine blk_drewN ?_ _ | refine blk_drew ?_ | refine blk_alloc ?_ _)); exact BK214.out)) : gb214 ≠ gb225))
        have n12_ := Aside0.mk ((by rw [hg]; exact Nat.ne_of_gt (blk_lt (g := gb214) (o := .cells #[.int .i64 a0_0, .int .u64 a0_1] 71 (0, 0)) (by (with_reducible repeat (first | refine blk_drewN ?_ _ | refine blk_drew ?_ | refine blk_alloc ?_ _)); exact BK214.out)) : gb225 ≠ gb214))
        have n13_ := Aside0.mk ((by rw [hg]; exact Nat.ne_of_lt (blk_lt (g := gb215) (o := .cells #[.int .i64 a1_0, .int .u64 a1_1] 71 (0, 0)) (by (with_reducible repeat (first | refine blk_drewN ?_ _ | refine blk_drew ?_ | refine blk_alloc ?_ _)); exact BK215.out)) : gb215 ≠ gb225))
        have n14_ := Aside0.mk ((by rw [hg]; exact Nat.ne_of_gt (blk_lt (g := gb215) (o := .cells #[.int .i64 a1_0, .int .u64 a1_1] 71 (0, 0)) (by (with_reducible repeat (first | refine blk_drewN ?_ _ | refine blk_drew ?_ | refine blk_alloc ?_ _)); exact BK215.out)) : gb225 ≠ gb215))
        have n15_ := Aside0.mk ((by rw [hg]; exact Nat.ne_of_lt (blk_lt (g := gb216) (o := .cells #[.int .i64 0, .int .u64 0] 71 (0, 0)) (by (with_reducible repeat (first | refine blk_drewN ?_ _ | refine blk_drew ?_ | refine blk_alloc ?_ _)); exact BK216.out)) : gb216 ≠ gb225))
        have n16_ := Aside0.mk ((by rw [hg]; exact Nat.ne_of_gt (blk_lt (g := gb216) (o := .cells #[.int .i64 0, .int .u64 0] 71 (0, 0)) (by (with_reducible repeat (first | refine blk_drewN ?_ _ | refine blk_drew ?_ | refine blk_alloc ?_ _)); exact BK216.out)) : gb225 ≠ gb216))
        have n17_ := Aside0.mk ((by rw [hg]; exact Nat.ne_of_lt (blk_lt (g := gb217) (o := .cells #[.int .i64 0, .int .u64 0] 71 (0, 0)) (by (with_reducible repeat (first | refine blk_drewN ?_ _ | refine blk_drew ?_ | refine blk_alloc ?_ _)); exact BK217.out)) : gb217 ≠ gb225))
        have n18_ := Aside0.mk ((by rw [hg]; exact Nat.ne_of_gt (blk_lt (g := gb217) (o := .cells #[.int .i64 0, .int .u64 0] 71 (0, 0)) (by (with_reducible repeat (first | refine blk_drewN ?_ _ | refine blk_drew ?_ | refine blk_alloc ?_ _)); exact BK217.out)) : gb225 ≠ gb217))
        have n19_ := Aside0.mk ((by rw [hg]; exact Nat.ne_of_lt (blk_lt (g := gb218) (o := .cells #[.int .i64 x219000_2, .int .u64 x219001_2] 71 (0, 0)) (by (with_reducible repeat (first | refine blk_drewN ?_ _ | refine blk_drew ?_ | refine blk_alloc ?_ _)); exact BK218.out)) : gb218 ≠ gb225))
        have n20_ := Aside0.mk ((by rw [hg]; exact Nat.ne_of_gt (blk_lt (g := gb218) (o := .cells #[.int .i64 x219000_2, .int .u64 x219001_2] 71 (0, 0)) (by (with_reducible repeat (first | refine blk_drewN ?_ _ | refine blk_drew ?_ | refine blk_alloc ?_ _)); exact BK218.out)) : gb225 ≠ gb218))
        have n21_ := Aside0.mk ((by rw [hg]; exact Nat.ne_of_lt (blk_lt (g := gb219) (o := .cells #[.int .i64 x220000_35, .int .u64 x220001_35] 71 (0, 0)) (by (with_reducible repeat (first | refine blk_drewN ?_ _ | refine blk_drew ?_ | refine blk_alloc ?_ _)); exact BK219.out)) : gb219 ≠ gb225))
        have n22_ := Aside0.mk ((by rw [hg]; exact Nat.ne_of_gt (blk_lt (g := gb219) (o := .cells #[.int .i64 x220000_35, .int .u64 x220001_35] 71 (0, 0)) (by (with_reducible repeat (first | refine blk_drewN ?_ _ | refine blk_drew ?_ | refine blk_alloc ?_ _)); exact BK219.out)) : gb225 ≠ gb219))
        have n23_ := Aside0.mk ((by rw [hg]; exact Nat.ne_of_lt (blk_lt (g := gb224) (o := .cells #[.int .i64 0, .int .u64 0] 71 (0, 0)) (by (with_reducible repeat (first | refine blk_drewN ?_ _ | refine blk_drew ?_ | refine blk_alloc ?_ _)); exact BK224.out)) : gb224 ≠ gb225))
        have n24_ := Aside0.mk ((by rw [hg]; exact Nat.ne_of_gt (blk_lt (g := gb224) (o := .cells #[.int .i64 0, .int .u64 0] 71 (0, 0)) (by (with_reducible repeat (first | refine blk_drewN ?_ _ | refine blk_drew ?_ | refine blk_alloc ?_ _)); exact BK224.out)) : gb225 ≠ gb224))
        clear BK214
        clear BK215
        clear BK216
        clear BK217
        clear BK218
        clear BK219
        clear BK224
        clear HB
        have BK214 := n0_
        have BK215 := n1_
        have BK216 := n2_
        have BK217 := n3_
        have BK218 := n4_
        have BK219 := n5_
        have BK224 := n6_
        have HB := n7_
        have BK225 := n8_
        have GW225 := n9_
        have GE225 := n10_
        have NB214_225 := n11_
        have NB225_214 := n12_
        have NB215_225 := n13_
        have NB225_215 := n14_
        have NB216_225 := n15_
        have NB225_216 := n16_
        have NB217_225 := n17_
        have NB225_217 := n18_
        have NB218_225 := n19_
        have NB225_218 := n20_
        have NB219_225 := n21_
        have NB225_219 := n22_
        have NB224_225 := n23_
        have NB225_224 := n24_
        clear n0_ n1_ n2_ n3_ n4_ n5_ n6_ n7_ n8_ n9_ n10_ n11_ n12_ n13_ n14_ n15_ n16_ n17_ n18_ n19_ n20_ n21_ n22_ n23_ n24_
        clear hb hbox hg
        refine hK.out _ _ ⟨(blk_cell BK218.out 0).trans rfl, (blk_cell BK218.out 1).trans rfl, (blk_cell BK219.out 0).trans rfl, (blk_cell BK219.out 1).trans rfl⟩ (fun hHeld => ?_)
        clear hK K
        refine norm_ (a' := ?_) ?_ ?_
        rotate_left
        ·show Act.put _ (some 9) _ = _
         simp only [Act.put, List.setIfInBounds_toArray, List.set_cons_zero, List.set_cons_succ, i64_w, i32_w]
         rfl
        exact norm_ (by simp only [putAll, Act.put, List.setIfInBounds_toArray, List.set_cons_zero, List.set_cons_succ]) (hCont (gb224, gb225) _ ⟨hHeld, (by (with_reducible repeat (first | refine blk_drewN ?_ _ | refine blk_drew ?_ | refine blk_alloc ?_ _)); exact BK214.out), (by (with_reducible repeat (first | refine blk_drewN ?_ _ | refine blk_drew ?_ | refine blk_alloc ?_ _)); exact BK215.out), (by (with_reducible repeat (first | refine blk_drewN ?_ _ | refine blk_drew ?_ | refine blk_alloc ?_ _)); exact BK216.out), (by (with_reducible repeat (first | refine blk_drewN ?_ _ | refine blk_drew ?_ | refine blk_alloc ?_ _)); exact BK217.out), (by (with_reducible repeat (first | refine blk_drewN ?_ _ | refine blk_drew ?_ | refine blk_alloc ?_ _)); exact BK218.out), (by (with_reducible repeat (first | refine blk_drewN ?_ _ | refine blk_drew ?_ | refine blk_alloc ?_ _)); exact BK219.out), (by (with_reducible repeat (first | refine blk_drewN ?_ _ | refine blk_drew ?_ | refine blk_alloc ?_ _)); exact BK224.out), (by (with_reducible repeat (first | refine blk_drewN ?_ _ | refine blk_drew ?_ | refine blk_alloc ?_ _)); exact BK225.out), GW224.out, GE224.out, NB214_224.out, NB224_214.out, NB215_224.out, NB224_215.out, NB216_224.out, NB224_216.out, NB217_224.out, NB224_217.out, NB218_224.out, NB224_218.out, NB219_224.out, NB224_219.out, NB225_224.out, NB224_225.out, GW225.out, GE225.out, NB214_225.out, NB225_214.out, NB215_225.out, NB225_215.out, NB216_225.out, NB225_216.out, NB217_225.out, NB225_217.out, NB218_225.out, NB225_218.out, NB219_225.out, NB225_219.out, (by repeat (with_reducible first | exact HB.out | apply below_alloc | apply pw_below_drewN | apply below_drew1 | refine below_set ?_ GE214.out | refine below_set ?_ GE215.out | refine below_set ?_ GE216.out | refine below_set ?_ GE217.out | refine below_set ?_ GE218.out | refine below_set ?_ GE219.out | refine below_set ?_ GE224.out | refine below_set ?_ GE225.out))⟩)
       ·skip
        refine box_step ?hg (N := 9) ?hd (cs := #[.int .i64 0, .int .u64 0]) (t := 71) ?hr ?_; (case hd => rfl); (case hg => rfl); (case hr => first | (go_simp; done) | (go_simp; rfl))
        intro gb225 hg w60 hbox hb
        have n0_ := Aside0.mk (blk_below (g := gb214) (o := .cells #[.int .i64 a0_0, .int .u64 a0_1] 71 (0, 0)) (by (with_reducible repeat (first | refine blk_drewN ?_ _ | refine blk_drew ?_ | refine blk_alloc ?_ _)); exact BK214.out) hb)
        have n1_ := Aside0.mk (blk_below (g := gb215) (o := .cells #[.int .i64 a1_0, .int .u64 a1_1] 71 (0, 0)) (by (with_reducible repeat (first | refine blk_drewN ?_ _ | refine blk_drew ?_ | refine blk_alloc ?_ _)); exact BK215.out) hb)
        have n2_ := Aside0.mk (blk_below (g := gb216) (o := .cells #[.int .i64 0, .int .u64 0] 71 (0, 0)) (by (with_reducible repeat (first | refine blk_drewN ?_ _ | refine blk_drew ?_ | refine blk_alloc ?_ _)); exact BK216.out) hb)
        have n3_ := Aside0.mk (blk_below (g := gb217) (o := .cells #[.int .i64 0, .int .u64 0] 71 (0, 0)) (by (with_reducible repeat (first | refine blk_drewN ?_ _ | refine blk_drew ?_ | refine blk_alloc ?_ _)); exact BK217.out) hb)
        have n4_ := Aside0.mk (blk_below (g := gb218) (o := .cells #[.int .i64 x219000_2, .int .u64 x219001_2] 71 (0, 0)) (by (with_reducible repeat (first | refine blk_drewN ?_ _ | refine blk_drew ?_ | refine blk_alloc ?_ _)); exact BK218.out) hb)
        have n5_ := Aside0.mk (blk_below (g := gb219) (o := .cells #[.int .i64 x220000_35, .int .u64 x220001_35] 71 (0, 0)) (by (with_reducible repeat (first | refine blk_drewN ?_ _ | refine blk_drew ?_ | refine blk_alloc ?_ _)); exact BK219.out) hb)
        have n6_ := Aside0.mk (below_step (by repeat (with_reducible first | exact HB.out | apply below_alloc | apply pw_below_drewN | apply below_drew1 | refine below_set ?_ GE214.out | refine below_set ?_ GE215.out | refine below_set ?_ GE216.out | refine below_set ?_ GE217.out | refine below_set ?_ GE218.out | refine below_set ?_ GE219.out)) hb)
        have n7_ := Aside0.mk (hbox)
        have n8_ := Aside0.mk ((by rw [hg]; exact (below_size (by repeat (with_reducible first | exact HB.out | apply below_alloc | apply pw_below_drewN | apply below_drew1 | refine below_set ?_ GE214.out | refine below_set ?_ GE215.out | refine below_set ?_ GE216.out | refine below_set ?_ GE217.out | refine below_set ?_ GE218.out | refine below_set ?_ GE219.out))) : w.heap.size ≤ gb225))
        have n9_ := Aside0.mk ((by rw [hg]; exact (below_size (by repeat (with_reducible first | exact HB.out | apply below_alloc | apply pw_below_drewN | apply below_drew1 | refine below_set ?_ GE214.out | refine below_set ?_ GE215.out | refine below_set ?_ GE216.out | refine below_set ?_ GE217.out | refine below_set ?_ GE218.out | refine below_set ?_ GE219.out))) : w.heap.size ≤ gb225))
        have n10_ := Aside0.mk ((by rw [hg]; exact Nat.ne_of_lt (blk_lt (g := gb214) (o := .cells #[.int .i64 a0_0, .int .u64 a0_1] 71 (0, 0)) (by (with_reducible repeat (first | refine blk_drewN ?_ _ | refine blk_drew ?_ | refine blk_alloc ?_ _)); exact BK214.out)) : gb214 ≠ gb225))
        have n11_ := Aside0.mk ((by rw [hg]; exact Nat.ne_of_gt (blk_lt (g := gb214) (o := .cells #[.int .i64 a0_0, .int .u64 a0_1] 71 (0, 0)) (by (with_reducible repeat (first | refine blk_drewN ?_ _ | refine blk_drew ?_ | refine blk_alloc ?_ _)); exact BK214.out)) : gb225 ≠ gb214))
        have n12_ := Aside0.mk ((by rw [hg]; exact Nat.ne_of_lt (blk_lt (g := gb215) (o := .cells #[.int .i64 a1_0, .int .u64 a1_1] 71 (0, 0)) (by (with_reducible repeat (first | refine blk_drewN ?_ _ | refine blk_drew ?_ | refine blk_alloc ?_ _)); exact BK215.out)) : gb215 ≠ gb225))
        have n13_ := Aside0.mk ((by rw [hg]; exact Nat.ne_of_gt (blk_lt (g := gb215) (o := .cells #[.int .i64 a1_0, .int .u64 a1_1] 71 (0, 0)) (by (with_reducible repeat (first | refine blk_drewN ?_ _ | refine blk_drew ?_ | refine blk_alloc ?_ _)); exact BK215.out)) : gb225 ≠ gb215))
        have n14_ := Aside0.mk ((by rw [hg]; exact Nat.ne_of_lt (blk_lt (g := gb216) (o := .cells #[.int .i64 0, .int .u64 0] 71 (0, 0)) (by (with_reducible repeat (first | refine blk_drewN ?_ _ | refine blk_drew ?_ | refine blk_alloc ?_ _)); exact BK216.out)) : gb216 ≠ gb225))
        have n15_ := Aside0.mk ((by rw [hg]; exact Nat.ne_of_gt (blk_lt (g := gb216) (o := .cells #[.int .i64 0, .int .u64 0] 71 (0, 0)) (by (with_reducible repeat (first | refine blk_drewN ?_ _ | refine blk_drew ?_ | refine blk_alloc ?_ _)); exact BK216.out)) : gb225 ≠ gb216))
        have n16_ := Aside0.mk ((by rw [hg]; exact Nat.ne_of_lt (blk_lt (g := gb217) (o := .cells #[.int .i64 0, .int .u64 0] 71 (0, 0)) (by (with_reducible repeat (first | refine blk_drewN ?_ _ | refine blk_drew ?_ | refine blk_alloc ?_ _)); exact BK217.out)) : gb217 ≠ gb225))
        have n17_ := Aside0.mk ((by rw [hg]; exact Nat.ne_of_gt (blk_lt (g := gb217) (o := .cells #[.int .i64 0, .int .u64 0] 71 (0, 0)) (by (with_reducible repeat (first | refine blk_drewN ?_ _ | refine blk_drew ?_ | refine blk_alloc ?_ _)); exact BK217.out)) : gb225 ≠ gb217))
        have n18_ := Aside0.mk ((by rw [hg]; exact Nat.ne_of_lt (blk_lt (g := gb218) (o := .cells #[.int .i64 x219000_2, .int .u64 x219001_2] 71 (0, 0)) (by (with_reducible repeat (first | refine blk_drewN ?_ _ | refine blk_drew ?_ | refine blk_alloc ?_ _)); exact BK218.out)) : gb218 ≠ gb225))
        have n19_ := Aside0.mk ((by rw [hg]; exact Nat.ne_of_gt (blk_lt (g := gb218) (o := .cells #[.int .i64 x219000_2, .int .u64 x219001_2] 71 (0, 0)) (by (with_reducible repeat (first | refine blk_drewN ?_ _ | refine blk_drew ?_ | refine blk_alloc ?_ _)); exact BK218.out)) : gb225 ≠ gb218))
        have n20_ := Aside0.mk ((by rw [hg]; exact Nat.ne_of_lt (blk_lt (g := gb219) (o := .cells #[.int .i64 x220000_35, .int .u64 x220001_35] 71 (0, 0)) (by (with_reducible repeat (first | refine blk_drewN ?_ _ | refine blk_drew ?_ | refine blk_alloc ?_ _)); exact BK219.out)) : gb219 ≠ gb225))
        have n21_ := Aside0.mk ((by rw [hg]; exact Nat.ne_of_gt (blk_lt (g := gb219) (o := .cells #[.int .i64 x220000_35, .int .u64 x220001_35] 71 (0, 0)) (by (with_reducible repeat (first | refine blk_drewN ?_ _ | refine blk_drew ?_ | refine blk_alloc ?_ _)); exact BK219.out)) : gb225 ≠ gb219))
        clear BK214
        clear BK215
        clear BK216
        clear BK217
        clear BK218
        clear BK219
        clear HB
        have BK214 := n0_
        have BK215 := n1_
        have BK216 := n2_
        have BK217 := n3_
        have BK218 := n4_
        have BK219 := n5_
        have HB := n6_
        have BK225 := n7_
        have GW225 := n8_
        have GE225 := n9_
        have NB214_225 := n10_
        have NB225_214 := n11_
        have NB215_225 := n12_
        have NB225_215 := n13_
        have NB216_225 := n14_
        have NB225_216 := n15_
        have NB217_225 := n16_
        have NB225_217 := n17_
        have NB218_225 := n18_
        have NB225_218 := n19_
        have NB219_225 := n20_
        have NB225_219 := n21_
        clear n0_ n1_ n2_ n3_ n4_ n5_ n6_ n7_ n8_ n9_ n10_ n11_ n12_ n13_ n14_ n15_ n16_ n17_ n18_ n19_ n20_ n21_
        clear hb hbox hg
        refine hK.out _ _ ⟨(blk_cell BK218.out 0).trans rfl, (blk_cell BK218.out 1).trans rfl, (blk_cell BK219.out 0).trans rfl, (blk_cell BK219.out 1).trans rfl⟩ (fun hHeld => ?_)
        clear hK K
        refine norm_ (a' := ?_) ?_ ?_
        rotate_left
        ·show Act.put _ (some 9) _ = _
         simp only [Act.put, List.setIfInBounds_toArray, List.set_cons_zero, List.set_cons_succ, i64_w, i32_w]
         rfl
        refine one_ (i := 12) (N := some 8) #[true, true, true, true, true, true, true, true, true, true, true, true, true, true, false, false] rfl rfl (one_of HT_.out (by kernel_rfl)) (by decide) (fun K hK => ?_)
        refine box_step ?hg (N := 8) ?hd (cs := #[.int .i64 0, .int .u64 0]) (t := 71) ?hr ?_; (case hd => rfl); (case hg => rfl); (case hr => first | (go_simp; done) | (go_simp; rfl))
        intro gb224 hg w61 hbox hb
        have n0_ := Aside0.mk (blk_below (g := gb214) (o := .cells #[.int .i64 a0_0, .int .u64 a0_1] 71 (0, 0)) (by (with_reducible repeat (first | refine blk_drewN ?_ _ | refine blk_drew ?_ | refine blk_alloc ?_ _)); exact BK214.out) hb)
        have n1_ := Aside0.mk (blk_below (g := gb215) (o := .cells #[.int .i64 a1_0, .int .u64 a1_1] 71 (0, 0)) (by (with_reducible repeat (first | refine blk_drewN ?_ _ | refine blk_drew ?_ | refine blk_alloc ?_ _)); exact BK215.out) hb)
        have n2_ := Aside0.mk (blk_below (g := gb216) (o := .cells #[.int .i64 0, .int .u64 0] 71 (0, 0)) (by (with_reducible repeat (first | refine blk_drewN ?_ _ | refine blk_drew ?_ | refine blk_alloc ?_ _)); exact BK216.out) hb)
        have n3_ := Aside0.mk (blk_below (g := gb217) (o := .cells #[.int .i64 0, .int .u64 0] 71 (0, 0)) (by (with_reducible repeat (first | refine blk_drewN ?_ _ | refine blk_drew ?_ | refine blk_alloc ?_ _)); exact BK217.out) hb)
        have n4_ := Aside0.mk (blk_below (g := gb218) (o := .cells #[.int .i64 x219000_2, .int .u64 x219001_2] 71 (0, 0)) (by (with_reducible repeat (first | refine blk_drewN ?_ _ | refine blk_drew ?_ | refine blk_alloc ?_ _)); exact BK218.out) hb)
        have n5_ := Aside0.mk (blk_below (g := gb219) (o := .cells #[.int .i64 x220000_35, .int .u64 x220001_35] 71 (0, 0)) (by (with_reducible repeat (first | refine blk_drewN ?_ _ | refine blk_drew ?_ | refine blk_alloc ?_ _)); exact BK219.out) hb)
        have n6_ := Aside0.mk (blk_below (g := gb225) (o := .cells #[.int .i64 0, .int .u64 0] 71 (0, 0)) (by (with_reducible repeat (first | refine blk_drewN ?_ _ | refine blk_drew ?_ | refine blk_alloc ?_ _)); exact BK225.out) hb)
        have n7_ := Aside0.mk (below_step (by repeat (with_reducible first | exact HB.out | apply below_alloc | apply pw_below_drewN | apply below_drew1 | refine below_set ?_ GE214.out | refine below_set ?_ GE215.out | refine below_set ?_ GE216.out | refine below_set ?_ GE217.out | refine below_set ?_ GE218.out | refine below_set ?_ GE219.out | refine below_set ?_ GE225.out)) hb)
        have n8_ := Aside0.mk (hbox)
        have n9_ := Aside0.mk ((by rw [hg]; exact (below_size (by repeat (with_reducible first | exact HB.out | apply below_alloc | apply pw_below_drewN | apply below_drew1 | refine below_set ?_ GE214.out | refine below_set ?_ GE215.out | refine below_set ?_ GE216.out | refine below_set ?_ GE217.out | refine below_set ?_ GE218.out | refine below_set ?_ GE219.out | refine below_set ?_ GE225.out))) : w.heap.size ≤ gb224))
        have n10_ := Aside0.mk ((by rw [hg]; exact (below_size (by repeat (with_reducible first | exact HB.out | apply below_alloc | apply pw_below_drewN | apply below_drew1 | refine below_set ?_ GE214.out | refine below_set ?_ GE215.out | refine below_set ?_ GE216.out | refine below_set ?_ GE217.out | refine below_set ?_ GE218.out | refine below_set ?_ GE219.out | refine below_set ?_ GE225.out))) : w.heap.size ≤ gb224))
        have n11_ := Aside0.mk ((by rw [hg]; exact Nat.ne_of_lt (blk_lt (g := gb214) (o := .cells #[.int .i64 a0_0, .int .u64 a0_1] 71 (0, 0)) (by (with_reducible repeat (first | refine blk_drewN ?_ _ | refine blk_drew ?_ | refine blk_alloc ?_ _)); exact BK214.out)) : gb214 ≠ gb224))
        have n12_ := Aside0.mk ((by rw [hg]; exact Nat.ne_of_gt (blk_lt (g := gb214) (o := .cells #[.int .i64 a0_0, .int .u64 a0_1] 71 (0, 0)) (by (with_reducible repeat (first | refine blk_drewN ?_ _ | refine blk_drew ?_ | refine blk_alloc ?_ _)); exact BK214.out)) : gb224 ≠ gb214))
        have n13_ := Aside0.mk ((by rw [hg]; exact Nat.ne_of_lt (blk_lt (g := gb215) (o := .cells #[.int .i64 a1_0, .int .u64 a1_1] 71 (0, 0)) (by (with_reducible repeat (first | refine blk_drewN ?_ _ | refine blk_drew ?_ | refine blk_alloc ?_ _)); exact BK215.out)) : gb215 ≠ gb224))
        have n14_ := Aside0.mk ((by rw [hg]; exact Nat.ne_of_gt (blk_lt (g := gb215) (o := .cells #[.int .i64 a1_0, .int .u64 a1_1] 71 (0, 0)) (by (with_reducible repeat (first | refine blk_drewN ?_ _ | refine blk_drew ?_ | refine blk_alloc ?_ _)); exact BK215.out)) : gb224 ≠ gb215))
        have n15_ := Aside0.mk ((by rw [hg]; exact Nat.ne_of_lt (blk_lt (g := gb216) (o := .cells #[.int .i64 0, .int .u64 0] 71 (0, 0)) (by (with_reducible repeat (first | refine blk_drewN ?_ _ | refine blk_drew ?_ | refine blk_alloc ?_ _)); exact BK216.out)) : gb216 ≠ gb224))
        have n16_ := Aside0.mk ((by rw [hg]; exact Nat.ne_of_gt (blk_lt (g := gb216) (o := .cells #[.int .i64 0, .int .u64 0] 71 (0, 0)) (by (with_reducible repeat (first | refine blk_drewN ?_ _ | refine blk_drew ?_ | refine blk_alloc ?_ _)); exact BK216.out)) : gb224 ≠ gb216))
        have n17_ := Aside0.mk ((by rw [hg]; exact Nat.ne_of_lt (blk_lt (g := gb217) (o := .cells #[.int .i64 0, .int .u64 0] 71 (0, 0)) (by (with_reducible repeat (first | refine blk_drewN ?_ _ | refine blk_drew ?_ | refine blk_alloc ?_ _)); exact BK217.out)) : gb217 ≠ gb224))
        have n18_ := Aside0.mk ((by rw [hg]; exact Nat.ne_of_gt (blk_lt (g := gb217) (o := .cells #[.int .i64 0, .int .u64 0] 71 (0, 0)) (by (with_reducible repeat (first | refine blk_drewN ?_ _ | refine blk_drew ?_ | refine blk_alloc ?_ _)); exact BK217.out)) : gb224 ≠ gb217))
        have n19_ := Aside0.mk ((by rw [hg]; exact Nat.ne_of_lt (blk_lt (g := gb218) (o := .cells #[.int .i64 x219000_2, .int .u64 x219001_2] 71 (0, 0)) (by (with_reducible repeat (first | refine blk_drewN ?_ _ | refine blk_drew ?_ | refine blk_alloc ?_ _)); exact BK218.out)) : gb218 ≠ gb224))
        have n20_ := Aside0.mk ((by rw [hg]; exact Nat.ne_of_gt (blk_lt (g := gb218) (o := .cells #[.int .i64 x219000_2, .int .u64 x219001_2] 71 (0, 0)) (by (with_reducible repeat (first | refine blk_drewN ?_ _ | refine blk_drew ?_ | refine blk_alloc ?_ _)); exact BK218.out)) : gb224 ≠ gb218))
        have n21_ := Aside0.mk ((by rw [hg]; exact Nat.ne_of_lt (blk_lt (g := gb219) (o := .cells #[.int .i64 x220000_35, .int .u64 x220001_35] 71 (0, 0)) (by (with_reducible repeat (first | refine blk_drewN ?_ _ | refine blk_drew ?_ | refine blk_alloc ?_ _)); exact BK219.out)) : gb219 ≠ gb224))
        have n22_ := Aside0.mk ((by rw [hg]; exact Nat.ne_of_gt (blk_lt (g := gb219) (o := .cells #[.int .i64 x220000_35, .int .u64 x220001_35] 71 (0, 0)) (by (with_reducible repeat (first | refine blk_drewN ?_ _ | refine blk_drew ?_ | refine blk_alloc ?_ _)); exact BK219.out)) : gb224 ≠ gb219))
        have n23_ := Aside0.mk ((by rw [hg]; exact Nat.ne_of_lt (blk_lt (g := gb225) (o := .cells #[.int .i64 0, .int .u64 0] 71 (0, 0)) (by (with_reducible repeat (first | refine blk_drewN ?_ _ | refine blk_drew ?_ | refine blk_alloc ?_ _)); exact BK225.out)) : gb225 ≠ gb224))
        have n24_ := Aside0.mk ((by rw [hg]; exact Nat.ne_of_gt (blk_lt (g := gb225) (o := .cells #[.int .i64 0, .int .u64 0] 71 (0, 0)) (by (with_reducible repeat (first | refine blk_drewN ?_ _ | refine blk_drew ?_ | refine blk_alloc ?_ _)); exact BK225.out)) : gb224 ≠ gb225))
        clear BK214
        clear BK215
        clear BK216
        clear BK217
        clear BK218
        clear BK219
        clear BK225
        clear HB
        have BK214 := n0_
        have BK215 := n1_
        have BK216 := n2_
        have BK217 := n3_
        have BK218 := n4_
        have BK219 := n5_
        have BK225 := n6_
        have HB := n7_
        have BK224 := n8_
        have GW224 := n9_
        have GE224 := n10_
        have NB214_224 := n11_
        have NB224_214 := n12_
        have NB215_224 := n13_
        have NB224_215 := n14_
        have NB216_224 := n15_
        have NB224_216 := n16_
        have NB217_224 := n17_
        have NB224_217 := n18_
        have NB218_224 := n19_
        have NB224_218 := n20_
        have NB219_224 := n21_
        have NB224_219 := n22_
        have NB225_224 := n23_
        have NB224_225 := n24_
        clear n0_ n1_ n2_ n3_ n4_ n5_ n6_ n7_ n8_ n9_ n10_ n11_ n12_ n13_ n14_ n15_ n16_ n17_ n18_ n19_ n20_ n21_ n22_ n23_ n24_
        clear hb hbox hg
        refine hK.out _ _ ⟨(blk_cell BK218.out 0).trans rfl, (blk_cell BK218.out 1).trans rfl, (blk_cell BK219.out 0).trans rfl, (blk_cell BK219.out 1).trans rfl⟩ (fun hHeld => ?_)
        clear hK K
        refine norm_ (a' := ?_) ?_ ?_
        rotate_left
        ·show Act.put _ (some 8) _ = _
         simp only [Act.put, List.setIfInBounds_toArray, List.set_cons_zero, List.set_cons_succ, i64_w, i32_w]
         rfl
        exact norm_ (by simp only [putAll, Act.put, List.setIfInBounds_toArray, List.set_cons_zero, List.set_cons_succ]) (hCont (gb224, gb225) _ ⟨hHeld, (by (with_reducible repeat (first | refine blk_drewN ?_ _ | refine blk_drew ?_ | refine blk_alloc ?_ _)); exact BK214.out), (by (with_reducible repeat (first | refine blk_drewN ?_ _ | refine blk_drew ?_ | refine blk_alloc ?_ _)); exact BK215.out), (by (with_reducible repeat (first | refine blk_drewN ?_ _ | refine blk_drew ?_ | refine blk_alloc ?_ _)); exact BK216.out), (by (with_reducible repeat (first | refine blk_drewN ?_ _ | refine blk_drew ?_ | refine blk_alloc ?_ _)); exact BK217.out), (by (with_reducible repeat (first | refine blk_drewN ?_ _ | refine blk_drew ?_ | refine blk_alloc ?_ _)); exact BK218.out), (by (with_reducible repeat (first | refine blk_drewN ?_ _ | refine blk_drew ?_ | refine blk_alloc ?_ _)); exact BK219.out), (by (with_reducible repeat (first | refine blk_drewN ?_ _ | refine blk_drew ?_ | refine blk_alloc ?_ _)); exact BK224.out), (by (with_reducible repeat (first | refine blk_drewN ?_ _ | refine blk_drew ?_ | refine blk_alloc ?_ _)); exact BK225.out), GW224.out, GE224.out, NB214_224.out, NB224_214.out, NB215_224.out, NB224_215.out, NB216_224.out, NB224_216.out, NB217_224.out, NB224_217.out, NB218_224.out, NB224_218.out, NB219_224.out, NB224_219.out, NB225_224.out, NB224_225.out, GW225.out, GE225.out, NB214_225.out, NB225_214.out, NB215_225.out, NB225_215.out, NB216_225.out, NB225_216.out, NB217_225.out, NB225_217.out, NB218_225.out, NB225_218.out, NB219_225.out, NB225_219.out, (by repeat (with_reducible first | exact HB.out | apply below_alloc | apply pw_below_drewN | apply below_drew1 | refine below_set ?_ GE214.out | refine below_set ?_ GE215.out | refine below_set ?_ GE216.out | refine below_set ?_ GE217.out | refine below_set ?_ GE218.out | refine below_set ?_ GE219.out | refine below_set ?_ GE225.out | refine below_set ?_ GE224.out))⟩)
      rintro ⟨gb224, gb225⟩ w62 ⟨hS_, h0_, h1_, h2_, h3_, h4_, h5_, h6_, h7_, h8_, h9_, h10_, h11_, h12_, h13_, h14_, h15_, h16_, h17_, h18_, h19_, h20_, h21_, h22_, h23_, h24_, h25_, h26_, h27_, h28_, h29_, h30_, h31_, h32_, h33_, h34_, h35_, h36_, h37_, h38_⟩
      have n0_ : Aside0 (w62.heap[gb214]? = some (.cells #[.int .i64 a0_0, .int .u64 a0_1] 71 (0, 0))) := ⟨h0_⟩
      have n1_ : Aside0 (w62.heap[gb215]? = some (.cells #[.int .i64 a1_0, .int .u64 a1_1] 71 (0, 0))) := ⟨h1_⟩
      have n2_ : Aside0 (w62.heap[gb216]? = some (.cells #[.int .i64 0, .int .u64 0] 71 (0, 0))) := ⟨h2_⟩
      have n3_ : Aside0 (w62.heap[gb217]? = some (.cells #[.int .i64 0, .int .u64 0] 71 (0, 0))) := ⟨h3_⟩
      have n4_ : Aside0 (w62.heap[gb218]? = some (.cells #[.int .i64 x219000_2, .int .u64 x219001_2] 71 (0, 0))) := ⟨h4_⟩
      have n5_ : Aside0 (w62.heap[gb219]? = some (.cells #[.int .i64 x220000_35, .int .u64 x220001_35] 71 (0, 0))) := ⟨h5_⟩
      have n6_ : Aside0 (w62.heap[gb224]? = some (.cells #[.int .i64 0, .int .u64 0] 71 (0, 0))) := ⟨h6_⟩
      have n7_ : Aside0 (w62.heap[gb225]? = some (.cells #[.int .i64 0, .int .u64 0] 71 (0, 0))) := ⟨h7_⟩
      have n8_ : Aside0 (w.heap.size ≤ gb224) := ⟨h8_⟩
      have n9_ : Aside0 (w.heap.size ≤ gb224) := ⟨h9_⟩
      have n10_ : Aside0 (gb214 ≠ gb224) := ⟨h10_⟩
      have n11_ : Aside0 (gb224 ≠ gb214) := ⟨h11_⟩
      have n12_ : Aside0 (gb215 ≠ gb224) := ⟨h12_⟩
      have n13_ : Aside0 (gb224 ≠ gb215) := ⟨h13_⟩
      have n14_ : Aside0 (gb216 ≠ gb224) := ⟨h14_⟩
      have n15_ : Aside0 (gb224 ≠ gb216) := ⟨h15_⟩
      have n16_ : Aside0 (gb217 ≠ gb224) := ⟨h16_⟩
      have n17_ : Aside0 (gb224 ≠ gb217) := ⟨h17_⟩
      have n18_ : Aside0 (gb218 ≠ gb224) := ⟨h18_⟩
      have n19_ : Aside0 (gb224 ≠ gb218) := ⟨h19_⟩
      have n20_ : Aside0 (gb219 ≠ gb224) := ⟨h20_⟩
      have n21_ : Aside0 (gb224 ≠ gb219) := ⟨h21_⟩
      have n22_ : Aside0 (gb225 ≠ gb224) := ⟨h22_⟩
      have n23_ : Aside0 (gb224 ≠ gb225) := ⟨h23_⟩
      have n24_ : Aside0 (w.heap.size ≤ gb225) := ⟨h24_⟩
      have n25_ : Aside0 (w.heap.size ≤ gb225) := ⟨h25_⟩
      have n26_ : Aside0 (gb214 ≠ gb225) := ⟨h26_⟩
      have n27_ : Aside0 (gb225 ≠ gb214) := ⟨h27_⟩
      have n28_ : Aside0 (gb215 ≠ gb225) := ⟨h28_⟩
      have n29_ : Aside0 (gb225 ≠ gb215) := ⟨h29_⟩
      have n30_ : Aside0 (gb216 ≠ gb225) := ⟨h30_⟩
      have n31_ : Aside0 (gb225 ≠ gb216) := ⟨h31_⟩
      have n32_ : Aside0 (gb217 ≠ gb225) := ⟨h32_⟩
      have n33_ : Aside0 (gb225 ≠ gb217) := ⟨h33_⟩
      have n34_ : Aside0 (gb218 ≠ gb225) := ⟨h34_⟩
      have n35_ : Aside0 (gb225 ≠ gb218) := ⟨h35_⟩
      have n36_ : Aside0 (gb219 ≠ gb225) := ⟨h36_⟩
      have n37_ : Aside0 (gb225 ≠ gb219) := ⟨h37_⟩
      have n38_ : Aside0 (Below w.heap.size w w62) := ⟨h38_⟩
      clear BK214
      clear BK215
      clear BK216
      clear BK217
      clear BK218
      clear BK219
      clear HB
      clear h0_ h1_ h2_ h3_ h4_ h5_ h6_ h7_ h8_ h9_ h10_ h11_ h12_ h13_ h14_ h15_ h16_ h17_ h18_ h19_ h20_ h21_ h22_ h23_ h24_ h25_ h26_ h27_ h28_ h29_ h30_ h31_ h32_ h33_ h34_ h35_ h36_ h37_ h38_
      have BK214 := n0_
      have BK215 := n1_
      have BK216 := n2_
      have BK217 := n3_
      have BK218 := n4_
      have BK219 := n5_
      have BK224 := n6_
      have BK225 := n7_
      have GW224 := n8_
      have GE224 := n9_
      have NB214_224 := n10_
      have NB224_214 := n11_
      have NB215_224 := n12_
      have NB224_215 := n13_
      have NB216_224 := n14_
      have NB224_216 := n15_
      have NB217_224 := n16_
      have NB224_217 := n17_
      have NB218_224 := n18_
      have NB224_218 := n19_
      have NB219_224 := n20_
      have NB224_219 := n21_
      have NB225_224 := n22_
      have NB224_225 := n23_
      have GW225 := n24_
      have GE225 := n25_
      have NB214_225 := n26_
      have NB225_214 := n27_
      have NB215_225 := n28_
      have NB225_215 := n29_
      have NB216_225 := n30_
      have NB225_216 := n31_
      have NB217_225 := n32_
      have NB225_217 := n33_
      have NB218_225 := n34_
      have NB225_218 := n35_
      have NB219_225 := n36_
      have NB225_219 := n37_
      have HB := n38_
      clear n0_ n1_ n2_ n3_ n4_ n5_ n6_ n7_ n8_ n9_ n10_ n11_ n12_ n13_ n14_ n15_ n16_ n17_ n18_ n19_ n20_ n21_ n22_ n23_ n24_ n25_ n26_ n27_ n28_ n29_ n30_ n31_ n32_ n33_ n34_ n35_ n36_ n37_ n38_
      have hHeld : w62.cell? ⟨gb218, 0, none⟩ = some (.int .i64 x219000_2) ∧ w62.cell? ⟨gb218, 1, none⟩ = some (.int .u64 x219001_2) ∧ w62.cell? ⟨gb219, 0, none⟩ = some (.int .i64 x220000_35) ∧ w62.cell? ⟨gb219, 1, none⟩ = some (.int .u64 x220001_35) := hS_
      refine norm_ (a' := ?_) ?_ ?_
      rotate_left
      ·simp only [putAll, Act.put, List.setIfInBounds_toArray, List.set_cons_zero, List.set_cons_succ]
       rfl
      refine one_ (i := 14) (N := none) #[true, true, true, true, true, true, true, true, true, true, true, true, true, true, true, false] rfl rfl (one_of HT_.out (by kernel_rfl)) (by decide) (fun K hK => ?_)
      have hs63 : w62.cell? ⟨gb224, 0, none⟩ = some (.int .i64 0) := (blk_cell BK224.out 0).trans rfl
      have hfs63 := blk_frozen BK224.out 0
      have hns63_0 := NB214_224.out
      have hns63_1 := NB215_224.out
      have hns63_2 := NB216_224.out
      have hns63_3 := NB217_224.out
      have hns63_4 := NB218_224.out
      have hns63_5 := NB219_224.out
      have hns63_7 := NB225_224.out
      have hms63_0 := NB224_214.out
      have hms63_1 := NB224_215.out
      have hms63_2 := NB224_216.out
      have hms63_3 := NB224_217.out
      have hms63_4 := NB224_218.out
      have hms63_5 := NB224_219.out
      have hms63_7 := NB224_225.out
      have hs64 : w62.cell? ⟨gb224, 1, none⟩ = some (.int .u64 0) := (blk_cell BK224.out 1).trans rfl
      have hfs64 := blk_frozen BK224.out 1
      have hns64_0 := NB214_224.out
      have hns64_1 := NB215_224.out
      have hns64_2 := NB216_224.out
      have hns64_3 := NB217_224.out
      have hns64_4 := NB218_224.out
      have hns64_5 := NB219_224.out
      have hns64_7 := NB225_224.out
      have hms64_0 := NB224_214.out
      have hms64_1 := NB224_215.out
      have hms64_2 := NB224_216.out
      have hms64_3 := NB224_217.out
      have hms64_4 := NB224_218.out
      have hms64_5 := NB224_219.out
      have hms64_7 := NB224_225.out
      refine skip_ (w1 := ?_) (by rfl) rfl ?_ ?_
      rotate_left
      ·go_simp
       rfl
      refine hK.out _ _ ⟨((cell_far (p := ⟨gb224, _, none⟩) NB218_224.out _).trans (((cell_far (p := ⟨gb224, _, none⟩) NB218_224.out _).trans (hHeld.1)))), ((cell_far (p := ⟨gb224, _, none⟩) NB218_224.out _).trans (((cell_far (p := ⟨gb224, _, none⟩) NB218_224.out _).trans (hHeld.2.1)))), ((cell_far (p := ⟨gb224, _, none⟩) NB219_224.out _).trans (((cell_far (p := ⟨gb224, _, none⟩) NB219_224.out _).trans (hHeld.2.2.1)))), ((cell_far (p := ⟨gb224, _, none⟩) NB219_224.out _).trans (((cell_far (p := ⟨gb224, _, none⟩) NB219_224.out _).trans (hHeld.2.2.2))))⟩ (fun hHeld => ?_)
      clear hK K
      refine one_ (i := 15) (N := none) #[true, true, true, true, true, true, true, true, true, true, true, true, true, true, true, true] rfl rfl (one_of HT_.out (by kernel_rfl)) (by decide) (fun K hK => ?_)
      have hs65 : w62.cell? ⟨gb225, 0, none⟩ = some (.int .i64 0) := (blk_cell BK225.out 0).trans rfl
      have hfs65 := blk_frozen BK225.out 0
      have hns65_0 := NB214_225.out
      have hns65_1 := NB215_225.out
      have hns65_2 := NB216_225.out
      have hns65_3 := NB217_225.out
      have hns65_4 := NB218_225.out
      have hns65_5 := NB219_225.out
      have hns65_6 := NB224_225.out
      have hms65_0 := NB225_214.out
      have hms65_1 := NB225_215.out
      have hms65_2 := NB225_216.out
      have hms65_3 := NB225_217.out
      have hms65_4 := NB225_218.out
      have hms65_5 := NB225_219.out
      have hms65_6 := NB225_224.out
      have hs66 : w62.cell? ⟨gb225, 1, none⟩ = some (.int .u64 0) := (blk_cell BK225.out 1).trans rfl
      have hfs66 := blk_frozen BK225.out 1
      have hns66_0 := NB214_225.out
      have hns66_1 := NB215_225.out
      have hns66_2 := NB216_225.out
      have hns66_3 := NB217_225.out
      have hns66_4 := NB218_225.out
      have hns66_5 := NB219_225.out
      have hns66_6 := NB224_225.out
      have hms66_0 := NB225_214.out
      have hms66_1 := NB225_215.out
      have hms66_2 := NB225_216.out
      have hms66_3 := NB225_217.out
      have hms66_4 := NB225_218.out
      have hms66_5 := NB225_219.out
      have hms66_6 := NB225_224.out
      refine skip_ (w1 := ?_) (by rfl) rfl ?_ ?_
      rotate_left
      ·go_simp
       rfl
      refine hK.out _ _ ⟨((cell_far (p := ⟨gb225, _, none⟩) NB218_225.out _).trans (((cell_far (p := ⟨gb225, _, none⟩) NB218_225.out _).trans (hHeld.1)))), ((cell_far (p := ⟨gb225, _, none⟩) NB218_225.out _).trans (((cell_far (p := ⟨gb225, _, none⟩) NB218_225.out _).trans (hHeld.2.1)))), ((cell_far (p := ⟨gb225, _, none⟩) NB219_225.out _).trans (((cell_far (p := ⟨gb225, _, none⟩) NB219_225.out _).trans (hHeld.2.2.1)))), ((cell_far (p := ⟨gb225, _, none⟩) NB219_225.out _).trans (((cell_far (p := ⟨gb225, _, none⟩) NB219_225.out _).trans (hHeld.2.2.2))))⟩ (fun hHeld => ?_)
      clear hK K
      refine done_ (done_of HT_.out (by kernel_rfl)) ?_
      have hnb67 := NB214_215.out
      have hnc67 := NB215_214.out
      have hnb68 := NB214_216.out
      have hnc68 := NB216_214.out
      have hnb69 := NB214_217.out
      have hnc69 := NB217_214.out
      have hnb70 := NB214_218.out
      have hnc70 := NB218_214.out
      have hnb71 := NB214_219.out
      have hnc71 := NB219_214.out
      have hnb72 := NB214_224.out
      have hnc72 := NB224_214.out
      have hnb73 := NB214_225.out
      have hnc73 := NB225_214.out
      have hcz74_0 : w62.cell? ⟨gb214, 0, none⟩ = some (.int .i64 a0_0) := (blk_cell BK214.out 0).trans rfl
      have hcz74_1 : w62.cell? ⟨gb214, 1, none⟩ = some (.int .u64 a0_1) := (blk_cell BK214.out 1).trans rfl
      have hfz74_0 := blk_frozen BK214.out 0
      have hfz74_1 := blk_frozen BK214.out 1
      have hnb75 := NB215_216.out
      have hnc75 := NB216_215.out
      have hnb76 := NB215_217.out
      have hnc76 := NB217_215.out
      have hnb77 := NB215_218.out
      have hnc77 := NB218_215.out
      have hnb78 := NB215_219.out
      have hnc78 := NB219_215.out
      have hnb79 := NB215_224.out
      have hnc79 := NB224_215.out
      have hnb80 := NB215_225.out
      have hnc80 := NB225_215.out
      have hcz81_0 : w62.cell? ⟨gb215, 0, none⟩ = some (.int .i64 a1_0) := (blk_cell BK215.out 0).trans rfl
      have hcz81_1 : w62.cell? ⟨gb215, 1, none⟩ = some (.int .u64 a1_1) := (blk_cell BK215.out 1).trans rfl
      have hfz81_0 := blk_frozen BK215.out 0
      have hfz81_1 := blk_frozen BK215.out 1
      go_upto_if 38 with (fail)
      go_cut [] (fun wc => ∃ (kq : Nat) (x225000_57 : Int) (x225001_57 : Int), Aside0 (arith_divided.j2 kq a0_0 a0_1 x225000_57 x225001_57 0 (Int.tmod x219001_2 x220001_35) = some (r1, r2, r3, r4)) ∧ Aside0 (kq ≤ kj35) ∧ Aside0 (wc.heap[gb214]? = some (.cells #[.int .i64 a0_0, .int .u64 a0_1] 71 (0, 0))) ∧ Aside0 (wc.heap[gb215]? = some (.cells #[.int .i64 a1_0, .int .u64 a1_1] 71 (0, 0))) ∧ Aside0 (wc.heap[gb216]? = some (.cells #[.int .i64 0, .int .u64 0] 71 (0, 0))) ∧ Aside0 (wc.heap[gb217]? = some (.cells #[.int .i64 0, .int .u64 0] 71 (0, 0))) ∧ Aside0 (wc.heap[gb218]? = some (.cells #[.int .i64 x219000_2, .int .u64 x219001_2] 71 (0, 0))) ∧ Aside0 (wc.heap[gb219]? = some (.cells #[.int .i64 x220000_35, .int .u64 x220001_35] 71 (0, 0))) ∧ Aside0 (wc.heap[gb224]? = some (.cells #[.int .i64 x225000_57, .int .u64 x225001_57] 71 (0, 0))) ∧ Aside0 (wc.heap[gb225]? = some (.cells #[.int .i64 0, .int .u64 (Int.tmod x219001_2 x220001_35)] 71 (0, 0))) ∧ Aside0 (Below w.heap.size w wc))
      case first =>
       have H := HC58.out
       clear HC58
       by_cases c82 : a0_0 = a1_0
       ·rw [if_pos c82] at H
        have c82b0 : (a0_0 == a1_0) = true := beq_iff_eq.mpr c82
        have c82b1 : (a0_0 != a1_0) = false := bne_eq_false_iff_eq.mpr c82
        clear c82
        (first | rw [c82b0] | (simp only [i64_w, i32_w]; rw [c82b0]) | skip)
        have H' := Aside0.mk H
        clear H
        go_wp2
        go_meet
        case rel => exact ⟨_, (0), (IntKind.u64.wrap (Int.tdiv x219001_2 x220001_35)), H', ⟨by have := HJ2.out; have := HJ35.out; first | omega | exact Nat.le_refl _⟩, ⟨by (with_reducible repeat (first | refine blk_drewN ?_ _ | refine blk_drew ?_ | refine blk_alloc ?_ _)); refine blk_far ?_ NB214_225.out _; (with_reducible repeat (first | refine blk_drewN ?_ _ | refine blk_drew ?_ | refine blk_alloc ?_ _)); refine blk_far ?_ NB214_225.out _; (with_reducible repeat (first | refine blk_drewN ?_ _ | refine blk_drew ?_ | refine blk_alloc ?_ _)); refine blk_far ?_ NB214_224.out _; (with_reducible repeat (first | refine blk_drewN ?_ _ | refine blk_drew ?_ | refine blk_alloc ?_ _)); refine blk_far ?_ NB214_224.out _; (with_reducible repeat (first | refine blk_drewN ?_ _ | refine blk_drew ?_ | refine blk_alloc ?_ _)); exact BK214.out⟩, ⟨by (with_reducible repeat (first | refine blk_drewN ?_ _ | refine blk_drew ?_ | refine blk_alloc ?_ _)); refine blk_far ?_ NB215_225.out _; (with_reducible repeat (first | refine blk_drewN ?_ _ | refine blk_drew ?_ | refine blk_alloc ?_ _)); refine blk_far ?_ NB215_225.out _; (with_reducible repeat (first | refine blk_drewN ?_ _ | refine blk_drew ?_ | refine blk_alloc ?_ _)); refine blk_far ?_ NB215_224.out _; (with_reducible repeat (first | refine blk_drewN ?_ _ | refine blk_drew ?_ | refine blk_alloc ?_ _)); refine blk_far ?_ NB215_224.out _; (with_reducible repeat (first | refine blk_drewN ?_ _ | refine blk_drew ?_ | refine blk_alloc ?_ _)); exact BK215.out⟩, ⟨by (with_reducible repeat (first | refine blk_drewN ?_ _ | refine blk_drew ?_ | refine blk_alloc ?_ _)); refine blk_far ?_ NB216_225.out _; (with_reducible repeat (first | refine blk_drewN ?_ _ | refine blk_drew ?_ | refine blk_alloc ?_ _)); refine blk_far ?_ NB216_225.out _; (with_reducible repeat (first | refine blk_drewN ?_ _ | refine blk_drew ?_ | refine blk_alloc ?_ _)); refine blk_far ?_ NB216_224.out _; (with_reducible repeat (first | refine blk_drewN ?_ _ | refine blk_drew ?_ | refine blk_alloc ?_ _)); refine blk_far ?_ NB216_224.out _; (with_reducible repeat (first | refine blk_drewN ?_ _ | refine blk_drew ?_ | refine blk_alloc ?_ _)); exact BK216.out⟩, ⟨by (with_reducible repeat (first | refine blk_drewN ?_ _ | refine blk_drew ?_ | refine blk_alloc ?_ _)); refine blk_far ?_ NB217_225.out _; (with_reducible repeat (first | refine blk_drewN ?_ _ | refine blk_drew ?_ | refine blk_alloc ?_ _)); refine blk_far ?_ NB217_225.out _; (with_reducible repeat (first | refine blk_drewN ?_ _ | refine blk_drew ?_ | refine blk_alloc ?_ _)); refine blk_far ?_ NB217_224.out _; (with_reducible repeat (first | refine blk_drewN ?_ _ | refine blk_drew ?_ | refine blk_alloc ?_ _)); refine blk_far ?_ NB217_224.out _; (with_reducible repeat (first | refine blk_drewN ?_ _ | refine blk_drew ?_ | refine blk_alloc ?_ _)); exact BK217.out⟩, ⟨by (with_reducible repeat (first | refine blk_drewN ?_ _ | refine blk_drew ?_ | refine blk_alloc ?_ _)); refine blk_far ?_ NB218_225.out _; (with_reducible repeat (first | refine blk_drewN ?_ _ | refine blk_drew ?_ | refine blk_alloc ?_ _)); refine blk_far ?_ NB218_225.out _; (with_reducible repeat (first | refine blk_drewN ?_ _ | refine blk_drew ?_ | refine blk_alloc ?_ _)); refine blk_far ?_ NB218_224.out _; (with_reducible repeat (first | refine blk_drewN ?_ _ | refine blk_drew ?_ | refine blk_alloc ?_ _)); refine blk_far ?_ NB218_224.out _; (with_reducible repeat (first | refine blk_drewN ?_ _ | refine blk_drew ?_ | refine blk_alloc ?_ _)); exact BK218.out⟩, ⟨by (with_reducible repeat (first | refine blk_drewN ?_ _ | refine blk_drew ?_ | refine blk_alloc ?_ _)); refine blk_far ?_ NB219_225.out _; (with_reducible repeat (first | refine blk_drewN ?_ _ | refine blk_drew ?_ | refine blk_alloc ?_ _)); refine blk_far ?_ NB219_225.out _; (with_reducible repeat (first | refine blk_drewN ?_ _ | refine blk_drew ?_ | refine blk_alloc ?_ _)); refine blk_far ?_ NB219_224.out _; (with_reducible repeat (first | refine blk_drewN ?_ _ | refine blk_drew ?_ | refine blk_alloc ?_ _)); refine blk_far ?_ NB219_224.out _; (with_reducible repeat (first | refine blk_drewN ?_ _ | refine blk_drew ?_ | refine blk_alloc ?_ _)); exact BK219.out⟩, ⟨by (with_reducible repeat (first | refine blk_drewN ?_ _ | refine blk_drew ?_ | refine blk_alloc ?_ _)); refine blk_far ?_ NB224_225.out _; (with_reducible repeat (first | refine blk_drewN ?_ _ | refine blk_drew ?_ | refine blk_alloc ?_ _)); refine blk_far ?_ NB224_225.out _; (with_reducible repeat (first | refine blk_drewN ?_ _ | refine blk_drew ?_ | refine blk_alloc ?_ _)); refine blk_put (cs := #[.int .i64 0, .int .u64 0]) ?_ 1 _ rfl; (with_reducible repeat (first | refine blk_drewN ?_ _ | refine blk_drew ?_ | refine blk_alloc ?_ _)); refine blk_put (cs := #[.int .i64 0, .int .u64 0]) ?_ 0 _ rfl; (with_reducible repeat (first | refine blk_drewN ?_ _ | refine blk_drew ?_ | refine blk_alloc ?_ _)); exact BK224.out⟩, ⟨by (with_reducible repeat (first | refine blk_drewN ?_ _ | refine blk_drew ?_ | refine blk_alloc ?_ _)); refine blk_put (cs := #[.int .i64 0, .int .u64 0]) ?_ 1 _ rfl; (with_reducible repeat (first | refine blk_drewN ?_ _ | refine blk_drew ?_ | refine blk_alloc ?_ _)); refine blk_put (cs := #[.int .i64 0, .int .u64 0]) ?_ 0 _ rfl; (with_reducible repeat (first | refine blk_drewN ?_ _ | refine blk_drew ?_ | refine blk_alloc ?_ _)); refine blk_far ?_ NB225_224.out _; (with_reducible repeat (first | refine blk_drewN ?_ _ | refine blk_drew ?_ | refine blk_alloc ?_ _)); refine blk_far ?_ NB225_224.out _; (with_reducible repeat (first | refine blk_drewN ?_ _ | refine blk_drew ?_ | refine blk_alloc ?_ _)); exact BK225.out⟩, ⟨by repeat (with_reducible first | exact HB.out | apply below_alloc | apply pw_below_drewN | apply below_drew1 | refine below_set ?_ GE214.out | refine below_set ?_ GE215.out | refine below_set ?_ GE216.out | refine below_set ?_ GE217.out | refine below_set ?_ GE218.out | refine below_set ?_ GE219.out | refine below_set ?_ GE224.out | refine below_set ?_ GE225.out)⟩⟩
       ·rw [if_neg c82] at H
        have c82b0 : (a0_0 == a1_0) = false := beq_eq_false_iff_ne.mpr c82
        have c82b1 : (a0_0 != a1_0) = true := bne_iff_ne.mpr c82
        (first | rw [c82b0] | (simp only [i64_w, i32_w]; rw [c82b0]) | skip)
        replace H := Option.bind_eq_some_iff.mp H
        obtain ⟨⟨t226, t227⟩, A830, H⟩ := H
        replace H : (arith_divided.j2 kj35 a0_0 a0_1 t226 t227 0 (Int.tmod x219001_2 x220001_35)) = some (r1, r2, r3, r4) := H
        have A83 := Aside0.mk A830
        clear A830
        have H' := Aside0.mk H
        clear H
        have hnb84 := NB224_214.out
        have hnc84 := NB214_224.out
        have hnb85 := NB224_215.out
        have hnc85 := NB215_224.out
        have hnb86 := NB224_216.out
        have hnc86 := NB216_224.out
        have hnb87 := NB224_217.out
        have hnc87 := NB217_224.out
        have hnb88 := NB224_218.out
        have hnc88 := NB218_224.out
        have hnb89 := NB224_219.out
        have hnc89 := NB219_224.out
        have hnb90 := NB224_225.out
        have hnc90 := NB225_224.out
        have hcz91_0 : w62.cell? ⟨gb224, 0, none⟩ = some (.int .i64 0) := (blk_cell BK224.out 0).trans rfl
        have hcz91_1 : w62.cell? ⟨gb224, 1, none⟩ = some (.int .u64 0) := (blk_cell BK224.out 1).trans rfl
        have hfz91_0 := blk_frozen BK224.out 0
        have hfz91_1 := blk_frozen BK224.out 1
        go_wp2_with (first | ((with_reducible refine gate_callee (f := 46) rfl ?_); refine goesL_ (some 40) rfl rfl Tryd.func46 (by kernel_rfl) rfl #[.agg #[.int .i64 0, .int .u64 (IntKind.u64.wrap (Int.tdiv x219001_2 x220001_35))]] rfl (by (try simp only [List.map_toArray, List.map_cons, List.map_nil]); first | done | rfl | (simp only [List.length_drop, List.length_take]; rfl)) ?_; (with_reducible refine (arith_wide_neg.calls 0 (IntKind.u64.wrap (Int.tdiv x219001_2 x220001_35)) t226 t227 _ A83.out).mono ?_); rintro e w92 ⟨rfl, hb⟩; refine ⟨_, rfl, ?_⟩; have n0_ := Aside0.mk (blk_below (g := gb214) (o := .cells #[.int .i64 a0_0, .int .u64 a0_1] 71 (0, 0)) (by (with_reducible repeat (first | refine blk_drewN ?_ _ | refine blk_drew ?_ | refine blk_alloc ?_ _)); refine blk_far ?_ NB214_225.out _; (with_reducible repeat (first | refine blk_drewN ?_ _ | refine blk_drew ?_ | refine blk_alloc ?_ _)); refine blk_far ?_ NB214_225.out _; (with_reducible repeat (first | refine blk_drewN ?_ _ | refine blk_drew ?_ | refine blk_alloc ?_ _)); refine blk_far ?_ NB214_224.out _; (with_reducible repeat (first | refine blk_drewN ?_ _ | refine blk_drew ?_ | refine blk_alloc ?_ _)); refine blk_far ?_ NB214_224.out _; (with_reducible repeat (first | refine blk_drewN ?_ _ | refine blk_drew ?_ | refine blk_alloc ?_ _)); exact BK214.out) hb); have n1_ := Aside0.mk (blk_below (g := gb215) (o := .cells #[.int .i64 a1_0, .int .u64 a1_1] 71 (0, 0)) (by (with_reducible repeat (first | refine blk_drewN ?_ _ | refine blk_drew ?_ | refine blk_alloc ?_ _)); refine blk_far ?_ NB215_225.out _; (with_reducible repeat (first | refine blk_drewN ?_ _ | refine blk_drew ?_ | refine blk_alloc ?_ _)); refine blk_far ?_ NB215_225.out _; (with_reducible repeat (first | refine blk_drewN ?_ _ | refine blk_drew ?_ | refine blk_alloc ?_ _)); refine blk_far ?_ NB215_224.out _; (with_reducible repeat (first | refine blk_drewN ?_ _ | refine blk_drew ?_ | refine blk_alloc ?_ _)); refine blk_far ?_ NB215_224.out _; (with_reducible repeat (first | refine blk_drewN ?_ _ | refine blk_drew ?_ | refine blk_alloc ?_ _)); exact BK215.out) hb); have n2_ := Aside0.mk (blk_below (g := gb216) (o := .cells #[.int .i64 0, .int .u64 0] 71 (0, 0)) (by (with_reducible repeat (first | refine blk_drewN ?_ _ | refine blk_drew ?_ | refine blk_alloc ?_ _)); refine blk_far ?_ NB216_225.out _; (with_reducible repeat (first | refine blk_drewN ?_ _ | refine blk_drew ?_ | refine blk_alloc ?_ _)); refine blk_far ?_ NB216_225.out _; (with_reducible repeat (first | refine blk_drewN ?_ _ | refine blk_drew ?_ | refine blk_alloc ?_ _)); refine blk_far ?_ NB216_224.out _; (with_reducible repeat (first | refine blk_drewN ?_ _ | refine blk_drew ?_ | refine blk_alloc ?_ _)); refine blk_far ?_ NB216_224.out _; (with_reducible repeat (first | refine blk_drewN ?_ _ | refine blk_drew ?_ | refine blk_alloc ?_ _)); exact BK216.out) hb); have n3_ := Aside0.mk (blk_below (g := gb217) (o := .cells #[.int .i64 0, .int .u64 0] 71 (0, 0)) (by (with_reducible repeat (first | refine blk_drewN ?_ _ | refine blk_drew ?_ | refine blk_alloc ?_ _)); refine blk_far ?_ NB217_225.out _; (with_reducible repeat (first | refine blk_drewN ?_ _ | refine blk_drew ?_ | refine blk_alloc ?_ _)); refine blk_far ?_ NB217_225.out _; (with_reducible repeat (first | refine blk_drewN ?_ _ | refine blk_drew ?_ | refine blk_alloc ?_ _)); refine blk_far ?_ NB217_224.out _; (with_reducible repeat (first | refine blk_drewN ?_ _ | refine blk_drew ?_ | refine blk_alloc ?_ _)); refine blk_far ?_ NB217_224.out _; (with_reducible repeat (first | refine blk_drewN ?_ _ | refine blk_drew ?_ | refine blk_alloc ?_ _)); exact BK217.out) hb); have n4_ := Aside0.mk (blk_below (g := gb218) (o := .cells #[.int .i64 x219000_2, .int .u64 x219001_2] 71 (0, 0)) (by (with_reducible repeat (first | refine blk_drewN ?_ _ | refine blk_drew ?_ | refine blk_alloc ?_ _)); refine blk_far ?_ NB218_225.out _; (with_reducible repeat (first | refine blk_drewN ?_ _ | refine blk_drew ?_ | refine blk_alloc ?_ _)); refine blk_far ?_ NB218_225.out _; (with_reducible repeat (first | refine blk_drewN ?_ _ | refine blk_drew ?_ | refine blk_alloc ?_ _)); refine blk_far ?_ NB218_224.out _; (with_reducible repeat (first | refine blk_drewN ?_ _ | refine blk_drew ?_ | refine blk_alloc ?_ _)); refine blk_far ?_ NB218_224.out _; (with_reducible repeat (first | refine blk_drewN ?_ _ | refine blk_drew ?_ | refine blk_alloc ?_ _)); exact BK218.out) hb); have n5_ := Aside0.mk (blk_below (g := gb219) (o := .cells #[.int .i64 x220000_35, .int .u64 x220001_35] 71 (0, 0)) (by (with_reducible repeat (first | refine blk_drewN ?_ _ | refine blk_drew ?_ | refine blk_alloc ?_ _)); refine blk_far ?_ NB219_225.out _; (with_reducible repeat (first | refine blk_drewN ?_ _ | refine blk_drew ?_ | refine blk_alloc ?_ _)); refine blk_far ?_ NB219_225.out _; (with_reducible repeat (first | refine blk_drewN ?_ _ | refine blk_drew ?_ | refine blk_alloc ?_ _)); refine blk_far ?_ NB219_224.out _; (with_reducible repeat (first | refine blk_drewN ?_ _ | refine blk_drew ?_ | refine blk_alloc ?_ _)); refine blk_far ?_ NB219_224.out _; (with_reducible repeat (first | refine blk_drewN ?_ _ | refine blk_drew ?_ | refine blk_alloc ?_ _)); exact BK219.out) hb); have n6_ := Aside0.mk (blk_below (g := gb224) (o := .cells #[.int .i64 0, .int .u64 (IntKind.u64.wrap (Int.tdiv x219001_2 x220001_35))] 71 (0, 0)) (by (with_reducible repeat (first | refine blk_drewN ?_ _ | refine blk_drew ?_ | refine blk_alloc ?_ _)); refine blk_far ?_ NB224_225.out _; (with_reducible repeat (first | refine blk_drewN ?_ _ | refine blk_drew ?_ | refine blk_alloc ?_ _)); refine blk_far ?_ NB224_225.out _; (with_reducible repeat (first | refine blk_drewN ?_ _ | refine blk_drew ?_ | refine blk_alloc ?_ _)); refine blk_put (cs := #[.int .i64 0, .int .u64 0]) ?_ 1 _ rfl; (with_reducible repeat (first | refine blk_drewN ?_ _ | refine blk_drew ?_ | refine blk_alloc ?_ _)); refine blk_put (cs := #[.int .i64 0, .int .u64 0]) ?_ 0 _ rfl; (with_reducible repeat (first | refine blk_drewN ?_ _ | refine blk_drew ?_ | refine blk_alloc ?_ _)); exact BK224.out) hb); have n7_ := Aside0.mk (blk_below (g := gb225) (o := .cells #[.int .i64 0, .int .u64 (Int.tmod x219001_2 x220001_35)] 71 (0, 0)) (by (with_reducible repeat (first | refine blk_drewN ?_ _ | refine blk_drew ?_ | refine blk_alloc ?_ _)); refine blk_put (cs := #[.int .i64 0, .int .u64 0]) ?_ 1 _ rfl; (with_reducible repeat (first | refine blk_drewN ?_ _ | refine blk_drew ?_ | refine blk_alloc ?_ _)); refine blk_put (cs := #[.int .i64 0, .int .u64 0]) ?_ 0 _ rfl; (with_reducible repeat (first | refine blk_drewN ?_ _ | refine blk_drew ?_ | refine blk_alloc ?_ _)); refine blk_far ?_ NB225_224.out _; (with_reducible repeat (first | refine blk_drewN ?_ _ | refine blk_drew ?_ | refine blk_alloc ?_ _)); refine blk_far ?_ NB225_224.out _; (with_reducible repeat (first | refine blk_drewN ?_ _ | refine blk_drew ?_ | refine blk_alloc ?_ _)); exact BK225.out) hb); have n8_ := Aside0.mk (below_step (by repeat (with_reducible first | exact HB.out | apply below_alloc | apply pw_below_drewN | apply below_drew1 | refine below_set ?_ GE214.out | refine below_set ?_ GE215.out | refine below_set ?_ GE216.out | refine below_set ?_ GE217.out | refine below_set ?_ GE218.out | refine below_set ?_ GE219.out | refine below_set ?_ GE224.out | refine below_set ?_ GE225.out)) hb); clear BK214; clear BK215; clear BK216; clear BK217; clear BK218; clear BK219; clear BK224; clear BK225; clear HB; have BK214 := n0_; have BK215 := n1_; have BK216 := n2_; have BK217 := n3_; have BK218 := n4_; have BK219 := n5_; have BK224 := n6_; have BK225 := n7_; have HB := n8_; clear n0_ n1_ n2_ n3_ n4_ n5_ n6_ n7_ n8_; (try clear hb); (try clear hb2); (try clear hk); (try clear hi); have hcz93_0 : w92.cell? ⟨gb224, 0, none⟩ = some (.int .i64 0) := (blk_cell BK224.out 0).trans rfl; have hcz93_1 : w92.cell? ⟨gb224, 1, none⟩ = some (.int .u64 (IntKind.u64.wrap (Int.tdiv x219001_2 x220001_35))) := (blk_cell BK224.out 1).trans rfl; have hfz93_0 := blk_frozen BK224.out 0; have hfz93_1 := blk_frozen BK224.out 1))
        go_meet
        case rel => exact ⟨_, (t226), (t227), H', ⟨by have := HJ2.out; have := HJ35.out; first | omega | exact Nat.le_refl _⟩, ⟨by (with_reducible repeat (first | refine blk_drewN ?_ _ | refine blk_drew ?_ | refine blk_alloc ?_ _)); refine blk_far ?_ NB214_224.out _; (with_reducible repeat (first | refine blk_drewN ?_ _ | refine blk_drew ?_ | refine blk_alloc ?_ _)); refine blk_far ?_ NB214_224.out _; (with_reducible repeat (first | refine blk_drewN ?_ _ | refine blk_drew ?_ | refine blk_alloc ?_ _)); exact BK214.out⟩, ⟨by (with_reducible repeat (first | refine blk_drewN ?_ _ | refine blk_drew ?_ | refine blk_alloc ?_ _)); refine blk_far ?_ NB215_224.out _; (with_reducible repeat (first | refine blk_drewN ?_ _ | refine blk_drew ?_ | refine blk_alloc ?_ _)); refine blk_far ?_ NB215_224.out _; (with_reducible repeat (first | refine blk_drewN ?_ _ | refine blk_drew ?_ | refine blk_alloc ?_ _)); exact BK215.out⟩, ⟨by (with_reducible repeat (first | refine blk_drewN ?_ _ | refine blk_drew ?_ | refine blk_alloc ?_ _)); refine blk_far ?_ NB216_224.out _; (with_reducible repeat (first | refine blk_drewN ?_ _ | refine blk_drew ?_ | refine blk_alloc ?_ _)); refine blk_far ?_ NB216_224.out _; (with_reducible repeat (first | refine blk_drewN ?_ _ | refine blk_drew ?_ | refine blk_alloc ?_ _)); exact BK216.out⟩, ⟨by (with_reducible repeat (first | refine blk_drewN ?_ _ | refine blk_drew ?_ | refine blk_alloc ?_ _)); refine blk_far ?_ NB217_224.out _; (with_reducible repeat (first | refine blk_drewN ?_ _ | refine blk_drew ?_ | refine blk_alloc ?_ _)); refine blk_far ?_ NB217_224.out _; (with_reducible repeat (first | refine blk_drewN ?_ _ | refine blk_drew ?_ | refine blk_alloc ?_ _)); exact BK217.out⟩, ⟨by (with_reducible repeat (first | refine blk_drewN ?_ _ | refine blk_drew ?_ | refine blk_alloc ?_ _)); refine blk_far ?_ NB218_224.out _; (with_reducible repeat (first | refine blk_drewN ?_ _ | refine blk_drew ?_ | refine blk_alloc ?_ _)); refine blk_far ?_ NB218_224.out _; (with_reducible repeat (first | refine blk_drewN ?_ _ | refine blk_drew ?_ | refine blk_alloc ?_ _)); exact BK218.out⟩, ⟨by (with_reducible repeat (first | refine blk_drewN ?_ _ | refine blk_drew ?_ | refine blk_alloc ?_ _)); refine blk_far ?_ NB219_224.out _; (with_reducible repeat (first | refine blk_drewN ?_ _ | refine blk_drew ?_ | refine blk_alloc ?_ _)); refine blk_far ?_ NB219_224.out _; (with_reducible repeat (first | refine blk_drewN ?_ _ | refine blk_drew ?_ | refine blk_alloc ?_ _)); exact BK219.out⟩, ⟨by (with_reducible repeat (first | refine blk_drewN ?_ _ | refine blk_drew ?_ | refine blk_alloc ?_ _)); refine blk_put (cs := #[.int .i64 t226, .int .u64 (IntKind.u64.wrap (Int.tdiv x219001_2 x220001_35))]) ?_ 1 _ rfl; (with_reducible repeat (first | refine blk_drewN ?_ _ | refine blk_drew ?_ | refine blk_alloc ?_ _)); refine blk_put (cs := #[.int .i64 0, .int .u64 (IntKind.u64.wrap (Int.tdiv x219001_2 x220001_35))]) ?_ 0 _ rfl; (with_reducible repeat (first | refine blk_drewN ?_ _ | refine blk_drew ?_ | refine blk_alloc ?_ _)); exact BK224.out⟩, ⟨by (with_reducible repeat (first | refine blk_drewN ?_ _ | refine blk_drew ?_ | refine blk_alloc ?_ _)); refine blk_far ?_ NB225_224.out _; (with_reducible repeat (first | refine blk_drewN ?_ _ | refine blk_drew ?_ | refine blk_alloc ?_ _)); refine blk_far ?_ NB225_224.out _; (with_reducible repeat (first | refine blk_drewN ?_ _ | refine blk_drew ?_ | refine blk_alloc ?_ _)); exact BK225.out⟩, ⟨by repeat (with_reducible first | exact HB.out | apply below_alloc | apply pw_below_drewN | apply below_drew1 | refine below_set ?_ GE214.out | refine below_set ?_ GE215.out | refine below_set ?_ GE216.out | refine below_set ?_ GE217.out | refine below_set ?_ GE218.out | refine below_set ?_ GE219.out | refine below_set ?_ GE224.out | refine below_set ?_ GE225.out)⟩⟩
      case rest =>
       clear HC58
       try clear p2
       try clear c4
       try clear c6
       try clear c7
       try clear c8
       try clear c9
       try clear c46
       try clear c67
       try clear c68
       try clear c69
       try clear c70
       try clear c71
       try clear c72
       try clear c73
       try clear c75
       try clear c76
       try clear c77
       try clear c78
       try clear c79
       try clear c80
       try clear c82
       try clear c82b0
       try clear c82b1
       try clear c84
       try clear c85
       try clear c86
       try clear c87
       try clear c88
       try clear c89
       try clear c90
       try clear hcz74_0
       try clear hcz74_1
       try clear hcz81_0
       try clear hcz81_1
       try clear hcz91_0
       try clear hcz91_1
       try clear hcz93_0
       try clear hcz93_1
       try clear hfz74_0
       try clear hfz74_1
       try clear hfz81_0
       try clear hfz81_1
       try clear hfz91_0
       try clear hfz91_1
       try clear hfz93_0
       try clear hfz93_1
       obtain ⟨kq, x225000_57, x225001_57, HA, HJ57, BK214, BK215, BK216, BK217, BK218, BK219, BK224, BK225, HB⟩ := hcut
       cases kq with
       | zero => exact absurd HA.out (by simp [arith_divided.j2])
       | succ kj57 =>
        have H := HA.out
        clear HA
        simp only [arith_divided.j2] at H
        by_cases c94 : a0_0 < 0
        ·rw [if_pos c94] at H
         have c94b0 : decide (a0_0 < 0) = true := decide_eq_true c94
         clear c94
         replace H := Option.bind_eq_some_iff.mp H
         obtain ⟨⟨t228, t229⟩, A950, H⟩ := H
         replace H : (some (x225000_57, x225001_57, t228, t229)) = some (r1, r2, r3, r4) := H
         have A95 := Aside0.mk A950
         clear A950
         simp only [Option.some.injEq, Prod.mk.injEq] at H
         obtain ⟨rfl, rfl, rfl, rfl⟩ := H
         have hnb96 := NB214_215.out
         have hnc96 := NB215_214.out
         have hnb97 := NB214_216.out
         have hnc97 := NB216_214.out
         have hnb98 := NB214_217.out
         have hnc98 := NB217_214.out
         have hnb99 := NB214_218.out
         have hnc99 := NB218_214.out
         have hnb100 := NB214_219.out
         have hnc100 := NB219_214.out
         have hnb101 := NB214_224.out
         have hnc101 := NB224_214.out
         have hnb102 := NB214_225.out
         have hnc102 := NB225_214.out
         have hcz103_0 : wc.cell? ⟨gb214, 0, none⟩ = some (.int .i64 a0_0) := (blk_cell BK214.out 0).trans rfl
         have hcz103_1 : wc.cell? ⟨gb214, 1, none⟩ = some (.int .u64 a0_1) := (blk_cell BK214.out 1).trans rfl
         have hfz103_0 := blk_frozen BK214.out 0
         have hfz103_1 := blk_frozen BK214.out 1
         have hnb104 := NB225_215.out
         have hnc104 := NB215_225.out
         have hnb105 := NB225_216.out
         have hnc105 := NB216_225.out
         have hnb106 := NB225_217.out
         have hnc106 := NB217_225.out
         have hnb107 := NB225_218.out
         have hnc107 := NB218_225.out
         have hnb108 := NB225_219.out
         have hnc108 := NB219_225.out
         have hnb109 := NB225_224.out
         have hnc109 := NB224_225.out
         have hcz110_0 : wc.cell? ⟨gb225, 0, none⟩ = some (.int .i64 0) := (blk_cell BK225.out 0).trans rfl
         have hcz110_1 : wc.cell? ⟨gb225, 1, none⟩ = some (.int .u64 (Int.tmod x219001_2 x220001_35)) := (blk_cell BK225.out 1).trans rfl
         have hfz110_0 := blk_frozen BK225.out 0
         have hfz110_1 := blk_frozen BK225.out 1
         try go_wp2_with (first | ((with_reducible refine gate_callee (f := 46) rfl ?_); refine goesL_ (some 45) rfl rfl Tryd.func46 (by kernel_rfl) rfl #[.agg #[.int .i64 0, .int .u64 (Int.tmod x219001_2 x220001_35)]] rfl (by (try simp only [List.map_toArray, List.map_cons, List.map_nil]); first | done | rfl | (simp only [List.length_drop, List.length_take]; rfl)) ?_; (with_reducible refine (arith_wide_neg.calls 0 (Int.tmod x219001_2 x220001_35) t228 t229 _ A95.out).mono ?_); rintro e w111 ⟨rfl, hb⟩; refine ⟨_, rfl, ?_⟩; have n0_ := Aside0.mk (blk_below (g := gb214) (o := .cells #[.int .i64 a0_0, .int .u64 a0_1] 71 (0, 0)) (by (with_reducible repeat (first | refine blk_drewN ?_ _ | refine blk_drew ?_ | refine blk_alloc ?_ _)); exact BK214.out) hb); have n1_ := Aside0.mk (blk_below (g := gb215) (o := .cells #[.int .i64 a1_0, .int .u64 a1_1] 71 (0, 0)) (by (with_reducible repeat (first | refine blk_drewN ?_ _ | refine blk_drew ?_ | refine blk_alloc ?_ _)); exact BK215.out) hb); have n2_ := Aside0.mk (blk_below (g := gb216) (o := .cells #[.int .i64 0, .int .u64 0] 71 (0, 0)) (by (with_reducible repeat (first | refine blk_drewN ?_ _ | refine blk_drew ?_ | refine blk_alloc ?_ _)); exact BK216.out) hb); have n3_ := Aside0.mk (blk_below (g := gb217) (o := .cells #[.int .i64 0, .int .u64 0] 71 (0, 0)) (by (with_reducible repeat (first | refine blk_drewN ?_ _ | refine blk_drew ?_ | refine blk_alloc ?_ _)); exact BK217.out) hb); have n4_ := Aside0.mk (blk_below (g := gb218) (o := .cells #[.int .i64 x219000_2, .int .u64 x219001_2] 71 (0, 0)) (by (with_reducible repeat (first | refine blk_drewN ?_ _ | refine blk_drew ?_ | refine blk_alloc ?_ _)); exact BK218.out) hb); have n5_ := Aside0.mk (blk_below (g := gb219) (o := .cells #[.int .i64 x220000_35, .int .u64 x220001_35] 71 (0, 0)) (by (with_reducible repeat (first | refine blk_drewN ?_ _ | refine blk_drew ?_ | refine blk_alloc ?_ _)); exact BK219.out) hb); have n6_ := Aside0.mk (blk_below (g := gb224) (o := .cells #[.int .i64 x225000_57, .int .u64 x225001_57] 71 (0, 0)) (by (with_reducible repeat (first | refine blk_drewN ?_ _ | refine blk_drew ?_ | refine blk_alloc ?_ _)); exact BK224.out) hb); have n7_ := Aside0.mk (blk_below (g := gb225) (o := .cells #[.int .i64 0, .int .u64 (Int.tmod x219001_2 x220001_35)] 71 (0, 0)) (by (with_reducible repeat (first | refine blk_drewN ?_ _ | refine blk_drew ?_ | refine blk_alloc ?_ _)); exact BK225.out) hb); have n8_ := Aside0.mk (below_step (by repeat (with_reducible first | exact HB.out | apply below_alloc | apply pw_below_drewN | apply below_drew1 | refine below_set ?_ GE214.out | refine below_set ?_ GE215.out | refine below_set ?_ GE216.out | refine below_set ?_ GE217.out | refine below_set ?_ GE218.out | refine below_set ?_ GE219.out | refine below_set ?_ GE224.out | refine below_set ?_ GE225.out)) hb); clear BK214; clear BK215; clear BK216; clear BK217; clear BK218; clear BK219; clear BK224; clear BK225; clear HB; have BK214 := n0_; have BK215 := n1_; have BK216 := n2_; have BK217 := n3_; have BK218 := n4_; have BK219 := n5_; have BK224 := n6_; have BK225 := n7_; have HB := n8_; clear n0_ n1_ n2_ n3_ n4_ n5_ n6_ n7_ n8_; (try clear hb); (try clear hb2); (try clear hk); (try clear hi); have hcz112_0 : w111.cell? ⟨gb225, 0, none⟩ = some (.int .i64 0) := (blk_cell BK225.out 0).trans rfl; have hcz112_1 : w111.cell? ⟨gb225, 1, none⟩ = some (.int .u64 (Int.tmod x219001_2 x220001_35)) := (blk_cell BK225.out 1).trans rfl; have hfz112_0 := blk_frozen BK225.out 0; have hfz112_1 := blk_frozen BK225.out 1))
         have n0_ : Aside0 (((w111.setCell ⟨gb225, 0, none⟩ (.int .i64 t228)).setCell ⟨gb225, 1, none⟩ (.int .u64 t229)).heap[gb214]? = some (.cells #[.int .i64 a0_0, .int .u64 a0_1] 71 (0, 0))) := ⟨by (with_reducible repeat (first | refine blk_drewN ?_ _ | refine blk_drew ?_ | refine blk_alloc ?_ _)); refine blk_far ?_ NB214_225.out _; (with_reducible repeat (first | refine blk_drewN ?_ _ | refine blk_drew ?_ | refine blk_alloc ?_ _)); refine blk_far ?_ NB214_225.out _; (with_reducible repeat (first | refine blk_drewN ?_ _ | refine blk_drew ?_ | refine blk_alloc ?_ _)); exact BK214.out⟩
         have n1_ : Aside0 (((w111.setCell ⟨gb225, 0, none⟩ (.int .i64 t228)).setCell ⟨gb225, 1, none⟩ (.int .u64 t229)).heap[gb215]? = some (.cells #[.int .i64 a1_0, .int .u64 a1_1] 71 (0, 0))) := ⟨by (with_reducible repeat (first | refine blk_drewN ?_ _ | refine blk_drew ?_ | refine blk_alloc ?_ _)); refine blk_far ?_ NB215_225.out _; (with_reducible repeat (first | refine blk_drewN ?_ _ | refine blk_drew ?_ | refine blk_alloc ?_ _)); refine blk_far ?_ NB215_225.out _; (with_reducible repeat (first | refine blk_drewN ?_ _ | refine blk_drew ?_ | refine blk_alloc ?_ _)); exact BK215.out⟩
         have n2_ : Aside0 (((w111.setCell ⟨gb225, 0, none⟩ (.int .i64 t228)).setCell ⟨gb225, 1, none⟩ (.int .u64 t229)).heap[gb216]? = some (.cells #[.int .i64 0, .int .u64 0] 71 (0, 0))) := ⟨by (with_reducible repeat (first | refine blk_drewN ?_ _ | refine blk_drew ?_ | refine blk_alloc ?_ _)); refine blk_far ?_ NB216_225.out _; (with_reducible repeat (first | refine blk_drewN ?_ _ | refine blk_drew ?_ | refine blk_alloc ?_ _)); refine blk_far ?_ NB216_225.out _; (with_reducible repeat (first | refine blk_drewN ?_ _ | refine blk_drew ?_ | refine blk_alloc ?_ _)); exact BK216.out⟩
         have n3_ : Aside0 (((w111.setCell ⟨gb225, 0, none⟩ (.int .i64 t228)).setCell ⟨gb225, 1, none⟩ (.int .u64 t229)).heap[gb217]? = some (.cells #[.int .i64 0, .int .u64 0] 71 (0, 0))) := ⟨by (with_reducible repeat (first | refine blk_drewN ?_ _ | refine blk_drew ?_ | refine blk_alloc ?_ _)); refine blk_far ?_ NB217_225.out _; (with_reducible repeat (first | refine blk_drewN ?_ _ | refine blk_drew ?_ | refine blk_alloc ?_ _)); refine blk_far ?_ NB217_225.out _; (with_reducible repeat (first | refine blk_drewN ?_ _ | refine blk_drew ?_ | refine blk_alloc ?_ _)); exact BK217.out⟩
         have n4_ : Aside0 (((w111.setCell ⟨gb225, 0, none⟩ (.int .i64 t228)).setCell ⟨gb225, 1, none⟩ (.int .u64 t229)).heap[gb218]? = some (.cells #[.int .i64 x219000_2, .int .u64 x219001_2] 71 (0, 0))) := ⟨by (with_reducible repeat (first | refine blk_drewN ?_ _ | refine blk_drew ?_ | refine blk_alloc ?_ _)); refine blk_far ?_ NB218_225.out _; (with_reducible repeat (first | refine blk_drewN ?_ _ | refine blk_drew ?_ | refine blk_alloc ?_ _)); refine blk_far ?_ NB218_225.out _; (with_reducible repeat (first | refine blk_drewN ?_ _ | refine blk_drew ?_ | refine blk_alloc ?_ _)); exact BK218.out⟩
         have n5_ : Aside0 (((w111.setCell ⟨gb225, 0, none⟩ (.int .i64 t228)).setCell ⟨gb225, 1, none⟩ (.int .u64 t229)).heap[gb219]? = some (.cells #[.int .i64 x220000_35, .int .u64 x220001_35] 71 (0, 0))) := ⟨by (with_reducible repeat (first | refine blk_drewN ?_ _ | refine blk_drew ?_ | refine blk_alloc ?_ _)); refine blk_far ?_ NB219_225.out _; (with_reducible repeat (first | refine blk_drewN ?_ _ | refine blk_drew ?_ | refine blk_alloc ?_ _)); refine blk_far ?_ NB219_225.out _; (with_reducible repeat (first | refine blk_drewN ?_ _ | refine blk_drew ?_ | refine blk_alloc ?_ _)); exact BK219.out⟩
         have n6_ : Aside0 (((w111.setCell ⟨gb225, 0, none⟩ (.int .i64 t228)).setCell ⟨gb225, 1, none⟩ (.int .u64 t229)).heap[gb224]? = some (.cells #[.int .i64 x225000_57, .int .u64 x225001_57] 71 (0, 0))) := ⟨by (with_reducible repeat (first | refine blk_drewN ?_ _ | refine blk_drew ?_ | refine blk_alloc ?_ _)); refine blk_far ?_ NB224_225.out _; (with_reducible repeat (first | refine blk_drewN ?_ _ | refine blk_drew ?_ | refine blk_alloc ?_ _)); refine blk_far ?_ NB224_225.out _; (with_reducible repeat (first | refine blk_drewN ?_ _ | refine blk_drew ?_ | refine blk_alloc ?_ _)); exact BK224.out⟩
         have n7_ : Aside0 (((w111.setCell ⟨gb225, 0, none⟩ (.int .i64 t228)).setCell ⟨gb225, 1, none⟩ (.int .u64 t229)).heap[gb225]? = some (.cells #[.int .i64 t228, .int .u64 t229] 71 (0, 0))) := ⟨by (with_reducible repeat (first | refine blk_drewN ?_ _ | refine blk_drew ?_ | refine blk_alloc ?_ _)); refine blk_put (cs := #[.int .i64 t228, .int .u64 (Int.tmod x219001_2 x220001_35)]) ?_ 1 _ rfl; (with_reducible repeat (first | refine blk_drewN ?_ _ | refine blk_drew ?_ | refine blk_alloc ?_ _)); refine blk_put (cs := #[.int .i64 0, .int .u64 (Int.tmod x219001_2 x220001_35)]) ?_ 0 _ rfl; (with_reducible repeat (first | refine blk_drewN ?_ _ | refine blk_drew ?_ | refine blk_alloc ?_ _)); exact BK225.out⟩
         have n8_ : Aside0 (Below w.heap.size w ((w111.setCell ⟨gb225, 0, none⟩ (.int .i64 t228)).setCell ⟨gb225, 1, none⟩ (.int .u64 t229))) := ⟨by repeat (with_reducible first | exact HB.out | apply below_alloc | apply pw_below_drewN | apply below_drew1 | refine below_set ?_ GE214.out | refine below_set ?_ GE215.out | refine below_set ?_ GE216.out | refine below_set ?_ GE217.out | refine below_set ?_ GE218.out | refine below_set ?_ GE219.out | refine below_set ?_ GE224.out | refine below_set ?_ GE225.out)⟩
         (try clear BK214)
         (try clear BK215)
         (try clear BK216)
         (try clear BK217)
         (try clear BK218)
         (try clear BK219)
         (try clear BK224)
         (try clear BK225)
         (try clear HB)
         generalize ((w111.setCell ⟨gb225, 0, none⟩ (.int .i64 t228)).setCell ⟨gb225, 1, none⟩ (.int .u64 t229)) = w113 at n0_ n1_ n2_ n3_ n4_ n5_ n6_ n7_ n8_ ⊢
         have BK214 := n0_
         have BK215 := n1_
         have BK216 := n2_
         have BK217 := n3_
         have BK218 := n4_
         have BK219 := n5_
         have BK224 := n6_
         have BK225 := n7_
         have HB := n8_
         clear n0_ n1_ n2_ n3_ n4_ n5_ n6_ n7_ n8_
         have n0_ := Aside0.mk (blk_drew BK214.out)
         have n1_ := Aside0.mk (blk_drew BK215.out)
         have n2_ := Aside0.mk (blk_drew BK216.out)
         have n3_ := Aside0.mk (blk_drew BK217.out)
         have n4_ := Aside0.mk (blk_drew BK218.out)
         have n5_ := Aside0.mk (blk_drew BK219.out)
         have n6_ := Aside0.mk (blk_drew BK224.out)
         have n7_ := Aside0.mk (blk_drew BK225.out)
         have n8_ := Aside0.mk (below_drew1 HB.out)
         clear BK214
         clear BK215
         clear BK216
         clear BK217
         clear BK218
         clear BK219
         clear BK224
         clear BK225
         clear HB
         have BK214 := n0_
         have BK215 := n1_
         have BK216 := n2_
         have BK217 := n3_
         have BK218 := n4_
         have BK219 := n5_
         have BK224 := n6_
         have BK225 := n7_
         have HB := n8_
         clear n0_ n1_ n2_ n3_ n4_ n5_ n6_ n7_ n8_
         refine start_ (n := 4) (S := fun w' => w'.cell? ⟨gb224, 0, none⟩ = some (.int .i64 x225000_57) ∧ w'.cell? ⟨gb224, 1, none⟩ = some (.int .u64 x225001_57) ∧ w'.cell? ⟨gb225, 0, none⟩ = some (.int .i64 t228) ∧ w'.cell? ⟨gb225, 1, none⟩ = some (.int .u64 t229)) (ds := []) #[false, false, false, false] (by kernel_rfl) rfl rfl ⟨(blk_cell BK224.out 0).trans rfl, (blk_cell BK224.out 1).trans rfl, (blk_cell BK225.out 0).trans rfl, (blk_cell BK225.out 1).trans rfl⟩ (fun hHeld => ?_)
         generalize w113.drew = w114 at BK214 BK215 BK216 BK217 BK218 BK219 BK224 BK225 HB hHeld ⊢
         refine take_ (i := 0) (N := some 46) (v := ?_) (a' := ?_) #[true, false, false, false] rfl rfl (by kernel_rfl) (fun _ _ _ h => h) (Or.inl ⟨by rfl, ?_⟩) hHeld ?_ ?_
         rotate_left
         ·rintro w' ⟨s0, s1, s2, s3⟩
          go_simp
          with_reducible rfl
         rotate_left
         ·simp only [Act.put, List.setIfInBounds_toArray, List.set_cons_zero, List.set_cons_succ, i64_w, i32_w]
          rfl
         refine take_ (i := 1) (N := some 47) (v := ?_) (a' := ?_) #[true, true, false, false] rfl rfl (by kernel_rfl) (fun _ _ _ h => h) (Or.inl ⟨by rfl, ?_⟩) hHeld ?_ ?_
         rotate_left
         ·rintro w' ⟨s0, s1, s2, s3⟩
          go_simp
          with_reducible rfl
         rotate_left
         ·simp only [Act.put, List.setIfInBounds_toArray, List.set_cons_zero, List.set_cons_succ, i64_w, i32_w]
          rfl
         refine one_ (i := 2) (N := none) #[true, true, true, false] rfl rfl (by kernel_rfl) (by decide) (fun K hK => ?_)
         have hs115 : w114.cell? ⟨gb216, 0, none⟩ = some (.int .i64 0) := (blk_cell BK216.out 0).trans rfl
         have hfs115 := blk_frozen BK216.out 0
         have hns115_0 := NB214_216.out
         have hns115_1 := NB215_216.out
         have hns115_3 := NB217_216.out
         have hns115_4 := NB218_216.out
         have hns115_5 := NB219_216.out
         have hns115_6 := NB224_216.out
         have hns115_7 := NB225_216.out
         have hms115_0 := NB216_214.out
         have hms115_1 := NB216_215.out
         have hms115_3 := NB216_217.out
         have hms115_4 := NB216_218.out
         have hms115_5 := NB216_219.out
         have hms115_6 := NB216_224.out
         have hms115_7 := NB216_225.out
         have hs116 : w114.cell? ⟨gb216, 1, none⟩ = some (.int .u64 0) := (blk_cell BK216.out 1).trans rfl
         have hfs116 := blk_frozen BK216.out 1
         have hns116_0 := NB214_216.out
         have hns116_1 := NB215_216.out
         have hns116_3 := NB217_216.out
         have hns116_4 := NB218_216.out
         have hns116_5 := NB219_216.out
         have hns116_6 := NB224_216.out
         have hns116_7 := NB225_216.out
         have hms116_0 := NB216_214.out
         have hms116_1 := NB216_215.out
         have hms116_3 := NB216_217.out
         have hms116_4 := NB216_218.out
         have hms116_5 := NB216_219.out
         have hms116_6 := NB216_224.out
         have hms116_7 := NB216_225.out
         refine skip_ (w1 := ?_) (by rfl) rfl ?_ ?_
         rotate_left
         ·go_simp
          rfl
         refine hK.out _ _ ⟨((cell_far (p := ⟨gb216, _, none⟩) NB224_216.out _).trans (((cell_far (p := ⟨gb216, _, none⟩) NB224_216.out _).trans (hHeld.1)))), ((cell_far (p := ⟨gb216, _, none⟩) NB224_216.out _).trans (((cell_far (p := ⟨gb216, _, none⟩) NB224_216.out _).trans (hHeld.2.1)))), ((cell_far (p := ⟨gb216, _, none⟩) NB225_216.out _).trans (((cell_far (p := ⟨gb216, _, none⟩) NB225_216.out _).trans (hHeld.2.2.1)))), ((cell_far (p := ⟨gb216, _, none⟩) NB225_216.out _).trans (((cell_far (p := ⟨gb216, _, none⟩) NB225_216.out _).trans (hHeld.2.2.2))))⟩ (fun hHeld => ?_)
         clear hK K
         refine one_ (i := 3) (N := none) #[true, true, true, true] rfl rfl (by kernel_rfl) (by decide) (fun K hK => ?_)
         have hs117 : w114.cell? ⟨gb217, 0, none⟩ = some (.int .i64 0) := (blk_cell BK217.out 0).trans rfl
         have hfs117 := blk_frozen BK217.out 0
         have hns117_0 := NB214_217.out
         have hns117_1 := NB215_217.out
         have hns117_2 := NB216_217.out
         have hns117_4 := NB218_217.out
         have hns117_5 := NB219_217.out
         have hns117_6 := NB224_217.out
         have hns117_7 := NB225_217.out
         have hms117_0 := NB217_214.out
         have hms117_1 := NB217_215.out
         have hms117_2 := NB217_216.out
         have hms117_4 := NB217_218.out
         have hms117_5 := NB217_219.out
         have hms117_6 := NB217_224.out
         have hms117_7 := NB217_225.out
         have hs118 : w114.cell? ⟨gb217, 1, none⟩ = some (.int .u64 0) := (blk_cell BK217.out 1).trans rfl
         have hfs118 := blk_frozen BK217.out 1
         have hns118_0 := NB214_217.out
         have hns118_1 := NB215_217.out
         have hns118_2 := NB216_217.out
         have hns118_4 := NB218_217.out
         have hns118_5 := NB219_217.out
         have hns118_6 := NB224_217.out
         have hns118_7 := NB225_217.out
         have hms118_0 := NB217_214.out
         have hms118_1 := NB217_215.out
         have hms118_2 := NB217_216.out
         have hms118_4 := NB217_218.out
         have hms118_5 := NB217_219.out
         have hms118_6 := NB217_224.out
         have hms118_7 := NB217_225.out
         refine skip_ (w1 := ?_) (by rfl) rfl ?_ ?_
         rotate_left
         ·go_simp
          rfl
         refine hK.out _ _ ⟨((cell_far (p := ⟨gb217, _, none⟩) NB224_217.out _).trans (((cell_far (p := ⟨gb217, _, none⟩) NB224_217.out _).trans (hHeld.1)))), ((cell_far (p := ⟨gb217, _, none⟩) NB224_217.out _).trans (((cell_far (p := ⟨gb217, _, none⟩) NB224_217.out _).trans (hHeld.2.1)))), ((cell_far (p := ⟨gb217, _, none⟩) NB225_217.out _).trans (((cell_far (p := ⟨gb217, _, none⟩) NB225_217.out _).trans (hHeld.2.2.1)))), ((cell_far (p := ⟨gb217, _, none⟩) NB225_217.out _).trans (((cell_far (p := ⟨gb217, _, none⟩) NB225_217.out _).trans (hHeld.2.2.2))))⟩ (fun hHeld => ?_)
         clear hK K
         refine done_ (by kernel_rfl) ?_
         try go_wp2
         refine bodyPost_ret (results_cc rfl _ _ gb216 gb217 71 71 #[.int .i64 x225000_57, .int .u64 x225001_57] #[.int .i64 t228, .int .u64 t229] (0, 0) (0, 0) _ _ rfl (by (with_reducible repeat (first | refine blk_drewN ?_ _ | refine blk_drew ?_ | refine blk_alloc ?_ _)); refine blk_far ?_ NB216_217.out _; (with_reducible repeat (first | refine blk_drewN ?_ _ | refine blk_drew ?_ | refine blk_alloc ?_ _)); refine blk_far ?_ NB216_217.out _; (with_reducible repeat (first | refine blk_drewN ?_ _ | refine blk_drew ?_ | refine blk_alloc ?_ _)); refine blk_put (cs := #[.int .i64 x225000_57, .int .u64 0]) ?_ 1 _ rfl; (with_reducible repeat (first | refine blk_drewN ?_ _ | refine blk_drew ?_ | refine blk_alloc ?_ _)); refine blk_put (cs := #[.int .i64 0, .int .u64 0]) ?_ 0 _ rfl; (with_reducible repeat (first | refine blk_drewN ?_ _ | refine blk_drew ?_ | refine blk_alloc ?_ _)); exact BK216.out) Tryd.underlying71 rfl (by kernel_rfl) rfl (by (with_reducible repeat (first | refine blk_drewN ?_ _ | refine blk_drew ?_ | refine blk_alloc ?_ _)); refine blk_put (cs := #[.int .i64 t228, .int .u64 0]) ?_ 1 _ rfl; (with_reducible repeat (first | refine blk_drewN ?_ _ | refine blk_drew ?_ | refine blk_alloc ?_ _)); refine blk_put (cs := #[.int .i64 0, .int .u64 0]) ?_ 0 _ rfl; (with_reducible repeat (first | refine blk_drewN ?_ _ | refine blk_drew ?_ | refine blk_alloc ?_ _)); refine blk_far ?_ NB217_216.out _; (with_reducible repeat (first | refine blk_drewN ?_ _ | refine blk_drew ?_ | refine blk_alloc ?_ _)); refine blk_far ?_ NB217_216.out _; (with_reducible repeat (first | refine blk_drewN ?_ _ | refine blk_drew ?_ | refine blk_alloc ?_ _)); exact BK217.out) Tryd.underlying71 rfl (by kernel_rfl)) rfl ?_
         exact ⟨by first | rfl | (simp [errW_none, errW_some] <;> rfl) | (simp [*, errW_none, errW_some] <;> rfl), by repeat (with_reducible first | exact HB.out | apply below_alloc | apply pw_below_drewN | apply below_drew1 | refine below_set ?_ GE214.out | refine below_set ?_ GE215.out | refine below_set ?_ GE216.out | refine below_set ?_ GE217.out | refine below_set ?_ GE218.out | refine below_set ?_ GE219.out | refine below_set ?_ GE224.out | refine below_set ?_ GE225.out)⟩
        ·rw [if_neg c94] at H
         have c94b0 : decide (a0_0 < 0) = false := decide_eq_false c94
         clear c94
         simp only [Option.some.injEq, Prod.mk.injEq] at H
         obtain ⟨rfl, rfl, rfl, rfl⟩ := H
         have hnb119 := NB214_215.out
         have hnc119 := NB215_214.out
         have hnb120 := NB214_216.out
         have hnc120 := NB216_214.out
         have hnb121 := NB214_217.out
         have hnc121 := NB217_214.out
         have hnb122 := NB214_218.out
         have hnc122 := NB218_214.out
         have hnb123 := NB214_219.out
         have hnc123 := NB219_214.out
         have hnb124 := NB214_224.out
         have hnc124 := NB224_214.out
         have hnb125 := NB214_225.out
         have hnc125 := NB225_214.out
         have hcz126_0 : wc.cell? ⟨gb214, 0, none⟩ = some (.int .i64 a0_0) := (blk_cell BK214.out 0).trans rfl
         have hcz126_1 : wc.cell? ⟨gb214, 1, none⟩ = some (.int .u64 a0_1) := (blk_cell BK214.out 1).trans rfl
         have hfz126_0 := blk_frozen BK214.out 0
         have hfz126_1 := blk_frozen BK214.out 1
         try go_wp2
         have n0_ := Aside0.mk (blk_drew BK214.out)
         have n1_ := Aside0.mk (blk_drew BK215.out)
         have n2_ := Aside0.mk (blk_drew BK216.out)
         have n3_ := Aside0.mk (blk_drew BK217.out)
         have n4_ := Aside0.mk (blk_drew BK218.out)
         have n5_ := Aside0.mk (blk_drew BK219.out)
         have n6_ := Aside0.mk (blk_drew BK224.out)
         have n7_ := Aside0.mk (blk_drew BK225.out)
         have n8_ := Aside0.mk (below_drew1 HB.out)
         clear BK214
         clear BK215
         clear BK216
         clear BK217
         clear BK218
         clear BK219
         clear BK224
         clear BK225
         clear HB
         have BK214 := n0_
         have BK215 := n1_
         have BK216 := n2_
         have BK217 := n3_
         have BK218 := n4_
         have BK219 := n5_
         have BK224 := n6_
         have BK225 := n7_
         have HB := n8_
         clear n0_ n1_ n2_ n3_ n4_ n5_ n6_ n7_ n8_
         refine start_ (n := 4) (S := fun w' => w'.cell? ⟨gb224, 0, none⟩ = some (.int .i64 x225000_57) ∧ w'.cell? ⟨gb224, 1, none⟩ = some (.int .u64 x225001_57) ∧ w'.cell? ⟨gb225, 0, none⟩ = some (.int .i64 0) ∧ w'.cell? ⟨gb225, 1, none⟩ = some (.int .u64 (Int.tmod x219001_2 x220001_35))) (ds := []) #[false, false, false, false] (by kernel_rfl) rfl rfl ⟨(blk_cell BK224.out 0).trans rfl, (blk_cell BK224.out 1).trans rfl, (blk_cell BK225.out 0).trans rfl, (blk_cell BK225.out 1).trans rfl⟩ (fun hHeld => ?_)
         generalize wc.drew = w127 at BK214 BK215 BK216 BK217 BK218 BK219 BK224 BK225 HB hHeld ⊢
         refine take_ (i := 0) (N := some 46) (v := ?_) (a' := ?_) #[true, false, false, false] rfl rfl (by kernel_rfl) (fun _ _ _ h => h) (Or.inl ⟨by rfl, ?_⟩) hHeld ?_ ?_
         rotate_left
         ·rintro w' ⟨s0, s1, s2, s3⟩
          go_simp
          with_reducible rfl
         rotate_left
         ·simp only [Act.put, List.setIfInBounds_toArray, List.set_cons_zero, List.set_cons_succ, i64_w, i32_w]
          rfl
         refine take_ (i := 1) (N := some 47) (v := ?_) (a' := ?_) #[true, true, false, false] rfl rfl (by kernel_rfl) (fun _ _ _ h => h) (Or.inl ⟨by rfl, ?_⟩) hHeld ?_ ?_
         rotate_left
         ·rintro w' ⟨s0, s1, s2, s3⟩
          go_simp
          with_reducible rfl
         rotate_left
         ·simp only [Act.put, List.setIfInBounds_toArray, List.set_cons_zero, List.set_cons_succ, i64_w, i32_w]
          rfl
         refine one_ (i := 2) (N := none) #[true, true, true, false] rfl rfl (by kernel_rfl) (by decide) (fun K hK => ?_)
         have hs128 : w127.cell? ⟨gb216, 0, none⟩ = some (.int .i64 0) := (blk_cell BK216.out 0).trans rfl
         have hfs128 := blk_frozen BK216.out 0
         have hns128_0 := NB214_216.out
         have hns128_1 := NB215_216.out
         have hns128_3 := NB217_216.out
         have hns128_4 := NB218_216.out
         have hns128_5 := NB219_216.out
         have hns128_6 := NB224_216.out
         have hns128_7 := NB225_216.out
         have hms128_0 := NB216_214.out
         have hms128_1 := NB216_215.out
         have hms128_3 := NB216_217.out
         have hms128_4 := NB216_218.out
         have hms128_5 := NB216_219.out
         have hms128_6 := NB216_224.out
         have hms128_7 := NB216_225.out
         have hs129 : w127.cell? ⟨gb216, 1, none⟩ = some (.int .u64 0) := (blk_cell BK216.out 1).trans rfl
         have hfs129 := blk_frozen BK216.out 1
         have hns129_0 := NB214_216.out
         have hns129_1 := NB215_216.out
         have hns129_3 := NB217_216.out
         have hns129_4 := NB218_216.out
         have hns129_5 := NB219_216.out
         have hns129_6 := NB224_216.out
         have hns129_7 := NB225_216.out
         have hms129_0 := NB216_214.out
         have hms129_1 := NB216_215.out
         have hms129_3 := NB216_217.out
         have hms129_4 := NB216_218.out
         have hms129_5 := NB216_219.out
         have hms129_6 := NB216_224.out
         have hms129_7 := NB216_225.out
         refine skip_ (w1 := ?_) (by rfl) rfl ?_ ?_
         rotate_left
         ·go_simp
          rfl
         refine hK.out _ _ ⟨((cell_far (p := ⟨gb216, _, none⟩) NB224_216.out _).trans (((cell_far (p := ⟨gb216, _, none⟩) NB224_216.out _).trans (hHeld.1)))), ((cell_far (p := ⟨gb216, _, none⟩) NB224_216.out _).trans (((cell_far (p := ⟨gb216, _, none⟩) NB224_216.out _).trans (hHeld.2.1)))), ((cell_far (p := ⟨gb216, _, none⟩) NB225_216.out _).trans (((cell_far (p := ⟨gb216, _, none⟩) NB225_216.out _).trans (hHeld.2.2.1)))), ((cell_far (p := ⟨gb216, _, none⟩) NB225_216.out _).trans (((cell_far (p := ⟨gb216, _, none⟩) NB225_216.out _).trans (hHeld.2.2.2))))⟩ (fun hHeld => ?_)
         clear hK K
         refine one_ (i := 3) (N := none) #[true, true, true, true] rfl rfl (by kernel_rfl) (by decide) (fun K hK => ?_)
         have hs130 : w127.cell? ⟨gb217, 0, none⟩ = some (.int .i64 0) := (blk_cell BK217.out 0).trans rfl
         have hfs130 := blk_frozen BK217.out 0
         have hns130_0 := NB214_217.out
         have hns130_1 := NB215_217.out
         have hns130_2 := NB216_217.out
         have hns130_4 := NB218_217.out
         have hns130_5 := NB219_217.out
         have hns130_6 := NB224_217.out
         have hns130_7 := NB225_217.out
         have hms130_0 := NB217_214.out
         have hms130_1 := NB217_215.out
         have hms130_2 := NB217_216.out
         have hms130_4 := NB217_218.out
         have hms130_5 := NB217_219.out
         have hms130_6 := NB217_224.out
         have hms130_7 := NB217_225.out
         have hs131 : w127.cell? ⟨gb217, 1, none⟩ = some (.int .u64 0) := (blk_cell BK217.out 1).trans rfl
         have hfs131 := blk_frozen BK217.out 1
         have hns131_0 := NB214_217.out
         have hns131_1 := NB215_217.out
         have hns131_2 := NB216_217.out
         have hns131_4 := NB218_217.out
         have hns131_5 := NB219_217.out
         have hns131_6 := NB224_217.out
         have hns131_7 := NB225_217.out
         have hms131_0 := NB217_214.out
         have hms131_1 := NB217_215.out
         have hms131_2 := NB217_216.out
         have hms131_4 := NB217_218.out
         have hms131_5 := NB217_219.out
         have hms131_6 := NB217_224.out
         have hms131_7 := NB217_225.out
         refine skip_ (w1 := ?_) (by rfl) rfl ?_ ?_
         rotate_left
         ·go_simp
          rfl
         refine hK.out _ _ ⟨((cell_far (p := ⟨gb217, _, none⟩) NB224_217.out _).trans (((cell_far (p := ⟨gb217, _, none⟩) NB224_217.out _).trans (hHeld.1)))), ((cell_far (p := ⟨gb217, _, none⟩) NB224_217.out _).trans (((cell_far (p := ⟨gb217, _, none⟩) NB224_217.out _).trans (hHeld.2.1)))), ((cell_far (p := ⟨gb217, _, none⟩) NB225_217.out _).trans (((cell_far (p := ⟨gb217, _, none⟩) NB225_217.out _).trans (hHeld.2.2.1)))), ((cell_far (p := ⟨gb217, _, none⟩) NB225_217.out _).trans (((cell_far (p := ⟨gb217, _, none⟩) NB225_217.out _).trans (hHeld.2.2.2))))⟩ (fun hHeld => ?_)
         clear hK K
         refine done_ (by kernel_rfl) ?_
         try go_wp2
         refine bodyPost_ret (results_cc rfl _ _ gb216 gb217 71 71 #[.int .i64 x225000_57, .int .u64 x225001_57] #[.int .i64 0, .int .u64 (Int.tmod x219001_2 x220001_35)] (0, 0) (0, 0) _ _ rfl (by (with_reducible repeat (first | refine blk_drewN ?_ _ | refine blk_drew ?_ | refine blk_alloc ?_ _)); refine blk_far ?_ NB216_217.out _; (with_reducible repeat (first | refine blk_drewN ?_ _ | refine blk_drew ?_ | refine blk_alloc ?_ _)); refine blk_far ?_ NB216_217.out _; (with_reducible repeat (first | refine blk_drewN ?_ _ | refine blk_drew ?_ | refine blk_alloc ?_ _)); refine blk_put (cs := #[.int .i64 x225000_57, .int .u64 0]) ?_ 1 _ rfl; (with_reducible repeat (first | refine blk_drewN ?_ _ | refine blk_drew ?_ | refine blk_alloc ?_ _)); refine blk_put (cs := #[.int .i64 0, .int .u64 0]) ?_ 0 _ rfl; (with_reducible repeat (first | refine blk_drewN ?_ _ | refine blk_drew ?_ | refine blk_alloc ?_ _)); exact BK216.out) Tryd.underlying71 rfl (by kernel_rfl) rfl (by (with_reducible repeat (first | refine blk_drewN ?_ _ | refine blk_drew ?_ | refine blk_alloc ?_ _)); refine blk_put (cs := #[.int .i64 0, .int .u64 0]) ?_ 1 _ rfl; (with_reducible repeat (first | refine blk_drewN ?_ _ | refine blk_drew ?_ | refine blk_alloc ?_ _)); refine blk_put (cs := #[.int .i64 0, .int .u64 0]) ?_ 0 _ rfl; (with_reducible repeat (first | refine blk_drewN ?_ _ | refine blk_drew ?_ | refine blk_alloc ?_ _)); refine blk_far ?_ NB217_216.out _; (with_reducible repeat (first | refine blk_drewN ?_ _ | refine blk_drew ?_ | refine blk_alloc ?_ _)); refine blk_far ?_ NB217_216.out _; (with_reducible repeat (first | refine blk_drewN ?_ _ | refine blk_drew ?_ | refine blk_alloc ?_ _)); exact BK217.out) Tryd.underlying71 rfl (by kernel_rfl)) rfl ?_
         exact ⟨by first | rfl | (simp [errW_none, errW_some] <;> rfl) | (simp [*, errW_none, errW_some] <;> rfl), by repeat (with_reducible first | exact HB.out | apply below_alloc | apply pw_below_drewN | apply below_drew1 | refine below_set ?_ GE214.out | refine below_set ?_ GE215.out | refine below_set ?_ GE216.out | refine below_set ?_ GE217.out | refine below_set ?_ GE218.out | refine below_set ?_ GE219.out | refine below_set ?_ GE224.out | refine below_set ?_ GE225.out)⟩
end Go.Proofs.YtgdkkcdmflopjaaDoor.PA
