import Derived.Test.YtgdkkcdmflopjaaDoorA0
import Derived.Test.YtgdkkcdmflopjaaDoorA9
namespace Go.Proofs.YtgdkkcdmflopjaaDoor.PA
open Go.RowKit Go.Proofs.YtgdkkcdmflopjaaDoorX Go.Proofs.YtgdkkcdmflopjaaDoorW.PrintWords Go.Proofs.YtgdkkcdmflopjaaDoorW.PrintLast Go.Proofs.YtgdkkcdmflopjaaDoorW.PrintMore
attribute [local go_sem] max2_int min2_int max_two min_two max_three min_three max_four min_four   -- for this text's walks alone
set_option linter.unusedVariables false
set_option linter.unusedSimpArgs false
def mach_wraps.f (k : Nat) (a0 : Int) (a1 : Int) (a2 : Int) (a3 : Int) : Option (Int) := (arith_Wrap.f k a0 a1 a2 a3).bind fun bt288 => (some bt288.1)
set_option maxHeartbeats 8000000 in
set_option maxRecDepth 100000 in
theorem mach_wraps.calls (k : Nat) (a0 : Int) (a1 : Int) (a2 : Int) (a3 : Int) (r : Int) (w : World) (h : mach_wraps.f k a0 a1 a2 a3 = some r) :
  Calls Tryd.prog 70 #[.int .i64 a0, .int .i64 a1, .int .i64 a2, .int .i64 a3] w fun e w' => e = .returned (.int .i64 r) ∧ Below w.heap.size w w' := by
 have HB := Aside0.mk (Below.refl w.heap.size w)
 have H : ((arith_Wrap.f k a0 a1 a2 a3).bind fun bt288 => (some bt288.1)) = some r := h
 clear h
 replace H := Option.bind_eq_some_iff.mp H
 obtain ⟨⟨t288, t289⟩, A50, H⟩ := H
 replace H : (some t288) = some r := H
 have A5 := Aside0.mk A50
 clear A50
 obtain rfl := Option.some.inj H
 go_enter Tryd.func70, Tryd.ntmps70
 go_wp2_with (first | ((with_reducible refine gate_callee (f := 15) rfl ?_); refine goesL_ (some 16) rfl rfl Tryd.func15 (by kernel_rfl) rfl #[.int .i64 a0, .int .i64 a1, .int .i64 a2, .int .i64 a3] rfl (by (try simp only [List.map_toArray, List.map_cons, List.map_nil]); first | done | rfl | (simp only [List.length_drop, List.length_take]; rfl)) ?_; (with_reducible refine (arith_Wrap.calls k a0 a1 a2 a3 t288 t289 _ A5.out).mono ?_); rintro e w6 ⟨rfl, hb⟩; refine ⟨_, rfl, ?_⟩; have n0_ := Aside0.mk (below_step (by repeat (with_reducible first | exact HB.out | apply below_alloc | apply pw_below_drewN | apply below_drew1)) hb); clear HB; have HB := n0_; clear n0_; (try clear hb); (try clear hb2); (try clear hk); (try clear hi)))
 go_ret
 exact ⟨by first | rfl | (simp [errW_none, errW_some] <;> rfl) | (simp [*, errW_none, errW_some] <;> rfl), by repeat (with_reducible first | exact HB.out | apply below_alloc | apply pw_below_drewN | apply below_drew1)⟩
def burinlaw19_label.f (a0 : ByteArray) : Option (Int × Int × Int × Int × Int × Bool × Int × ByteArray) := some (15, 0, 0, 0, 0, false, 0, a0)
set_option maxHeartbeats 8000000 in
set_option maxRecDepth 100000 in
theorem burinlaw19_label.calls (a0 : ByteArray) (r1 : Int) (r2 : Int) (r3 : Int) (r4 : Int) (r5 : Int) (r6 : Bool) (r7 : Int) (r8 : ByteArray) (w : World) (h : burinlaw19_label.f a0 = some (r1, r2, r3, r4, r5, r6, r7, r8)) :
  Calls Tryd.prog 12 #[.string a0] w fun e w' => e = .returned (.agg #[.int .i64 r1, .int .i64 r2, .int .i64 r3, .int .i64 r4, .int .i64 r5, .bool r6, .int .i64 r7, .string r8]) ∧ Below w.heap.size w w' := by
 have hu35 := Tryd.underlying35
 have HB := Aside0.mk (Below.refl w.heap.size w)
 have H : (some (15, 0, 0, 0, 0, false, 0, a0)) = some (r1, r2, r3, r4, r5, r6, r7, r8) := h
 clear h
 simp only [Option.some.injEq, Prod.mk.injEq] at H
 obtain ⟨rfl, rfl, rfl, rfl, rfl, rfl, rfl, rfl⟩ := H
 go_enter Tryd.func12, Tryd.ntmps12
 go_wp2_with (first | ((with_reducible refine gate_dst (N := 2) rfl ?_); refine box_event ?hg (N := 2) ?hd (cs := #[.int .i64 0, .int .i64 0, .int .i64 0, .int .i64 0, .int .i64 0, .bool false, .int .i64 0, .string (⟨#[]⟩ : ByteArray)]) (t := 35) ?hr ?_; (case hd => rfl); (case hg => rfl); (case hr => first | (go_simp; done) | (go_simp; rfl)); intro gb290 hg w2 hbox hb; have n0_ := Aside0.mk (below_step (by repeat (with_reducible first | exact HB.out | apply below_alloc | apply pw_below_drewN | apply below_drew1)) hb); have n1_ := Aside0.mk (hbox); have n2_ := Aside0.mk ((by rw [hg]; exact (below_size (by repeat (with_reducible first | exact HB.out | apply below_alloc | apply pw_below_drewN | apply below_drew1))) : w.heap.size ≤ gb290)); have n3_ := n2_; clear HB; have HB := n0_; have BK290 := n1_; have GW290 := n2_; have GE290 := n3_; clear n0_ n1_ n2_ n3_; clear hb hbox hg; have hcz3_0 : w2.cell? ⟨gb290, 0, none⟩ = some (.int .i64 0) := (blk_cell BK290.out 0).trans rfl; have hcz3_1 : w2.cell? ⟨gb290, 1, none⟩ = some (.int .i64 0) := (blk_cell BK290.out 1).trans rfl; have hcz3_2 : w2.cell? ⟨gb290, 2, none⟩ = some (.int .i64 0) := (blk_cell BK290.out 2).trans rfl; have hcz3_3 : w2.cell? ⟨gb290, 3, none⟩ = some (.int .i64 0) := (blk_cell BK290.out 3).trans rfl; have hcz3_4 : w2.cell? ⟨gb290, 4, none⟩ = some (.int .i64 0) := (blk_cell BK290.out 4).trans rfl; have hcz3_5 : w2.cell? ⟨gb290, 5, none⟩ = some (.bool false) := (blk_cell BK290.out 5).trans rfl; have hcz3_6 : w2.cell? ⟨gb290, 6, none⟩ = some (.int .i64 0) := (blk_cell BK290.out 6).trans rfl; have hcz3_7 : w2.cell? ⟨gb290, 7, none⟩ = some (.string (⟨#[]⟩ : ByteArray)) := (blk_cell BK290.out 7).trans rfl; have hfz3_0 := blk_frozen BK290.out 0; have hfz3_1 := blk_frozen BK290.out 1; have hfz3_2 := blk_frozen BK290.out 2; have hfz3_3 := blk_frozen BK290.out 3; have hfz3_4 := blk_frozen BK290.out 4; have hfz3_5 := blk_frozen BK290.out 5; have hfz3_6 := blk_frozen BK290.out 6; have hfz3_7 := blk_frozen BK290.out 7))
 refine bodyPost_ret (results_cell_row rfl _ _ gb290 35 #[.int .i64 15, .int .i64 0, .int .i64 0, .int .i64 0, .int .i64 0, .bool false, .int .i64 0, .string a0] (0, 0) _ rfl (by (with_reducible repeat (first | refine blk_drewN ?_ _ | refine blk_drew ?_ | refine blk_alloc ?_ _)); refine blk_put (cs := #[.int .i64 15, .int .i64 0, .int .i64 0, .int .i64 0, .int .i64 0, .bool false, .int .i64 0, .string (⟨#[]⟩ : ByteArray)]) ?_ 7 _ rfl; (with_reducible repeat (first | refine blk_drewN ?_ _ | refine blk_drew ?_ | refine blk_alloc ?_ _)); refine blk_put (cs := #[.int .i64 15, .int .i64 0, .int .i64 0, .int .i64 0, .int .i64 0, .bool false, .int .i64 0, .string (⟨#[]⟩ : ByteArray)]) ?_ 6 _ rfl; (with_reducible repeat (first | refine blk_drewN ?_ _ | refine blk_drew ?_ | refine blk_alloc ?_ _)); refine blk_put (cs := #[.int .i64 15, .int .i64 0, .int .i64 0, .int .i64 0, .int .i64 0, .bool false, .int .i64 0, .string (⟨#[]⟩ : ByteArray)]) ?_ 5 _ rfl; (with_reducible repeat (first | refine blk_drewN ?_ _ | refine blk_drew ?_ | refine blk_alloc ?_ _)); refine blk_put (cs := #[.int .i64 15, .int .i64 0, .int .i64 0, .int .i64 0, .int .i64 0, .bool false, .int .i64 0, .string (⟨#[]⟩ : ByteArray)]) ?_ 4 _ rfl; (with_reducible repeat (first | refine blk_drewN ?_ _ | refine blk_drew ?_ | refine blk_alloc ?_ _)); refine blk_put (cs := #[.int .i64 15, .int .i64 0, .int .i64 0, .int .i64 0, .int .i64 0, .bool false, .int .i64 0, .string (⟨#[]⟩ : ByteArray)]) ?_ 3 _ rfl; (with_reducible repeat (first | refine blk_drewN ?_ _ | refine blk_drew ?_ | refine blk_alloc ?_ _)); refine blk_put (cs := #[.int .i64 15, .int .i64 0, .int .i64 0, .int .i64 0, .int .i64 0, .bool false, .int .i64 0, .string (⟨#[]⟩ : ByteArray)]) ?_ 2 _ rfl; (with_reducible repeat (first | refine blk_drewN ?_ _ | refine blk_drew ?_ | refine blk_alloc ?_ _)); refine blk_put (cs := #[.int .i64 15, .int .i64 0, .int .i64 0, .int .i64 0, .int .i64 0, .bool false, .int .i64 0, .string (⟨#[]⟩ : ByteArray)]) ?_ 1 _ rfl; (with_reducible repeat (first | refine blk_drewN ?_ _ | refine blk_drew ?_ | refine blk_alloc ?_ _)); refine blk_put (cs := #[.int .i64 0, .int .i64 0, .int .i64 0, .int .i64 0, .int .i64 0, .bool false, .int .i64 0, .string (⟨#[]⟩ : ByteArray)]) ?_ 0 _ rfl; (with_reducible repeat (first | refine blk_drewN ?_ _ | refine blk_drew ?_ | refine blk_alloc ?_ _)); exact BK290.out) Tryd.underlying35 rfl (by kernel_rfl)) rfl ?_
 exact ⟨by first | rfl | (simp [errW_none, errW_some] <;> rfl) | (simp [*, errW_none, errW_some] <;> rfl), by repeat (with_reducible first | exact HB.out | apply below_alloc | apply pw_below_drewN | apply below_drew1 | refine below_set ?_ GE290.out)⟩
def burinlaw19_longs.l0 : Nat → Int → Int → ByteArray → Int → List Int → Bool → Int → Option (ByteArray × Int × List Int × Bool × Int × (List (S139)))
 | 0, _, _, _, _, _, _, _ => none
 | k + 1, x1, x6, x293000, x293001, x293002, x293003, x293004 => if x6 < x1 then (if x293002.length < 17592186044416 then (burinlaw19_longs.l0 k x1 (wrap64 (x6 + 1)) x293000 x293001 (x293002 ++ [7]) x293003 x293004) else (none)) else (some (x293000, x293001, x293002, x293003, x293004, ([] : List (S139))))
def burinlaw19_longs.f (k : Nat) (a0 : ByteArray) (a1 : Int) : Option (ByteArray × Int × List Int × Bool × Int × (List (S139))) := burinlaw19_longs.l0 k a1 0 a0 7 ([] : List Int) false 0
set_option maxHeartbeats 8000000 in
set_option maxRecDepth 100000 in
theorem burinlaw19_longs.calls (k : Nat) (a0 : ByteArray) (a1 : Int) (r1 : ByteArray) (r2 : Int) (r3 : List Int) (r4 : Bool) (r5 : Int) (r6 : List (S139)) (w : World) (h : burinlaw19_longs.f k a0 a1 = some (r1, r2, r3, r4, r5, r6)) :
  Calls Tryd.prog 13 #[.string a0, .int .i64 a1] w fun e w' => ∃ v2_ v5_ : Value, e = .returned (.agg #[.string r1, .int .i64 r2, v2_, .bool r4, .int .i64 r5, v5_]) ∧ Kd.R (Kd.int .i64) 3 w' w.heap.size (fun _ => True) v2_ r3 ∧ Kd.S k139 139 w' w.heap.size (fun k_ => some k_ ≠ (v2_ : Value).ownBlock) v5_ r6 ∧ Below w.heap.size w w' := by
 have hu40 := Tryd.underlying40
 have HB := Aside0.mk (Below.refl w.heap.size w)
 have H : (burinlaw19_longs.l0 k a1 0 a0 7 ([] : List Int) false 0) = some (r1, r2, r3, r4, r5, r6) := h
 clear h
 have H' := Aside0.mk H
 clear H
 go_enter Tryd.func13, Tryd.ntmps13
 go_wp2_with (first | ((with_reducible refine gate_dst (N := 4) rfl ?_); refine box_event ?hg (N := 4) ?hd (cs := #[.string (⟨#[]⟩ : ByteArray), .int .i64 0, .slice none 0 0, .bool false, .int .i64 0, .slice none 0 0]) (t := 40) ?hr ?_; (case hd => rfl); (case hg => rfl); (case hr => first | (go_simp; done) | (go_simp; rfl)); intro gb291 hg w3 hbox hb; have n0_ := Aside0.mk (below_step (by repeat (with_reducible first | exact HB.out | apply below_alloc | apply pw_below_drewN | apply below_drew1)) hb); have n1_ := Aside0.mk (hbox); have n2_ := Aside0.mk ((by rw [hg]; exact (below_size (by repeat (with_reducible first | exact HB.out | apply below_alloc | apply pw_below_drewN | apply below_drew1))) : w.heap.size ≤ gb291)); have n3_ := n2_; clear HB; have HB := n0_; have BK291 := n1_; have GW291 := n2_; have GE291 := n3_; clear n0_ n1_ n2_ n3_; clear hb hbox hg) | ((with_reducible refine gate_dst (N := 5) rfl ?_); refine box_event ?hg (N := 5) ?hd (cs := #[.string (⟨#[]⟩ : ByteArray), .int .i64 0, .slice none 0 0, .bool false, .int .i64 0, .slice none 0 0]) (t := 40) ?hr ?_; (case hd => rfl); (case hg => rfl); (case hr => first | (go_simp; done) | (go_simp; rfl)); intro gb292 hg w4 hbox hb; have n0_ := Aside0.mk (blk_below (g := gb291) (o := .cells #[.string (⟨#[]⟩ : ByteArray), .int .i64 0, .slice none 0 0, .bool false, .int .i64 0, .slice none 0 0] 40 (0, 0)) (by (with_reducible repeat (first | refine blk_drewN ?_ _ | refine blk_drew ?_ | refine blk_alloc ?_ _)); exact BK291.out) hb); have n1_ := Aside0.mk (below_step (by repeat (with_reducible first | exact HB.out | apply below_alloc | apply pw_below_drewN | apply below_drew1 | refine below_set ?_ GE291.out)) hb); have n2_ := Aside0.mk (hbox); have n3_ := Aside0.mk ((by rw [hg]; exact (below_size (by repeat (with_reducible first | exact HB.out | apply below_alloc | apply pw_below_drewN | apply below_drew1 | refine below_set ?_ GE291.out))) : w.heap.size ≤ gb292)); have n4_ := n3_; have n5_ := Aside0.mk ((by rw [hg]; exact Nat.ne_of_lt (blk_lt (g := gb291) (o := .cells #[.string (⟨#[]⟩ : ByteArray), .int .i64 0, .slice none 0 0, .bool false, .int .i64 0, .slice none 0 0] 40 (0, 0)) (by (with_reducible repeat (first | refine blk_drewN ?_ _ | refine blk_drew ?_ | refine blk_alloc ?_ _)); exact BK291.out)) : gb291 ≠ gb292)); have n6_ := Aside0.mk ((by rw [hg]; exact Nat.ne_of_gt (blk_lt (g := gb291) (o := .cells #[.string (⟨#[]⟩ : ByteArray), .int .i64 0, .slice none 0 0, .bool false, .int .i64 0, .slice none 0 0] 40 (0, 0)) (by (with_reducible repeat (first | refine blk_drewN ?_ _ | refine blk_drew ?_ | refine blk_alloc ?_ _)); exact BK291.out)) : gb292 ≠ gb291)); clear BK291; clear HB; have BK291 := n0_; have HB := n1_; have BK292 := n2_; have GW292 := n3_; have GE292 := n4_; have NB291_292 := n5_; have NB292_291 := n6_; clear n0_ n1_ n2_ n3_ n4_ n5_ n6_; clear hb hbox hg; have hnb5 := NB292_291.out; have hnc5 := NB291_292.out; have hcz6_0 : w4.cell? ⟨gb292, 0, none⟩ = some (.string (⟨#[]⟩ : ByteArray)) := (blk_cell BK292.out 0).trans rfl; have hcz6_1 : w4.cell? ⟨gb292, 1, none⟩ = some (.int .i64 0) := (blk_cell BK292.out 1).trans rfl; have hcz6_2 : w4.cell? ⟨gb292, 2, none⟩ = some (.slice none 0 0) := (blk_cell BK292.out 2).trans rfl; have hcz6_3 : w4.cell? ⟨gb292, 3, none⟩ = some (.bool false) := (blk_cell BK292.out 3).trans rfl; have hcz6_4 : w4.cell? ⟨gb292, 4, none⟩ = some (.int .i64 0) := (blk_cell BK292.out 4).trans rfl; have hcz6_5 : w4.cell? ⟨gb292, 5, none⟩ = some (.slice none 0 0) := (blk_cell BK292.out 5).trans rfl; have hfz6_0 := blk_frozen BK292.out 0; have hfz6_1 := blk_frozen BK292.out 1; have hfz6_2 := blk_frozen BK292.out 2; have hfz6_3 := blk_frozen BK292.out 3; have hfz6_4 := blk_frozen BK292.out 4; have hfz6_5 := blk_frozen BK292.out 5))
 go_loopg [6] k (fun kq v6 w' => ∃ (x6_1 : Int) (x293002_1 : List Int) (u293002 : Value), v6 = .int .i64 x6_1 ∧ Aside0 (burinlaw19_longs.l0 kq a1 x6_1 a0 7 x293002_1 false 0 = some (r1, r2, r3, r4, r5, r6)) ∧ Aside0 (kq ≤ k) ∧ Aside0 (Kd.R (Kd.int .i64) 3 w' w.heap.size (fun _ => True) u293002 x293002_1) ∧ Aside0 (w'.heap[gb291]? = some (.cells #[.string (⟨#[]⟩ : ByteArray), .int .i64 0, (.slice none 0 0), .bool false, .int .i64 0, (.slice none 0 0)] 40 (0, 0))) ∧ Aside0 (w'.heap[gb292]? = some (.cells #[.string a0, .int .i64 7, u293002, .bool false, .int .i64 0, (.slice none 0 0)] 40 (0, 0))) ∧ Aside0 (Below w.heap.size w w'))
 case atStart => exact ⟨(0), (([] : List Int)), (.slice none 0 0), (by first | rfl | (simp; done) | (simp [*]; done)), H', ⟨Nat.le_refl _⟩, ⟨by first | exact Kd.R_nil _ _ _ _ _ | exact Kd.N_nil _ _ _ _ _ | exact Kd.V_nil _ _ _ _ _ | exact Kd.Q_nil _ _ _ _ _ | exact Kd.S_nil _ _ _ _ _⟩, ⟨by (with_reducible repeat (first | refine blk_drewN ?_ _ | refine blk_drew ?_ | refine blk_alloc ?_ _)); refine blk_far ?_ NB291_292.out _; (with_reducible repeat (first | refine blk_drewN ?_ _ | refine blk_drew ?_ | refine blk_alloc ?_ _)); refine blk_far ?_ NB291_292.out _; (with_reducible repeat (first | refine blk_drewN ?_ _ | refine blk_drew ?_ | refine blk_alloc ?_ _)); refine blk_far ?_ NB291_292.out _; (with_reducible repeat (first | refine blk_drewN ?_ _ | refine blk_drew ?_ | refine blk_alloc ?_ _)); refine blk_far ?_ NB291_292.out _; (with_reducible repeat (first | refine blk_drewN ?_ _ | refine blk_drew ?_ | refine blk_alloc ?_ _)); refine blk_far ?_ NB291_292.out _; (with_reducible repeat (first | refine blk_drewN ?_ _ | refine blk_drew ?_ | refine blk_alloc ?_ _)); refine blk_far ?_ NB291_292.out _; (with_reducible repeat (first | refine blk_drewN ?_ _ | refine blk_drew ?_ | refine blk_alloc ?_ _)); exact BK291.out⟩, ⟨by (with_reducible repeat (first | refine blk_drewN ?_ _ | refine blk_drew ?_ | refine blk_alloc ?_ _)); refine blk_put (cs := #[.string a0, .int .i64 7, .slice none 0 0, .bool false, .int .i64 0, .slice none 0 0]) ?_ 5 _ rfl; (with_reducible repeat (first | refine blk_drewN ?_ _ | refine blk_drew ?_ | refine blk_alloc ?_ _)); refine blk_put (cs := #[.string a0, .int .i64 7, .slice none 0 0, .bool false, .int .i64 0, .slice none 0 0]) ?_ 4 _ rfl; (with_reducible repeat (first | refine blk_drewN ?_ _ | refine blk_drew ?_ | refine blk_alloc ?_ _)); refine blk_put (cs := #[.string a0, .int .i64 7, .slice none 0 0, .bool false, .int .i64 0, .slice none 0 0]) ?_ 3 _ rfl; (with_reducible repeat (first | refine blk_drewN ?_ _ | refine blk_drew ?_ | refine blk_alloc ?_ _)); refine blk_put (cs := #[.string a0, .int .i64 7, .slice none 0 0, .bool false, .int .i64 0, .slice none 0 0]) ?_ 2 _ rfl; (with_reducible repeat (first | refine blk_drewN ?_ _ | refine blk_drew ?_ | refine blk_alloc ?_ _)); refine blk_put (cs := #[.string a0, .int .i64 0, .slice none 0 0, .bool false, .int .i64 0, .slice none 0 0]) ?_ 1 _ rfl; (with_reducible repeat (first | refine blk_drewN ?_ _ | refine blk_drew ?_ | refine blk_alloc ?_ _)); refine blk_put (cs := #[.string (⟨#[]⟩ : ByteArray), .int .i64 0, .slice none 0 0, .bool false, .int .i64 0, .slice none 0 0]) ?_ 0 _ rfl; (with_reducible repeat (first | refine blk_drewN ?_ _ | refine blk_drew ?_ | refine blk_alloc ?_ _)); exact BK292.out⟩, ⟨by repeat (with_reducible first | exact HB.out | apply below_alloc | apply pw_below_drewN | apply below_drew1 | refine below_set ?_ GE291.out | refine below_set ?_ GE292.out)⟩⟩
 case round =>
  clear H'
  try clear c1
  try clear p2
  try clear c5
  try clear hcz6_0
  try clear hcz6_1
  try clear hcz6_2
  try clear hcz6_3
  try clear hcz6_4
  try clear hcz6_5
  try clear hfz6_0
  try clear hfz6_1
  try clear hfz6_2
  try clear hfz6_3
  try clear hfz6_4
  try clear hfz6_5
  obtain ⟨x6_1, x293002_1, u293002, rfl, HA, HK1, HO_293002, BK291, BK292, HB⟩ := hrel
  cases gk with
  | zero => exact absurd HA.out (by simp [burinlaw19_longs.l0])
  | succ k1 =>
   have H := HA.out
   clear HA
   simp only [burinlaw19_longs.l0] at H
   by_cases c7 : x6_1 < a1
   ·rw [if_pos c7] at H
    have c7b0 : decide (x6_1 < a1) = true := decide_eq_true c7
    clear c7
    by_cases c8 : x293002_1.length < 17592186044416
    ·rw [if_pos c8] at H
     have LMc8 := Aside0.mk c8
     clear c8
     obtain ⟨y293, hy293⟩ : ∃ y_ : List Int, y_ = (x293002_1 ++ [7]) := ⟨_, rfl⟩
     replace H : (burinlaw19_longs.l0 k1 a1 (wrap64 (x6_1 + 1)) a0 7 y293 false 0) = some (r1, r2, r3, r4, r5, r6) := by first | (rw [hy293]; with_reducible exact H) | (have H2_ := (Option.bind_some _ _).symm.trans H; rw [hy293]; with_reducible exact H2_) | (have H2_ := (Option.bind_some _ _).symm.trans H; with_reducible exact H2_) | with_reducible exact H | (rw [hy293]; exact H) | exact H
     have Ny293 := Aside0.mk hy293
     clear hy293
     have H' := Aside0.mk H
     clear H
     have hnb9 := NB292_291.out
     have hnc9 := NB291_292.out
     have hcz10_0 : wr.cell? ⟨gb292, 0, none⟩ = some (.string a0) := (blk_cell BK292.out 0).trans rfl
     have hcz10_1 : wr.cell? ⟨gb292, 1, none⟩ = some (.int .i64 7) := (blk_cell BK292.out 1).trans rfl
     have hcz10_2 : wr.cell? ⟨gb292, 2, none⟩ = some (u293002) := (blk_cell BK292.out 2).trans rfl
     have hcz10_3 : wr.cell? ⟨gb292, 3, none⟩ = some (.bool false) := (blk_cell BK292.out 3).trans rfl
     have hcz10_4 : wr.cell? ⟨gb292, 4, none⟩ = some (.int .i64 0) := (blk_cell BK292.out 4).trans rfl
     have hcz10_5 : wr.cell? ⟨gb292, 5, none⟩ = some (.slice none 0 0) := (blk_cell BK292.out 5).trans rfl
     have hfz10_0 := blk_frozen BK292.out 0
     have hfz10_1 := blk_frozen BK292.out 1
     have hfz10_2 := blk_frozen BK292.out 2
     have hfz10_3 := blk_frozen BK292.out 3
     have hfz10_4 := blk_frozen BK292.out 4
     have hfz10_5 := blk_frozen BK292.out 5
     go_wp2_with (first | ((with_reducible refine gate_builtin (b := .append) (xs := #[.tmp 15, .tmp 16]) rfl ?_); at_builtin; refine Kd.R_append (Kd.int .i64) (w0 := w) w.heap.size rfl (.tmp 15) (.tmp 16) 37 3 (.int .i64 0) 8 rfl Tryd.underlying37 info3 rfl (by decide) (by omega) u293002 x293002_1 7 [.int .i64 7] (fun _ => True) (fun _ => False) rfl rfl ?aP (fun _ hk => hk.elim) ?aF ?aO ?aB ?aS ?aL ?_; (case aP => exact rfl); (case aB => exact (by repeat (with_reducible first | exact HB.out | apply below_alloc | apply pw_below_drewN | apply below_drew1 | refine below_set ?_ GE291.out | refine below_set ?_ GE292.out))); (case aF => exact (fun _ _ => trivial)); (case aO => exact (by (with_reducible repeat (first | apply Kd.R_alloc | apply Kd.R_drewN | apply Kd.R_drew)); exact HO_293002.out)); (case aS => exact (below_size (by repeat (with_reducible first | exact HB.out | apply below_alloc | apply pw_below_drewN | apply below_drew1 | refine below_set ?_ GE291.out | refine below_set ?_ GE292.out)))); (case aL => have := LMc8.out; omega); intro v294 w11 ho hb hg hat; rw [← Ny293.out] at ho; have n0_ := Aside0.mk (blk_grown (g := gb291) (o := .cells #[.string (⟨#[]⟩ : ByteArray), .int .i64 0, .slice none 0 0, .bool false, .int .i64 0, .slice none 0 0] 40 (0, 0)) (by (with_reducible repeat (first | refine blk_drewN ?_ _ | refine blk_drew ?_ | refine blk_alloc ?_ _)); exact BK291.out) hg (Kd.R_ne HO_293002.out BK291.out (by decide))); have n1_ := Aside0.mk (blk_grown (g := gb292) (o := .cells #[.string a0, .int .i64 7, u293002, .bool false, .int .i64 0, .slice none 0 0] 40 (0, 0)) (by (with_reducible repeat (first | refine blk_drewN ?_ _ | refine blk_drew ?_ | refine blk_alloc ?_ _)); exact BK292.out) hg (Kd.R_ne HO_293002.out BK292.out (by decide))); have n2_ := Aside0.mk (hb); have n3_ := Aside0.mk (ho); clear BK291; clear BK292; clear HB; clear HO_293002; have BK291 := n0_; have BK292 := n1_; have HB := n2_; have HO295 := n3_; clear n0_ n1_ n2_ n3_; clear ho hb hg hat; obtain ⟨Ao12, co12, eo12⟩ := Kd.R_slice HO295.out; subst eo12; have hcz13_0 : w11.cell? ⟨gb292, 0, none⟩ = some (.string a0) := (blk_cell BK292.out 0).trans rfl; have hcz13_1 : w11.cell? ⟨gb292, 1, none⟩ = some (.int .i64 7) := (blk_cell BK292.out 1).trans rfl; have hcz13_2 : w11.cell? ⟨gb292, 2, none⟩ = some (u293002) := (blk_cell BK292.out 2).trans rfl; have hcz13_3 : w11.cell? ⟨gb292, 3, none⟩ = some (.bool false) := (blk_cell BK292.out 3).trans rfl; have hcz13_4 : w11.cell? ⟨gb292, 4, none⟩ = some (.int .i64 0) := (blk_cell BK292.out 4).trans rfl; have hcz13_5 : w11.cell? ⟨gb292, 5, none⟩ = some (.slice none 0 0) := (blk_cell BK292.out 5).trans rfl; have hfz13_0 := blk_frozen BK292.out 0; have hfz13_1 := blk_frozen BK292.out 1; have hfz13_2 := blk_frozen BK292.out 2; have hfz13_3 := blk_frozen BK292.out 3; have hfz13_4 := blk_frozen BK292.out 4; have hfz13_5 := blk_frozen BK292.out 5))
     go_roundg k1
     case measure => have := HK1.out; omega
     case rel => exact ⟨(wrap64 (x6_1 + 1)), (y293), (.slice Ao12 y293.length co12), (by first | rfl | (simp; done) | (simp [*]; done)), H', ⟨by have := HK1.out; omega⟩, ⟨by (with_reducible repeat (first | apply Kd.R_alloc | apply Kd.R_drewN | apply Kd.R_drew)); exact Kd.R_mono (Kd.R_far (p := ⟨gb292, 2, none⟩) (Kd.R_types HO295.out BK292.out (by decide)) (fun _ hk => hk.2) (.slice Ao12 y293.length co12)) (fun _ hk => trivial)⟩, ⟨by (with_reducible repeat (first | refine blk_drewN ?_ _ | refine blk_drew ?_ | refine blk_alloc ?_ _)); refine blk_far ?_ NB291_292.out _; (with_reducible repeat (first | refine blk_drewN ?_ _ | refine blk_drew ?_ | refine blk_alloc ?_ _)); exact BK291.out⟩, ⟨by (with_reducible repeat (first | refine blk_drewN ?_ _ | refine blk_drew ?_ | refine blk_alloc ?_ _)); refine blk_put (cs := #[.string a0, .int .i64 7, u293002, .bool false, .int .i64 0, .slice none 0 0]) ?_ 2 _ rfl; (with_reducible repeat (first | refine blk_drewN ?_ _ | refine blk_drew ?_ | refine blk_alloc ?_ _)); exact BK292.out⟩, ⟨by repeat (with_reducible first | exact HB.out | apply below_alloc | apply pw_below_drewN | apply below_drew1 | refine below_set ?_ GE291.out | refine below_set ?_ GE292.out)⟩⟩
    ·rw [if_neg c8] at H
     exact absurd H (by simp)
   ·rw [if_neg c7] at H
    have c7b0 : decide (x6_1 < a1) = false := decide_eq_false c7
    clear c7
    simp only [Option.some.injEq, Prod.mk.injEq] at H
    obtain ⟨rfl, rfl, rfl, rfl, rfl, rfl⟩ := H
    have hnb14 := NB292_291.out
    have hnc14 := NB291_292.out
    have hcz15_0 : wr.cell? ⟨gb292, 0, none⟩ = some (.string a0) := (blk_cell BK292.out 0).trans rfl
    have hcz15_1 : wr.cell? ⟨gb292, 1, none⟩ = some (.int .i64 7) := (blk_cell BK292.out 1).trans rfl
    have hcz15_2 : wr.cell? ⟨gb292, 2, none⟩ = some (u293002) := (blk_cell BK292.out 2).trans rfl
    have hcz15_3 : wr.cell? ⟨gb292, 3, none⟩ = some (.bool false) := (blk_cell BK292.out 3).trans rfl
    have hcz15_4 : wr.cell? ⟨gb292, 4, none⟩ = some (.int .i64 0) := (blk_cell BK292.out 4).trans rfl
    have hcz15_5 : wr.cell? ⟨gb292, 5, none⟩ = some (.slice none 0 0) := (blk_cell BK292.out 5).trans rfl
    have hfz15_0 := blk_frozen BK292.out 0
    have hfz15_1 := blk_frozen BK292.out 1
    have hfz15_2 := blk_frozen BK292.out 2
    have hfz15_3 := blk_frozen BK292.out 3
    have hfz15_4 := blk_frozen BK292.out 4
    have hfz15_5 := blk_frozen BK292.out 5
    have hcz16_0 : wr.cell? ⟨gb291, 0, none⟩ = some (.string (⟨#[]⟩ : ByteArray)) := (blk_cell BK291.out 0).trans rfl
    have hcz16_1 : wr.cell? ⟨gb291, 1, none⟩ = some (.int .i64 0) := (blk_cell BK291.out 1).trans rfl
    have hcz16_2 : wr.cell? ⟨gb291, 2, none⟩ = some (.slice none 0 0) := (blk_cell BK291.out 2).trans rfl
    have hcz16_3 : wr.cell? ⟨gb291, 3, none⟩ = some (.bool false) := (blk_cell BK291.out 3).trans rfl
    have hcz16_4 : wr.cell? ⟨gb291, 4, none⟩ = some (.int .i64 0) := (blk_cell BK291.out 4).trans rfl
    have hcz16_5 : wr.cell? ⟨gb291, 5, none⟩ = some (.slice none 0 0) := (blk_cell BK291.out 5).trans rfl
    have hfz16_0 := blk_frozen BK291.out 0
    have hfz16_1 := blk_frozen BK291.out 1
    have hfz16_2 := blk_frozen BK291.out 2
    have hfz16_3 := blk_frozen BK291.out 3
    have hfz16_4 := blk_frozen BK291.out 4
    have hfz16_5 := blk_frozen BK291.out 5
    obtain ⟨Ao17, co17, eo17⟩ := Kd.R_slice HO_293002.out
    subst eo17
    go_wp2
    refine bodyPost_ret (results_cell_row rfl _ _ gb291 40 #[.string a0, .int .i64 7, .slice Ao17 x293002_1.length co17, .bool false, .int .i64 0, .slice none 0 0] (0, 0) _ rfl (by (with_reducible repeat (first | refine blk_drewN ?_ _ | refine blk_drew ?_ | refine blk_alloc ?_ _)); refine blk_put (cs := #[.string a0, .int .i64 7, .slice Ao17 x293002_1.length co17, .bool false, .int .i64 0, .slice none 0 0]) ?_ 5 _ rfl; (with_reducible repeat (first | refine blk_drewN ?_ _ | refine blk_drew ?_ | refine blk_alloc ?_ _)); refine blk_put (cs := #[.string a0, .int .i64 7, .slice Ao17 x293002_1.length co17, .bool false, .int .i64 0, .slice none 0 0]) ?_ 4 _ rfl; (with_reducible repeat (first | refine blk_drewN ?_ _ | refine blk_drew ?_ | refine blk_alloc ?_ _)); refine blk_put (cs := #[.string a0, .int .i64 7, .slice Ao17 x293002_1.length co17, .bool false, .int .i64 0, .slice none 0 0]) ?_ 3 _ rfl; (with_reducible repeat (first | refine blk_drewN ?_ _ | refine blk_drew ?_ | refine blk_alloc ?_ _)); refine blk_put (cs := #[.string a0, .int .i64 7, .slice none 0 0, .bool false, .int .i64 0, .slice none 0 0]) ?_ 2 _ rfl; (with_reducible repeat (first | refine blk_drewN ?_ _ | refine blk_drew ?_ | refine blk_alloc ?_ _)); refine blk_put (cs := #[.string a0, .int .i64 0, .slice none 0 0, .bool false, .int .i64 0, .slice none 0 0]) ?_ 1 _ rfl; (with_reducible repeat (first | refine blk_drewN ?_ _ | refine blk_drew ?_ | refine blk_alloc ?_ _)); refine blk_put (cs := #[.string (⟨#[]⟩ : ByteArray), .int .i64 0, .slice none 0 0, .bool false, .int .i64 0, .slice none 0 0]) ?_ 0 _ rfl; (with_reducible repeat (first | refine blk_drewN ?_ _ | refine blk_drew ?_ | refine blk_alloc ?_ _)); exact BK291.out) Tryd.underlying40 rfl (by kernel_rfl)) rfl ?_
    exact ⟨_, _, by first | rfl | (simp [errW_none, errW_some] <;> rfl) | (simp [*, errW_none, errW_some] <;> rfl), by (with_reducible repeat (first | apply Kd.R_alloc | apply Kd.R_drewN | apply Kd.R_drew)); exact Kd.R_mono (Kd.R_far (p := ⟨gb291, 5, none⟩) (Kd.R_far (p := ⟨gb291, 4, none⟩) (Kd.R_far (p := ⟨gb291, 3, none⟩) (Kd.R_far (p := ⟨gb291, 2, none⟩) (Kd.R_far (p := ⟨gb291, 1, none⟩) (Kd.R_far (p := ⟨gb291, 0, none⟩) (Kd.R_types HO_293002.out BK291.out (by decide)) (fun _ hk => hk.2) (.string a0)) (fun _ hk => hk.2) (.int .i64 7)) (fun _ hk => hk.2) (.slice Ao17 x293002_1.length co17)) (fun _ hk => hk.2) (.bool false)) (fun _ hk => hk.2) (.int .i64 0)) (fun _ hk => hk.2) (.slice none 0 0)) (fun _ hk => trivial), by first | exact Kd.S_nil _ _ _ _ _ | exact Kd.N_nil _ _ _ _ _ | exact Kd.V_nil _ _ _ _ _ | exact Kd.Q_nil _ _ _ _ _ | exact Kd.R_nil _ _ _ _ _, by repeat (with_reducible first | exact HB.out | apply below_alloc | apply pw_below_drewN | apply below_drew1 | refine below_set ?_ GE291.out | refine below_set ?_ GE292.out)⟩
end Go.Proofs.YtgdkkcdmflopjaaDoor.PA
