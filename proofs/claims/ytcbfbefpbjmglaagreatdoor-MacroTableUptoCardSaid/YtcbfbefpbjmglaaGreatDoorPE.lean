import Derived.Test.YtcbfbefpbjmglaaGreatDoorZ
import Derived.Test.YtcbfbefpbjmglaaGreatDoorPRc
set_option maxHeartbeats 8000000
set_option maxRecDepth 100000
set_option linter.unusedSimpArgs false
set_option linter.unusedVariables false
namespace Go.Proofs.YtcbfbefpbjmglaaGreatDoor.PA
open Go.RowKit YtcbfbefpbjmglaaGreatDoorT YtcbfbefpbjmglaaGreatDoorW PrintWords PrintLast PrintMore
attribute [local go_sem] max2_int min2_int max_two min_two max_three min_three max_four min_four
mutual
def burinref03_Equal.j0 : Nat → Bool → ByteArray → Bool → List ByteArray → Bool → List (S55) → ByteArray → Bool → List ByteArray → Bool → List (S55) → Option (Bool)
 | 0, _, _, _, _, _, _, _, _, _, _, _ => none
 | k + 1, x33, x291000, x291001, x291002, x291003, x291004, x292000, x292001, x292002, x292003, x292004 => if x33 = true then (some false) else (burinref03_Equal.l0 k 0 x291000 x291001 x291002 x291003 x291004 x292000 x292001 x292002 x292003 x292004)
def burinref03_Equal.l0 : Nat → Int → ByteArray → Bool → List ByteArray → Bool → List (S55) → ByteArray → Bool → List ByteArray → Bool → List (S55) → Option (Bool)
 | 0, _, _, _, _, _, _, _, _, _, _, _ => none
 | k + 1, x5, x291000, x291001, x291002, x291003, x291004, x292000, x292001, x292002, x292003, x292004 => if x5 < (x291002.length : Int) then (if 0 ≤ x5 then (if x5 < (x292002.length : Int) then (if (rdOf ByteArray.empty x291002 x5).toList = (rdOf ByteArray.empty x292002 x5).toList then (burinref03_Equal.l0 k (wrap64 (x5 + 1)) x291000 x291001 x291002 x291003 x291004 x292000 x292001 x292002 x292003 x292004) else (some false)) else (none)) else (none)) else ((burinref02_Same.f k x291004 x292004).bind fun t294 => (some t294))
end
def burinref03_Equal.f (k : Nat) (a0_0 : ByteArray) (a0_1 : Bool) (l0_2 : List ByteArray) (a0_3 : Bool) (l0_4 : List (S55)) (a1_0 : ByteArray) (a1_1 : Bool) (l1_2 : List ByteArray) (a1_3 : Bool) (l1_4 : List (S55)) : Option (Bool) := if a0_0.toList = a1_0.toList then (if (a0_1 != a1_1) = true then (burinref03_Equal.j0 k true a0_0 a0_1 l0_2 a0_3 l0_4 a1_0 a1_1 l1_2 a1_3 l1_4) else (if (a0_3 != a1_3) = true then (burinref03_Equal.j0 k true a0_0 a0_1 l0_2 a0_3 l0_4 a1_0 a1_1 l1_2 a1_3 l1_4) else (burinref03_Equal.j0 k ((l0_2.length : Int) != (l1_2.length : Int)) a0_0 a0_1 l0_2 a0_3 l0_4 a1_0 a1_1 l1_2 a1_3 l1_4))) else (burinref03_Equal.j0 k true a0_0 a0_1 l0_2 a0_3 l0_4 a1_0 a1_1 l1_2 a1_3 l1_4)
theorem burinref03_Equal.calls (k : Nat) (a0_0 : ByteArray) (a0_1 : Bool) (A0_2 : Option Addr) (c0_2 : Nat) (l0_2 : List ByteArray) (a0_3 : Bool) (A0_4 : Option Addr) (c0_4 : Nat) (l0_4 : List (S55)) (a1_0 : ByteArray) (a1_1 : Bool) (A1_2 : Option Addr) (c1_2 : Nat) (l1_2 : List ByteArray) (a1_3 : Bool) (A1_4 : Option Addr) (c1_4 : Nat) (l1_4 : List (S55)) (r : Bool) (w : World) (hr0_2 : Kd.C Kd.string w A0_2 l0_2.length l0_2) (hc0_2 : l0_2.length ≤ c0_2) (hr0_4 : Kd.C k55 w A0_4 l0_4.length l0_4) (hc0_4 : l0_4.length ≤ c0_4) (hr1_2 : Kd.C Kd.string w A1_2 l1_2.length l1_2) (hc1_2 : l1_2.length ≤ c1_2) (hr1_4 : Kd.C k55 w A1_4 l1_4.length l1_4) (hc1_4 : l1_4.length ≤ c1_4) (h : burinref03_Equal.f k a0_0 a0_1 l0_2 a0_3 l0_4 a1_0 a1_1 l1_2 a1_3 l1_4 = some r) :
  Calls Tryz.prog 14 #[.agg #[.string a0_0, .bool a0_1, .slice A0_2 l0_2.length c0_2, .bool a0_3, .slice A0_4 l0_4.length c0_4], .agg #[.string a1_0, .bool a1_1, .slice A1_2 l1_2.length c1_2, .bool a1_3, .slice A1_4 l1_4.length c1_4]] w fun e w' => e = .returned (.bool r) ∧ Below w.heap.size w w' := by
 have hu32 := Tryz.underlying33
 have HR0_2 := Az.mk hr0_2
 have HC0_2 := Az.mk hc0_2
 clear hr0_2 hc0_2
 have HR0_4 := Az.mk hr0_4
 have HC0_4 := Az.mk hc0_4
 clear hr0_4 hc0_4
 have HR1_2 := Az.mk hr1_2
 have HC1_2 := Az.mk hc1_2
 clear hr1_2 hc1_2
 have HR1_4 := Az.mk hr1_4
 have HC1_4 := Az.mk hc1_4
 clear hr1_4 hc1_4
 have HB := Az.mk (Below.refl w.heap.size w)
 have H : (if a0_0.toList = a1_0.toList then (if (a0_1 != a1_1) = true then (burinref03_Equal.j0 k true a0_0 a0_1 l0_2 a0_3 l0_4 a1_0 a1_1 l1_2 a1_3 l1_4) else (if (a0_3 != a1_3) = true then (burinref03_Equal.j0 k true a0_0 a0_1 l0_2 a0_3 l0_4 a1_0 a1_1 l1_2 a1_3 l1_4) else (burinref03_Equal.j0 k ((l0_2.length : Int) != (l1_2.length : Int)) a0_0 a0_1 l0_2 a0_3 l0_4 a1_0 a1_1 l1_2 a1_3 l1_4))) else (burinref03_Equal.j0 k true a0_0 a0_1 l0_2 a0_3 l0_4 a1_0 a1_1 l1_2 a1_3 l1_4)) = some r := h
 clear h
 have HC3 := Az.mk H
 clear H
 go_enter Tryz.func14, Tryz.ntmps14
 go_upto_region 1 with (first | ((with_reducible refine gate_dst (N := 2) rfl ?_); (try (refine gate_guard (by rfl) ?_; dsimp only)); refine box_event ?hg (N := 2) ?hd (cs := #[.string a0_0, .bool a0_1, .slice A0_2 l0_2.length c0_2, .bool a0_3, .slice A0_4 l0_4.length c0_4]) (t := 33) ?hr ?_; (case hd => rfl); (case hg => rfl); (case hr => first | (go_simp; done) | (go_simp; rfl)); intro gb290 hg w4 hbox hb; have n0_ := Az.mk (bP (by repeat (with_reducible first | exact HB.out | apply bA | apply bQ | apply bD)) hb); have n1_ := Az.mk (hbox); have n2_ := Az.mk ((by rw [hg]; exact (bZ (by repeat (with_reducible first | exact HB.out | apply bA | apply bQ | apply bD))) : w.heap.size ≤ gb290)); have n3_ := n2_; clear HB; have HB := n0_; have BK290 := n1_; have GW290 := n2_; have GE290 := n3_; clear n0_ n1_ n2_ n3_; clear hb hbox hg) | ((with_reducible refine gate_dst (N := 3) rfl ?_); (try (refine gate_guard (by rfl) ?_; dsimp only)); refine box_event ?hg (N := 3) ?hd (cs := #[.string a1_0, .bool a1_1, .slice A1_2 l1_2.length c1_2, .bool a1_3, .slice A1_4 l1_4.length c1_4]) (t := 33) ?hr ?_; (case hd => rfl); (case hg => rfl); (case hr => first | (go_simp; done) | (go_simp; rfl)); intro gb291 hg w5 hbox hb; have n0_ := Az.mk (blk_below (g := gb290) (o := .cells #[.string a0_0, .bool a0_1, .slice A0_2 l0_2.length c0_2, .bool a0_3, .slice A0_4 l0_4.length c0_4] 33 (0, 0)) (by (with_reducible repeat (first | refine kN ?_ _ | refine kD ?_ | refine kA ?_ _)); exact BK290.out) hb); have n1_ := Az.mk (bP (by repeat (with_reducible first | exact HB.out | apply bA | apply bQ | apply bD | refine bS ?_ GE290.out)) hb); have n2_ := Az.mk (hbox); have n3_ := Az.mk ((by rw [hg]; exact (bZ (by repeat (with_reducible first | exact HB.out | apply bA | apply bQ | apply bD | refine bS ?_ GE290.out))) : w.heap.size ≤ gb291)); have n4_ := n3_; have n5_ := Az.mk ((by rw [hg]; exact Nat.ne_of_lt (blk_lt (g := gb290) (o := .cells #[.string a0_0, .bool a0_1, .slice A0_2 l0_2.length c0_2, .bool a0_3, .slice A0_4 l0_4.length c0_4] 33 (0, 0)) (by (with_reducible repeat (first | refine kN ?_ _ | refine kD ?_ | refine kA ?_ _)); exact BK290.out)) : gb290 ≠ gb291)); have n6_ := Az.mk ((by rw [hg]; exact Nat.ne_of_gt (blk_lt (g := gb290) (o := .cells #[.string a0_0, .bool a0_1, .slice A0_2 l0_2.length c0_2, .bool a0_3, .slice A0_4 l0_4.length c0_4] 33 (0, 0)) (by (with_reducible repeat (first | refine kN ?_ _ | refine kD ?_ | refine kA ?_ _)); exact BK290.out)) : gb291 ≠ gb290)); clear BK290; clear HB; have BK290 := n0_; have HB := n1_; have BK291 := n2_; have GW291 := n3_; have GE291 := n4_; have NB290_291 := n5_; have NB291_290 := n6_; clear n0_ n1_ n2_ n3_ n4_ n5_ n6_; clear hb hbox hg))
 repeat (go_quiet (first | ((with_reducible refine gate_dst (N := 2) rfl ?_); (try (refine gate_guard (by rfl) ?_; dsimp only)); refine box_event ?hg (N := 2) ?hd (cs := #[.string a0_0, .bool a0_1, .slice A0_2 l0_2.length c0_2, .bool a0_3, .slice A0_4 l0_4.length c0_4]) (t := 33) ?hr ?_; (case hd => rfl); (case hg => rfl); (case hr => first | (go_simp; done) | (go_simp; rfl)); intro gb290 hg w4 hbox hb; have n0_ := Az.mk (bP (by repeat (with_reducible first | exact HB.out | apply bA | apply bQ | apply bD)) hb); have n1_ := Az.mk (hbox); have n2_ := Az.mk ((by rw [hg]; exact (bZ (by repeat (with_reducible first | exact HB.out | apply bA | apply bQ | apply bD))) : w.heap.size ≤ gb290)); have n3_ := n2_; clear HB; have HB := n0_; have BK290 := n1_; have GW290 := n2_; have GE290 := n3_; clear n0_ n1_ n2_ n3_; clear hb hbox hg) | ((with_reducible refine gate_dst (N := 3) rfl ?_); (try (refine gate_guard (by rfl) ?_; dsimp only)); refine box_event ?hg (N := 3) ?hd (cs := #[.string a1_0, .bool a1_1, .slice A1_2 l1_2.length c1_2, .bool a1_3, .slice A1_4 l1_4.length c1_4]) (t := 33) ?hr ?_; (case hd => rfl); (case hg => rfl); (case hr => first | (go_simp; done) | (go_simp; rfl)); intro gb291 hg w5 hbox hb; have n0_ := Az.mk (blk_below (g := gb290) (o := .cells #[.string a0_0, .bool a0_1, .slice A0_2 l0_2.length c0_2, .bool a0_3, .slice A0_4 l0_4.length c0_4] 33 (0, 0)) (by (with_reducible repeat (first | refine kN ?_ _ | refine kD ?_ | refine kA ?_ _)); exact BK290.out) hb); have n1_ := Az.mk (bP (by repeat (with_reducible first | exact HB.out | apply bA | apply bQ | apply bD | refine bS ?_ GE290.out)) hb); have n2_ := Az.mk (hbox); have n3_ := Az.mk ((by rw [hg]; exact (bZ (by repeat (with_reducible first | exact HB.out | apply bA | apply bQ | apply bD | refine bS ?_ GE290.out))) : w.heap.size ≤ gb291)); have n4_ := n3_; have n5_ := Az.mk ((by rw [hg]; exact Nat.ne_of_lt (blk_lt (g := gb290) (o := .cells #[.string a0_0, .bool a0_1, .slice A0_2 l0_2.length c0_2, .bool a0_3, .slice A0_4 l0_4.length c0_4] 33 (0, 0)) (by (with_reducible repeat (first | refine kN ?_ _ | refine kD ?_ | refine kA ?_ _)); exact BK290.out)) : gb290 ≠ gb291)); have n6_ := Az.mk ((by rw [hg]; exact Nat.ne_of_gt (blk_lt (g := gb290) (o := .cells #[.string a0_0, .bool a0_1, .slice A0_2 l0_2.length c0_2, .bool a0_3, .slice A0_4 l0_4.length c0_4] 33 (0, 0)) (by (with_reducible repeat (first | refine kN ?_ _ | refine kD ?_ | refine kA ?_ _)); exact BK290.out)) : gb291 ≠ gb290)); clear BK290; clear HB; have BK290 := n0_; have HB := n1_; have BK291 := n2_; have GW291 := n3_; have GE291 := n4_; have NB290_291 := n5_; have NB291_290 := n6_; clear n0_ n1_ n2_ n3_ n4_ n5_ n6_; clear hb hbox hg)); go_upto_region 1 with (first | ((with_reducible refine gate_dst (N := 2) rfl ?_); (try (refine gate_guard (by rfl) ?_; dsimp only)); refine box_event ?hg (N := 2) ?hd (cs := #[.string a0_0, .bool a0_1, .slice A0_2 l0_2.length c0_2, .bool a0_3, .slice A0_4 l0_4.length c0_4]) (t := 33) ?hr ?_; (case hd => rfl); (case hg => rfl); (case hr => first | (go_simp; done) | (go_simp; rfl)); intro gb290 hg w4 hbox hb; have n0_ := Az.mk (bP (by repeat (with_reducible first | exact HB.out | apply bA | apply bQ | apply bD)) hb); have n1_ := Az.mk (hbox); have n2_ := Az.mk ((by rw [hg]; exact (bZ (by repeat (with_reducible first | exact HB.out | apply bA | apply bQ | apply bD))) : w.heap.size ≤ gb290)); have n3_ := n2_; clear HB; have HB := n0_; have BK290 := n1_; have GW290 := n2_; have GE290 := n3_; clear n0_ n1_ n2_ n3_; clear hb hbox hg) | ((with_reducible refine gate_dst (N := 3) rfl ?_); (try (refine gate_guard (by rfl) ?_; dsimp only)); refine box_event ?hg (N := 3) ?hd (cs := #[.string a1_0, .bool a1_1, .slice A1_2 l1_2.length c1_2, .bool a1_3, .slice A1_4 l1_4.length c1_4]) (t := 33) ?hr ?_; (case hd => rfl); (case hg => rfl); (case hr => first | (go_simp; done) | (go_simp; rfl)); intro gb291 hg w5 hbox hb; have n0_ := Az.mk (blk_below (g := gb290) (o := .cells #[.string a0_0, .bool a0_1, .slice A0_2 l0_2.length c0_2, .bool a0_3, .slice A0_4 l0_4.length c0_4] 33 (0, 0)) (by (with_reducible repeat (first | refine kN ?_ _ | refine kD ?_ | refine kA ?_ _)); exact BK290.out) hb); have n1_ := Az.mk (bP (by repeat (with_reducible first | exact HB.out | apply bA | apply bQ | apply bD | refine bS ?_ GE290.out)) hb); have n2_ := Az.mk (hbox); have n3_ := Az.mk ((by rw [hg]; exact (bZ (by repeat (with_reducible first | exact HB.out | apply bA | apply bQ | apply bD | refine bS ?_ GE290.out))) : w.heap.size ≤ gb291)); have n4_ := n3_; have n5_ := Az.mk ((by rw [hg]; exact Nat.ne_of_lt (blk_lt (g := gb290) (o := .cells #[.string a0_0, .bool a0_1, .slice A0_2 l0_2.length c0_2, .bool a0_3, .slice A0_4 l0_4.length c0_4] 33 (0, 0)) (by (with_reducible repeat (first | refine kN ?_ _ | refine kD ?_ | refine kA ?_ _)); exact BK290.out)) : gb290 ≠ gb291)); have n6_ := Az.mk ((by rw [hg]; exact Nat.ne_of_gt (blk_lt (g := gb290) (o := .cells #[.string a0_0, .bool a0_1, .slice A0_2 l0_2.length c0_2, .bool a0_3, .slice A0_4 l0_4.length c0_4] 33 (0, 0)) (by (with_reducible repeat (first | refine kN ?_ _ | refine kD ?_ | refine kA ?_ _)); exact BK290.out)) : gb291 ≠ gb290)); clear BK290; clear HB; have BK290 := n0_; have HB := n1_; have BK291 := n2_; have GW291 := n3_; have GE291 := n4_; have NB290_291 := n5_; have NB291_290 := n6_; clear n0_ n1_ n2_ n3_ n4_ n5_ n6_; clear hb hbox hg)))
 (try simp only [Act.put, List.setIfInBounds_toArray, List.set_cons_zero, List.set_cons_succ])
 go_cut [33] (fun v33 wc => ∃ (kq : Nat) (x33_2 : Bool), v33 = .bool x33_2 ∧ Az (burinref03_Equal.j0 kq x33_2 a0_0 a0_1 l0_2 a0_3 l0_4 a1_0 a1_1 l1_2 a1_3 l1_4 = some r) ∧ Az (kq ≤ k) ∧ Az (wc.heap[gb290]? = some (.cells #[.string a0_0, .bool a0_1, (.slice A0_2 l0_2.length c0_2), .bool a0_3, (.slice A0_4 l0_4.length c0_4)] 33 (0, 0))) ∧ Az (wc.heap[gb291]? = some (.cells #[.string a1_0, .bool a1_1, (.slice A1_2 l1_2.length c1_2), .bool a1_3, (.slice A1_4 l1_4.length c1_4)] 33 (0, 0))) ∧ Az (Below w.heap.size w wc))
 case first =>
  have H := HC3.out
  clear HC3
  by_cases c6 : a0_0.toList = a1_0.toList
  ·rw [if_pos c6] at H
   have c6b0 : (a0_0.toList == a1_0.toList) = true := beq_iff_eq.mpr c6
   have c6b1 : (a0_0.toList != a1_0.toList) = false := bne_eq_false_iff_eq.mpr c6
   clear c6
   (first | rw [c6b0] | (simp only [i64_w, i32_w]; rw [c6b0]) | skip)
   by_cases c7 : (a0_1 != a1_1) = true
   ·rw [if_pos c7] at H
    have c7b0 : (a0_1 != a1_1) = true := c7
    (try (have c7b1 : decide (a0_1 = a1_1) = false := by simpa using c7))
    (try (have c7b2 : (a0_1 == a1_1) = false := by simpa using c7))
    (try (have c7b3 : ¬ (a0_1 = a1_1) := by simpa using c7))
    clear c7
    have H' := Az.mk H
    clear H
    have hnb8 := NB290_291.out
    have hnc8 := NB291_290.out
    have hcz9_0 : w5.cell? ⟨gb290, 0, none⟩ = some (.string a0_0) := (bC BK290.out 0).trans rfl
    have hcz9_1 : w5.cell? ⟨gb290, 1, none⟩ = some (.bool a0_1) := (bC BK290.out 1).trans rfl
    have hcz9_2 : w5.cell? ⟨gb290, 2, none⟩ = some (.slice A0_2 l0_2.length c0_2) := (bC BK290.out 2).trans rfl
    have hcz9_3 : w5.cell? ⟨gb290, 3, none⟩ = some (.bool a0_3) := (bC BK290.out 3).trans rfl
    have hcz9_4 : w5.cell? ⟨gb290, 4, none⟩ = some (.slice A0_4 l0_4.length c0_4) := (bC BK290.out 4).trans rfl
    have hfz9_0 := bF BK290.out 0
    have hfz9_1 := bF BK290.out 1
    have hfz9_2 := bF BK290.out 2
    have hfz9_3 := bF BK290.out 3
    have hfz9_4 := bF BK290.out 4
    have hcz10_0 : w5.cell? ⟨gb291, 0, none⟩ = some (.string a1_0) := (bC BK291.out 0).trans rfl
    have hcz10_1 : w5.cell? ⟨gb291, 1, none⟩ = some (.bool a1_1) := (bC BK291.out 1).trans rfl
    have hcz10_2 : w5.cell? ⟨gb291, 2, none⟩ = some (.slice A1_2 l1_2.length c1_2) := (bC BK291.out 2).trans rfl
    have hcz10_3 : w5.cell? ⟨gb291, 3, none⟩ = some (.bool a1_3) := (bC BK291.out 3).trans rfl
    have hcz10_4 : w5.cell? ⟨gb291, 4, none⟩ = some (.slice A1_4 l1_4.length c1_4) := (bC BK291.out 4).trans rfl
    have hfz10_0 := bF BK291.out 0
    have hfz10_1 := bF BK291.out 1
    have hfz10_2 := bF BK291.out 2
    have hfz10_3 := bF BK291.out 3
    have hfz10_4 := bF BK291.out 4
    go_wp2
    repeat (go_quiet (fail); try go_wp2)
    go_meet
    case rel => exact ⟨_, (true), (by first | rfl | (simp; done) | (simp [*]; done)), H', ⟨by first | omega | exact Nat.le_refl _⟩, ⟨by (with_reducible repeat (first | refine kN ?_ _ | refine kD ?_ | refine kA ?_ _)); exact BK290.out⟩, ⟨by (with_reducible repeat (first | refine kN ?_ _ | refine kD ?_ | refine kA ?_ _)); exact BK291.out⟩, ⟨by repeat (with_reducible first | exact HB.out | apply bA | apply bQ | apply bD | refine bS ?_ GE290.out | refine bS ?_ GE291.out)⟩⟩
   ·rw [if_neg c7] at H
    have c7b0 : (a0_1 != a1_1) = false := by simpa using c7
    (try (have c7b1 : decide (a0_1 = a1_1) = true := by simpa using c7))
    (try (have c7b2 : (a0_1 == a1_1) = true := by simpa using c7))
    clear c7
    by_cases c11 : (a0_3 != a1_3) = true
    ·rw [if_pos c11] at H
     have c11b0 : (a0_3 != a1_3) = true := c11
     (try (have c11b1 : decide (a0_3 = a1_3) = false := by simpa using c11))
     (try (have c11b2 : (a0_3 == a1_3) = false := by simpa using c11))
     (try (have c11b3 : ¬ (a0_3 = a1_3) := by simpa using c11))
     clear c11
     have H' := Az.mk H
     clear H
     have hnb12 := NB290_291.out
     have hnc12 := NB291_290.out
     have hcz13_0 : w5.cell? ⟨gb290, 0, none⟩ = some (.string a0_0) := (bC BK290.out 0).trans rfl
     have hcz13_1 : w5.cell? ⟨gb290, 1, none⟩ = some (.bool a0_1) := (bC BK290.out 1).trans rfl
     have hcz13_2 : w5.cell? ⟨gb290, 2, none⟩ = some (.slice A0_2 l0_2.length c0_2) := (bC BK290.out 2).trans rfl
     have hcz13_3 : w5.cell? ⟨gb290, 3, none⟩ = some (.bool a0_3) := (bC BK290.out 3).trans rfl
     have hcz13_4 : w5.cell? ⟨gb290, 4, none⟩ = some (.slice A0_4 l0_4.length c0_4) := (bC BK290.out 4).trans rfl
     have hfz13_0 := bF BK290.out 0
     have hfz13_1 := bF BK290.out 1
     have hfz13_2 := bF BK290.out 2
     have hfz13_3 := bF BK290.out 3
     have hfz13_4 := bF BK290.out 4
     have hcz14_0 : w5.cell? ⟨gb291, 0, none⟩ = some (.string a1_0) := (bC BK291.out 0).trans rfl
     have hcz14_1 : w5.cell? ⟨gb291, 1, none⟩ = some (.bool a1_1) := (bC BK291.out 1).trans rfl
     have hcz14_2 : w5.cell? ⟨gb291, 2, none⟩ = some (.slice A1_2 l1_2.length c1_2) := (bC BK291.out 2).trans rfl
     have hcz14_3 : w5.cell? ⟨gb291, 3, none⟩ = some (.bool a1_3) := (bC BK291.out 3).trans rfl
     have hcz14_4 : w5.cell? ⟨gb291, 4, none⟩ = some (.slice A1_4 l1_4.length c1_4) := (bC BK291.out 4).trans rfl
     have hfz14_0 := bF BK291.out 0
     have hfz14_1 := bF BK291.out 1
     have hfz14_2 := bF BK291.out 2
     have hfz14_3 := bF BK291.out 3
     have hfz14_4 := bF BK291.out 4
     go_wp2
     repeat (go_quiet (fail); try go_wp2)
     go_meet
     case rel => exact ⟨_, (true), (by first | rfl | (simp; done) | (simp [*]; done)), H', ⟨by first | omega | exact Nat.le_refl _⟩, ⟨by (with_reducible repeat (first | refine kN ?_ _ | refine kD ?_ | refine kA ?_ _)); exact BK290.out⟩, ⟨by (with_reducible repeat (first | refine kN ?_ _ | refine kD ?_ | refine kA ?_ _)); exact BK291.out⟩, ⟨by repeat (with_reducible first | exact HB.out | apply bA | apply bQ | apply bD | refine bS ?_ GE290.out | refine bS ?_ GE291.out)⟩⟩
    ·rw [if_neg c11] at H
     have c11b0 : (a0_3 != a1_3) = false := by simpa using c11
     (try (have c11b1 : decide (a0_3 = a1_3) = true := by simpa using c11))
     (try (have c11b2 : (a0_3 == a1_3) = true := by simpa using c11))
     clear c11
     have H' := Az.mk H
     clear H
     have hnb15 := NB290_291.out
     have hnc15 := NB291_290.out
     have hcz16_0 : w5.cell? ⟨gb290, 0, none⟩ = some (.string a0_0) := (bC BK290.out 0).trans rfl
     have hcz16_1 : w5.cell? ⟨gb290, 1, none⟩ = some (.bool a0_1) := (bC BK290.out 1).trans rfl
     have hcz16_2 : w5.cell? ⟨gb290, 2, none⟩ = some (.slice A0_2 l0_2.length c0_2) := (bC BK290.out 2).trans rfl
     have hcz16_3 : w5.cell? ⟨gb290, 3, none⟩ = some (.bool a0_3) := (bC BK290.out 3).trans rfl
     have hcz16_4 : w5.cell? ⟨gb290, 4, none⟩ = some (.slice A0_4 l0_4.length c0_4) := (bC BK290.out 4).trans rfl
     have hfz16_0 := bF BK290.out 0
     have hfz16_1 := bF BK290.out 1
     have hfz16_2 := bF BK290.out 2
     have hfz16_3 := bF BK290.out 3
     have hfz16_4 := bF BK290.out 4
     have hcz17_0 : w5.cell? ⟨gb291, 0, none⟩ = some (.string a1_0) := (bC BK291.out 0).trans rfl
     have hcz17_1 : w5.cell? ⟨gb291, 1, none⟩ = some (.bool a1_1) := (bC BK291.out 1).trans rfl
     have hcz17_2 : w5.cell? ⟨gb291, 2, none⟩ = some (.slice A1_2 l1_2.length c1_2) := (bC BK291.out 2).trans rfl
     have hcz17_3 : w5.cell? ⟨gb291, 3, none⟩ = some (.bool a1_3) := (bC BK291.out 3).trans rfl
     have hcz17_4 : w5.cell? ⟨gb291, 4, none⟩ = some (.slice A1_4 l1_4.length c1_4) := (bC BK291.out 4).trans rfl
     have hfz17_0 := bF BK291.out 0
     have hfz17_1 := bF BK291.out 1
     have hfz17_2 := bF BK291.out 2
     have hfz17_3 := bF BK291.out 3
     have hfz17_4 := bF BK291.out 4
     go_wp2
     repeat (go_quiet (fail); try go_wp2)
     go_meet
     case rel => exact ⟨_, (((l0_2.length : Int) != (l1_2.length : Int))), (by first | rfl | (simp; done) | (simp [*]; done)), H', ⟨by first | omega | exact Nat.le_refl _⟩, ⟨by (with_reducible repeat (first | refine kN ?_ _ | refine kD ?_ | refine kA ?_ _)); exact BK290.out⟩, ⟨by (with_reducible repeat (first | refine kN ?_ _ | refine kD ?_ | refine kA ?_ _)); exact BK291.out⟩, ⟨by repeat (with_reducible first | exact HB.out | apply bA | apply bQ | apply bD | refine bS ?_ GE290.out | refine bS ?_ GE291.out)⟩⟩
  ·rw [if_neg c6] at H
   have c6b0 : (a0_0.toList == a1_0.toList) = false := beq_eq_false_iff_ne.mpr c6
   have c6b1 : (a0_0.toList != a1_0.toList) = true := bne_iff_ne.mpr c6
   (first | rw [c6b0] | (simp only [i64_w, i32_w]; rw [c6b0]) | skip)
   have H' := Az.mk H
   clear H
   have hnb18 := NB290_291.out
   have hnc18 := NB291_290.out
   have hcz19_0 : w5.cell? ⟨gb290, 0, none⟩ = some (.string a0_0) := (bC BK290.out 0).trans rfl
   have hcz19_1 : w5.cell? ⟨gb290, 1, none⟩ = some (.bool a0_1) := (bC BK290.out 1).trans rfl
   have hcz19_2 : w5.cell? ⟨gb290, 2, none⟩ = some (.slice A0_2 l0_2.length c0_2) := (bC BK290.out 2).trans rfl
   have hcz19_3 : w5.cell? ⟨gb290, 3, none⟩ = some (.bool a0_3) := (bC BK290.out 3).trans rfl
   have hcz19_4 : w5.cell? ⟨gb290, 4, none⟩ = some (.slice A0_4 l0_4.length c0_4) := (bC BK290.out 4).trans rfl
   have hfz19_0 := bF BK290.out 0
   have hfz19_1 := bF BK290.out 1
   have hfz19_2 := bF BK290.out 2
   have hfz19_3 := bF BK290.out 3
   have hfz19_4 := bF BK290.out 4
   have hcz20_0 : w5.cell? ⟨gb291, 0, none⟩ = some (.string a1_0) := (bC BK291.out 0).trans rfl
   have hcz20_1 : w5.cell? ⟨gb291, 1, none⟩ = some (.bool a1_1) := (bC BK291.out 1).trans rfl
   have hcz20_2 : w5.cell? ⟨gb291, 2, none⟩ = some (.slice A1_2 l1_2.length c1_2) := (bC BK291.out 2).trans rfl
   have hcz20_3 : w5.cell? ⟨gb291, 3, none⟩ = some (.bool a1_3) := (bC BK291.out 3).trans rfl
   have hcz20_4 : w5.cell? ⟨gb291, 4, none⟩ = some (.slice A1_4 l1_4.length c1_4) := (bC BK291.out 4).trans rfl
   have hfz20_0 := bF BK291.out 0
   have hfz20_1 := bF BK291.out 1
   have hfz20_2 := bF BK291.out 2
   have hfz20_3 := bF BK291.out 3
   have hfz20_4 := bF BK291.out 4
   go_wp2
   repeat (go_quiet (fail); try go_wp2)
   go_meet
   case rel => exact ⟨_, (true), (by first | rfl | (simp; done) | (simp [*]; done)), H', ⟨by first | omega | exact Nat.le_refl _⟩, ⟨by (with_reducible repeat (first | refine kN ?_ _ | refine kD ?_ | refine kA ?_ _)); exact BK290.out⟩, ⟨by (with_reducible repeat (first | refine kN ?_ _ | refine kD ?_ | refine kA ?_ _)); exact BK291.out⟩, ⟨by repeat (with_reducible first | exact HB.out | apply bA | apply bQ | apply bD | refine bS ?_ GE290.out | refine bS ?_ GE291.out)⟩⟩
 case rest =>
  clear HC3
  try clear c1
  try clear p2
  try clear c6
  try clear c6b0
  try clear c6b1
  try clear c7
  try clear c7b0
  try clear c7b1
  try clear c7b2
  try clear c8
  try clear c11
  try clear c11b0
  try clear c11b1
  try clear c11b2
  try clear c12
  try clear c13
  try clear c15
  try clear c18
  try clear hcz10_0
  try clear hcz10_1
  try clear hcz10_2
  try clear hcz10_3
  try clear hcz10_4
  try clear hcz13_0
  try clear hcz13_1
  try clear hcz13_2
  try clear hcz13_3
  try clear hcz13_4
  try clear hcz14_0
  try clear hcz14_1
  try clear hcz14_2
  try clear hcz14_3
  try clear hcz14_4
  try clear hcz16_0
  try clear hcz16_1
  try clear hcz16_2
  try clear hcz16_3
  try clear hcz16_4
  try clear hcz17_0
  try clear hcz17_1
  try clear hcz17_2
  try clear hcz17_3
  try clear hcz17_4
  try clear hcz19_0
  try clear hcz19_1
  try clear hcz19_2
  try clear hcz19_3
  try clear hcz19_4
  try clear hcz20_0
  try clear hcz20_1
  try clear hcz20_2
  try clear hcz20_3
  try clear hcz20_4
  try clear hcz9_0
  try clear hcz9_1
  try clear hcz9_2
  try clear hcz9_3
  try clear hcz9_4
  try clear hfz10_0
  try clear hfz10_1
  try clear hfz10_2
  try clear hfz10_3
  try clear hfz10_4
  try clear hfz13_0
  try clear hfz13_1
  try clear hfz13_2
  try clear hfz13_3
  try clear hfz13_4
  try clear hfz14_0
  try clear hfz14_1
  try clear hfz14_2
  try clear hfz14_3
  try clear hfz14_4
  try clear hfz16_0
  try clear hfz16_1
  try clear hfz16_2
  try clear hfz16_3
  try clear hfz16_4
  try clear hfz17_0
  try clear hfz17_1
  try clear hfz17_2
  try clear hfz17_3
  try clear hfz17_4
  try clear hfz19_0
  try clear hfz19_1
  try clear hfz19_2
  try clear hfz19_3
  try clear hfz19_4
  try clear hfz20_0
  try clear hfz20_1
  try clear hfz20_2
  try clear hfz20_3
  try clear hfz20_4
  try clear hfz9_0
  try clear hfz9_1
  try clear hfz9_2
  try clear hfz9_3
  try clear hfz9_4
  obtain ⟨kq, x33_2, rfl, HA, HJ2, BK290, BK291, HB⟩ := hcut
  cases kq with
  | zero => exact absurd HA.out (by simp [burinref03_Equal.j0])
  | succ kj2 =>
   have H := HA.out
   clear HA
   simp only [burinref03_Equal.j0] at H
   by_cases c21 : x33_2 = true
   ·subst c21
    have H1 : (some false) = some r := by rw [if_pos rfl] at H; exact H
    clear H
    have H := H1
    clear H1
    obtain rfl := Option.some.inj H
    go_wp2
    repeat (go_quiet (fail); try go_wp2)
    go_ret
    exact ⟨by first | rfl | (simp [eN, eS] <;> rfl) | (simp [*, eN, eS] <;> rfl), by repeat (with_reducible first | exact HB.out | apply bA | apply bQ | apply bD | refine bS ?_ GE290.out | refine bS ?_ GE291.out)⟩
   ·replace c21 := Bool.eq_false_iff.mpr c21
    subst c21
    have H1 : (burinref03_Equal.l0 kj2 0 a0_0 a0_1 l0_2 a0_3 l0_4 a1_0 a1_1 l1_2 a1_3 l1_4) = some r := by rw [if_neg (show ¬ (false = true) by decide)] at H; exact H
    clear H
    have H := H1
    clear H1
    have H' := Az.mk H
    clear H
    go_wp2
    repeat (go_quiet (fail); try go_wp2)
    go_loopg [5] kj2 (fun kq v5 w' => ∃ (x5_2 : Int), v5 = .int .i64 x5_2 ∧ Az (burinref03_Equal.l0 kq x5_2 a0_0 a0_1 l0_2 a0_3 l0_4 a1_0 a1_1 l1_2 a1_3 l1_4 = some r) ∧ Az (kq ≤ kj2) ∧ Az (w'.heap[gb290]? = some (.cells #[.string a0_0, .bool a0_1, (.slice A0_2 l0_2.length c0_2), .bool a0_3, (.slice A0_4 l0_4.length c0_4)] 33 (0, 0))) ∧ Az (w'.heap[gb291]? = some (.cells #[.string a1_0, .bool a1_1, (.slice A1_2 l1_2.length c1_2), .bool a1_3, (.slice A1_4 l1_4.length c1_4)] 33 (0, 0))) ∧ Az (Below w.heap.size w w'))
    case atStart => exact ⟨(0), (by first | rfl | (simp; done) | (simp [*]; done)), H', ⟨Nat.le_refl _⟩, ⟨by (with_reducible repeat (first | refine kN ?_ _ | refine kD ?_ | refine kA ?_ _)); exact BK290.out⟩, ⟨by (with_reducible repeat (first | refine kN ?_ _ | refine kD ?_ | refine kA ?_ _)); exact BK291.out⟩, ⟨by repeat (with_reducible first | exact HB.out | apply bA | apply bQ | apply bD | refine bS ?_ GE290.out | refine bS ?_ GE291.out)⟩⟩
    case round =>
     clear H'
     try clear c1
     try clear c2
     try clear p2
     try clear c6
     try clear c6b0
     try clear c6b1
     try clear c7
     try clear c7b0
     try clear c7b1
     try clear c7b2
     try clear c8
     try clear c11
     try clear c11b0
     try clear c11b1
     try clear c11b2
     try clear c12
     try clear c13
     try clear c15
     try clear c18
     try clear c21
     try clear hcz10_0
     try clear hcz10_1
     try clear hcz10_2
     try clear hcz10_3
     try clear hcz10_4
     try clear hcz13_0
     try clear hcz13_1
     try clear hcz13_2
     try clear hcz13_3
     try clear hcz13_4
     try clear hcz14_0
     try clear hcz14_1
     try clear hcz14_2
     try clear hcz14_3
     try clear hcz14_4
     try clear hcz16_0
     try clear hcz16_1
     try clear hcz16_2
     try clear hcz16_3
     try clear hcz16_4
     try clear hcz17_0
     try clear hcz17_1
     try clear hcz17_2
     try clear hcz17_3
     try clear hcz17_4
     try clear hcz19_0
     try clear hcz19_1
     try clear hcz19_2
     try clear hcz19_3
     try clear hcz19_4
     try clear hcz20_0
     try clear hcz20_1
     try clear hcz20_2
     try clear hcz20_3
     try clear hcz20_4
     try clear hcz9_0
     try clear hcz9_1
     try clear hcz9_2
     try clear hcz9_3
     try clear hcz9_4
     try clear hfz10_0
     try clear hfz10_1
     try clear hfz10_2
     try clear hfz10_3
     try clear hfz10_4
     try clear hfz13_0
     try clear hfz13_1
     try clear hfz13_2
     try clear hfz13_3
     try clear hfz13_4
     try clear hfz14_0
     try clear hfz14_1
     try clear hfz14_2
     try clear hfz14_3
     try clear hfz14_4
     try clear hfz16_0
     try clear hfz16_1
     try clear hfz16_2
     try clear hfz16_3
     try clear hfz16_4
     try clear hfz17_0
     try clear hfz17_1
     try clear hfz17_2
     try clear hfz17_3
     try clear hfz17_4
     try clear hfz19_0
     try clear hfz19_1
     try clear hfz19_2
     try clear hfz19_3
     try clear hfz19_4
     try clear hfz20_0
     try clear hfz20_1
     try clear hfz20_2
     try clear hfz20_3
     try clear hfz20_4
     try clear hfz9_0
     try clear hfz9_1
     try clear hfz9_2
     try clear hfz9_3
     try clear hfz9_4
     try clear p2
     obtain ⟨x5_2, rfl, HA, HK2, BK290, BK291, HB⟩ := hrel
     cases gk with
     | zero => exact absurd HA.out (by simp [burinref03_Equal.l0])
     | succ k2 =>
      have H := HA.out
      clear HA
      simp only [burinref03_Equal.l0] at H
      by_cases c22 : x5_2 < (l0_2.length : Int)
      ·rw [if_pos c22] at H
       have c22b0 : decide (x5_2 < (l0_2.length : Int)) = true := decide_eq_true c22
       clear c22
       by_cases c23 : 0 ≤ x5_2
       ·rw [if_pos c23] at H
        have c23b0 : decide (0 ≤ x5_2) = true := decide_eq_true c23
        clear c23
        by_cases c24 : x5_2 < (l1_2.length : Int)
        ·rw [if_pos c24] at H
         have c24b0 : decide (x5_2 < (l1_2.length : Int)) = true := decide_eq_true c24
         clear c24
         by_cases c25 : (rdOf ByteArray.empty l0_2 x5_2).toList = (rdOf ByteArray.empty l1_2 x5_2).toList
         ·rw [if_pos c25] at H
          have c25b0 : ((rdOf ByteArray.empty l0_2 x5_2).toList == (rdOf ByteArray.empty l1_2 x5_2).toList) = true := beq_iff_eq.mpr c25
          have c25b1 : ((rdOf ByteArray.empty l0_2 x5_2).toList != (rdOf ByteArray.empty l1_2 x5_2).toList) = false := bne_eq_false_iff_eq.mpr c25
          clear c25
          have H' := Az.mk H
          clear H
          have hnb26 := NB290_291.out
          have hnc26 := NB291_290.out
          have hcz27_0 : wr.cell? ⟨gb290, 0, none⟩ = some (.string a0_0) := (bC BK290.out 0).trans rfl
          have hcz27_1 : wr.cell? ⟨gb290, 1, none⟩ = some (.bool a0_1) := (bC BK290.out 1).trans rfl
          have hcz27_2 : wr.cell? ⟨gb290, 2, none⟩ = some (.slice A0_2 l0_2.length c0_2) := (bC BK290.out 2).trans rfl
          have hcz27_3 : wr.cell? ⟨gb290, 3, none⟩ = some (.bool a0_3) := (bC BK290.out 3).trans rfl
          have hcz27_4 : wr.cell? ⟨gb290, 4, none⟩ = some (.slice A0_4 l0_4.length c0_4) := (bC BK290.out 4).trans rfl
          have hfz27_0 := bF BK290.out 0
          have hfz27_1 := bF BK290.out 1
          have hfz27_2 := bF BK290.out 2
          have hfz27_3 := bF BK290.out 3
          have hfz27_4 := bF BK290.out 4
          have p292 : 0 ≤ (x5_2 : Int) := od (by assumption)
          have q292 : x5_2 < (l0_2.length : Int) := od (by assumption)
          obtain ⟨ad292, e292, hx292_0⟩ := Kd.at_string HR0_2.out x5_2 p292 q292
          cases e292
          replace hx292_0 := (HB.out.cell (cl w _ hx292_0)).trans hx292_0
          replace p292 := eq_true p292
          replace q292 := eq_true q292
          have hcz28_0 : wr.cell? ⟨gb291, 0, none⟩ = some (.string a1_0) := (bC BK291.out 0).trans rfl
          have hcz28_1 : wr.cell? ⟨gb291, 1, none⟩ = some (.bool a1_1) := (bC BK291.out 1).trans rfl
          have hcz28_2 : wr.cell? ⟨gb291, 2, none⟩ = some (.slice A1_2 l1_2.length c1_2) := (bC BK291.out 2).trans rfl
          have hcz28_3 : wr.cell? ⟨gb291, 3, none⟩ = some (.bool a1_3) := (bC BK291.out 3).trans rfl
          have hcz28_4 : wr.cell? ⟨gb291, 4, none⟩ = some (.slice A1_4 l1_4.length c1_4) := (bC BK291.out 4).trans rfl
          have hfz28_0 := bF BK291.out 0
          have hfz28_1 := bF BK291.out 1
          have hfz28_2 := bF BK291.out 2
          have hfz28_3 := bF BK291.out 3
          have hfz28_4 := bF BK291.out 4
          have p293 : 0 ≤ (x5_2 : Int) := od (by assumption)
          have q293 : x5_2 < (l1_2.length : Int) := od (by assumption)
          obtain ⟨ad293, e293, hx293_0⟩ := Kd.at_string HR1_2.out x5_2 p293 q293
          cases e293
          replace hx293_0 := (HB.out.cell (cl w _ hx293_0)).trans hx293_0
          replace p293 := eq_true p293
          replace q293 := eq_true q293
          go_wp2
          repeat (go_quiet (fail); try go_wp2)
          go_roundg k2
          case measure => have := HJ2.out; have := HK2.out; omega
          case rel => exact ⟨(wrap64 (x5_2 + 1)), (by first | rfl | (simp; done) | (simp [*]; done)), H', ⟨by have := HJ2.out; have := HK2.out; omega⟩, ⟨by (with_reducible repeat (first | refine kN ?_ _ | refine kD ?_ | refine kA ?_ _)); exact BK290.out⟩, ⟨by (with_reducible repeat (first | refine kN ?_ _ | refine kD ?_ | refine kA ?_ _)); exact BK291.out⟩, ⟨by repeat (with_reducible first | exact HB.out | apply bA | apply bQ | apply bD | refine bS ?_ GE290.out | refine bS ?_ GE291.out)⟩⟩
         ·rw [if_neg c25] at H
          have c25b0 : ((rdOf ByteArray.empty l0_2 x5_2).toList == (rdOf ByteArray.empty l1_2 x5_2).toList) = false := beq_eq_false_iff_ne.mpr c25
          have c25b1 : ((rdOf ByteArray.empty l0_2 x5_2).toList != (rdOf ByteArray.empty l1_2 x5_2).toList) = true := bne_iff_ne.mpr c25
          obtain rfl := Option.some.inj H
          have hnb29 := NB290_291.out
          have hnc29 := NB291_290.out
          have hcz30_0 : wr.cell? ⟨gb290, 0, none⟩ = some (.string a0_0) := (bC BK290.out 0).trans rfl
          have hcz30_1 : wr.cell? ⟨gb290, 1, none⟩ = some (.bool a0_1) := (bC BK290.out 1).trans rfl
          have hcz30_2 : wr.cell? ⟨gb290, 2, none⟩ = some (.slice A0_2 l0_2.length c0_2) := (bC BK290.out 2).trans rfl
          have hcz30_3 : wr.cell? ⟨gb290, 3, none⟩ = some (.bool a0_3) := (bC BK290.out 3).trans rfl
          have hcz30_4 : wr.cell? ⟨gb290, 4, none⟩ = some (.slice A0_4 l0_4.length c0_4) := (bC BK290.out 4).trans rfl
          have hfz30_0 := bF BK290.out 0
          have hfz30_1 := bF BK290.out 1
          have hfz30_2 := bF BK290.out 2
          have hfz30_3 := bF BK290.out 3
          have hfz30_4 := bF BK290.out 4
          have p292 : 0 ≤ (x5_2 : Int) := od (by assumption)
          have q292 : x5_2 < (l0_2.length : Int) := od (by assumption)
          obtain ⟨ad292, e292, hx292_0⟩ := Kd.at_string HR0_2.out x5_2 p292 q292
          cases e292
          replace hx292_0 := (HB.out.cell (cl w _ hx292_0)).trans hx292_0
          replace p292 := eq_true p292
          replace q292 := eq_true q292
          have hcz31_0 : wr.cell? ⟨gb291, 0, none⟩ = some (.string a1_0) := (bC BK291.out 0).trans rfl
          have hcz31_1 : wr.cell? ⟨gb291, 1, none⟩ = some (.bool a1_1) := (bC BK291.out 1).trans rfl
          have hcz31_2 : wr.cell? ⟨gb291, 2, none⟩ = some (.slice A1_2 l1_2.length c1_2) := (bC BK291.out 2).trans rfl
          have hcz31_3 : wr.cell? ⟨gb291, 3, none⟩ = some (.bool a1_3) := (bC BK291.out 3).trans rfl
          have hcz31_4 : wr.cell? ⟨gb291, 4, none⟩ = some (.slice A1_4 l1_4.length c1_4) := (bC BK291.out 4).trans rfl
          have hfz31_0 := bF BK291.out 0
          have hfz31_1 := bF BK291.out 1
          have hfz31_2 := bF BK291.out 2
          have hfz31_3 := bF BK291.out 3
          have hfz31_4 := bF BK291.out 4
          have p293 : 0 ≤ (x5_2 : Int) := od (by assumption)
          have q293 : x5_2 < (l1_2.length : Int) := od (by assumption)
          obtain ⟨ad293, e293, hx293_0⟩ := Kd.at_string HR1_2.out x5_2 p293 q293
          cases e293
          replace hx293_0 := (HB.out.cell (cl w _ hx293_0)).trans hx293_0
          replace p293 := eq_true p293
          replace q293 := eq_true q293
          go_wp2
          repeat (go_quiet (fail); try go_wp2)
          go_ret
          exact ⟨by first | rfl | (simp [eN, eS] <;> rfl) | (simp [*, eN, eS] <;> rfl), by repeat (with_reducible first | exact HB.out | apply bA | apply bQ | apply bD | refine bS ?_ GE290.out | refine bS ?_ GE291.out)⟩
        ·rw [if_neg c24] at H
         exact absurd H (by simp)
       ·rw [if_neg c23] at H
        exact absurd H (by simp)
      ·rw [if_neg c22] at H
       have c22b0 : decide (x5_2 < (l0_2.length : Int)) = false := decide_eq_false c22
       clear c22
       replace H := Option.bind_eq_some_iff.mp H
       obtain ⟨t294, A320, H⟩ := H
       replace H : (some t294) = some r := H
       have A32 := Az.mk A320
       clear A320
       obtain rfl := Option.some.inj H
       have hnb33 := NB290_291.out
       have hnc33 := NB291_290.out
       have hcz34_0 : wr.cell? ⟨gb290, 0, none⟩ = some (.string a0_0) := (bC BK290.out 0).trans rfl
       have hcz34_1 : wr.cell? ⟨gb290, 1, none⟩ = some (.bool a0_1) := (bC BK290.out 1).trans rfl
       have hcz34_2 : wr.cell? ⟨gb290, 2, none⟩ = some (.slice A0_2 l0_2.length c0_2) := (bC BK290.out 2).trans rfl
       have hcz34_3 : wr.cell? ⟨gb290, 3, none⟩ = some (.bool a0_3) := (bC BK290.out 3).trans rfl
       have hcz34_4 : wr.cell? ⟨gb290, 4, none⟩ = some (.slice A0_4 l0_4.length c0_4) := (bC BK290.out 4).trans rfl
       have hfz34_0 := bF BK290.out 0
       have hfz34_1 := bF BK290.out 1
       have hfz34_2 := bF BK290.out 2
       have hfz34_3 := bF BK290.out 3
       have hfz34_4 := bF BK290.out 4
       have hcz35_0 : wr.cell? ⟨gb291, 0, none⟩ = some (.string a1_0) := (bC BK291.out 0).trans rfl
       have hcz35_1 : wr.cell? ⟨gb291, 1, none⟩ = some (.bool a1_1) := (bC BK291.out 1).trans rfl
       have hcz35_2 : wr.cell? ⟨gb291, 2, none⟩ = some (.slice A1_2 l1_2.length c1_2) := (bC BK291.out 2).trans rfl
       have hcz35_3 : wr.cell? ⟨gb291, 3, none⟩ = some (.bool a1_3) := (bC BK291.out 3).trans rfl
       have hcz35_4 : wr.cell? ⟨gb291, 4, none⟩ = some (.slice A1_4 l1_4.length c1_4) := (bC BK291.out 4).trans rfl
       have hfz35_0 := bF BK291.out 0
       have hfz35_1 := bF BK291.out 1
       have hfz35_2 := bF BK291.out 2
       have hfz35_3 := bF BK291.out 3
       have hfz35_4 := bF BK291.out 4
       go_wp2_with (first | (go_at_call 27; (with_reducible refine (burinref02_Same.calls k2 _ _ l0_4 _ _ l1_4 t294 _ ?side1 ?side2 ?side3 ?side4 A32.out).mono ?_); (case side1 => repeat (first | exact (Kd.C_below HR0_4.out HB.out) | (with_reducible refine Kd.C_alloc ?_ _) | (with_reducible refine Kd.C_drewN ?_ _) | (with_reducible refine Kd.C_drew ?_))); (case side2 => exact HC0_4.out); (case side3 => repeat (first | exact (Kd.C_below HR1_4.out HB.out) | (with_reducible refine Kd.C_alloc ?_ _) | (with_reducible refine Kd.C_drewN ?_ _) | (with_reducible refine Kd.C_drew ?_))); (case side4 => exact HC1_4.out); rintro e w' ⟨rfl, ⟨nd, rfl⟩⟩; (try first | exact ⟨rfl, _, World.drewN_drewN _ _ _⟩ | exact ⟨rfl, _, Eq.trans (World.drewN_drewN _ _ _) (congrArg (World.drewN _) (Nat.add_assoc _ _ _))⟩)))
       repeat (go_quiet (first | (go_at_call 27; (with_reducible refine (burinref02_Same.calls k2 _ _ l0_4 _ _ l1_4 t294 _ ?side1 ?side2 ?side3 ?side4 A32.out).mono ?_); (case side1 => repeat (first | exact (Kd.C_below HR0_4.out HB.out) | (with_reducible refine Kd.C_alloc ?_ _) | (with_reducible refine Kd.C_drewN ?_ _) | (with_reducible refine Kd.C_drew ?_))); (case side2 => exact HC0_4.out); (case side3 => repeat (first | exact (Kd.C_below HR1_4.out HB.out) | (with_reducible refine Kd.C_alloc ?_ _) | (with_reducible refine Kd.C_drewN ?_ _) | (with_reducible refine Kd.C_drew ?_))); (case side4 => exact HC1_4.out); rintro e w' ⟨rfl, ⟨nd, rfl⟩⟩; (try first | exact ⟨rfl, _, World.drewN_drewN _ _ _⟩ | exact ⟨rfl, _, Eq.trans (World.drewN_drewN _ _ _) (congrArg (World.drewN _) (Nat.add_assoc _ _ _))⟩))); try go_wp2_with (first | (go_at_call 27; (with_reducible refine (burinref02_Same.calls k2 _ _ l0_4 _ _ l1_4 t294 _ ?side1 ?side2 ?side3 ?side4 A32.out).mono ?_); (case side1 => repeat (first | exact (Kd.C_below HR0_4.out HB.out) | (with_reducible refine Kd.C_alloc ?_ _) | (with_reducible refine Kd.C_drewN ?_ _) | (with_reducible refine Kd.C_drew ?_))); (case side2 => exact HC0_4.out); (case side3 => repeat (first | exact (Kd.C_below HR1_4.out HB.out) | (with_reducible refine Kd.C_alloc ?_ _) | (with_reducible refine Kd.C_drewN ?_ _) | (with_reducible refine Kd.C_drew ?_))); (case side4 => exact HC1_4.out); rintro e w' ⟨rfl, ⟨nd, rfl⟩⟩; (try first | exact ⟨rfl, _, World.drewN_drewN _ _ _⟩ | exact ⟨rfl, _, Eq.trans (World.drewN_drewN _ _ _) (congrArg (World.drewN _) (Nat.add_assoc _ _ _))⟩))))
       go_ret
       exact ⟨by first | rfl | (simp [eN, eS] <;> rfl) | (simp [*, eN, eS] <;> rfl), by repeat (with_reducible first | exact HB.out | apply bA | apply bQ | apply bD | refine bS ?_ GE290.out | refine bS ?_ GE291.out)⟩
end Go.Proofs.YtcbfbefpbjmglaaGreatDoor.PA
