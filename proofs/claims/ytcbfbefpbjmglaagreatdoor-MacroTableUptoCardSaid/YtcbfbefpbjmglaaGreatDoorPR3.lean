import Derived.Test.YtcbfbefpbjmglaaGreatDoorZ
import Derived.Test.YtcbfbefpbjmglaaGreatDoorPR2
set_option maxHeartbeats 8000000
set_option maxRecDepth 100000
set_option linter.unusedSimpArgs false
set_option linter.unusedVariables false
namespace Go.Proofs.YtcbfbefpbjmglaaGreatDoor.PA
open Go.RowKit YtcbfbefpbjmglaaGreatDoorT YtcbfbefpbjmglaaGreatDoorW PrintWords PrintLast PrintMore
attribute [local go_sem] max2_int min2_int max_two min_two max_three min_three max_four min_four
mutual
def burinref03_body.j0 : Nat → List (S55) → Int → Bool → ByteArray → Bool → List ByteArray → Bool → List (S55) → Option (Bool)
 | 0, _, _, _, _, _, _, _, _ => none
 | k + 1, x3, x4, x36, x270000, x270001, x270002, x270003, x270004 => if x36 = true then (some false) else (burinref03_body.l0 k x3 x4 0 x270000 x270001 x270002 x270003 x270004)
def burinref03_body.l0 : Nat → List (S55) → Int → Int → ByteArray → Bool → List ByteArray → Bool → List (S55) → Option (Bool)
 | 0, _, _, _, _, _, _, _, _ => none
 | k + 1, x3, x4, x5, x270000, x270001, x270002, x270003, x270004 => if x5 < x4 then (if 0 ≤ x5 then (if x5 < (x3.length : Int) then (if ((rT x3 x5).f1).toList = ([95, 95, 86, 65, 95, 65, 82, 71, 83, 95, 95] : List UInt8) then (burinref03_body.j2 k x3 x4 x5 (!x270003) x270000 x270001 x270002 x270003 x270004) else (burinref03_body.j2 k x3 x4 x5 false x270000 x270001 x270002 x270003 x270004)) else (none)) else (none)) else (some true)
def burinref03_body.j2 : Nat → List (S55) → Int → Int → Bool → ByteArray → Bool → List ByteArray → Bool → List (S55) → Option (Bool)
 | 0, _, _, _, _, _, _, _, _, _ => none
 | k + 1, x3, x4, x5, x52, x270000, x270001, x270002, x270003, x270004 => if x52 = true then (some false) else (if x270001 = true then (if 0 ≤ x5 then (if x5 < (x3.length : Int) then (if ((rT x3 x5).f1).toList = ([35] : List UInt8) then (if (wrap64 (x5 + 1)) = x4 then (some false) else (if 0 ≤ (wrap64 (x5 + 1)) then (if (wrap64 (x5 + 1)) < (x3.length : Int) then ((burinref03_param.f k x270000 x270001 x270002 x270003 x270004 ((rT x3 (wrap64 (x5 + 1))).f0) ((rT x3 (wrap64 (x5 + 1))).f1) ((rT x3 (wrap64 (x5 + 1))).f2) ((rT x3 (wrap64 (x5 + 1))).f3) ((rT x3 (wrap64 (x5 + 1))).f4) ((rT x3 (wrap64 (x5 + 1))).f5)).bind fun t276 => (if t276 < 0 then (some false) else (burinref03_body.l0 k x3 x4 (wrap64 (x5 + 1)) x270000 x270001 x270002 x270003 x270004))) else (none)) else (none))) else (burinref03_body.l0 k x3 x4 (wrap64 (x5 + 1)) x270000 x270001 x270002 x270003 x270004)) else (none)) else (none)) else (burinref03_body.l0 k x3 x4 (wrap64 (x5 + 1)) x270000 x270001 x270002 x270003 x270004))
end
def burinref03_body.f (k : Nat) (a0_0 : ByteArray) (a0_1 : Bool) (l0_2 : List ByteArray) (a0_3 : Bool) (l0_4 : List (S55)) : Option (Bool) := if (l0_4.length : Int) > 500 then (burinref03_body.j0 k l0_4 (l0_4.length : Int) true a0_0 a0_1 l0_2 a0_3 l0_4) else ((burinref03_spelt.f k l0_4).bind fun t270 => (if t270 = true then (if (l0_4.length : Int) > 0 then (if 0 < (l0_4.length : Int) then (if ((rT l0_4 0).f1).toList = ([35, 35] : List UInt8) then (burinref03_body.j0 k l0_4 (l0_4.length : Int) true a0_0 a0_1 l0_2 a0_3 l0_4) else (if 0 ≤ (wrap64 ((l0_4.length : Int) - 1)) then (if (wrap64 ((l0_4.length : Int) - 1)) < (l0_4.length : Int) then (burinref03_body.j0 k l0_4 (l0_4.length : Int) (((rT l0_4 (wrap64 ((l0_4.length : Int) - 1))).f1).toList == ([35, 35] : List UInt8)) a0_0 a0_1 l0_2 a0_3 l0_4) else (none)) else (none))) else (none)) else (burinref03_body.j0 k l0_4 (l0_4.length : Int) false a0_0 a0_1 l0_2 a0_3 l0_4)) else (burinref03_body.j0 k l0_4 (l0_4.length : Int) true a0_0 a0_1 l0_2 a0_3 l0_4)))
def burinref03_body.T10 : Bool × List (List Nat × List Nat) := (true, [([], []), ([0], [0]), ([1], [1]), ([2], [2]), ([2], [2]), ([3, 4, 2], [2, 3, 4]), ([5, 2], [2, 5]), ([6, 2], [2, 6]), ([7, 2], [2, 7]), ([2, 8], [2, 8]), ([9, 2], [9]), ([10], [10]), ([11, 10], [10, 11]), ([10], [10]), ([12, 13, 10], [10, 12, 13]), ([14, 10, 10], [10, 14]), ([15], [15]), ([15], [15]), ([15], [15]), ([18, 15], [15, 18]), ([17, 19, 15], [15, 17, 19]), ([20, 15], [15, 20]), ([16, 21, 15, 15], [15, 16, 21]), ([22, 15], [15, 22]), ([15, 23, 10], [10, 15, 23]), ([10, 24], [10, 24])])
def burinref03_body.B10 : List Nat := [0, 1, 3, 7, 7, 31, 63, 127, 255, 511, 1023, 2047, 4095, 2047, 16383, 32767, 65535, 65535, 65535, 327679, 983039, 2031615, 4194303, 8388607, 16777215, 33554431]
theorem burinref03_body.tab10 : rtab .any (opsOf Tryz.f41 10) = burinref03_body.T10 := by kernel_rfl
theorem burinref03_body.bits10 : waitsOk burinref03_body.T10.2 burinref03_body.B10 = true := by kernel_rfl
theorem burinref03_body.calls (k : Nat) (a0_0 : ByteArray) (a0_1 : Bool) (A0_2 : Option Addr) (c0_2 : Nat) (l0_2 : List ByteArray) (a0_3 : Bool) (A0_4 : Option Addr) (c0_4 : Nat) (l0_4 : List (S55)) (r : Bool) (w : World) (hr0_2 : Kd.C Kd.string w A0_2 l0_2.length l0_2) (hc0_2 : l0_2.length ≤ c0_2) (hr0_4 : Kd.C k55 w A0_4 l0_4.length l0_4) (hc0_4 : l0_4.length ≤ c0_4) (h : burinref03_body.f k a0_0 a0_1 l0_2 a0_3 l0_4 = some r) :
  Calls Tryz.prog 41 #[.agg #[.string a0_0, .bool a0_1, .slice A0_2 l0_2.length c0_2, .bool a0_3, .slice A0_4 l0_4.length c0_4]] w fun e w' => e = .returned (.bool r) ∧ Below w.heap.size w w' := by
 have hu32 := Tryz.underlying33
 have hu48 := Tryz.underlying55
 have HR0_2 := Az.mk hr0_2
 have HC0_2 := Az.mk hc0_2
 clear hr0_2 hc0_2
 have HR0_4 := Az.mk hr0_4
 have HC0_4 := Az.mk hc0_4
 clear hr0_4 hc0_4
 have HB := Az.mk (Below.refl w.heap.size w)
 have H : (if (l0_4.length : Int) > 500 then (burinref03_body.j0 k l0_4 (l0_4.length : Int) true a0_0 a0_1 l0_2 a0_3 l0_4) else ((burinref03_spelt.f k l0_4).bind fun t270 => (if t270 = true then (if (l0_4.length : Int) > 0 then (if 0 < (l0_4.length : Int) then (if ((rT l0_4 0).f1).toList = ([35, 35] : List UInt8) then (burinref03_body.j0 k l0_4 (l0_4.length : Int) true a0_0 a0_1 l0_2 a0_3 l0_4) else (if 0 ≤ (wrap64 ((l0_4.length : Int) - 1)) then (if (wrap64 ((l0_4.length : Int) - 1)) < (l0_4.length : Int) then (burinref03_body.j0 k l0_4 (l0_4.length : Int) (((rT l0_4 (wrap64 ((l0_4.length : Int) - 1))).f1).toList == ([35, 35] : List UInt8)) a0_0 a0_1 l0_2 a0_3 l0_4) else (none)) else (none))) else (none)) else (burinref03_body.j0 k l0_4 (l0_4.length : Int) false a0_0 a0_1 l0_2 a0_3 l0_4)) else (burinref03_body.j0 k l0_4 (l0_4.length : Int) true a0_0 a0_1 l0_2 a0_3 l0_4)))) = some r := h
 clear h
 have HC2 := Az.mk H
 clear H
 go_enter Tryz.func41, Tryz.ntmps41
 go_upto_region 3 with (first | ((with_reducible refine gate_dst (N := 1) rfl ?_); refine box_event ?hg (N := 1) ?hd (cs := #[.string a0_0, .bool a0_1, .slice A0_2 l0_2.length c0_2, .bool a0_3, .slice A0_4 l0_4.length c0_4]) (t := 33) ?hr ?_; (case hd => rfl); (case hg => rfl); (case hr => first | (go_simp; done) | (go_simp; rfl)); intro gb269 hg w3 hbox hb; have n0_ := Az.mk (bP (by repeat (with_reducible first | exact HB.out | apply bA | apply bQ | apply bD)) hb); have n1_ := Az.mk (hbox); have n2_ := Az.mk ((by rw [hg]; exact (bZ (by repeat (with_reducible first | exact HB.out | apply bA | apply bQ | apply bD))) : w.heap.size ≤ gb269)); have n3_ := n2_; clear HB; have HB := n0_; have BK269 := n1_; have GW269 := n2_; have GE269 := n3_; clear n0_ n1_ n2_ n3_; clear hb hbox hg; have hcz4_0 : w3.cell? ⟨gb269, 0, none⟩ = some (.string a0_0) := (bC BK269.out 0).trans rfl; have hcz4_1 : w3.cell? ⟨gb269, 1, none⟩ = some (.bool a0_1) := (bC BK269.out 1).trans rfl; have hcz4_2 : w3.cell? ⟨gb269, 2, none⟩ = some (.slice A0_2 l0_2.length c0_2) := (bC BK269.out 2).trans rfl; have hcz4_3 : w3.cell? ⟨gb269, 3, none⟩ = some (.bool a0_3) := (bC BK269.out 3).trans rfl; have hcz4_4 : w3.cell? ⟨gb269, 4, none⟩ = some (.slice A0_4 l0_4.length c0_4) := (bC BK269.out 4).trans rfl; have hfz4_0 := bF BK269.out 0; have hfz4_1 := bF BK269.out 1; have hfz4_2 := bF BK269.out 2; have hfz4_3 := bF BK269.out 3; have hfz4_4 := bF BK269.out 4))
 (try simp only [Act.put, List.setIfInBounds_toArray, List.set_cons_zero, List.set_cons_succ])
 go_cut [36] (fun v36 wc => ∃ (kq : Nat) (x36_1 : Bool), v36 = .bool x36_1 ∧ Az (burinref03_body.j0 kq l0_4 (l0_4.length : Int) x36_1 a0_0 a0_1 l0_2 a0_3 l0_4 = some r) ∧ Az (kq ≤ k) ∧ Az (wc.heap[gb269]? = some (.cells #[.string a0_0, .bool a0_1, (.slice A0_2 l0_2.length c0_2), .bool a0_3, (.slice A0_4 l0_4.length c0_4)] 33 (0, 0))) ∧ Az (Below w.heap.size w wc))
 case first =>
  have H := HC2.out
  clear HC2
  by_cases c5 : (l0_4.length : Int) > 500
  ·rw [if_pos c5] at H
   have c5b0 : decide (500 < (l0_4.length : Int)) = true := decide_eq_true c5
   have c5b1 : decide (500 < l0_4.length) = true := decide_eq_true (by omega)
   clear c5
   (first | rw [c5b0] | (simp only [i64_w, i32_w]; rw [c5b0]) | skip)
   have H' := Az.mk H
   clear H
   go_wp2
   go_meet
   case rel => exact ⟨_, (true), (by first | rfl | (simp; done) | (simp [*]; done)), H', ⟨by first | omega | exact Nat.le_refl _⟩, ⟨by (with_reducible repeat (first | refine kN ?_ _ | refine kD ?_ | refine kA ?_ _)); exact BK269.out⟩, ⟨by repeat (with_reducible first | exact HB.out | apply bA | apply bQ | apply bD | refine bS ?_ GE269.out)⟩⟩
  ·rw [if_neg c5] at H
   have c5b0 : decide (500 < (l0_4.length : Int)) = false := decide_eq_false c5
   have c5b1 : decide (500 < l0_4.length) = false := decide_eq_false (by omega)
   clear c5
   (first | rw [c5b0] | (simp only [i64_w, i32_w]; rw [c5b0]) | skip)
   replace H := Option.bind_eq_some_iff.mp H
   obtain ⟨t270, A60, H⟩ := H
   replace H : (if t270 = true then (if (l0_4.length : Int) > 0 then (if 0 < (l0_4.length : Int) then (if ((rT l0_4 0).f1).toList = ([35, 35] : List UInt8) then (burinref03_body.j0 k l0_4 (l0_4.length : Int) true a0_0 a0_1 l0_2 a0_3 l0_4) else (if 0 ≤ (wrap64 ((l0_4.length : Int) - 1)) then (if (wrap64 ((l0_4.length : Int) - 1)) < (l0_4.length : Int) then (burinref03_body.j0 k l0_4 (l0_4.length : Int) (((rT l0_4 (wrap64 ((l0_4.length : Int) - 1))).f1).toList == ([35, 35] : List UInt8)) a0_0 a0_1 l0_2 a0_3 l0_4) else (none)) else (none))) else (none)) else (burinref03_body.j0 k l0_4 (l0_4.length : Int) false a0_0 a0_1 l0_2 a0_3 l0_4)) else (burinref03_body.j0 k l0_4 (l0_4.length : Int) true a0_0 a0_1 l0_2 a0_3 l0_4)) = some r := H
   have A6 := Az.mk A60
   clear A60
   by_cases c7 : t270 = true
   ·subst c7
    have H1 : (if (l0_4.length : Int) > 0 then (if 0 < (l0_4.length : Int) then (if ((rT l0_4 0).f1).toList = ([35, 35] : List UInt8) then (burinref03_body.j0 k l0_4 (l0_4.length : Int) true a0_0 a0_1 l0_2 a0_3 l0_4) else (if 0 ≤ (wrap64 ((l0_4.length : Int) - 1)) then (if (wrap64 ((l0_4.length : Int) - 1)) < (l0_4.length : Int) then (burinref03_body.j0 k l0_4 (l0_4.length : Int) (((rT l0_4 (wrap64 ((l0_4.length : Int) - 1))).f1).toList == ([35, 35] : List UInt8)) a0_0 a0_1 l0_2 a0_3 l0_4) else (none)) else (none))) else (none)) else (burinref03_body.j0 k l0_4 (l0_4.length : Int) false a0_0 a0_1 l0_2 a0_3 l0_4)) = some r := by rw [if_pos rfl] at H; exact H
    clear H
    have H := H1
    clear H1
    by_cases c8 : (l0_4.length : Int) > 0
    ·rw [if_pos c8] at H
     have c8b0 : decide (0 < (l0_4.length : Int)) = true := decide_eq_true c8
     have c8b1 : decide (0 < l0_4.length) = true := decide_eq_true (by omega)
     clear c8
     by_cases c9 : 0 < (l0_4.length : Int)
     ·rw [if_pos c9] at H
      have c9b0 : decide (0 < (l0_4.length : Int)) = true := decide_eq_true c9
      have c9b1 : decide (0 < l0_4.length) = true := decide_eq_true (by omega)
      clear c9
      by_cases c10 : ((rT l0_4 0).f1).toList = ([35, 35] : List UInt8)
      ·rw [if_pos c10] at H
       have c10b0 : (((rT l0_4 0).f1).toList == ([35, 35] : List UInt8)) = true := beq_iff_eq.mpr c10
       have c10b1 : (((rT l0_4 0).f1).toList != ([35, 35] : List UInt8)) = false := bne_eq_false_iff_eq.mpr c10
       clear c10
       have H' := Az.mk H
       clear H
       go_wp2_with (first | (go_at_call 58; (with_reducible refine (burinref03_spelt.calls k _ _ l0_4 true _ ?side1 ?side2 A6.out).mono ?_); (case side1 => repeat (first | exact (Kd.C_below HR0_4.out HB.out) | (with_reducible refine Kd.C_alloc ?_ _) | (with_reducible refine Kd.C_drewN ?_ _) | (with_reducible refine Kd.C_drew ?_))); (case side2 => exact HC0_4.out); rintro e w11 ⟨rfl, hb⟩; have n0_ := Az.mk (blk_below (g := gb269) (o := .cells #[.string a0_0, .bool a0_1, .slice A0_2 l0_2.length c0_2, .bool a0_3, .slice A0_4 l0_4.length c0_4] 33 (0, 0)) (by (with_reducible repeat (first | refine kN ?_ _ | refine kD ?_ | refine kA ?_ _)); exact BK269.out) hb); have n1_ := Az.mk (bP (by repeat (with_reducible first | exact HB.out | apply bA | apply bQ | apply bD | refine bS ?_ GE269.out)) hb); clear BK269; clear HB; have BK269 := n0_; have HB := n1_; clear n0_ n1_; (try clear hb); (try clear hb2); (try clear hk); (try clear hi); have p271 : 0 ≤ (0 : Int) := (by omega); have q271 : 0 < (l0_4.length : Int) := od (by assumption); obtain ⟨ad271, e271, hx271_0, hx271_1, hx271_2, hx271_3, hx271_4, hx271_5⟩ := at_T55 HR0_4.out 0 p271 q271; cases e271; have qi271 : (0 < l0_4.length) = True := eq_true (by omega); (try rw [show ((0 : Int)).toNat = 0 from rfl] at hx271_0); (try rw [show 0 * 6 = 0 from rfl] at hx271_0); (try rw [Addr.add_zero'] at hx271_0); (try rw [show ((0 : Int)).toNat = 0 from rfl] at hx271_1); (try rw [show 0 * 6 = 0 from rfl] at hx271_1); (try rw [Addr.add_zero'] at hx271_1); (try rw [show ((0 : Int)).toNat = 0 from rfl] at hx271_2); (try rw [show 0 * 6 = 0 from rfl] at hx271_2); (try rw [Addr.add_zero'] at hx271_2); (try rw [show ((0 : Int)).toNat = 0 from rfl] at hx271_3); (try rw [show 0 * 6 = 0 from rfl] at hx271_3); (try rw [Addr.add_zero'] at hx271_3); (try rw [show ((0 : Int)).toNat = 0 from rfl] at hx271_4); (try rw [show 0 * 6 = 0 from rfl] at hx271_4); (try rw [Addr.add_zero'] at hx271_4); (try rw [show ((0 : Int)).toNat = 0 from rfl] at hx271_5); (try rw [show 0 * 6 = 0 from rfl] at hx271_5); (try rw [Addr.add_zero'] at hx271_5); replace hx271_0 := (HB.out.cell (cl w _ hx271_0)).trans hx271_0; replace hx271_1 := (HB.out.cell (cl w _ hx271_1)).trans hx271_1; replace hx271_2 := (HB.out.cell (cl w _ hx271_2)).trans hx271_2; replace hx271_3 := (HB.out.cell (cl w _ hx271_3)).trans hx271_3; replace hx271_4 := (HB.out.cell (cl w _ hx271_4)).trans hx271_4; replace hx271_5 := (HB.out.cell (cl w _ hx271_5)).trans hx271_5; replace p271 := eq_true p271; replace q271 := eq_true q271))
       go_meet
       case rel => exact ⟨_, (true), (by first | rfl | (simp; done) | (simp [*]; done)), H', ⟨by first | omega | exact Nat.le_refl _⟩, ⟨by (with_reducible repeat (first | refine kN ?_ _ | refine kD ?_ | refine kA ?_ _)); exact BK269.out⟩, ⟨by repeat (with_reducible first | exact HB.out | apply bA | apply bQ | apply bD | refine bS ?_ GE269.out)⟩⟩
      ·rw [if_neg c10] at H
       have c10b0 : (((rT l0_4 0).f1).toList == ([35, 35] : List UInt8)) = false := beq_eq_false_iff_ne.mpr c10
       have c10b1 : (((rT l0_4 0).f1).toList != ([35, 35] : List UInt8)) = true := bne_iff_ne.mpr c10
       obtain ⟨ji12, hji12⟩ : ∃ j_ : Int, (wrap64 ((l0_4.length : Int) - 1)) = j_ := ⟨_, rfl⟩
       replace H : (if 0 ≤ (ji12) then (if (ji12) < (l0_4.length : Int) then (burinref03_body.j0 k l0_4 (l0_4.length : Int) (((rT l0_4 (ji12)).f1).toList == ([35, 35] : List UInt8)) a0_0 a0_1 l0_2 a0_3 l0_4) else (none)) else (none)) = some r := by first | (rw [hji12] at H; exact H) | (simp only [hji12] at H ⊢; exact H)
       (try rw [hji12] at A6)
       have hji12w : (IntKind.i64.wrap ((l0_4.length : Int) - 1)) = ji12 := (i64_w _).trans hji12
       by_cases c13 : 0 ≤ (ji12)
       ·rw [if_pos c13] at H
        have c13b0 : decide (0 ≤ (ji12)) = true := decide_eq_true c13
        clear c13
        by_cases c14 : (ji12) < (l0_4.length : Int)
        ·rw [if_pos c14] at H
         have c14b0 : decide ((ji12) < (l0_4.length : Int)) = true := decide_eq_true c14
         clear c14
         have H' := Az.mk H
         clear H
         go_wp2_with (first | (go_at_call 58; (with_reducible refine (burinref03_spelt.calls k _ _ l0_4 true _ ?side1 ?side2 A6.out).mono ?_); (case side1 => repeat (first | exact (Kd.C_below HR0_4.out HB.out) | (with_reducible refine Kd.C_alloc ?_ _) | (with_reducible refine Kd.C_drewN ?_ _) | (with_reducible refine Kd.C_drew ?_))); (case side2 => exact HC0_4.out); rintro e w15 ⟨rfl, hb⟩; have n0_ := Az.mk (blk_below (g := gb269) (o := .cells #[.string a0_0, .bool a0_1, .slice A0_2 l0_2.length c0_2, .bool a0_3, .slice A0_4 l0_4.length c0_4] 33 (0, 0)) (by (with_reducible repeat (first | refine kN ?_ _ | refine kD ?_ | refine kA ?_ _)); exact BK269.out) hb); have n1_ := Az.mk (bP (by repeat (with_reducible first | exact HB.out | apply bA | apply bQ | apply bD | refine bS ?_ GE269.out)) hb); clear BK269; clear HB; have BK269 := n0_; have HB := n1_; clear n0_ n1_; (try clear hb); (try clear hb2); (try clear hk); (try clear hi); have p271 : 0 ≤ (0 : Int) := (by omega); have q271 : 0 < (l0_4.length : Int) := od (by assumption); obtain ⟨ad271, e271, hx271_0, hx271_1, hx271_2, hx271_3, hx271_4, hx271_5⟩ := at_T55 HR0_4.out 0 p271 q271; cases e271; have qi271 : (0 < l0_4.length) = True := eq_true (by omega); (try rw [show ((0 : Int)).toNat = 0 from rfl] at hx271_0); (try rw [show 0 * 6 = 0 from rfl] at hx271_0); (try rw [Addr.add_zero'] at hx271_0); (try rw [show ((0 : Int)).toNat = 0 from rfl] at hx271_1); (try rw [show 0 * 6 = 0 from rfl] at hx271_1); (try rw [Addr.add_zero'] at hx271_1); (try rw [show ((0 : Int)).toNat = 0 from rfl] at hx271_2); (try rw [show 0 * 6 = 0 from rfl] at hx271_2); (try rw [Addr.add_zero'] at hx271_2); (try rw [show ((0 : Int)).toNat = 0 from rfl] at hx271_3); (try rw [show 0 * 6 = 0 from rfl] at hx271_3); (try rw [Addr.add_zero'] at hx271_3); (try rw [show ((0 : Int)).toNat = 0 from rfl] at hx271_4); (try rw [show 0 * 6 = 0 from rfl] at hx271_4); (try rw [Addr.add_zero'] at hx271_4); (try rw [show ((0 : Int)).toNat = 0 from rfl] at hx271_5); (try rw [show 0 * 6 = 0 from rfl] at hx271_5); (try rw [Addr.add_zero'] at hx271_5); replace hx271_0 := (HB.out.cell (cl w _ hx271_0)).trans hx271_0; replace hx271_1 := (HB.out.cell (cl w _ hx271_1)).trans hx271_1; replace hx271_2 := (HB.out.cell (cl w _ hx271_2)).trans hx271_2; replace hx271_3 := (HB.out.cell (cl w _ hx271_3)).trans hx271_3; replace hx271_4 := (HB.out.cell (cl w _ hx271_4)).trans hx271_4; replace hx271_5 := (HB.out.cell (cl w _ hx271_5)).trans hx271_5; replace p271 := eq_true p271; replace q271 := eq_true q271; have p272 : 0 ≤ ((ji12) : Int) := od (by assumption); have q272 : (ji12) < (l0_4.length : Int) := od (by assumption); obtain ⟨ad272, e272, hx272_0, hx272_1, hx272_2, hx272_3, hx272_4, hx272_5⟩ := at_T55 HR0_4.out (ji12) p272 q272; obtain rfl : ad271 = ad272 := (by injection e272); replace hx272_0 := (HB.out.cell (cl w _ hx272_0)).trans hx272_0; replace hx272_1 := (HB.out.cell (cl w _ hx272_1)).trans hx272_1; replace hx272_2 := (HB.out.cell (cl w _ hx272_2)).trans hx272_2; replace hx272_3 := (HB.out.cell (cl w _ hx272_3)).trans hx272_3; replace hx272_4 := (HB.out.cell (cl w _ hx272_4)).trans hx272_4; replace hx272_5 := (HB.out.cell (cl w _ hx272_5)).trans hx272_5; replace p272 := eq_true p272; replace q272 := eq_true q272))
         go_meet
         case rel => exact ⟨_, ((((rT l0_4 (ji12)).f1).toList == ([35, 35] : List UInt8))), (by first | rfl | (simp; done) | (simp only [← hji12] <;> (first | rfl | simp)) | (simp [*]; done)), H', ⟨by first | omega | exact Nat.le_refl _⟩, ⟨by (with_reducible repeat (first | refine kN ?_ _ | refine kD ?_ | refine kA ?_ _)); exact BK269.out⟩, ⟨by repeat (with_reducible first | exact HB.out | apply bA | apply bQ | apply bD | refine bS ?_ GE269.out)⟩⟩
        ·rw [if_neg c14] at H
         exact absurd H (by simp)
       ·rw [if_neg c13] at H
        exact absurd H (by simp)
     ·rw [if_neg c9] at H
      exact absurd H (by simp)
    ·rw [if_neg c8] at H
     have c8b0 : decide (0 < (l0_4.length : Int)) = false := decide_eq_false c8
     have c8b1 : decide (0 < l0_4.length) = false := decide_eq_false (by omega)
     clear c8
     have H' := Az.mk H
     clear H
     go_wp2_with (first | (go_at_call 58; (with_reducible refine (burinref03_spelt.calls k _ _ l0_4 true _ ?side1 ?side2 A6.out).mono ?_); (case side1 => repeat (first | exact (Kd.C_below HR0_4.out HB.out) | (with_reducible refine Kd.C_alloc ?_ _) | (with_reducible refine Kd.C_drewN ?_ _) | (with_reducible refine Kd.C_drew ?_))); (case side2 => exact HC0_4.out); rintro e w16 ⟨rfl, hb⟩; have n0_ := Az.mk (blk_below (g := gb269) (o := .cells #[.string a0_0, .bool a0_1, .slice A0_2 l0_2.length c0_2, .bool a0_3, .slice A0_4 l0_4.length c0_4] 33 (0, 0)) (by (with_reducible repeat (first | refine kN ?_ _ | refine kD ?_ | refine kA ?_ _)); exact BK269.out) hb); have n1_ := Az.mk (bP (by repeat (with_reducible first | exact HB.out | apply bA | apply bQ | apply bD | refine bS ?_ GE269.out)) hb); clear BK269; clear HB; have BK269 := n0_; have HB := n1_; clear n0_ n1_; (try clear hb); (try clear hb2); (try clear hk); (try clear hi)))
     go_meet
     case rel => exact ⟨_, (false), (by first | rfl | (simp; done) | (simp [*]; done)), H', ⟨by first | omega | exact Nat.le_refl _⟩, ⟨by (with_reducible repeat (first | refine kN ?_ _ | refine kD ?_ | refine kA ?_ _)); exact BK269.out⟩, ⟨by repeat (with_reducible first | exact HB.out | apply bA | apply bQ | apply bD | refine bS ?_ GE269.out)⟩⟩
   ·replace c7 := Bool.eq_false_iff.mpr c7
    subst c7
    have H1 : (burinref03_body.j0 k l0_4 (l0_4.length : Int) true a0_0 a0_1 l0_2 a0_3 l0_4) = some r := by rw [if_neg (show ¬ (false = true) by decide)] at H; exact H
    clear H
    have H := H1
    clear H1
    have H' := Az.mk H
    clear H
    go_wp2_with (first | (go_at_call 58; (with_reducible refine (burinref03_spelt.calls k _ _ l0_4 false _ ?side1 ?side2 A6.out).mono ?_); (case side1 => repeat (first | exact (Kd.C_below HR0_4.out HB.out) | (with_reducible refine Kd.C_alloc ?_ _) | (with_reducible refine Kd.C_drewN ?_ _) | (with_reducible refine Kd.C_drew ?_))); (case side2 => exact HC0_4.out); rintro e w17 ⟨rfl, hb⟩; have n0_ := Az.mk (blk_below (g := gb269) (o := .cells #[.string a0_0, .bool a0_1, .slice A0_2 l0_2.length c0_2, .bool a0_3, .slice A0_4 l0_4.length c0_4] 33 (0, 0)) (by (with_reducible repeat (first | refine kN ?_ _ | refine kD ?_ | refine kA ?_ _)); exact BK269.out) hb); have n1_ := Az.mk (bP (by repeat (with_reducible first | exact HB.out | apply bA | apply bQ | apply bD | refine bS ?_ GE269.out)) hb); clear BK269; clear HB; have BK269 := n0_; have HB := n1_; clear n0_ n1_; (try clear hb); (try clear hb2); (try clear hk); (try clear hi)))
    go_meet
    case rel => exact ⟨_, (true), (by first | rfl | (simp; done) | (simp [*]; done)), H', ⟨by first | omega | exact Nat.le_refl _⟩, ⟨by (with_reducible repeat (first | refine kN ?_ _ | refine kD ?_ | refine kA ?_ _)); exact BK269.out⟩, ⟨by repeat (with_reducible first | exact HB.out | apply bA | apply bQ | apply bD | refine bS ?_ GE269.out)⟩⟩
 case rest =>
  clear HC2
  try clear c1
  try clear p2
  try clear q2
  try clear hx2
  try clear qi2
  try clear c4
  try clear c5
  try clear c5b0
  try clear c5b1
  try clear p6
  try clear c7
  try clear c8
  try clear c8b0
  try clear c8b1
  try clear c9
  try clear c9b0
  try clear c9b1
  try clear c10
  try clear c10b0
  try clear c10b1
  try clear c13
  try clear c13b0
  try clear c14
  try clear c14b0
  try clear hcz4_0
  try clear hcz4_1
  try clear hcz4_2
  try clear hcz4_3
  try clear hcz4_4
  try clear hfz4_0
  try clear hfz4_1
  try clear hfz4_2
  try clear hfz4_3
  try clear hfz4_4
  try clear hx271_0
  try clear hx271_1
  try clear hx271_2
  try clear hx271_3
  try clear hx271_4
  try clear hx271_5
  try clear hx272_0
  try clear hx272_1
  try clear hx272_2
  try clear hx272_3
  try clear hx272_4
  try clear hx272_5
  try clear p271
  try clear p272
  try clear q271
  try clear q272
  obtain ⟨kq, x36_1, rfl, HA, HJ1, BK269, HB⟩ := hcut
  cases kq with
  | zero => exact absurd HA.out (by simp [burinref03_body.j0])
  | succ kj1 =>
   have H := HA.out
   clear HA
   simp only [burinref03_body.j0] at H
   by_cases c18 : x36_1 = true
   ·subst c18
    have H1 : (some false) = some r := by rw [if_pos rfl] at H; exact H
    clear H
    have H := H1
    clear H1
    obtain rfl := Option.some.inj H
    go_wp2
    go_ret
    exact ⟨by first | rfl | (simp [eN, eS] <;> rfl) | (simp [*, eN, eS] <;> rfl), by repeat (with_reducible first | exact HB.out | apply bA | apply bQ | apply bD | refine bS ?_ GE269.out)⟩
   ·replace c18 := Bool.eq_false_iff.mpr c18
    subst c18
    have H1 : (burinref03_body.l0 kj1 l0_4 (l0_4.length : Int) 0 a0_0 a0_1 l0_2 a0_3 l0_4) = some r := by rw [if_neg (show ¬ (false = true) by decide)] at H; exact H
    clear H
    have H := H1
    clear H1
    have H' := Az.mk H
    clear H
    go_wp2
    go_loopg [5] kj1 (fun kq v5 w' => ∃ (x5_2 : Int), v5 = .int .i64 x5_2 ∧ Az (burinref03_body.l0 kq l0_4 (l0_4.length : Int) x5_2 a0_0 a0_1 l0_2 a0_3 l0_4 = some r) ∧ Az (kq ≤ kj1) ∧ Az (w'.heap[gb269]? = some (.cells #[.string a0_0, .bool a0_1, (.slice A0_2 l0_2.length c0_2), .bool a0_3, (.slice A0_4 l0_4.length c0_4)] 33 (0, 0))) ∧ Az (Below w.heap.size w w'))
    case atStart => exact ⟨(0), (by first | rfl | (simp; done) | (simp [*]; done)), H', ⟨Nat.le_refl _⟩, ⟨by (with_reducible repeat (first | refine kN ?_ _ | refine kD ?_ | refine kA ?_ _)); exact BK269.out⟩, ⟨by repeat (with_reducible first | exact HB.out | apply bA | apply bQ | apply bD | refine bS ?_ GE269.out)⟩⟩
    case round =>
     clear H'
     try clear c1
     try clear p2
     try clear q2
     try clear hx2
     try clear qi2
     try clear c4
     try clear c5
     try clear c5b0
     try clear c5b1
     try clear p6
     try clear c7
     try clear c8
     try clear c8b0
     try clear c8b1
     try clear c9
     try clear c9b0
     try clear c9b1
     try clear c10
     try clear c10b0
     try clear c10b1
     try clear c13
     try clear c13b0
     try clear c14
     try clear c14b0
     try clear c18
     try clear hcz4_0
     try clear hcz4_1
     try clear hcz4_2
     try clear hcz4_3
     try clear hcz4_4
     try clear hfz4_0
     try clear hfz4_1
     try clear hfz4_2
     try clear hfz4_3
     try clear hfz4_4
     try clear hx271_0
     try clear hx271_1
     try clear hx271_2
     try clear hx271_3
     try clear hx271_4
     try clear hx271_5
     try clear hx272_0
     try clear hx272_1
     try clear hx272_2
     try clear hx272_3
     try clear hx272_4
     try clear hx272_5
     try clear p2
     try clear p271
     try clear p272
     try clear p6
     try clear q2
     try clear q271
     try clear q272
     obtain ⟨x5_2, rfl, HA, HK2, BK269, HB⟩ := hrel
     cases gk with
     | zero => exact absurd HA.out (by simp [burinref03_body.l0])
     | succ k2 =>
      have H := HA.out
      clear HA
      simp only [burinref03_body.l0] at H
      by_cases c19 : x5_2 < (l0_4.length : Int)
      ·rw [if_pos c19] at H
       have c19b0 : decide (x5_2 < (l0_4.length : Int)) = true := decide_eq_true c19
       clear c19
       have HC20 := Az.mk H
       clear H
       go_upto_region 8 with (fail)
       go_cut [52] (fun v52 wc => ∃ (kq : Nat) (x52_19 : Bool), v52 = .bool x52_19 ∧ Az (burinref03_body.j2 kq l0_4 (l0_4.length : Int) x5_2 x52_19 a0_0 a0_1 l0_2 a0_3 l0_4 = some r) ∧ Az (kq ≤ k2) ∧ Az (wc.heap[gb269]? = some (.cells #[.string a0_0, .bool a0_1, (.slice A0_2 l0_2.length c0_2), .bool a0_3, (.slice A0_4 l0_4.length c0_4)] 33 (0, 0))) ∧ Az (Below w.heap.size w wc))
       case first =>
        have H := HC20.out
        clear HC20
        by_cases c21 : 0 ≤ x5_2
        ·rw [if_pos c21] at H
         have c21b0 : decide (0 ≤ x5_2) = true := decide_eq_true c21
         clear c21
         (first | rw [c21b0] | (simp only [i64_w, i32_w]; rw [c21b0]) | skip)
         by_cases c22 : x5_2 < (l0_4.length : Int)
         ·rw [if_pos c22] at H
          have c22b0 : decide (x5_2 < (l0_4.length : Int)) = true := decide_eq_true c22
          clear c22
          by_cases c23 : ((rT l0_4 x5_2).f1).toList = ([95, 95, 86, 65, 95, 65, 82, 71, 83, 95, 95] : List UInt8)
          ·rw [if_pos c23] at H
           have c23b0 : (((rT l0_4 x5_2).f1).toList == ([95, 95, 86, 65, 95, 65, 82, 71, 83, 95, 95] : List UInt8)) = true := beq_iff_eq.mpr c23
           have c23b1 : (((rT l0_4 x5_2).f1).toList != ([95, 95, 86, 65, 95, 65, 82, 71, 83, 95, 95] : List UInt8)) = false := bne_eq_false_iff_eq.mpr c23
           clear c23
           have H' := Az.mk H
           clear H
           have p273 : 0 ≤ (x5_2 : Int) := od (by assumption)
           have q273 : x5_2 < (l0_4.length : Int) := od (by assumption)
           obtain ⟨ad273, e273, hx273_0, hx273_1, hx273_2, hx273_3, hx273_4, hx273_5⟩ := at_T55 HR0_4.out x5_2 p273 q273
           cases e273
           replace hx273_0 := (HB.out.cell (cl w _ hx273_0)).trans hx273_0
           replace hx273_1 := (HB.out.cell (cl w _ hx273_1)).trans hx273_1
           replace hx273_2 := (HB.out.cell (cl w _ hx273_2)).trans hx273_2
           replace hx273_3 := (HB.out.cell (cl w _ hx273_3)).trans hx273_3
           replace hx273_4 := (HB.out.cell (cl w _ hx273_4)).trans hx273_4
           replace hx273_5 := (HB.out.cell (cl w _ hx273_5)).trans hx273_5
           replace p273 := eq_true p273
           replace q273 := eq_true q273
           have hcz24_0 : wr.cell? ⟨gb269, 0, none⟩ = some (.string a0_0) := (bC BK269.out 0).trans rfl
           have hcz24_1 : wr.cell? ⟨gb269, 1, none⟩ = some (.bool a0_1) := (bC BK269.out 1).trans rfl
           have hcz24_2 : wr.cell? ⟨gb269, 2, none⟩ = some (.slice A0_2 l0_2.length c0_2) := (bC BK269.out 2).trans rfl
           have hcz24_3 : wr.cell? ⟨gb269, 3, none⟩ = some (.bool a0_3) := (bC BK269.out 3).trans rfl
           have hcz24_4 : wr.cell? ⟨gb269, 4, none⟩ = some (.slice (some ad273) l0_4.length c0_4) := (bC BK269.out 4).trans rfl
           have hfz24_0 := bF BK269.out 0
           have hfz24_1 := bF BK269.out 1
           have hfz24_2 := bF BK269.out 2
           have hfz24_3 := bF BK269.out 3
           have hfz24_4 := bF BK269.out 4
           go_wp2
           go_meet
           case rel => exact ⟨_, (!a0_3), (by first | rfl | (simp; done) | (simp [*]; done)), H', ⟨by have := HJ1.out; have := HK2.out; first | omega | exact Nat.le_refl _⟩, ⟨by (with_reducible repeat (first | refine kN ?_ _ | refine kD ?_ | refine kA ?_ _)); exact BK269.out⟩, ⟨by repeat (with_reducible first | exact HB.out | apply bA | apply bQ | apply bD | refine bS ?_ GE269.out)⟩⟩
          ·rw [if_neg c23] at H
           have c23b0 : (((rT l0_4 x5_2).f1).toList == ([95, 95, 86, 65, 95, 65, 82, 71, 83, 95, 95] : List UInt8)) = false := beq_eq_false_iff_ne.mpr c23
           have c23b1 : (((rT l0_4 x5_2).f1).toList != ([95, 95, 86, 65, 95, 65, 82, 71, 83, 95, 95] : List UInt8)) = true := bne_iff_ne.mpr c23
           have H' := Az.mk H
           clear H
           have p273 : 0 ≤ (x5_2 : Int) := od (by assumption)
           have q273 : x5_2 < (l0_4.length : Int) := od (by assumption)
           obtain ⟨ad273, e273, hx273_0, hx273_1, hx273_2, hx273_3, hx273_4, hx273_5⟩ := at_T55 HR0_4.out x5_2 p273 q273
           cases e273
           replace hx273_0 := (HB.out.cell (cl w _ hx273_0)).trans hx273_0
           replace hx273_1 := (HB.out.cell (cl w _ hx273_1)).trans hx273_1
           replace hx273_2 := (HB.out.cell (cl w _ hx273_2)).trans hx273_2
           replace hx273_3 := (HB.out.cell (cl w _ hx273_3)).trans hx273_3
           replace hx273_4 := (HB.out.cell (cl w _ hx273_4)).trans hx273_4
           replace hx273_5 := (HB.out.cell (cl w _ hx273_5)).trans hx273_5
           replace p273 := eq_true p273
           replace q273 := eq_true q273
           go_wp2
           go_meet
           case rel => exact ⟨_, (false), (by first | rfl | (simp; done) | (simp [*]; done)), H', ⟨by have := HJ1.out; have := HK2.out; first | omega | exact Nat.le_refl _⟩, ⟨by (with_reducible repeat (first | refine kN ?_ _ | refine kD ?_ | refine kA ?_ _)); exact BK269.out⟩, ⟨by repeat (with_reducible first | exact HB.out | apply bA | apply bQ | apply bD | refine bS ?_ GE269.out)⟩⟩
         ·rw [if_neg c22] at H
          exact absurd H (by simp)
        ·rw [if_neg c21] at H
         exact absurd H (by simp)
       case rest =>
        clear HC20
        try clear c1
        try clear c2
        try clear p2
        try clear q2
        try clear hx2
        try clear qi2
        try clear c4
        try clear c5
        try clear c5b0
        try clear c5b1
        try clear p6
        try clear c7
        try clear c8
        try clear c8b0
        try clear c8b1
        try clear c9
        try clear c9b0
        try clear c9b1
        try clear c10
        try clear c10b0
        try clear c10b1
        try clear c13
        try clear c13b0
        try clear c14
        try clear c14b0
        try clear c18
        try clear c19
        try clear c19b0
        try clear c21
        try clear c21b0
        try clear c22
        try clear c22b0
        try clear c23
        try clear c23b0
        try clear c23b1
        try clear hcz24_0
        try clear hcz24_1
        try clear hcz24_2
        try clear hcz24_3
        try clear hcz24_4
        try clear hcz4_0
        try clear hcz4_1
        try clear hcz4_2
        try clear hcz4_3
        try clear hcz4_4
        try clear hfz24_0
        try clear hfz24_1
        try clear hfz24_2
        try clear hfz24_3
        try clear hfz24_4
        try clear hfz4_0
        try clear hfz4_1
        try clear hfz4_2
        try clear hfz4_3
        try clear hfz4_4
        try clear hx271_0
        try clear hx271_1
        try clear hx271_2
        try clear hx271_3
        try clear hx271_4
        try clear hx271_5
        try clear hx272_0
        try clear hx272_1
        try clear hx272_2
        try clear hx272_3
        try clear hx272_4
        try clear hx272_5
        try clear hx273_0
        try clear hx273_1
        try clear hx273_2
        try clear hx273_3
        try clear hx273_4
        try clear hx273_5
        try clear p2
        try clear p271
        try clear p272
        try clear p273
        try clear p6
        try clear q2
        try clear q271
        try clear q272
        try clear q273
        obtain ⟨kq, x52_19, rfl, HA, HJ19, BK269, HB⟩ := hcut
        cases kq with
        | zero => exact absurd HA.out (by simp [burinref03_body.j2])
        | succ kj19 =>
         have H := HA.out
         clear HA
         simp only [burinref03_body.j2] at H
         by_cases c25 : x52_19 = true
         ·subst c25
          have H1 : (some false) = some r := by rw [if_pos rfl] at H; exact H
          clear H
          have H := H1
          clear H1
          obtain rfl := Option.some.inj H
          go_wp2
          go_ret
          exact ⟨by first | rfl | (simp [eN, eS] <;> rfl) | (simp [*, eN, eS] <;> rfl), by repeat (with_reducible first | exact HB.out | apply bA | apply bQ | apply bD | refine bS ?_ GE269.out)⟩
         ·replace c25 := Bool.eq_false_iff.mpr c25
          subst c25
          have H1 : (if a0_1 = true then (if 0 ≤ x5_2 then (if x5_2 < (l0_4.length : Int) then (if ((rT l0_4 x5_2).f1).toList = ([35] : List UInt8) then (if (wrap64 (x5_2 + 1)) = (l0_4.length : Int) then (some false) else (if 0 ≤ (wrap64 (x5_2 + 1)) then (if (wrap64 (x5_2 + 1)) < (l0_4.length : Int) then ((burinref03_param.f kj19 a0_0 a0_1 l0_2 a0_3 l0_4 ((rT l0_4 (wrap64 (x5_2 + 1))).f0) ((rT l0_4 (wrap64 (x5_2 + 1))).f1) ((rT l0_4 (wrap64 (x5_2 + 1))).f2) ((rT l0_4 (wrap64 (x5_2 + 1))).f3) ((rT l0_4 (wrap64 (x5_2 + 1))).f4) ((rT l0_4 (wrap64 (x5_2 + 1))).f5)).bind fun t276 => (if t276 < 0 then (some false) else (burinref03_body.l0 kj19 l0_4 (l0_4.length : Int) (wrap64 (x5_2 + 1)) a0_0 a0_1 l0_2 a0_3 l0_4))) else (none)) else (none))) else (burinref03_body.l0 kj19 l0_4 (l0_4.length : Int) (wrap64 (x5_2 + 1)) a0_0 a0_1 l0_2 a0_3 l0_4)) else (none)) else (none)) else (burinref03_body.l0 kj19 l0_4 (l0_4.length : Int) (wrap64 (x5_2 + 1)) a0_0 a0_1 l0_2 a0_3 l0_4)) = some r := by rw [if_neg (show ¬ (false = true) by decide)] at H; exact H
          clear H
          have H := H1
          clear H1
          by_cases c26 : a0_1 = true
          ·subst c26
           have H1 : (if 0 ≤ x5_2 then (if x5_2 < (l0_4.length : Int) then (if ((rT l0_4 x5_2).f1).toList = ([35] : List UInt8) then (if (wrap64 (x5_2 + 1)) = (l0_4.length : Int) then (some false) else (if 0 ≤ (wrap64 (x5_2 + 1)) then (if (wrap64 (x5_2 + 1)) < (l0_4.length : Int) then ((burinref03_param.f kj19 a0_0 true l0_2 a0_3 l0_4 ((rT l0_4 (wrap64 (x5_2 + 1))).f0) ((rT l0_4 (wrap64 (x5_2 + 1))).f1) ((rT l0_4 (wrap64 (x5_2 + 1))).f2) ((rT l0_4 (wrap64 (x5_2 + 1))).f3) ((rT l0_4 (wrap64 (x5_2 + 1))).f4) ((rT l0_4 (wrap64 (x5_2 + 1))).f5)).bind fun t276 => (if t276 < 0 then (some false) else (burinref03_body.l0 kj19 l0_4 (l0_4.length : Int) (wrap64 (x5_2 + 1)) a0_0 true l0_2 a0_3 l0_4))) else (none)) else (none))) else (burinref03_body.l0 kj19 l0_4 (l0_4.length : Int) (wrap64 (x5_2 + 1)) a0_0 true l0_2 a0_3 l0_4)) else (none)) else (none)) = some r := by rw [if_pos rfl] at H; exact H
           clear H
           have H := H1
           clear H1
           by_cases c27 : 0 ≤ x5_2
           ·rw [if_pos c27] at H
            have c27b0 : decide (0 ≤ x5_2) = true := decide_eq_true c27
            clear c27
            by_cases c28 : x5_2 < (l0_4.length : Int)
            ·rw [if_pos c28] at H
             have c28b0 : decide (x5_2 < (l0_4.length : Int)) = true := decide_eq_true c28
             clear c28
             by_cases c29 : ((rT l0_4 x5_2).f1).toList = ([35] : List UInt8)
             ·rw [if_pos c29] at H
              have c29b0 : (((rT l0_4 x5_2).f1).toList == ([35] : List UInt8)) = true := beq_iff_eq.mpr c29
              have c29b1 : (((rT l0_4 x5_2).f1).toList != ([35] : List UInt8)) = false := bne_eq_false_iff_eq.mpr c29
              clear c29
              by_cases c30 : (wrap64 (x5_2 + 1)) = (l0_4.length : Int)
              ·rw [if_pos c30] at H
               have c30b0 : ((wrap64 (x5_2 + 1)) == (l0_4.length : Int)) = true := beq_iff_eq.mpr c30
               have c30b1 : ((wrap64 (x5_2 + 1)) != (l0_4.length : Int)) = false := bne_eq_false_iff_eq.mpr c30
               clear c30
               obtain rfl := Option.some.inj H
               try go_wp2
               have n0_ := Az.mk (kD BK269.out)
               have n1_ := Az.mk (bD HB.out)
               clear BK269
               clear HB
               have BK269 := n0_
               have HB := n1_
               clear n0_ n1_
               have p274 : 0 ≤ (x5_2 : Int) := od (by assumption)
               have q274 : x5_2 < (l0_4.length : Int) := od (by assumption)
               obtain ⟨ad274, e274, hx274_0, hx274_1, hx274_2, hx274_3, hx274_4, hx274_5⟩ := at_T55 HR0_4.out x5_2 p274 q274
               have hw274_5 := hx274_5
               have hw274_4 := hx274_4
               have hw274_3 := hx274_3
               have hw274_2 := hx274_2
               have hw274_1 := hx274_1
               have hw274_0 := hx274_0
               cases e274
               replace hx274_0 := (HB.out.cell (cl w _ hx274_0)).trans hx274_0
               replace hx274_1 := (HB.out.cell (cl w _ hx274_1)).trans hx274_1
               replace hx274_2 := (HB.out.cell (cl w _ hx274_2)).trans hx274_2
               replace hx274_3 := (HB.out.cell (cl w _ hx274_3)).trans hx274_3
               replace hx274_4 := (HB.out.cell (cl w _ hx274_4)).trans hx274_4
               replace hx274_5 := (HB.out.cell (cl w _ hx274_5)).trans hx274_5
               replace p274 := eq_true p274
               replace q274 := eq_true q274
               refine start_ (n := 26) (S := fun w' => w'.cell? ⟨gb269, 0, none⟩ = some (.string a0_0) ∧ w'.cell? ⟨gb269, 1, none⟩ = some (.bool true) ∧ w'.cell? ⟨gb269, 2, none⟩ = some (.slice A0_2 l0_2.length c0_2) ∧ w'.cell? ⟨gb269, 3, none⟩ = some (.bool a0_3) ∧ w'.cell? ⟨gb269, 4, none⟩ = some (.slice (some ad274) l0_4.length c0_4) ∧ w'.cell? (ad274.add ((x5_2).toNat * 6)) = some (.int .i64 ((rT l0_4 x5_2).f0)) ∧ w'.cell? ⟨(ad274.add ((x5_2).toNat * 6)).block, (ad274.add ((x5_2).toNat * 6)).off + 1, none⟩ = some (.string ((rT l0_4 x5_2).f1)) ∧ w'.cell? ⟨(ad274.add ((x5_2).toNat * 6)).block, (ad274.add ((x5_2).toNat * 6)).off + 2, none⟩ = some (.string ((rT l0_4 x5_2).f2)) ∧ w'.cell? ⟨(ad274.add ((x5_2).toNat * 6)).block, (ad274.add ((x5_2).toNat * 6)).off + 3, none⟩ = some (.int .i64 ((rT l0_4 x5_2).f3)) ∧ w'.cell? ⟨(ad274.add ((x5_2).toNat * 6)).block, (ad274.add ((x5_2).toNat * 6)).off + 4, none⟩ = some (.bool ((rT l0_4 x5_2).f4)) ∧ w'.cell? ⟨(ad274.add ((x5_2).toNat * 6)).block, (ad274.add ((x5_2).toNat * 6)).off + 5, none⟩ = some (.bool ((rT l0_4 x5_2).f5))) (ds := []) (fl 0 26) (by kernel_rfl) rfl rfl ⟨(bC BK269.out 0).trans rfl, (bC BK269.out 1).trans rfl, (bC BK269.out 2).trans rfl, (bC BK269.out 3).trans rfl, (bC BK269.out 4).trans rfl, ((HB.out.cell (cl w _ hw274_0)).trans hw274_0), ((HB.out.cell (cl w _ hw274_1)).trans hw274_1), ((HB.out.cell (cl w _ hw274_2)).trans hw274_2), ((HB.out.cell (cl w _ hw274_3)).trans hw274_3), ((HB.out.cell (cl w _ hw274_4)).trans hw274_4), ((HB.out.cell (cl w _ hw274_5)).trans hw274_5)⟩ (fun hHeld => ?_); refine with_tabW burinref03_body.tab10 burinref03_body.bits10 (fun HT_ HW_ => ?_)
               generalize wc.drew = w31 at BK269 HB hx274_0 hx274_1 hx274_2 hx274_3 hx274_4 hx274_5 hHeld ⊢
               refine puT HT_.out 0 53 (fl 1 25) ?_
               refine tkT HT_.out HW_.out 1 54 (fl 2 24) rfl rfl hHeld (by rintro w' ⟨s0, s1, s2, s3, s4, s5, s6, s7, s8, s9, s10⟩; go_simp; with_reducible rfl) ?_
               refine puT HT_.out 2 55 (fl 3 23) ?_
               refine puT HT_.out 3 56 (fl 4 22) ?_
               refine puT HT_.out 4 57 (fl 5 21) ?_
               refine puT HT_.out 5 58 (fl 6 20) ?_
               refine puT HT_.out 6 59 (fl 7 19) ?_
               refine tkT HT_.out HW_.out 7 60 (fl 8 18) rfl rfl hHeld (by rintro w' ⟨s0, s1, s2, s3, s4, s5, s6, s7, s8, s9, s10⟩; go_simp; with_reducible rfl) ?_
               refine puT HT_.out 8 61 (fl 9 17) ?_
               refine puT HT_.out 9 62 (fl 10 16) ?_
               refine puT HT_.out 10 63 (fl 11 15) ?_
               refine puT HT_.out 11 64 (fl 12 14) ?_
               refine puT HT_.out 12 65 (fl 13 13) ?_
               refine puT HT_.out 13 66 (fl 14 12) ?_
               refine puT HT_.out 14 67 (fl 15 11) ?_
               refine puT HT_.out 15 68 (fl 16 10) ?_
               refine pdT HT_.out 16 69 (fl 17 9) ?_
               refine pdT HT_.out 17 70 (fl 18 8) ?_
               refine pdT HT_.out 18 71 (fl 19 7) ?_
               refine pdT HT_.out 19 72 (fl 20 6) ?_
               refine pdT HT_.out 20 73 (fl 21 5) ?_
               refine pdT HT_.out 21 74 (fl 22 4) ?_
               refine pdT HT_.out 22 75 (fl 23 3) ?_
               refine pdT HT_.out 23 76 (fl 24 2) ?_
               refine puT HT_.out 24 77 (fl 25 1) ?_
               refine puT HT_.out 25 78 (fl 26 0) ?_
               refine done_ (done_of HT_.out (by kernel_rfl)) ?_
               try go_wp2
               go_ret
               exact ⟨by first | rfl | (simp [eN, eS] <;> rfl) | (simp [*, eN, eS] <;> rfl), by repeat (with_reducible first | exact HB.out | apply bA | apply bQ | apply bD | refine bS ?_ GE269.out)⟩
              ·rw [if_neg c30] at H
               have c30b0 : ((wrap64 (x5_2 + 1)) == (l0_4.length : Int)) = false := beq_eq_false_iff_ne.mpr c30
               have c30b1 : ((wrap64 (x5_2 + 1)) != (l0_4.length : Int)) = true := bne_iff_ne.mpr c30
               obtain ⟨ji32, hji32⟩ : ∃ j_ : Int, (wrap64 (x5_2 + 1)) = j_ := ⟨_, rfl⟩
               replace H : (if 0 ≤ (ji32) then (if (ji32) < (l0_4.length : Int) then ((burinref03_param.f kj19 a0_0 true l0_2 a0_3 l0_4 ((rT l0_4 (ji32)).f0) ((rT l0_4 (ji32)).f1) ((rT l0_4 (ji32)).f2) ((rT l0_4 (ji32)).f3) ((rT l0_4 (ji32)).f4) ((rT l0_4 (ji32)).f5)).bind fun t276 => (if t276 < 0 then (some false) else (burinref03_body.l0 kj19 l0_4 (l0_4.length : Int) ji32 a0_0 true l0_2 a0_3 l0_4))) else (none)) else (none)) = some r := by first | (rw [hji32] at H; exact H) | (simp only [hji32] at H ⊢; exact H)
               (try rw [hji32] at c30b0)
               (try rw [hji32] at c30b1)
               have hji32w : (IntKind.i64.wrap (x5_2 + 1)) = ji32 := (i64_w _).trans hji32
               by_cases c33 : 0 ≤ (ji32)
               ·rw [if_pos c33] at H
                have c33b0 : decide (0 ≤ (ji32)) = true := decide_eq_true c33
                clear c33
                by_cases c34 : (ji32) < (l0_4.length : Int)
                ·rw [if_pos c34] at H
                 have c34b0 : decide ((ji32) < (l0_4.length : Int)) = true := decide_eq_true c34
                 clear c34
                 replace H := Option.bind_eq_some_iff.mp H
                 obtain ⟨t276, A350, H⟩ := H
                 replace H : (if t276 < 0 then (some false) else (burinref03_body.l0 kj19 l0_4 (l0_4.length : Int) ji32 a0_0 true l0_2 a0_3 l0_4)) = some r := H
                 have A35 := Az.mk A350
                 clear A350
                 by_cases c36 : t276 < 0
                 ·rw [if_pos c36] at H
                  have c36b0 : decide (t276 < 0) = true := decide_eq_true c36
                  clear c36
                  obtain rfl := Option.some.inj H
                  try go_wp2
                  have n0_ := Az.mk (kD BK269.out)
                  have n1_ := Az.mk (bD HB.out)
                  clear BK269
                  clear HB
                  have BK269 := n0_
                  have HB := n1_
                  clear n0_ n1_
                  have p274 : 0 ≤ (x5_2 : Int) := od (by assumption)
                  have q274 : x5_2 < (l0_4.length : Int) := od (by assumption)
                  obtain ⟨ad274, e274, hx274_0, hx274_1, hx274_2, hx274_3, hx274_4, hx274_5⟩ := at_T55 HR0_4.out x5_2 p274 q274
                  have hw274_5 := hx274_5
                  have hw274_4 := hx274_4
                  have hw274_3 := hx274_3
                  have hw274_2 := hx274_2
                  have hw274_1 := hx274_1
                  have hw274_0 := hx274_0
                  cases e274
                  replace hx274_0 := (HB.out.cell (cl w _ hx274_0)).trans hx274_0
                  replace hx274_1 := (HB.out.cell (cl w _ hx274_1)).trans hx274_1
                  replace hx274_2 := (HB.out.cell (cl w _ hx274_2)).trans hx274_2
                  replace hx274_3 := (HB.out.cell (cl w _ hx274_3)).trans hx274_3
                  replace hx274_4 := (HB.out.cell (cl w _ hx274_4)).trans hx274_4
                  replace hx274_5 := (HB.out.cell (cl w _ hx274_5)).trans hx274_5
                  replace p274 := eq_true p274
                  replace q274 := eq_true q274
                  have p275 : 0 ≤ ((ji32) : Int) := od (by assumption)
                  have q275 : (ji32) < (l0_4.length : Int) := od (by assumption)
                  obtain ⟨ad275, e275, hx275_0, hx275_1, hx275_2, hx275_3, hx275_4, hx275_5⟩ := at_T55 HR0_4.out (ji32) p275 q275
                  have hw275_5 := hx275_5
                  have hw275_4 := hx275_4
                  have hw275_3 := hx275_3
                  have hw275_2 := hx275_2
                  have hw275_1 := hx275_1
                  have hw275_0 := hx275_0
                  obtain rfl : ad274 = ad275 := (by injection e275)
                  replace hx275_0 := (HB.out.cell (cl w _ hx275_0)).trans hx275_0
                  replace hx275_1 := (HB.out.cell (cl w _ hx275_1)).trans hx275_1
                  replace hx275_2 := (HB.out.cell (cl w _ hx275_2)).trans hx275_2
                  replace hx275_3 := (HB.out.cell (cl w _ hx275_3)).trans hx275_3
                  replace hx275_4 := (HB.out.cell (cl w _ hx275_4)).trans hx275_4
                  replace hx275_5 := (HB.out.cell (cl w _ hx275_5)).trans hx275_5
                  replace p275 := eq_true p275
                  replace q275 := eq_true q275
                  refine start_ (n := 26) (S := fun w' => w'.cell? ⟨gb269, 0, none⟩ = some (.string a0_0) ∧ w'.cell? ⟨gb269, 1, none⟩ = some (.bool true) ∧ w'.cell? ⟨gb269, 2, none⟩ = some (.slice A0_2 l0_2.length c0_2) ∧ w'.cell? ⟨gb269, 3, none⟩ = some (.bool a0_3) ∧ w'.cell? ⟨gb269, 4, none⟩ = some (.slice (some ad274) l0_4.length c0_4) ∧ w'.cell? (ad274.add ((x5_2).toNat * 6)) = some (.int .i64 ((rT l0_4 x5_2).f0)) ∧ w'.cell? ⟨(ad274.add ((x5_2).toNat * 6)).block, (ad274.add ((x5_2).toNat * 6)).off + 1, none⟩ = some (.string ((rT l0_4 x5_2).f1)) ∧ w'.cell? ⟨(ad274.add ((x5_2).toNat * 6)).block, (ad274.add ((x5_2).toNat * 6)).off + 2, none⟩ = some (.string ((rT l0_4 x5_2).f2)) ∧ w'.cell? ⟨(ad274.add ((x5_2).toNat * 6)).block, (ad274.add ((x5_2).toNat * 6)).off + 3, none⟩ = some (.int .i64 ((rT l0_4 x5_2).f3)) ∧ w'.cell? ⟨(ad274.add ((x5_2).toNat * 6)).block, (ad274.add ((x5_2).toNat * 6)).off + 4, none⟩ = some (.bool ((rT l0_4 x5_2).f4)) ∧ w'.cell? ⟨(ad274.add ((x5_2).toNat * 6)).block, (ad274.add ((x5_2).toNat * 6)).off + 5, none⟩ = some (.bool ((rT l0_4 x5_2).f5)) ∧ w'.cell? (ad274.add (((ji32)).toNat * 6)) = some (.int .i64 ((rT l0_4 (ji32)).f0)) ∧ w'.cell? ⟨(ad274.add (((ji32)).toNat * 6)).block, (ad274.add (((ji32)).toNat * 6)).off + 1, none⟩ = some (.string ((rT l0_4 (ji32)).f1)) ∧ w'.cell? ⟨(ad274.add (((ji32)).toNat * 6)).block, (ad274.add (((ji32)).toNat * 6)).off + 2, none⟩ = some (.string ((rT l0_4 (ji32)).f2)) ∧ w'.cell? ⟨(ad274.add (((ji32)).toNat * 6)).block, (ad274.add (((ji32)).toNat * 6)).off + 3, none⟩ = some (.int .i64 ((rT l0_4 (ji32)).f3)) ∧ w'.cell? ⟨(ad274.add (((ji32)).toNat * 6)).block, (ad274.add (((ji32)).toNat * 6)).off + 4, none⟩ = some (.bool ((rT l0_4 (ji32)).f4)) ∧ w'.cell? ⟨(ad274.add (((ji32)).toNat * 6)).block, (ad274.add (((ji32)).toNat * 6)).off + 5, none⟩ = some (.bool ((rT l0_4 (ji32)).f5))) (ds := []) (fl 0 26) (by kernel_rfl) rfl rfl ⟨(bC BK269.out 0).trans rfl, (bC BK269.out 1).trans rfl, (bC BK269.out 2).trans rfl, (bC BK269.out 3).trans rfl, (bC BK269.out 4).trans rfl, ((HB.out.cell (cl w _ hw274_0)).trans hw274_0), ((HB.out.cell (cl w _ hw274_1)).trans hw274_1), ((HB.out.cell (cl w _ hw274_2)).trans hw274_2), ((HB.out.cell (cl w _ hw274_3)).trans hw274_3), ((HB.out.cell (cl w _ hw274_4)).trans hw274_4), ((HB.out.cell (cl w _ hw274_5)).trans hw274_5), ((HB.out.cell (cl w _ hw275_0)).trans hw275_0), ((HB.out.cell (cl w _ hw275_1)).trans hw275_1), ((HB.out.cell (cl w _ hw275_2)).trans hw275_2), ((HB.out.cell (cl w _ hw275_3)).trans hw275_3), ((HB.out.cell (cl w _ hw275_4)).trans hw275_4), ((HB.out.cell (cl w _ hw275_5)).trans hw275_5)⟩ (fun hHeld => ?_); refine with_tabW burinref03_body.tab10 burinref03_body.bits10 (fun HT_ HW_ => ?_)
                  generalize wc.drew = w37 at BK269 HB hx274_0 hx274_1 hx274_2 hx274_3 hx274_4 hx274_5 hx275_0 hx275_1 hx275_2 hx275_3 hx275_4 hx275_5 hHeld ⊢
                  refine puT HT_.out 0 53 (fl 1 25) ?_
                  refine tkT HT_.out HW_.out 1 54 (fl 2 24) rfl rfl hHeld (by rintro w' ⟨s0, s1, s2, s3, s4, s5, s6, s7, s8, s9, s10, s11, s12, s13, s14, s15, s16⟩; go_simp; with_reducible rfl) ?_
                  refine puT HT_.out 2 55 (fl 3 23) ?_
                  refine puT HT_.out 3 56 (fl 4 22) ?_
                  refine puT HT_.out 4 57 (fl 5 21) ?_
                  refine puT HT_.out 5 58 (fl 6 20) ?_
                  refine puT HT_.out 6 59 (fl 7 19) ?_
                  refine tkT HT_.out HW_.out 7 60 (fl 8 18) rfl rfl hHeld (by rintro w' ⟨s0, s1, s2, s3, s4, s5, s6, s7, s8, s9, s10, s11, s12, s13, s14, s15, s16⟩; go_simp; with_reducible rfl) ?_
                  refine puT HT_.out 8 61 (fl 9 17) ?_
                  refine puT HT_.out 9 62 (fl 10 16) ?_
                  refine puT HT_.out 10 63 (fl 11 15) ?_
                  refine puT HT_.out 11 64 (fl 12 14) ?_
                  refine puT HT_.out 12 65 (fl 13 13) ?_
                  refine puT HT_.out 13 66 (fl 14 12) ?_
                  refine puT HT_.out 14 67 (fl 15 11) ?_
                  refine puT HT_.out 15 68 (fl 16 10) ?_
                  refine puT HT_.out 17 70 #[true, true, true, true, true, true, true, true, true, true, true, true, true, true, true, true, false, true, false, false, false, false, false, false, false, false] ?_
                  refine puT HT_.out 18 71 #[true, true, true, true, true, true, true, true, true, true, true, true, true, true, true, true, false, true, true, false, false, false, false, false, false, false] ?_
                  refine puT HT_.out 19 72 #[true, true, true, true, true, true, true, true, true, true, true, true, true, true, true, true, false, true, true, true, false, false, false, false, false, false] ?_
                  refine puT HT_.out 20 73 #[true, true, true, true, true, true, true, true, true, true, true, true, true, true, true, true, false, true, true, true, true, false, false, false, false, false] ?_
                  refine tkT HT_.out HW_.out 16 69 (fl 21 5) rfl rfl hHeld (by rintro w' ⟨s0, s1, s2, s3, s4, s5, s6, s7, s8, s9, s10, s11, s12, s13, s14, s15, s16⟩; go_simp; with_reducible rfl) ?_
                  refine tkT HT_.out HW_.out 21 74 (fl 22 4) rfl rfl hHeld (by rintro w' ⟨s0, s1, s2, s3, s4, s5, s6, s7, s8, s9, s10, s11, s12, s13, s14, s15, s16⟩; go_simp; with_reducible rfl) ?_
                  refine one_ (i := 22) (N := some 75) (fl 23 3) rfl rfl (one_of HT_.out (by kernel_rfl)) (by decide) (fun K hK => ?_)
                  refine goes_ Tryz.func59 (by kernel_rfl) rfl #[.agg #[.string a0_0, .bool true, .slice A0_2 l0_2.length c0_2, .bool a0_3, .slice (some ad274) l0_4.length c0_4], .agg #[.int .i64 ((rT l0_4 (ji32)).f0), .string ((rT l0_4 (ji32)).f1), .string ((rT l0_4 (ji32)).f2), .int .i64 ((rT l0_4 (ji32)).f3), .bool ((rT l0_4 (ji32)).f4), .bool ((rT l0_4 (ji32)).f5)]] (by rfl) rfl rfl (by (try simp only [List.map_toArray, List.map_cons, List.map_nil]); first | done | (simp only [hji32]; rfl) | rfl | (simp only [List.length_drop, List.length_take]; rfl)) ?_
                  with_reducible refine (burinref03_param.calls kj19 a0_0 true _ _ l0_2 a0_3 _ _ l0_4 ((rT l0_4 (ji32)).f0) ((rT l0_4 (ji32)).f1) ((rT l0_4 (ji32)).f2) ((rT l0_4 (ji32)).f3) ((rT l0_4 (ji32)).f4) ((rT l0_4 (ji32)).f5) t276 _ ?side1 ?side2 ?side3 ?side4 A35.out).mono ?_
                  (case side1 => repeat (first | exact (Kd.C_below HR0_2.out HB.out) | (with_reducible refine Kd.C_alloc ?_ _) | (with_reducible refine Kd.C_drewN ?_ _) | (with_reducible refine Kd.C_drew ?_)))
                  (case side2 => exact HC0_2.out)
                  (case side3 => repeat (first | exact (Kd.C_below HR0_4.out HB.out) | (with_reducible refine Kd.C_alloc ?_ _) | (with_reducible refine Kd.C_drewN ?_ _) | (with_reducible refine Kd.C_drew ?_)))
                  (case side4 => exact HC0_4.out)
                  rintro e w38 ⟨rfl, hb⟩
                  refine ⟨_, rfl, ?_⟩
                  have n0_ := Az.mk (blk_below (g := gb269) (o := .cells #[.string a0_0, .bool true, .slice A0_2 l0_2.length c0_2, .bool a0_3, .slice (some ad274) l0_4.length c0_4] 33 (0, 0)) (by (with_reducible repeat (first | refine kN ?_ _ | refine kD ?_ | refine kA ?_ _)); exact BK269.out) hb)
                  have n1_ := Az.mk (bP (by repeat (with_reducible first | exact HB.out | apply bA | apply bQ | apply bD | refine bS ?_ GE269.out)) hb)
                  clear BK269
                  clear HB
                  have BK269 := n0_
                  have HB := n1_
                  clear n0_ n1_
                  (try clear hb)
                  (try clear hb2)
                  (try clear hk)
                  (try clear hi)
                  refine hK.out _ _ ⟨(bC BK269.out 0).trans rfl, (bC BK269.out 1).trans rfl, (bC BK269.out 2).trans rfl, (bC BK269.out 3).trans rfl, (bC BK269.out 4).trans rfl, ((HB.out.cell (cl w _ hw274_0)).trans hw274_0), ((HB.out.cell (cl w _ hw274_1)).trans hw274_1), ((HB.out.cell (cl w _ hw274_2)).trans hw274_2), ((HB.out.cell (cl w _ hw274_3)).trans hw274_3), ((HB.out.cell (cl w _ hw274_4)).trans hw274_4), ((HB.out.cell (cl w _ hw274_5)).trans hw274_5), ((HB.out.cell (cl w _ hw275_0)).trans hw275_0), ((HB.out.cell (cl w _ hw275_1)).trans hw275_1), ((HB.out.cell (cl w _ hw275_2)).trans hw275_2), ((HB.out.cell (cl w _ hw275_3)).trans hw275_3), ((HB.out.cell (cl w _ hw275_4)).trans hw275_4), ((HB.out.cell (cl w _ hw275_5)).trans hw275_5)⟩ (fun hHeld => ?_)
                  clear hK K
                  refine norm_ (a' := ?_) ?_ ?_
                  rotate_left
                  ·show Act.put _ (some 75) _ = _
                   simp only [Act.put, sT, sZ, sS, i64_w, i32_w]
                   rfl
                  refine puT HT_.out 23 76 (fl 24 2) ?_
                  refine puT HT_.out 24 77 (fl 25 1) ?_
                  refine puT HT_.out 25 78 (fl 26 0) ?_
                  refine done_ (done_of HT_.out (by kernel_rfl)) ?_
                  try go_wp2
                  go_ret
                  exact ⟨by first | rfl | (simp [eN, eS] <;> rfl) | (simp only [← hji32]; first | rfl | (simp [eN, eS] <;> rfl)) | (simp [*, eN, eS] <;> rfl), by repeat (with_reducible first | exact HB.out | apply bA | apply bQ | apply bD | refine bS ?_ GE269.out)⟩
                 ·rw [if_neg c36] at H
                  have c36b0 : decide (t276 < 0) = false := decide_eq_false c36
                  clear c36
                  have H' := Az.mk H
                  clear H
                  try go_wp2
                  have n0_ := Az.mk (kD BK269.out)
                  have n1_ := Az.mk (bD HB.out)
                  clear BK269
                  clear HB
                  have BK269 := n0_
                  have HB := n1_
                  clear n0_ n1_
                  have p274 : 0 ≤ (x5_2 : Int) := od (by assumption)
                  have q274 : x5_2 < (l0_4.length : Int) := od (by assumption)
                  obtain ⟨ad274, e274, hx274_0, hx274_1, hx274_2, hx274_3, hx274_4, hx274_5⟩ := at_T55 HR0_4.out x5_2 p274 q274
                  have hw274_5 := hx274_5
                  have hw274_4 := hx274_4
                  have hw274_3 := hx274_3
                  have hw274_2 := hx274_2
                  have hw274_1 := hx274_1
                  have hw274_0 := hx274_0
                  cases e274
                  replace hx274_0 := (HB.out.cell (cl w _ hx274_0)).trans hx274_0
                  replace hx274_1 := (HB.out.cell (cl w _ hx274_1)).trans hx274_1
                  replace hx274_2 := (HB.out.cell (cl w _ hx274_2)).trans hx274_2
                  replace hx274_3 := (HB.out.cell (cl w _ hx274_3)).trans hx274_3
                  replace hx274_4 := (HB.out.cell (cl w _ hx274_4)).trans hx274_4
                  replace hx274_5 := (HB.out.cell (cl w _ hx274_5)).trans hx274_5
                  replace p274 := eq_true p274
                  replace q274 := eq_true q274
                  have p275 : 0 ≤ ((ji32) : Int) := od (by assumption)
                  have q275 : (ji32) < (l0_4.length : Int) := od (by assumption)
                  obtain ⟨ad275, e275, hx275_0, hx275_1, hx275_2, hx275_3, hx275_4, hx275_5⟩ := at_T55 HR0_4.out (ji32) p275 q275
                  have hw275_5 := hx275_5
                  have hw275_4 := hx275_4
                  have hw275_3 := hx275_3
                  have hw275_2 := hx275_2
                  have hw275_1 := hx275_1
                  have hw275_0 := hx275_0
                  obtain rfl : ad274 = ad275 := (by injection e275)
                  replace hx275_0 := (HB.out.cell (cl w _ hx275_0)).trans hx275_0
                  replace hx275_1 := (HB.out.cell (cl w _ hx275_1)).trans hx275_1
                  replace hx275_2 := (HB.out.cell (cl w _ hx275_2)).trans hx275_2
                  replace hx275_3 := (HB.out.cell (cl w _ hx275_3)).trans hx275_3
                  replace hx275_4 := (HB.out.cell (cl w _ hx275_4)).trans hx275_4
                  replace hx275_5 := (HB.out.cell (cl w _ hx275_5)).trans hx275_5
                  replace p275 := eq_true p275
                  replace q275 := eq_true q275
                  refine start_ (n := 26) (S := fun w' => w'.cell? ⟨gb269, 0, none⟩ = some (.string a0_0) ∧ w'.cell? ⟨gb269, 1, none⟩ = some (.bool true) ∧ w'.cell? ⟨gb269, 2, none⟩ = some (.slice A0_2 l0_2.length c0_2) ∧ w'.cell? ⟨gb269, 3, none⟩ = some (.bool a0_3) ∧ w'.cell? ⟨gb269, 4, none⟩ = some (.slice (some ad274) l0_4.length c0_4) ∧ w'.cell? (ad274.add ((x5_2).toNat * 6)) = some (.int .i64 ((rT l0_4 x5_2).f0)) ∧ w'.cell? ⟨(ad274.add ((x5_2).toNat * 6)).block, (ad274.add ((x5_2).toNat * 6)).off + 1, none⟩ = some (.string ((rT l0_4 x5_2).f1)) ∧ w'.cell? ⟨(ad274.add ((x5_2).toNat * 6)).block, (ad274.add ((x5_2).toNat * 6)).off + 2, none⟩ = some (.string ((rT l0_4 x5_2).f2)) ∧ w'.cell? ⟨(ad274.add ((x5_2).toNat * 6)).block, (ad274.add ((x5_2).toNat * 6)).off + 3, none⟩ = some (.int .i64 ((rT l0_4 x5_2).f3)) ∧ w'.cell? ⟨(ad274.add ((x5_2).toNat * 6)).block, (ad274.add ((x5_2).toNat * 6)).off + 4, none⟩ = some (.bool ((rT l0_4 x5_2).f4)) ∧ w'.cell? ⟨(ad274.add ((x5_2).toNat * 6)).block, (ad274.add ((x5_2).toNat * 6)).off + 5, none⟩ = some (.bool ((rT l0_4 x5_2).f5)) ∧ w'.cell? (ad274.add (((ji32)).toNat * 6)) = some (.int .i64 ((rT l0_4 (ji32)).f0)) ∧ w'.cell? ⟨(ad274.add (((ji32)).toNat * 6)).block, (ad274.add (((ji32)).toNat * 6)).off + 1, none⟩ = some (.string ((rT l0_4 (ji32)).f1)) ∧ w'.cell? ⟨(ad274.add (((ji32)).toNat * 6)).block, (ad274.add (((ji32)).toNat * 6)).off + 2, none⟩ = some (.string ((rT l0_4 (ji32)).f2)) ∧ w'.cell? ⟨(ad274.add (((ji32)).toNat * 6)).block, (ad274.add (((ji32)).toNat * 6)).off + 3, none⟩ = some (.int .i64 ((rT l0_4 (ji32)).f3)) ∧ w'.cell? ⟨(ad274.add (((ji32)).toNat * 6)).block, (ad274.add (((ji32)).toNat * 6)).off + 4, none⟩ = some (.bool ((rT l0_4 (ji32)).f4)) ∧ w'.cell? ⟨(ad274.add (((ji32)).toNat * 6)).block, (ad274.add (((ji32)).toNat * 6)).off + 5, none⟩ = some (.bool ((rT l0_4 (ji32)).f5))) (ds := []) (fl 0 26) (by kernel_rfl) rfl rfl ⟨(bC BK269.out 0).trans rfl, (bC BK269.out 1).trans rfl, (bC BK269.out 2).trans rfl, (bC BK269.out 3).trans rfl, (bC BK269.out 4).trans rfl, ((HB.out.cell (cl w _ hw274_0)).trans hw274_0), ((HB.out.cell (cl w _ hw274_1)).trans hw274_1), ((HB.out.cell (cl w _ hw274_2)).trans hw274_2), ((HB.out.cell (cl w _ hw274_3)).trans hw274_3), ((HB.out.cell (cl w _ hw274_4)).trans hw274_4), ((HB.out.cell (cl w _ hw274_5)).trans hw274_5), ((HB.out.cell (cl w _ hw275_0)).trans hw275_0), ((HB.out.cell (cl w _ hw275_1)).trans hw275_1), ((HB.out.cell (cl w _ hw275_2)).trans hw275_2), ((HB.out.cell (cl w _ hw275_3)).trans hw275_3), ((HB.out.cell (cl w _ hw275_4)).trans hw275_4), ((HB.out.cell (cl w _ hw275_5)).trans hw275_5)⟩ (fun hHeld => ?_); refine with_tabW burinref03_body.tab10 burinref03_body.bits10 (fun HT_ HW_ => ?_)
                  generalize wc.drew = w39 at BK269 HB hx274_0 hx274_1 hx274_2 hx274_3 hx274_4 hx274_5 hx275_0 hx275_1 hx275_2 hx275_3 hx275_4 hx275_5 hHeld ⊢
                  refine puT HT_.out 0 53 (fl 1 25) ?_
                  refine tkT HT_.out HW_.out 1 54 (fl 2 24) rfl rfl hHeld (by rintro w' ⟨s0, s1, s2, s3, s4, s5, s6, s7, s8, s9, s10, s11, s12, s13, s14, s15, s16⟩; go_simp; with_reducible rfl) ?_
                  refine puT HT_.out 2 55 (fl 3 23) ?_
                  refine puT HT_.out 3 56 (fl 4 22) ?_
                  refine puT HT_.out 4 57 (fl 5 21) ?_
                  refine puT HT_.out 5 58 (fl 6 20) ?_
                  refine puT HT_.out 6 59 (fl 7 19) ?_
                  refine tkT HT_.out HW_.out 7 60 (fl 8 18) rfl rfl hHeld (by rintro w' ⟨s0, s1, s2, s3, s4, s5, s6, s7, s8, s9, s10, s11, s12, s13, s14, s15, s16⟩; go_simp; with_reducible rfl) ?_
                  refine puT HT_.out 8 61 (fl 9 17) ?_
                  refine puT HT_.out 9 62 (fl 10 16) ?_
                  refine puT HT_.out 10 63 (fl 11 15) ?_
                  refine puT HT_.out 11 64 (fl 12 14) ?_
                  refine puT HT_.out 12 65 (fl 13 13) ?_
                  refine puT HT_.out 13 66 (fl 14 12) ?_
                  refine puT HT_.out 14 67 (fl 15 11) ?_
                  refine puT HT_.out 15 68 (fl 16 10) ?_
                  refine puT HT_.out 17 70 #[true, true, true, true, true, true, true, true, true, true, true, true, true, true, true, true, false, true, false, false, false, false, false, false, false, false] ?_
                  refine puT HT_.out 18 71 #[true, true, true, true, true, true, true, true, true, true, true, true, true, true, true, true, false, true, true, false, false, false, false, false, false, false] ?_
                  refine puT HT_.out 19 72 #[true, true, true, true, true, true, true, true, true, true, true, true, true, true, true, true, false, true, true, true, false, false, false, false, false, false] ?_
                  refine puT HT_.out 20 73 #[true, true, true, true, true, true, true, true, true, true, true, true, true, true, true, true, false, true, true, true, true, false, false, false, false, false] ?_
                  refine tkT HT_.out HW_.out 16 69 (fl 21 5) rfl rfl hHeld (by rintro w' ⟨s0, s1, s2, s3, s4, s5, s6, s7, s8, s9, s10, s11, s12, s13, s14, s15, s16⟩; go_simp; with_reducible rfl) ?_
                  refine tkT HT_.out HW_.out 21 74 (fl 22 4) rfl rfl hHeld (by rintro w' ⟨s0, s1, s2, s3, s4, s5, s6, s7, s8, s9, s10, s11, s12, s13, s14, s15, s16⟩; go_simp; with_reducible rfl) ?_
                  refine one_ (i := 22) (N := some 75) (fl 23 3) rfl rfl (one_of HT_.out (by kernel_rfl)) (by decide) (fun K hK => ?_)
                  refine goes_ Tryz.func59 (by kernel_rfl) rfl #[.agg #[.string a0_0, .bool true, .slice A0_2 l0_2.length c0_2, .bool a0_3, .slice (some ad274) l0_4.length c0_4], .agg #[.int .i64 ((rT l0_4 (ji32)).f0), .string ((rT l0_4 (ji32)).f1), .string ((rT l0_4 (ji32)).f2), .int .i64 ((rT l0_4 (ji32)).f3), .bool ((rT l0_4 (ji32)).f4), .bool ((rT l0_4 (ji32)).f5)]] (by rfl) rfl rfl (by (try simp only [List.map_toArray, List.map_cons, List.map_nil]); first | done | (simp only [hji32]; rfl) | rfl | (simp only [List.length_drop, List.length_take]; rfl)) ?_
                  with_reducible refine (burinref03_param.calls kj19 a0_0 true _ _ l0_2 a0_3 _ _ l0_4 ((rT l0_4 (ji32)).f0) ((rT l0_4 (ji32)).f1) ((rT l0_4 (ji32)).f2) ((rT l0_4 (ji32)).f3) ((rT l0_4 (ji32)).f4) ((rT l0_4 (ji32)).f5) t276 _ ?side1 ?side2 ?side3 ?side4 A35.out).mono ?_
                  (case side1 => repeat (first | exact (Kd.C_below HR0_2.out HB.out) | (with_reducible refine Kd.C_alloc ?_ _) | (with_reducible refine Kd.C_drewN ?_ _) | (with_reducible refine Kd.C_drew ?_)))
                  (case side2 => exact HC0_2.out)
                  (case side3 => repeat (first | exact (Kd.C_below HR0_4.out HB.out) | (with_reducible refine Kd.C_alloc ?_ _) | (with_reducible refine Kd.C_drewN ?_ _) | (with_reducible refine Kd.C_drew ?_)))
                  (case side4 => exact HC0_4.out)
                  rintro e w40 ⟨rfl, hb⟩
                  refine ⟨_, rfl, ?_⟩
                  have n0_ := Az.mk (blk_below (g := gb269) (o := .cells #[.string a0_0, .bool true, .slice A0_2 l0_2.length c0_2, .bool a0_3, .slice (some ad274) l0_4.length c0_4] 33 (0, 0)) (by (with_reducible repeat (first | refine kN ?_ _ | refine kD ?_ | refine kA ?_ _)); exact BK269.out) hb)
                  have n1_ := Az.mk (bP (by repeat (with_reducible first | exact HB.out | apply bA | apply bQ | apply bD | refine bS ?_ GE269.out)) hb)
                  clear BK269
                  clear HB
                  have BK269 := n0_
                  have HB := n1_
                  clear n0_ n1_
                  (try clear hb)
                  (try clear hb2)
                  (try clear hk)
                  (try clear hi)
                  refine hK.out _ _ ⟨(bC BK269.out 0).trans rfl, (bC BK269.out 1).trans rfl, (bC BK269.out 2).trans rfl, (bC BK269.out 3).trans rfl, (bC BK269.out 4).trans rfl, ((HB.out.cell (cl w _ hw274_0)).trans hw274_0), ((HB.out.cell (cl w _ hw274_1)).trans hw274_1), ((HB.out.cell (cl w _ hw274_2)).trans hw274_2), ((HB.out.cell (cl w _ hw274_3)).trans hw274_3), ((HB.out.cell (cl w _ hw274_4)).trans hw274_4), ((HB.out.cell (cl w _ hw274_5)).trans hw274_5), ((HB.out.cell (cl w _ hw275_0)).trans hw275_0), ((HB.out.cell (cl w _ hw275_1)).trans hw275_1), ((HB.out.cell (cl w _ hw275_2)).trans hw275_2), ((HB.out.cell (cl w _ hw275_3)).trans hw275_3), ((HB.out.cell (cl w _ hw275_4)).trans hw275_4), ((HB.out.cell (cl w _ hw275_5)).trans hw275_5)⟩ (fun hHeld => ?_)
                  clear hK K
                  refine norm_ (a' := ?_) ?_ ?_
                  rotate_left
                  ·show Act.put _ (some 75) _ = _
                   simp only [Act.put, sT, sZ, sS, i64_w, i32_w]
                   rfl
                  refine puT HT_.out 23 76 (fl 24 2) ?_
                  refine puT HT_.out 24 77 (fl 25 1) ?_
                  refine puT HT_.out 25 78 (fl 26 0) ?_
                  refine done_ (done_of HT_.out (by kernel_rfl)) ?_
                  try go_wp2
                  go_roundg kj19
                  case measure => have := HJ1.out; have := HK2.out; have := HJ19.out; omega
                  case rel => exact ⟨(ji32), (by first | rfl | (simp; done) | (simp only [← hji32] <;> (first | rfl | simp)) | (simp [*]; done)), H', ⟨by have := HJ1.out; have := HK2.out; have := HJ19.out; omega⟩, ⟨by (with_reducible repeat (first | refine kN ?_ _ | refine kD ?_ | refine kA ?_ _)); exact BK269.out⟩, ⟨by repeat (with_reducible first | exact HB.out | apply bA | apply bQ | apply bD | refine bS ?_ GE269.out)⟩⟩
                ·rw [if_neg c34] at H
                 exact absurd H (by simp)
               ·rw [if_neg c33] at H
                exact absurd H (by simp)
             ·rw [if_neg c29] at H
              have c29b0 : (((rT l0_4 x5_2).f1).toList == ([35] : List UInt8)) = false := beq_eq_false_iff_ne.mpr c29
              have c29b1 : (((rT l0_4 x5_2).f1).toList != ([35] : List UInt8)) = true := bne_iff_ne.mpr c29
              have H' := Az.mk H
              clear H
              try go_wp2
              have n0_ := Az.mk (kD BK269.out)
              have n1_ := Az.mk (bD HB.out)
              clear BK269
              clear HB
              have BK269 := n0_
              have HB := n1_
              clear n0_ n1_
              have p274 : 0 ≤ (x5_2 : Int) := od (by assumption)
              have q274 : x5_2 < (l0_4.length : Int) := od (by assumption)
              obtain ⟨ad274, e274, hx274_0, hx274_1, hx274_2, hx274_3, hx274_4, hx274_5⟩ := at_T55 HR0_4.out x5_2 p274 q274
              have hw274_5 := hx274_5
              have hw274_4 := hx274_4
              have hw274_3 := hx274_3
              have hw274_2 := hx274_2
              have hw274_1 := hx274_1
              have hw274_0 := hx274_0
              cases e274
              replace hx274_0 := (HB.out.cell (cl w _ hx274_0)).trans hx274_0
              replace hx274_1 := (HB.out.cell (cl w _ hx274_1)).trans hx274_1
              replace hx274_2 := (HB.out.cell (cl w _ hx274_2)).trans hx274_2
              replace hx274_3 := (HB.out.cell (cl w _ hx274_3)).trans hx274_3
              replace hx274_4 := (HB.out.cell (cl w _ hx274_4)).trans hx274_4
              replace hx274_5 := (HB.out.cell (cl w _ hx274_5)).trans hx274_5
              replace p274 := eq_true p274
              replace q274 := eq_true q274
              refine start_ (n := 26) (S := fun w' => w'.cell? ⟨gb269, 0, none⟩ = some (.string a0_0) ∧ w'.cell? ⟨gb269, 1, none⟩ = some (.bool true) ∧ w'.cell? ⟨gb269, 2, none⟩ = some (.slice A0_2 l0_2.length c0_2) ∧ w'.cell? ⟨gb269, 3, none⟩ = some (.bool a0_3) ∧ w'.cell? ⟨gb269, 4, none⟩ = some (.slice (some ad274) l0_4.length c0_4) ∧ w'.cell? (ad274.add ((x5_2).toNat * 6)) = some (.int .i64 ((rT l0_4 x5_2).f0)) ∧ w'.cell? ⟨(ad274.add ((x5_2).toNat * 6)).block, (ad274.add ((x5_2).toNat * 6)).off + 1, none⟩ = some (.string ((rT l0_4 x5_2).f1)) ∧ w'.cell? ⟨(ad274.add ((x5_2).toNat * 6)).block, (ad274.add ((x5_2).toNat * 6)).off + 2, none⟩ = some (.string ((rT l0_4 x5_2).f2)) ∧ w'.cell? ⟨(ad274.add ((x5_2).toNat * 6)).block, (ad274.add ((x5_2).toNat * 6)).off + 3, none⟩ = some (.int .i64 ((rT l0_4 x5_2).f3)) ∧ w'.cell? ⟨(ad274.add ((x5_2).toNat * 6)).block, (ad274.add ((x5_2).toNat * 6)).off + 4, none⟩ = some (.bool ((rT l0_4 x5_2).f4)) ∧ w'.cell? ⟨(ad274.add ((x5_2).toNat * 6)).block, (ad274.add ((x5_2).toNat * 6)).off + 5, none⟩ = some (.bool ((rT l0_4 x5_2).f5))) (ds := []) (fl 0 26) (by kernel_rfl) rfl rfl ⟨(bC BK269.out 0).trans rfl, (bC BK269.out 1).trans rfl, (bC BK269.out 2).trans rfl, (bC BK269.out 3).trans rfl, (bC BK269.out 4).trans rfl, ((HB.out.cell (cl w _ hw274_0)).trans hw274_0), ((HB.out.cell (cl w _ hw274_1)).trans hw274_1), ((HB.out.cell (cl w _ hw274_2)).trans hw274_2), ((HB.out.cell (cl w _ hw274_3)).trans hw274_3), ((HB.out.cell (cl w _ hw274_4)).trans hw274_4), ((HB.out.cell (cl w _ hw274_5)).trans hw274_5)⟩ (fun hHeld => ?_); refine with_tabW burinref03_body.tab10 burinref03_body.bits10 (fun HT_ HW_ => ?_)
              generalize wc.drew = w41 at BK269 HB hx274_0 hx274_1 hx274_2 hx274_3 hx274_4 hx274_5 hHeld ⊢
              refine puT HT_.out 0 53 (fl 1 25) ?_
              refine tkT HT_.out HW_.out 1 54 (fl 2 24) rfl rfl hHeld (by rintro w' ⟨s0, s1, s2, s3, s4, s5, s6, s7, s8, s9, s10⟩; go_simp; with_reducible rfl) ?_
              refine puT HT_.out 2 55 (fl 3 23) ?_
              refine puT HT_.out 3 56 (fl 4 22) ?_
              refine puT HT_.out 4 57 (fl 5 21) ?_
              refine puT HT_.out 5 58 (fl 6 20) ?_
              refine puT HT_.out 6 59 (fl 7 19) ?_
              refine tkT HT_.out HW_.out 7 60 (fl 8 18) rfl rfl hHeld (by rintro w' ⟨s0, s1, s2, s3, s4, s5, s6, s7, s8, s9, s10⟩; go_simp; with_reducible rfl) ?_
              refine puT HT_.out 8 61 (fl 9 17) ?_
              refine puT HT_.out 9 62 (fl 10 16) ?_
              refine puT HT_.out 10 63 (fl 11 15) ?_
              refine pdT HT_.out 11 64 (fl 12 14) ?_
              refine pdT HT_.out 12 65 (fl 13 13) ?_
              refine pdT HT_.out 13 66 (fl 14 12) ?_
              refine pdT HT_.out 14 67 (fl 15 11) ?_
              refine pdT HT_.out 15 68 (fl 16 10) ?_
              refine pdT HT_.out 16 69 (fl 17 9) ?_
              refine pdT HT_.out 17 70 (fl 18 8) ?_
              refine pdT HT_.out 18 71 (fl 19 7) ?_
              refine pdT HT_.out 19 72 (fl 20 6) ?_
              refine pdT HT_.out 20 73 (fl 21 5) ?_
              refine pdT HT_.out 21 74 (fl 22 4) ?_
              refine pdT HT_.out 22 75 (fl 23 3) ?_
              refine pdT HT_.out 23 76 (fl 24 2) ?_
              refine pdT HT_.out 24 77 (fl 25 1) ?_
              refine puT HT_.out 25 78 (fl 26 0) ?_
              refine done_ (done_of HT_.out (by kernel_rfl)) ?_
              try go_wp2
              go_roundg kj19
              case measure => have := HJ1.out; have := HK2.out; have := HJ19.out; omega
              case rel => exact ⟨(wrap64 (x5_2 + 1)), (by first | rfl | (simp; done) | (simp [*]; done)), H', ⟨by have := HJ1.out; have := HK2.out; have := HJ19.out; omega⟩, ⟨by (with_reducible repeat (first | refine kN ?_ _ | refine kD ?_ | refine kA ?_ _)); exact BK269.out⟩, ⟨by repeat (with_reducible first | exact HB.out | apply bA | apply bQ | apply bD | refine bS ?_ GE269.out)⟩⟩
            ·rw [if_neg c28] at H
             exact absurd H (by simp)
           ·rw [if_neg c27] at H
            exact absurd H (by simp)
          ·replace c26 := Bool.eq_false_iff.mpr c26
           subst c26
           have H1 : (burinref03_body.l0 kj19 l0_4 (l0_4.length : Int) (wrap64 (x5_2 + 1)) a0_0 false l0_2 a0_3 l0_4) = some r := by rw [if_neg (show ¬ (false = true) by decide)] at H; exact H
           clear H
           have H := H1
           clear H1
           have H' := Az.mk H
           clear H
           try go_wp2
           have n0_ := Az.mk (kD BK269.out)
           have n1_ := Az.mk (bD HB.out)
           clear BK269
           clear HB
           have BK269 := n0_
           have HB := n1_
           clear n0_ n1_
           refine start_ (n := 26) (S := fun w' => w'.cell? ⟨gb269, 0, none⟩ = some (.string a0_0) ∧ w'.cell? ⟨gb269, 1, none⟩ = some (.bool false) ∧ w'.cell? ⟨gb269, 2, none⟩ = some (.slice A0_2 l0_2.length c0_2) ∧ w'.cell? ⟨gb269, 3, none⟩ = some (.bool a0_3) ∧ w'.cell? ⟨gb269, 4, none⟩ = some (.slice A0_4 l0_4.length c0_4)) (ds := []) (fl 0 26) (by kernel_rfl) rfl rfl ⟨(bC BK269.out 0).trans rfl, (bC BK269.out 1).trans rfl, (bC BK269.out 2).trans rfl, (bC BK269.out 3).trans rfl, (bC BK269.out 4).trans rfl⟩ (fun hHeld => ?_); refine with_tabW burinref03_body.tab10 burinref03_body.bits10 (fun HT_ HW_ => ?_)
           generalize wc.drew = w42 at BK269 HB hHeld ⊢
           refine puT HT_.out 0 53 (fl 1 25) ?_
           refine tkT HT_.out HW_.out 1 54 (fl 2 24) rfl rfl hHeld (by rintro w' ⟨s0, s1, s2, s3, s4⟩; go_simp; with_reducible rfl) ?_
           refine puT HT_.out 2 55 (fl 3 23) ?_
           refine pdT HT_.out 3 56 (fl 4 22) ?_
           refine pdT HT_.out 4 57 (fl 5 21) ?_
           refine pdT HT_.out 5 58 (fl 6 20) ?_
           refine pdT HT_.out 6 59 (fl 7 19) ?_
           refine pdT HT_.out 7 60 (fl 8 18) ?_
           refine pdT HT_.out 8 61 (fl 9 17) ?_
           refine puT HT_.out 9 62 (fl 10 16) ?_
           refine puT HT_.out 10 63 (fl 11 15) ?_
           refine pdT HT_.out 11 64 (fl 12 14) ?_
           refine pdT HT_.out 12 65 (fl 13 13) ?_
           refine pdT HT_.out 13 66 (fl 14 12) ?_
           refine pdT HT_.out 14 67 (fl 15 11) ?_
           refine pdT HT_.out 15 68 (fl 16 10) ?_
           refine pdT HT_.out 16 69 (fl 17 9) ?_
           refine pdT HT_.out 17 70 (fl 18 8) ?_
           refine pdT HT_.out 18 71 (fl 19 7) ?_
           refine pdT HT_.out 19 72 (fl 20 6) ?_
           refine pdT HT_.out 20 73 (fl 21 5) ?_
           refine pdT HT_.out 21 74 (fl 22 4) ?_
           refine pdT HT_.out 22 75 (fl 23 3) ?_
           refine pdT HT_.out 23 76 (fl 24 2) ?_
           refine pdT HT_.out 24 77 (fl 25 1) ?_
           refine puT HT_.out 25 78 (fl 26 0) ?_
           refine done_ (done_of HT_.out (by kernel_rfl)) ?_
           try go_wp2
           go_roundg kj19
           case measure => have := HJ1.out; have := HK2.out; have := HJ19.out; omega
           case rel => exact ⟨(wrap64 (x5_2 + 1)), (by first | rfl | (simp; done) | (simp [*]; done)), H', ⟨by have := HJ1.out; have := HK2.out; have := HJ19.out; omega⟩, ⟨by (with_reducible repeat (first | refine kN ?_ _ | refine kD ?_ | refine kA ?_ _)); exact BK269.out⟩, ⟨by repeat (with_reducible first | exact HB.out | apply bA | apply bQ | apply bD | refine bS ?_ GE269.out)⟩⟩
      ·rw [if_neg c19] at H
       have c19b0 : decide (x5_2 < (l0_4.length : Int)) = false := decide_eq_false c19
       clear c19
       obtain rfl := Option.some.inj H
       go_wp2
       go_ret
       exact ⟨by first | rfl | (simp [eN, eS] <;> rfl) | (simp [*, eN, eS] <;> rfl), by repeat (with_reducible first | exact HB.out | apply bA | apply bQ | apply bD | refine bS ?_ GE269.out)⟩
end Go.Proofs.YtcbfbefpbjmglaaGreatDoor.PA
