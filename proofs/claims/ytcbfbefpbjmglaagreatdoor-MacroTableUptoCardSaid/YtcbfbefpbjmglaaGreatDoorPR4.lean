import Derived.Test.YtcbfbefpbjmglaaGreatDoorZ
import Derived.Test.YtcbfbefpbjmglaaGreatDoorPR3
set_option maxHeartbeats 8000000
set_option maxRecDepth 100000
set_option linter.unusedSimpArgs false
set_option linter.unusedVariables false
namespace Go.Proofs.YtcbfbefpbjmglaaGreatDoor.PA
open Go.RowKit YtcbfbefpbjmglaaGreatDoorT YtcbfbefpbjmglaaGreatDoorW PrintWords PrintLast PrintMore
attribute [local go_sem] max2_int min2_int max_two min_two max_three min_three max_four min_four
mutual
def burinref03_Right.j0 : Nat → Bool → ByteArray → Bool → List ByteArray → Bool → List (S55) → Option (Bool)
 | 0, _, _, _, _, _, _ => none
 | k + 1, x42, x278000, x278001, x278002, x278003, x278004 => if x42 = true then (some false) else (burinref03_Right.l0 k 0 x278000 x278001 x278002 x278003 x278004)
def burinref03_Right.l0 : Nat → Int → ByteArray → Bool → List ByteArray → Bool → List (S55) → Option (Bool)
 | 0, _, _, _, _, _, _ => none
 | k + 1, x4, x278000, x278001, x278002, x278003, x278004 => if x4 < (x278002.length : Int) then (if 0 ≤ x4 then ((burinref03_isName.f (rdOf ByteArray.empty x278002 x4)).bind fun t281 => (if t281 = true then (burinref03_Right.j2 k x4 ((rdOf ByteArray.empty x278002 x4).toList == ([95, 95, 86, 65, 95, 65, 82, 71, 83, 95, 95] : List UInt8)) x278000 x278001 x278002 x278003 x278004) else (burinref03_Right.j2 k x4 true x278000 x278001 x278002 x278003 x278004))) else (none)) else ((burinref03_body.f k x278000 x278001 x278002 x278003 x278004).bind fun t279 => (some t279))
def burinref03_Right.j2 : Nat → Int → Bool → ByteArray → Bool → List ByteArray → Bool → List (S55) → Option (Bool)
 | 0, _, _, _, _, _, _, _ => none
 | k + 1, x4, x65, x278000, x278001, x278002, x278003, x278004 => if x65 = true then (some false) else (burinref03_Right.l1 k x4 0 x278000 x278001 x278002 x278003 x278004)
def burinref03_Right.l1 : Nat → Int → Int → ByteArray → Bool → List ByteArray → Bool → List (S55) → Option (Bool)
 | 0, _, _, _, _, _, _, _ => none
 | k + 1, x4, x6, x278000, x278001, x278002, x278003, x278004 => if x6 < x4 then (if 0 ≤ x6 then (if x6 < (x278002.length : Int) then (if 0 ≤ x4 then (if x4 < (x278002.length : Int) then (if (rdOf ByteArray.empty x278002 x6).toList = (rdOf ByteArray.empty x278002 x4).toList then (some false) else (burinref03_Right.l1 k x4 (wrap64 (x6 + 1)) x278000 x278001 x278002 x278003 x278004)) else (none)) else (none)) else (none)) else (none)) else (burinref03_Right.l0 k (wrap64 (x4 + 1)) x278000 x278001 x278002 x278003 x278004)
end
def burinref03_Right.f (k : Nat) (a0_0 : ByteArray) (a0_1 : Bool) (l0_2 : List ByteArray) (a0_3 : Bool) (l0_4 : List (S55)) : Option (Bool) := (burinref03_isName.f a0_0).bind fun t278 => (if t278 = true then (if a0_0.toList = ([100, 101, 102, 105, 110, 101, 100] : List UInt8) then (burinref03_Right.j0 k true a0_0 a0_1 l0_2 a0_3 l0_4) else (if a0_0.toList = ([95, 95, 86, 65, 95, 65, 82, 71, 83, 95, 95] : List UInt8) then (burinref03_Right.j0 k true a0_0 a0_1 l0_2 a0_3 l0_4) else (if a0_1 = true then (burinref03_Right.j0 k (decide ((l0_2.length : Int) > 16)) a0_0 a0_1 l0_2 a0_3 l0_4) else (if (l0_2.length : Int) > 0 then (burinref03_Right.j0 k true a0_0 a0_1 l0_2 a0_3 l0_4) else (if a0_3 = true then (burinref03_Right.j0 k true a0_0 a0_1 l0_2 a0_3 l0_4) else (burinref03_Right.j0 k (decide ((l0_2.length : Int) > 16)) a0_0 a0_1 l0_2 a0_3 l0_4)))))) else (burinref03_Right.j0 k true a0_0 a0_1 l0_2 a0_3 l0_4))
theorem burinref03_Right.calls (k : Nat) (a0_0 : ByteArray) (a0_1 : Bool) (A0_2 : Option Addr) (c0_2 : Nat) (l0_2 : List ByteArray) (a0_3 : Bool) (A0_4 : Option Addr) (c0_4 : Nat) (l0_4 : List (S55)) (r : Bool) (w : World) (hr0_2 : Kd.C Kd.string w A0_2 l0_2.length l0_2) (hc0_2 : l0_2.length ≤ c0_2) (hr0_4 : Kd.C k55 w A0_4 l0_4.length l0_4) (hc0_4 : l0_4.length ≤ c0_4) (h : burinref03_Right.f k a0_0 a0_1 l0_2 a0_3 l0_4 = some r) :
  Calls Tryz.prog 25 #[.agg #[.string a0_0, .bool a0_1, .slice A0_2 l0_2.length c0_2, .bool a0_3, .slice A0_4 l0_4.length c0_4]] w fun e w' => e = .returned (.bool r) ∧ Below w.heap.size w w' := by
 have hu32 := Tryz.underlying33
 have HR0_2 := Az.mk hr0_2
 have HC0_2 := Az.mk hc0_2
 clear hr0_2 hc0_2
 have HR0_4 := Az.mk hr0_4
 have HC0_4 := Az.mk hc0_4
 clear hr0_4 hc0_4
 have HB := Az.mk (Below.refl w.heap.size w)
 have H : ((burinref03_isName.f a0_0).bind fun t278 => (if t278 = true then (if a0_0.toList = ([100, 101, 102, 105, 110, 101, 100] : List UInt8) then (burinref03_Right.j0 k true a0_0 a0_1 l0_2 a0_3 l0_4) else (if a0_0.toList = ([95, 95, 86, 65, 95, 65, 82, 71, 83, 95, 95] : List UInt8) then (burinref03_Right.j0 k true a0_0 a0_1 l0_2 a0_3 l0_4) else (if a0_1 = true then (burinref03_Right.j0 k (decide ((l0_2.length : Int) > 16)) a0_0 a0_1 l0_2 a0_3 l0_4) else (if (l0_2.length : Int) > 0 then (burinref03_Right.j0 k true a0_0 a0_1 l0_2 a0_3 l0_4) else (if a0_3 = true then (burinref03_Right.j0 k true a0_0 a0_1 l0_2 a0_3 l0_4) else (burinref03_Right.j0 k (decide ((l0_2.length : Int) > 16)) a0_0 a0_1 l0_2 a0_3 l0_4)))))) else (burinref03_Right.j0 k true a0_0 a0_1 l0_2 a0_3 l0_4))) = some r := h
 clear h
 replace H := Option.bind_eq_some_iff.mp H
 obtain ⟨t278, A20, H⟩ := H
 replace H : (if t278 = true then (if a0_0.toList = ([100, 101, 102, 105, 110, 101, 100] : List UInt8) then (burinref03_Right.j0 k true a0_0 a0_1 l0_2 a0_3 l0_4) else (if a0_0.toList = ([95, 95, 86, 65, 95, 65, 82, 71, 83, 95, 95] : List UInt8) then (burinref03_Right.j0 k true a0_0 a0_1 l0_2 a0_3 l0_4) else (if a0_1 = true then (burinref03_Right.j0 k (decide ((l0_2.length : Int) > 16)) a0_0 a0_1 l0_2 a0_3 l0_4) else (if (l0_2.length : Int) > 0 then (burinref03_Right.j0 k true a0_0 a0_1 l0_2 a0_3 l0_4) else (if a0_3 = true then (burinref03_Right.j0 k true a0_0 a0_1 l0_2 a0_3 l0_4) else (burinref03_Right.j0 k (decide ((l0_2.length : Int) > 16)) a0_0 a0_1 l0_2 a0_3 l0_4)))))) else (burinref03_Right.j0 k true a0_0 a0_1 l0_2 a0_3 l0_4)) = some r := H
 have A2 := Az.mk A20
 clear A20
 have HC3 := Az.mk H
 clear H
 go_enter Tryz.func25, Tryz.ntmps25
 go_upto_region 2 with (first | ((with_reducible refine gate_dst (N := 1) rfl ?_); (try (refine gate_guard (by rfl) ?_; dsimp only)); refine box_event ?hg (N := 1) ?hd (cs := #[.string a0_0, .bool a0_1, .slice A0_2 l0_2.length c0_2, .bool a0_3, .slice A0_4 l0_4.length c0_4]) (t := 33) ?hr ?_; (case hd => rfl); (case hg => rfl); (case hr => first | (go_simp; done) | (go_simp; rfl)); intro gb277 hg w4 hbox hb; have n0_ := Az.mk (bP (by repeat (with_reducible first | exact HB.out | apply bA | apply bQ | apply bD)) hb); have n1_ := Az.mk (hbox); have n2_ := Az.mk ((by rw [hg]; exact (bZ (by repeat (with_reducible first | exact HB.out | apply bA | apply bQ | apply bD))) : w.heap.size ≤ gb277)); have n3_ := n2_; clear HB; have HB := n0_; have BK277 := n1_; have GW277 := n2_; have GE277 := n3_; clear n0_ n1_ n2_ n3_; clear hb hbox hg; have hcz5_0 : w4.cell? ⟨gb277, 0, none⟩ = some (.string a0_0) := (bC BK277.out 0).trans rfl; have hcz5_1 : w4.cell? ⟨gb277, 1, none⟩ = some (.bool a0_1) := (bC BK277.out 1).trans rfl; have hcz5_2 : w4.cell? ⟨gb277, 2, none⟩ = some (.slice A0_2 l0_2.length c0_2) := (bC BK277.out 2).trans rfl; have hcz5_3 : w4.cell? ⟨gb277, 3, none⟩ = some (.bool a0_3) := (bC BK277.out 3).trans rfl; have hcz5_4 : w4.cell? ⟨gb277, 4, none⟩ = some (.slice A0_4 l0_4.length c0_4) := (bC BK277.out 4).trans rfl; have hfz5_0 := bF BK277.out 0; have hfz5_1 := bF BK277.out 1; have hfz5_2 := bF BK277.out 2; have hfz5_3 := bF BK277.out 3; have hfz5_4 := bF BK277.out 4) | (go_at_call 40; (with_reducible refine (burinref03_isName.calls a0_0 t278 _ A2.out).mono ?_); rintro e w6 ⟨rfl, hb⟩; have n0_ := Az.mk (blk_below (g := gb277) (o := .cells #[.string a0_0, .bool a0_1, .slice A0_2 l0_2.length c0_2, .bool a0_3, .slice A0_4 l0_4.length c0_4] 33 (0, 0)) (by (with_reducible repeat (first | refine kN ?_ _ | refine kD ?_ | refine kA ?_ _)); exact BK277.out) hb); have n1_ := Az.mk (bP (by repeat (with_reducible first | exact HB.out | apply bA | apply bQ | apply bD | refine bS ?_ GE277.out)) hb); clear BK277; clear HB; have BK277 := n0_; have HB := n1_; clear n0_ n1_; (try clear hb); (try clear hb2); (try clear hk); (try clear hi)))
 repeat (go_quiet (first | ((with_reducible refine gate_dst (N := 1) rfl ?_); (try (refine gate_guard (by rfl) ?_; dsimp only)); refine box_event ?hg (N := 1) ?hd (cs := #[.string a0_0, .bool a0_1, .slice A0_2 l0_2.length c0_2, .bool a0_3, .slice A0_4 l0_4.length c0_4]) (t := 33) ?hr ?_; (case hd => rfl); (case hg => rfl); (case hr => first | (go_simp; done) | (go_simp; rfl)); intro gb277 hg w4 hbox hb; have n0_ := Az.mk (bP (by repeat (with_reducible first | exact HB.out | apply bA | apply bQ | apply bD)) hb); have n1_ := Az.mk (hbox); have n2_ := Az.mk ((by rw [hg]; exact (bZ (by repeat (with_reducible first | exact HB.out | apply bA | apply bQ | apply bD))) : w.heap.size ≤ gb277)); have n3_ := n2_; clear HB; have HB := n0_; have BK277 := n1_; have GW277 := n2_; have GE277 := n3_; clear n0_ n1_ n2_ n3_; clear hb hbox hg; have hcz5_0 : w4.cell? ⟨gb277, 0, none⟩ = some (.string a0_0) := (bC BK277.out 0).trans rfl; have hcz5_1 : w4.cell? ⟨gb277, 1, none⟩ = some (.bool a0_1) := (bC BK277.out 1).trans rfl; have hcz5_2 : w4.cell? ⟨gb277, 2, none⟩ = some (.slice A0_2 l0_2.length c0_2) := (bC BK277.out 2).trans rfl; have hcz5_3 : w4.cell? ⟨gb277, 3, none⟩ = some (.bool a0_3) := (bC BK277.out 3).trans rfl; have hcz5_4 : w4.cell? ⟨gb277, 4, none⟩ = some (.slice A0_4 l0_4.length c0_4) := (bC BK277.out 4).trans rfl; have hfz5_0 := bF BK277.out 0; have hfz5_1 := bF BK277.out 1; have hfz5_2 := bF BK277.out 2; have hfz5_3 := bF BK277.out 3; have hfz5_4 := bF BK277.out 4) | (go_at_call 40; (with_reducible refine (burinref03_isName.calls a0_0 t278 _ A2.out).mono ?_); rintro e w6 ⟨rfl, hb⟩; have n0_ := Az.mk (blk_below (g := gb277) (o := .cells #[.string a0_0, .bool a0_1, .slice A0_2 l0_2.length c0_2, .bool a0_3, .slice A0_4 l0_4.length c0_4] 33 (0, 0)) (by (with_reducible repeat (first | refine kN ?_ _ | refine kD ?_ | refine kA ?_ _)); exact BK277.out) hb); have n1_ := Az.mk (bP (by repeat (with_reducible first | exact HB.out | apply bA | apply bQ | apply bD | refine bS ?_ GE277.out)) hb); clear BK277; clear HB; have BK277 := n0_; have HB := n1_; clear n0_ n1_; (try clear hb); (try clear hb2); (try clear hk); (try clear hi))); go_upto_region 2 with (first | ((with_reducible refine gate_dst (N := 1) rfl ?_); (try (refine gate_guard (by rfl) ?_; dsimp only)); refine box_event ?hg (N := 1) ?hd (cs := #[.string a0_0, .bool a0_1, .slice A0_2 l0_2.length c0_2, .bool a0_3, .slice A0_4 l0_4.length c0_4]) (t := 33) ?hr ?_; (case hd => rfl); (case hg => rfl); (case hr => first | (go_simp; done) | (go_simp; rfl)); intro gb277 hg w4 hbox hb; have n0_ := Az.mk (bP (by repeat (with_reducible first | exact HB.out | apply bA | apply bQ | apply bD)) hb); have n1_ := Az.mk (hbox); have n2_ := Az.mk ((by rw [hg]; exact (bZ (by repeat (with_reducible first | exact HB.out | apply bA | apply bQ | apply bD))) : w.heap.size ≤ gb277)); have n3_ := n2_; clear HB; have HB := n0_; have BK277 := n1_; have GW277 := n2_; have GE277 := n3_; clear n0_ n1_ n2_ n3_; clear hb hbox hg; have hcz5_0 : w4.cell? ⟨gb277, 0, none⟩ = some (.string a0_0) := (bC BK277.out 0).trans rfl; have hcz5_1 : w4.cell? ⟨gb277, 1, none⟩ = some (.bool a0_1) := (bC BK277.out 1).trans rfl; have hcz5_2 : w4.cell? ⟨gb277, 2, none⟩ = some (.slice A0_2 l0_2.length c0_2) := (bC BK277.out 2).trans rfl; have hcz5_3 : w4.cell? ⟨gb277, 3, none⟩ = some (.bool a0_3) := (bC BK277.out 3).trans rfl; have hcz5_4 : w4.cell? ⟨gb277, 4, none⟩ = some (.slice A0_4 l0_4.length c0_4) := (bC BK277.out 4).trans rfl; have hfz5_0 := bF BK277.out 0; have hfz5_1 := bF BK277.out 1; have hfz5_2 := bF BK277.out 2; have hfz5_3 := bF BK277.out 3; have hfz5_4 := bF BK277.out 4) | (go_at_call 40; (with_reducible refine (burinref03_isName.calls a0_0 t278 _ A2.out).mono ?_); rintro e w6 ⟨rfl, hb⟩; have n0_ := Az.mk (blk_below (g := gb277) (o := .cells #[.string a0_0, .bool a0_1, .slice A0_2 l0_2.length c0_2, .bool a0_3, .slice A0_4 l0_4.length c0_4] 33 (0, 0)) (by (with_reducible repeat (first | refine kN ?_ _ | refine kD ?_ | refine kA ?_ _)); exact BK277.out) hb); have n1_ := Az.mk (bP (by repeat (with_reducible first | exact HB.out | apply bA | apply bQ | apply bD | refine bS ?_ GE277.out)) hb); clear BK277; clear HB; have BK277 := n0_; have HB := n1_; clear n0_ n1_; (try clear hb); (try clear hb2); (try clear hk); (try clear hi))))
 (try simp only [Act.put, List.setIfInBounds_toArray, List.set_cons_zero, List.set_cons_succ])
 go_cut [42] (fun v42 wc => ∃ (kq : Nat) (x42_2 : Bool), v42 = .bool x42_2 ∧ Az (burinref03_Right.j0 kq x42_2 a0_0 a0_1 l0_2 a0_3 l0_4 = some r) ∧ Az (kq ≤ k) ∧ Az (wc.heap[gb277]? = some (.cells #[.string a0_0, .bool a0_1, (.slice A0_2 l0_2.length c0_2), .bool a0_3, (.slice A0_4 l0_4.length c0_4)] 33 (0, 0))) ∧ Az (Below w.heap.size w wc))
 case first =>
  have H := HC3.out
  clear HC3
  by_cases c7 : t278 = true
  ·subst c7
   have H1 : (if a0_0.toList = ([100, 101, 102, 105, 110, 101, 100] : List UInt8) then (burinref03_Right.j0 k true a0_0 a0_1 l0_2 a0_3 l0_4) else (if a0_0.toList = ([95, 95, 86, 65, 95, 65, 82, 71, 83, 95, 95] : List UInt8) then (burinref03_Right.j0 k true a0_0 a0_1 l0_2 a0_3 l0_4) else (if a0_1 = true then (burinref03_Right.j0 k (decide ((l0_2.length : Int) > 16)) a0_0 a0_1 l0_2 a0_3 l0_4) else (if (l0_2.length : Int) > 0 then (burinref03_Right.j0 k true a0_0 a0_1 l0_2 a0_3 l0_4) else (if a0_3 = true then (burinref03_Right.j0 k true a0_0 a0_1 l0_2 a0_3 l0_4) else (burinref03_Right.j0 k (decide ((l0_2.length : Int) > 16)) a0_0 a0_1 l0_2 a0_3 l0_4)))))) = some r := by rw [if_pos rfl] at H; exact H
   clear H
   have H := H1
   clear H1
   by_cases c8 : a0_0.toList = ([100, 101, 102, 105, 110, 101, 100] : List UInt8)
   ·rw [if_pos c8] at H
    have c8b0 : (a0_0.toList == ([100, 101, 102, 105, 110, 101, 100] : List UInt8)) = true := beq_iff_eq.mpr c8
    have c8b1 : (a0_0.toList != ([100, 101, 102, 105, 110, 101, 100] : List UInt8)) = false := bne_eq_false_iff_eq.mpr c8
    clear c8
    (first | rw [c8b0] | (simp only [i64_w, i32_w]; rw [c8b0]) | skip)
    have H' := Az.mk H
    clear H
    have hcz9_0 : w6.cell? ⟨gb277, 0, none⟩ = some (.string a0_0) := (bC BK277.out 0).trans rfl
    have hcz9_1 : w6.cell? ⟨gb277, 1, none⟩ = some (.bool a0_1) := (bC BK277.out 1).trans rfl
    have hcz9_2 : w6.cell? ⟨gb277, 2, none⟩ = some (.slice A0_2 l0_2.length c0_2) := (bC BK277.out 2).trans rfl
    have hcz9_3 : w6.cell? ⟨gb277, 3, none⟩ = some (.bool a0_3) := (bC BK277.out 3).trans rfl
    have hcz9_4 : w6.cell? ⟨gb277, 4, none⟩ = some (.slice A0_4 l0_4.length c0_4) := (bC BK277.out 4).trans rfl
    have hfz9_0 := bF BK277.out 0
    have hfz9_1 := bF BK277.out 1
    have hfz9_2 := bF BK277.out 2
    have hfz9_3 := bF BK277.out 3
    have hfz9_4 := bF BK277.out 4
    go_wp2
    repeat (go_quiet (fail); try go_wp2)
    go_meet
    case rel => exact ⟨_, (true), (by first | rfl | (simp; done) | (simp [*]; done)), H', ⟨by first | omega | exact Nat.le_refl _⟩, ⟨by (with_reducible repeat (first | refine kN ?_ _ | refine kD ?_ | refine kA ?_ _)); exact BK277.out⟩, ⟨by repeat (with_reducible first | exact HB.out | apply bA | apply bQ | apply bD | refine bS ?_ GE277.out)⟩⟩
   ·rw [if_neg c8] at H
    have c8b0 : (a0_0.toList == ([100, 101, 102, 105, 110, 101, 100] : List UInt8)) = false := beq_eq_false_iff_ne.mpr c8
    have c8b1 : (a0_0.toList != ([100, 101, 102, 105, 110, 101, 100] : List UInt8)) = true := bne_iff_ne.mpr c8
    (first | rw [c8b0] | (simp only [i64_w, i32_w]; rw [c8b0]) | skip)
    by_cases c10 : a0_0.toList = ([95, 95, 86, 65, 95, 65, 82, 71, 83, 95, 95] : List UInt8)
    ·rw [if_pos c10] at H
     have c10b0 : (a0_0.toList == ([95, 95, 86, 65, 95, 65, 82, 71, 83, 95, 95] : List UInt8)) = true := beq_iff_eq.mpr c10
     have c10b1 : (a0_0.toList != ([95, 95, 86, 65, 95, 65, 82, 71, 83, 95, 95] : List UInt8)) = false := bne_eq_false_iff_eq.mpr c10
     clear c10
     have H' := Az.mk H
     clear H
     have hcz11_0 : w6.cell? ⟨gb277, 0, none⟩ = some (.string a0_0) := (bC BK277.out 0).trans rfl
     have hcz11_1 : w6.cell? ⟨gb277, 1, none⟩ = some (.bool a0_1) := (bC BK277.out 1).trans rfl
     have hcz11_2 : w6.cell? ⟨gb277, 2, none⟩ = some (.slice A0_2 l0_2.length c0_2) := (bC BK277.out 2).trans rfl
     have hcz11_3 : w6.cell? ⟨gb277, 3, none⟩ = some (.bool a0_3) := (bC BK277.out 3).trans rfl
     have hcz11_4 : w6.cell? ⟨gb277, 4, none⟩ = some (.slice A0_4 l0_4.length c0_4) := (bC BK277.out 4).trans rfl
     have hfz11_0 := bF BK277.out 0
     have hfz11_1 := bF BK277.out 1
     have hfz11_2 := bF BK277.out 2
     have hfz11_3 := bF BK277.out 3
     have hfz11_4 := bF BK277.out 4
     go_wp2
     repeat (go_quiet (fail); try go_wp2)
     go_meet
     case rel => exact ⟨_, (true), (by first | rfl | (simp; done) | (simp [*]; done)), H', ⟨by first | omega | exact Nat.le_refl _⟩, ⟨by (with_reducible repeat (first | refine kN ?_ _ | refine kD ?_ | refine kA ?_ _)); exact BK277.out⟩, ⟨by repeat (with_reducible first | exact HB.out | apply bA | apply bQ | apply bD | refine bS ?_ GE277.out)⟩⟩
    ·rw [if_neg c10] at H
     have c10b0 : (a0_0.toList == ([95, 95, 86, 65, 95, 65, 82, 71, 83, 95, 95] : List UInt8)) = false := beq_eq_false_iff_ne.mpr c10
     have c10b1 : (a0_0.toList != ([95, 95, 86, 65, 95, 65, 82, 71, 83, 95, 95] : List UInt8)) = true := bne_iff_ne.mpr c10
     by_cases c12 : a0_1 = true
     ·subst c12
      have H1 : (burinref03_Right.j0 k (decide ((l0_2.length : Int) > 16)) a0_0 true l0_2 a0_3 l0_4) = some r := by rw [if_pos rfl] at H; exact H
      clear H
      have H := H1
      clear H1
      have H' := Az.mk H
      clear H
      have hcz13_0 : w6.cell? ⟨gb277, 0, none⟩ = some (.string a0_0) := (bC BK277.out 0).trans rfl
      have hcz13_1 : w6.cell? ⟨gb277, 1, none⟩ = some (.bool true) := (bC BK277.out 1).trans rfl
      have hcz13_2 : w6.cell? ⟨gb277, 2, none⟩ = some (.slice A0_2 l0_2.length c0_2) := (bC BK277.out 2).trans rfl
      have hcz13_3 : w6.cell? ⟨gb277, 3, none⟩ = some (.bool a0_3) := (bC BK277.out 3).trans rfl
      have hcz13_4 : w6.cell? ⟨gb277, 4, none⟩ = some (.slice A0_4 l0_4.length c0_4) := (bC BK277.out 4).trans rfl
      have hfz13_0 := bF BK277.out 0
      have hfz13_1 := bF BK277.out 1
      have hfz13_2 := bF BK277.out 2
      have hfz13_3 := bF BK277.out 3
      have hfz13_4 := bF BK277.out 4
      go_wp2
      repeat (go_quiet (fail); try go_wp2)
      go_meet
      case rel => exact ⟨_, (decide ((l0_2.length : Int) > 16)), (by first | rfl | (simp; done) | (simp [*]; done)), H', ⟨by first | omega | exact Nat.le_refl _⟩, ⟨by (with_reducible repeat (first | refine kN ?_ _ | refine kD ?_ | refine kA ?_ _)); exact BK277.out⟩, ⟨by repeat (with_reducible first | exact HB.out | apply bA | apply bQ | apply bD | refine bS ?_ GE277.out)⟩⟩
     ·replace c12 := Bool.eq_false_iff.mpr c12
      subst c12
      have H1 : (if (l0_2.length : Int) > 0 then (burinref03_Right.j0 k true a0_0 false l0_2 a0_3 l0_4) else (if a0_3 = true then (burinref03_Right.j0 k true a0_0 false l0_2 a0_3 l0_4) else (burinref03_Right.j0 k (decide ((l0_2.length : Int) > 16)) a0_0 false l0_2 a0_3 l0_4))) = some r := by rw [if_neg (show ¬ (false = true) by decide)] at H; exact H
      clear H
      have H := H1
      clear H1
      by_cases c14 : (l0_2.length : Int) > 0
      ·rw [if_pos c14] at H
       have c14b0 : decide (0 < (l0_2.length : Int)) = true := decide_eq_true c14
       have c14b1 : decide (0 < l0_2.length) = true := decide_eq_true (by omega)
       clear c14
       have H' := Az.mk H
       clear H
       have hcz15_0 : w6.cell? ⟨gb277, 0, none⟩ = some (.string a0_0) := (bC BK277.out 0).trans rfl
       have hcz15_1 : w6.cell? ⟨gb277, 1, none⟩ = some (.bool false) := (bC BK277.out 1).trans rfl
       have hcz15_2 : w6.cell? ⟨gb277, 2, none⟩ = some (.slice A0_2 l0_2.length c0_2) := (bC BK277.out 2).trans rfl
       have hcz15_3 : w6.cell? ⟨gb277, 3, none⟩ = some (.bool a0_3) := (bC BK277.out 3).trans rfl
       have hcz15_4 : w6.cell? ⟨gb277, 4, none⟩ = some (.slice A0_4 l0_4.length c0_4) := (bC BK277.out 4).trans rfl
       have hfz15_0 := bF BK277.out 0
       have hfz15_1 := bF BK277.out 1
       have hfz15_2 := bF BK277.out 2
       have hfz15_3 := bF BK277.out 3
       have hfz15_4 := bF BK277.out 4
       go_wp2
       repeat (go_quiet (fail); try go_wp2)
       go_meet
       case rel => exact ⟨_, (true), (by first | rfl | (simp; done) | (simp [*]; done)), H', ⟨by first | omega | exact Nat.le_refl _⟩, ⟨by (with_reducible repeat (first | refine kN ?_ _ | refine kD ?_ | refine kA ?_ _)); exact BK277.out⟩, ⟨by repeat (with_reducible first | exact HB.out | apply bA | apply bQ | apply bD | refine bS ?_ GE277.out)⟩⟩
      ·rw [if_neg c14] at H
       have c14b0 : decide (0 < (l0_2.length : Int)) = false := decide_eq_false c14
       have c14b1 : decide (0 < l0_2.length) = false := decide_eq_false (by omega)
       clear c14
       by_cases c16 : a0_3 = true
       ·subst c16
        have H1 : (burinref03_Right.j0 k true a0_0 false l0_2 true l0_4) = some r := by rw [if_pos rfl] at H; exact H
        clear H
        have H := H1
        clear H1
        have H' := Az.mk H
        clear H
        have hcz17_0 : w6.cell? ⟨gb277, 0, none⟩ = some (.string a0_0) := (bC BK277.out 0).trans rfl
        have hcz17_1 : w6.cell? ⟨gb277, 1, none⟩ = some (.bool false) := (bC BK277.out 1).trans rfl
        have hcz17_2 : w6.cell? ⟨gb277, 2, none⟩ = some (.slice A0_2 l0_2.length c0_2) := (bC BK277.out 2).trans rfl
        have hcz17_3 : w6.cell? ⟨gb277, 3, none⟩ = some (.bool true) := (bC BK277.out 3).trans rfl
        have hcz17_4 : w6.cell? ⟨gb277, 4, none⟩ = some (.slice A0_4 l0_4.length c0_4) := (bC BK277.out 4).trans rfl
        have hfz17_0 := bF BK277.out 0
        have hfz17_1 := bF BK277.out 1
        have hfz17_2 := bF BK277.out 2
        have hfz17_3 := bF BK277.out 3
        have hfz17_4 := bF BK277.out 4
        go_wp2
        repeat (go_quiet (fail); try go_wp2)
        go_meet
        case rel => exact ⟨_, (true), (by first | rfl | (simp; done) | (simp [*]; done)), H', ⟨by first | omega | exact Nat.le_refl _⟩, ⟨by (with_reducible repeat (first | refine kN ?_ _ | refine kD ?_ | refine kA ?_ _)); exact BK277.out⟩, ⟨by repeat (with_reducible first | exact HB.out | apply bA | apply bQ | apply bD | refine bS ?_ GE277.out)⟩⟩
       ·replace c16 := Bool.eq_false_iff.mpr c16
        subst c16
        have H1 : (burinref03_Right.j0 k (decide ((l0_2.length : Int) > 16)) a0_0 false l0_2 false l0_4) = some r := by rw [if_neg (show ¬ (false = true) by decide)] at H; exact H
        clear H
        have H := H1
        clear H1
        have H' := Az.mk H
        clear H
        have hcz18_0 : w6.cell? ⟨gb277, 0, none⟩ = some (.string a0_0) := (bC BK277.out 0).trans rfl
        have hcz18_1 : w6.cell? ⟨gb277, 1, none⟩ = some (.bool false) := (bC BK277.out 1).trans rfl
        have hcz18_2 : w6.cell? ⟨gb277, 2, none⟩ = some (.slice A0_2 l0_2.length c0_2) := (bC BK277.out 2).trans rfl
        have hcz18_3 : w6.cell? ⟨gb277, 3, none⟩ = some (.bool false) := (bC BK277.out 3).trans rfl
        have hcz18_4 : w6.cell? ⟨gb277, 4, none⟩ = some (.slice A0_4 l0_4.length c0_4) := (bC BK277.out 4).trans rfl
        have hfz18_0 := bF BK277.out 0
        have hfz18_1 := bF BK277.out 1
        have hfz18_2 := bF BK277.out 2
        have hfz18_3 := bF BK277.out 3
        have hfz18_4 := bF BK277.out 4
        go_wp2
        repeat (go_quiet (fail); try go_wp2)
        go_meet
        case rel => exact ⟨_, (decide ((l0_2.length : Int) > 16)), (by first | rfl | (simp; done) | (simp [*]; done)), H', ⟨by first | omega | exact Nat.le_refl _⟩, ⟨by (with_reducible repeat (first | refine kN ?_ _ | refine kD ?_ | refine kA ?_ _)); exact BK277.out⟩, ⟨by repeat (with_reducible first | exact HB.out | apply bA | apply bQ | apply bD | refine bS ?_ GE277.out)⟩⟩
  ·replace c7 := Bool.eq_false_iff.mpr c7
   subst c7
   have H1 : (burinref03_Right.j0 k true a0_0 a0_1 l0_2 a0_3 l0_4) = some r := by rw [if_neg (show ¬ (false = true) by decide)] at H; exact H
   clear H
   have H := H1
   clear H1
   have H' := Az.mk H
   clear H
   go_wp2
   repeat (go_quiet (fail); try go_wp2)
   go_meet
   case rel => exact ⟨_, (true), (by first | rfl | (simp; done) | (simp [*]; done)), H', ⟨by first | omega | exact Nat.le_refl _⟩, ⟨by (with_reducible repeat (first | refine kN ?_ _ | refine kD ?_ | refine kA ?_ _)); exact BK277.out⟩, ⟨by repeat (with_reducible first | exact HB.out | apply bA | apply bQ | apply bD | refine bS ?_ GE277.out)⟩⟩
 case rest =>
  clear HC3
  try clear c1
  try clear p2
  try clear c7
  try clear c8
  try clear c8b0
  try clear c8b1
  try clear c10
  try clear c10b0
  try clear c10b1
  try clear c12
  try clear c14
  try clear c14b0
  try clear c14b1
  try clear c16
  try clear c17
  try clear hcz11_0
  try clear hcz11_1
  try clear hcz11_2
  try clear hcz11_3
  try clear hcz11_4
  try clear hcz13_0
  try clear hcz13_1
  try clear hcz13_2
  try clear hcz13_3
  try clear hcz13_4
  try clear hcz15_0
  try clear hcz15_1
  try clear hcz15_2
  try clear hcz15_3
  try clear hcz15_4
  try clear hcz17_0
  try clear hcz17_1
  try clear hcz17_2
  try clear hcz17_3
  try clear hcz17_4
  try clear hcz18_0
  try clear hcz18_1
  try clear hcz18_2
  try clear hcz18_3
  try clear hcz18_4
  try clear hcz5_0
  try clear hcz5_1
  try clear hcz5_2
  try clear hcz5_3
  try clear hcz5_4
  try clear hcz9_0
  try clear hcz9_1
  try clear hcz9_2
  try clear hcz9_3
  try clear hcz9_4
  try clear hfz11_0
  try clear hfz11_1
  try clear hfz11_2
  try clear hfz11_3
  try clear hfz11_4
  try clear hfz13_0
  try clear hfz13_1
  try clear hfz13_2
  try clear hfz13_3
  try clear hfz13_4
  try clear hfz15_0
  try clear hfz15_1
  try clear hfz15_2
  try clear hfz15_3
  try clear hfz15_4
  try clear hfz17_0
  try clear hfz17_1
  try clear hfz17_2
  try clear hfz17_3
  try clear hfz17_4
  try clear hfz18_0
  try clear hfz18_1
  try clear hfz18_2
  try clear hfz18_3
  try clear hfz18_4
  try clear hfz5_0
  try clear hfz5_1
  try clear hfz5_2
  try clear hfz5_3
  try clear hfz5_4
  try clear hfz9_0
  try clear hfz9_1
  try clear hfz9_2
  try clear hfz9_3
  try clear hfz9_4
  obtain ⟨kq, x42_2, rfl, HA, HJ2, BK277, HB⟩ := hcut
  cases kq with
  | zero => exact absurd HA.out (by simp [burinref03_Right.j0])
  | succ kj2 =>
   have H := HA.out
   clear HA
   simp only [burinref03_Right.j0] at H
   by_cases c19 : x42_2 = true
   ·subst c19
    have H1 : (some false) = some r := by rw [if_pos rfl] at H; exact H
    clear H
    have H := H1
    clear H1
    obtain rfl := Option.some.inj H
    go_wp2
    repeat (go_quiet (fail); try go_wp2)
    go_ret
    exact ⟨by first | rfl | (simp [eN, eS] <;> rfl) | (simp [*, eN, eS] <;> rfl), by repeat (with_reducible first | exact HB.out | apply bA | apply bQ | apply bD | refine bS ?_ GE277.out)⟩
   ·replace c19 := Bool.eq_false_iff.mpr c19
    subst c19
    have H1 : (burinref03_Right.l0 kj2 0 a0_0 a0_1 l0_2 a0_3 l0_4) = some r := by rw [if_neg (show ¬ (false = true) by decide)] at H; exact H
    clear H
    have H := H1
    clear H1
    have H' := Az.mk H
    clear H
    go_wp2
    repeat (go_quiet (fail); try go_wp2)
    go_loopg [4] kj2 (fun kq v4 w' => ∃ (x4_2 : Int), v4 = .int .i64 x4_2 ∧ Az (burinref03_Right.l0 kq x4_2 a0_0 a0_1 l0_2 a0_3 l0_4 = some r) ∧ Az (kq ≤ kj2) ∧ Az (w'.heap[gb277]? = some (.cells #[.string a0_0, .bool a0_1, (.slice A0_2 l0_2.length c0_2), .bool a0_3, (.slice A0_4 l0_4.length c0_4)] 33 (0, 0))) ∧ Az (Below w.heap.size w w'))
    case atStart => exact ⟨(0), (by first | rfl | (simp; done) | (simp [*]; done)), H', ⟨Nat.le_refl _⟩, ⟨by (with_reducible repeat (first | refine kN ?_ _ | refine kD ?_ | refine kA ?_ _)); exact BK277.out⟩, ⟨by repeat (with_reducible first | exact HB.out | apply bA | apply bQ | apply bD | refine bS ?_ GE277.out)⟩⟩
    case round =>
     clear H'
     try clear c1
     try clear p2
     try clear c7
     try clear c8
     try clear c8b0
     try clear c8b1
     try clear c10
     try clear c10b0
     try clear c10b1
     try clear c12
     try clear c14
     try clear c14b0
     try clear c14b1
     try clear c16
     try clear c17
     try clear c19
     try clear hcz11_0
     try clear hcz11_1
     try clear hcz11_2
     try clear hcz11_3
     try clear hcz11_4
     try clear hcz13_0
     try clear hcz13_1
     try clear hcz13_2
     try clear hcz13_3
     try clear hcz13_4
     try clear hcz15_0
     try clear hcz15_1
     try clear hcz15_2
     try clear hcz15_3
     try clear hcz15_4
     try clear hcz17_0
     try clear hcz17_1
     try clear hcz17_2
     try clear hcz17_3
     try clear hcz17_4
     try clear hcz18_0
     try clear hcz18_1
     try clear hcz18_2
     try clear hcz18_3
     try clear hcz18_4
     try clear hcz5_0
     try clear hcz5_1
     try clear hcz5_2
     try clear hcz5_3
     try clear hcz5_4
     try clear hcz9_0
     try clear hcz9_1
     try clear hcz9_2
     try clear hcz9_3
     try clear hcz9_4
     try clear hfz11_0
     try clear hfz11_1
     try clear hfz11_2
     try clear hfz11_3
     try clear hfz11_4
     try clear hfz13_0
     try clear hfz13_1
     try clear hfz13_2
     try clear hfz13_3
     try clear hfz13_4
     try clear hfz15_0
     try clear hfz15_1
     try clear hfz15_2
     try clear hfz15_3
     try clear hfz15_4
     try clear hfz17_0
     try clear hfz17_1
     try clear hfz17_2
     try clear hfz17_3
     try clear hfz17_4
     try clear hfz18_0
     try clear hfz18_1
     try clear hfz18_2
     try clear hfz18_3
     try clear hfz18_4
     try clear hfz5_0
     try clear hfz5_1
     try clear hfz5_2
     try clear hfz5_3
     try clear hfz5_4
     try clear hfz9_0
     try clear hfz9_1
     try clear hfz9_2
     try clear hfz9_3
     try clear hfz9_4
     try clear p2
     obtain ⟨x4_2, rfl, HA, HK2, BK277, HB⟩ := hrel
     cases gk with
     | zero => exact absurd HA.out (by simp [burinref03_Right.l0])
     | succ k2 =>
      have H := HA.out
      clear HA
      simp only [burinref03_Right.l0] at H
      by_cases c20 : x4_2 < (l0_2.length : Int)
      ·rw [if_pos c20] at H
       have c20b0 : decide (x4_2 < (l0_2.length : Int)) = true := decide_eq_true c20
       clear c20
       by_cases c21 : 0 ≤ x4_2
       ·rw [if_pos c21] at H
        have c21b0 : decide (0 ≤ x4_2) = true := decide_eq_true c21
        clear c21
        replace H := Option.bind_eq_some_iff.mp H
        obtain ⟨t281, A220, H⟩ := H
        replace H : (if t281 = true then (burinref03_Right.j2 k2 x4_2 ((rdOf ByteArray.empty l0_2 x4_2).toList == ([95, 95, 86, 65, 95, 65, 82, 71, 83, 95, 95] : List UInt8)) a0_0 a0_1 l0_2 a0_3 l0_4) else (burinref03_Right.j2 k2 x4_2 true a0_0 a0_1 l0_2 a0_3 l0_4)) = some r := H
        have A22 := Az.mk A220
        clear A220
        have HC23 := Az.mk H
        clear H
        have hcz24_0 : wr.cell? ⟨gb277, 0, none⟩ = some (.string a0_0) := (bC BK277.out 0).trans rfl
        have hcz24_1 : wr.cell? ⟨gb277, 1, none⟩ = some (.bool a0_1) := (bC BK277.out 1).trans rfl
        have hcz24_2 : wr.cell? ⟨gb277, 2, none⟩ = some (.slice A0_2 l0_2.length c0_2) := (bC BK277.out 2).trans rfl
        have hcz24_3 : wr.cell? ⟨gb277, 3, none⟩ = some (.bool a0_3) := (bC BK277.out 3).trans rfl
        have hcz24_4 : wr.cell? ⟨gb277, 4, none⟩ = some (.slice A0_4 l0_4.length c0_4) := (bC BK277.out 4).trans rfl
        have hfz24_0 := bF BK277.out 0
        have hfz24_1 := bF BK277.out 1
        have hfz24_2 := bF BK277.out 2
        have hfz24_3 := bF BK277.out 3
        have hfz24_4 := bF BK277.out 4
        have p280 : 0 ≤ (x4_2 : Int) := od (by assumption)
        have q280 : x4_2 < (l0_2.length : Int) := od (by assumption)
        obtain ⟨ad280, e280, hx280_0⟩ := Kd.at_string HR0_2.out x4_2 p280 q280
        cases e280
        replace hx280_0 := (HB.out.cell (cl w _ hx280_0)).trans hx280_0
        replace p280 := eq_true p280
        replace q280 := eq_true q280
        go_upto_region 8 with (first | (go_at_call 40; (with_reducible refine (burinref03_isName.calls (rdOf ByteArray.empty l0_2 x4_2) t281 _ A22.out).mono ?_); rintro e w25 ⟨rfl, hb⟩; have n0_ := Az.mk (blk_below (g := gb277) (o := .cells #[.string a0_0, .bool a0_1, .slice (some ad280) l0_2.length c0_2, .bool a0_3, .slice A0_4 l0_4.length c0_4] 33 (0, 0)) (by (with_reducible repeat (first | refine kN ?_ _ | refine kD ?_ | refine kA ?_ _)); exact BK277.out) hb); have n1_ := Az.mk (bP (by repeat (with_reducible first | exact HB.out | apply bA | apply bQ | apply bD | refine bS ?_ GE277.out)) hb); clear BK277; clear HB; have BK277 := n0_; have HB := n1_; clear n0_ n1_; (try clear hb); (try clear hb2); (try clear hk); (try clear hi)))
        repeat (go_quiet (first | (go_at_call 40; (with_reducible refine (burinref03_isName.calls (rdOf ByteArray.empty l0_2 x4_2) t281 _ A22.out).mono ?_); rintro e w25 ⟨rfl, hb⟩; have n0_ := Az.mk (blk_below (g := gb277) (o := .cells #[.string a0_0, .bool a0_1, .slice (some ad280) l0_2.length c0_2, .bool a0_3, .slice A0_4 l0_4.length c0_4] 33 (0, 0)) (by (with_reducible repeat (first | refine kN ?_ _ | refine kD ?_ | refine kA ?_ _)); exact BK277.out) hb); have n1_ := Az.mk (bP (by repeat (with_reducible first | exact HB.out | apply bA | apply bQ | apply bD | refine bS ?_ GE277.out)) hb); clear BK277; clear HB; have BK277 := n0_; have HB := n1_; clear n0_ n1_; (try clear hb); (try clear hb2); (try clear hk); (try clear hi))); go_upto_region 8 with (first | (go_at_call 40; (with_reducible refine (burinref03_isName.calls (rdOf ByteArray.empty l0_2 x4_2) t281 _ A22.out).mono ?_); rintro e w25 ⟨rfl, hb⟩; have n0_ := Az.mk (blk_below (g := gb277) (o := .cells #[.string a0_0, .bool a0_1, .slice (some ad280) l0_2.length c0_2, .bool a0_3, .slice A0_4 l0_4.length c0_4] 33 (0, 0)) (by (with_reducible repeat (first | refine kN ?_ _ | refine kD ?_ | refine kA ?_ _)); exact BK277.out) hb); have n1_ := Az.mk (bP (by repeat (with_reducible first | exact HB.out | apply bA | apply bQ | apply bD | refine bS ?_ GE277.out)) hb); clear BK277; clear HB; have BK277 := n0_; have HB := n1_; clear n0_ n1_; (try clear hb); (try clear hb2); (try clear hk); (try clear hi))))
        (try simp only [Act.put, List.setIfInBounds_toArray, List.set_cons_zero, List.set_cons_succ])
        go_cut [65] (fun v65 wc => ∃ (kq : Nat) (x65_22 : Bool), v65 = .bool x65_22 ∧ Az (burinref03_Right.j2 kq x4_2 x65_22 a0_0 a0_1 l0_2 a0_3 l0_4 = some r) ∧ Az (kq ≤ k2) ∧ Az (wc.heap[gb277]? = some (.cells #[.string a0_0, .bool a0_1, (.slice (some ad280) l0_2.length c0_2), .bool a0_3, (.slice A0_4 l0_4.length c0_4)] 33 (0, 0))) ∧ Az (Below w.heap.size w wc))
        case first =>
         have H := HC23.out
         clear HC23
         by_cases c26 : t281 = true
         ·subst c26
          have H1 : (burinref03_Right.j2 k2 x4_2 ((rdOf ByteArray.empty l0_2 x4_2).toList == ([95, 95, 86, 65, 95, 65, 82, 71, 83, 95, 95] : List UInt8)) a0_0 a0_1 l0_2 a0_3 l0_4) = some r := by rw [if_pos rfl] at H; exact H
          clear H
          have H := H1
          clear H1
          have H' := Az.mk H
          clear H
          have hcz27_0 : w25.cell? ⟨gb277, 0, none⟩ = some (.string a0_0) := (bC BK277.out 0).trans rfl
          have hcz27_1 : w25.cell? ⟨gb277, 1, none⟩ = some (.bool a0_1) := (bC BK277.out 1).trans rfl
          have hcz27_2 : w25.cell? ⟨gb277, 2, none⟩ = some (.slice (some ad280) l0_2.length c0_2) := (bC BK277.out 2).trans rfl
          have hcz27_3 : w25.cell? ⟨gb277, 3, none⟩ = some (.bool a0_3) := (bC BK277.out 3).trans rfl
          have hcz27_4 : w25.cell? ⟨gb277, 4, none⟩ = some (.slice A0_4 l0_4.length c0_4) := (bC BK277.out 4).trans rfl
          have hfz27_0 := bF BK277.out 0
          have hfz27_1 := bF BK277.out 1
          have hfz27_2 := bF BK277.out 2
          have hfz27_3 := bF BK277.out 3
          have hfz27_4 := bF BK277.out 4
          have p282 : 0 ≤ (x4_2 : Int) := od (by assumption)
          have q282 : x4_2 < (l0_2.length : Int) := od (by assumption)
          obtain ⟨ad282, e282, hx282_0⟩ := Kd.at_string HR0_2.out x4_2 p282 q282
          obtain rfl : ad280 = ad282 := (by injection e282)
          replace hx282_0 := (HB.out.cell (cl w _ hx282_0)).trans hx282_0
          replace p282 := eq_true p282
          replace q282 := eq_true q282
          go_wp2
          repeat (go_quiet (fail); try go_wp2)
          go_meet
          case rel => exact ⟨_, (((rdOf ByteArray.empty l0_2 x4_2).toList == ([95, 95, 86, 65, 95, 65, 82, 71, 83, 95, 95] : List UInt8))), (by first | rfl | (simp; done) | (simp [*]; done)), H', ⟨by have := HJ2.out; have := HK2.out; first | omega | exact Nat.le_refl _⟩, ⟨by (with_reducible repeat (first | refine kN ?_ _ | refine kD ?_ | refine kA ?_ _)); exact BK277.out⟩, ⟨by repeat (with_reducible first | exact HB.out | apply bA | apply bQ | apply bD | refine bS ?_ GE277.out)⟩⟩
         ·replace c26 := Bool.eq_false_iff.mpr c26
          subst c26
          have H1 : (burinref03_Right.j2 k2 x4_2 true a0_0 a0_1 l0_2 a0_3 l0_4) = some r := by rw [if_neg (show ¬ (false = true) by decide)] at H; exact H
          clear H
          have H := H1
          clear H1
          have H' := Az.mk H
          clear H
          go_wp2
          repeat (go_quiet (fail); try go_wp2)
          go_meet
          case rel => exact ⟨_, (true), (by first | rfl | (simp; done) | (simp [*]; done)), H', ⟨by have := HJ2.out; have := HK2.out; first | omega | exact Nat.le_refl _⟩, ⟨by (with_reducible repeat (first | refine kN ?_ _ | refine kD ?_ | refine kA ?_ _)); exact BK277.out⟩, ⟨by repeat (with_reducible first | exact HB.out | apply bA | apply bQ | apply bD | refine bS ?_ GE277.out)⟩⟩
        case rest =>
         clear HC23
         try clear c1
         try clear c2
         try clear p2
         try clear q2
         try clear hx2
         try clear c7
         try clear c8
         try clear c8b0
         try clear c8b1
         try clear c10
         try clear c10b0
         try clear c10b1
         try clear c12
         try clear c14
         try clear c14b0
         try clear c14b1
         try clear c16
         try clear c17
         try clear c19
         try clear c20
         try clear c20b0
         try clear c21
         try clear c21b0
         try clear c26
         try clear hcz11_0
         try clear hcz11_1
         try clear hcz11_2
         try clear hcz11_3
         try clear hcz11_4
         try clear hcz13_0
         try clear hcz13_1
         try clear hcz13_2
         try clear hcz13_3
         try clear hcz13_4
         try clear hcz15_0
         try clear hcz15_1
         try clear hcz15_2
         try clear hcz15_3
         try clear hcz15_4
         try clear hcz17_0
         try clear hcz17_1
         try clear hcz17_2
         try clear hcz17_3
         try clear hcz17_4
         try clear hcz18_0
         try clear hcz18_1
         try clear hcz18_2
         try clear hcz18_3
         try clear hcz18_4
         try clear hcz24_0
         try clear hcz24_1
         try clear hcz24_2
         try clear hcz24_3
         try clear hcz24_4
         try clear hcz27_0
         try clear hcz27_1
         try clear hcz27_2
         try clear hcz27_3
         try clear hcz27_4
         try clear hcz5_0
         try clear hcz5_1
         try clear hcz5_2
         try clear hcz5_3
         try clear hcz5_4
         try clear hcz9_0
         try clear hcz9_1
         try clear hcz9_2
         try clear hcz9_3
         try clear hcz9_4
         try clear hfz11_0
         try clear hfz11_1
         try clear hfz11_2
         try clear hfz11_3
         try clear hfz11_4
         try clear hfz13_0
         try clear hfz13_1
         try clear hfz13_2
         try clear hfz13_3
         try clear hfz13_4
         try clear hfz15_0
         try clear hfz15_1
         try clear hfz15_2
         try clear hfz15_3
         try clear hfz15_4
         try clear hfz17_0
         try clear hfz17_1
         try clear hfz17_2
         try clear hfz17_3
         try clear hfz17_4
         try clear hfz18_0
         try clear hfz18_1
         try clear hfz18_2
         try clear hfz18_3
         try clear hfz18_4
         try clear hfz24_0
         try clear hfz24_1
         try clear hfz24_2
         try clear hfz24_3
         try clear hfz24_4
         try clear hfz27_0
         try clear hfz27_1
         try clear hfz27_2
         try clear hfz27_3
         try clear hfz27_4
         try clear hfz5_0
         try clear hfz5_1
         try clear hfz5_2
         try clear hfz5_3
         try clear hfz5_4
         try clear hfz9_0
         try clear hfz9_1
         try clear hfz9_2
         try clear hfz9_3
         try clear hfz9_4
         try clear hx280_0
         try clear hx282_0
         try clear p2
         try clear p280
         try clear p282
         try clear q280
         try clear q282
         obtain ⟨kq, x65_22, rfl, HA, HJ22, BK277, HB⟩ := hcut
         cases kq with
         | zero => exact absurd HA.out (by simp [burinref03_Right.j2])
         | succ kj22 =>
          have H := HA.out
          clear HA
          simp only [burinref03_Right.j2] at H
          by_cases c28 : x65_22 = true
          ·subst c28
           have H1 : (some false) = some r := by rw [if_pos rfl] at H; exact H
           clear H
           have H := H1
           clear H1
           obtain rfl := Option.some.inj H
           go_wp2
           repeat (go_quiet (fail); try go_wp2)
           go_ret
           exact ⟨by first | rfl | (simp [eN, eS] <;> rfl) | (simp [*, eN, eS] <;> rfl), by repeat (with_reducible first | exact HB.out | apply bA | apply bQ | apply bD | refine bS ?_ GE277.out)⟩
          ·replace c28 := Bool.eq_false_iff.mpr c28
           subst c28
           have H1 : (burinref03_Right.l1 kj22 x4_2 0 a0_0 a0_1 l0_2 a0_3 l0_4) = some r := by rw [if_neg (show ¬ (false = true) by decide)] at H; exact H
           clear H
           have H := H1
           clear H1
           have H' := Az.mk H
           clear H
           go_wp2
           repeat (go_quiet (fail); try go_wp2)
           go_loopg [6] kj22 (fun kq v6 w' => ∃ (x6_4 : Int), v6 = .int .i64 x6_4 ∧ Az (burinref03_Right.l1 kq x4_2 x6_4 a0_0 a0_1 l0_2 a0_3 l0_4 = some r) ∧ Az (kq ≤ kj22) ∧ Az (w'.heap[gb277]? = some (.cells #[.string a0_0, .bool a0_1, (.slice (some ad280) l0_2.length c0_2), .bool a0_3, (.slice A0_4 l0_4.length c0_4)] 33 (0, 0))) ∧ Az (Below w.heap.size w w'))
           case atStart => exact ⟨(0), (by first | rfl | (simp; done) | (simp [*]; done)), H', ⟨Nat.le_refl _⟩, ⟨by (with_reducible repeat (first | refine kN ?_ _ | refine kD ?_ | refine kA ?_ _)); exact BK277.out⟩, ⟨by repeat (with_reducible first | exact HB.out | apply bA | apply bQ | apply bD | refine bS ?_ GE277.out)⟩⟩
           case round =>
            clear H'
            try clear c1
            try clear c2
            try clear p2
            try clear q2
            try clear hx2
            try clear c7
            try clear c8
            try clear c8b0
            try clear c8b1
            try clear c10
            try clear c10b0
            try clear c10b1
            try clear c12
            try clear c14
            try clear c14b0
            try clear c14b1
            try clear c16
            try clear c17
            try clear c19
            try clear c20
            try clear c20b0
            try clear c21
            try clear c21b0
            try clear c26
            try clear c28
            try clear p28
            try clear q28
            try clear hx28
            try clear hcz11_0
            try clear hcz11_1
            try clear hcz11_2
            try clear hcz11_3
            try clear hcz11_4
            try clear hcz13_0
            try clear hcz13_1
            try clear hcz13_2
            try clear hcz13_3
            try clear hcz13_4
            try clear hcz15_0
            try clear hcz15_1
            try clear hcz15_2
            try clear hcz15_3
            try clear hcz15_4
            try clear hcz17_0
            try clear hcz17_1
            try clear hcz17_2
            try clear hcz17_3
            try clear hcz17_4
            try clear hcz18_0
            try clear hcz18_1
            try clear hcz18_2
            try clear hcz18_3
            try clear hcz18_4
            try clear hcz24_0
            try clear hcz24_1
            try clear hcz24_2
            try clear hcz24_3
            try clear hcz24_4
            try clear hcz27_0
            try clear hcz27_1
            try clear hcz27_2
            try clear hcz27_3
            try clear hcz27_4
            try clear hcz5_0
            try clear hcz5_1
            try clear hcz5_2
            try clear hcz5_3
            try clear hcz5_4
            try clear hcz9_0
            try clear hcz9_1
            try clear hcz9_2
            try clear hcz9_3
            try clear hcz9_4
            try clear hfz11_0
            try clear hfz11_1
            try clear hfz11_2
            try clear hfz11_3
            try clear hfz11_4
            try clear hfz13_0
            try clear hfz13_1
            try clear hfz13_2
            try clear hfz13_3
            try clear hfz13_4
            try clear hfz15_0
            try clear hfz15_1
            try clear hfz15_2
            try clear hfz15_3
            try clear hfz15_4
            try clear hfz17_0
            try clear hfz17_1
            try clear hfz17_2
            try clear hfz17_3
            try clear hfz17_4
            try clear hfz18_0
            try clear hfz18_1
            try clear hfz18_2
            try clear hfz18_3
            try clear hfz18_4
            try clear hfz24_0
            try clear hfz24_1
            try clear hfz24_2
            try clear hfz24_3
            try clear hfz24_4
            try clear hfz27_0
            try clear hfz27_1
            try clear hfz27_2
            try clear hfz27_3
            try clear hfz27_4
            try clear hfz5_0
            try clear hfz5_1
            try clear hfz5_2
            try clear hfz5_3
            try clear hfz5_4
            try clear hfz9_0
            try clear hfz9_1
            try clear hfz9_2
            try clear hfz9_3
            try clear hfz9_4
            try clear hx280_0
            try clear hx282_0
            try clear p2
            try clear p280
            try clear p282
            try clear q2
            try clear q280
            try clear q282
            obtain ⟨x6_4, rfl, HA, HK4, BK277, HB⟩ := hrel
            cases gk with
            | zero => exact absurd HA.out (by simp [burinref03_Right.l1])
            | succ k4 =>
             have H := HA.out
             clear HA
             simp only [burinref03_Right.l1] at H
             by_cases c29 : x6_4 < x4_2
             ·rw [if_pos c29] at H
              have c29b0 : decide (x6_4 < x4_2) = true := decide_eq_true c29
              clear c29
              by_cases c30 : 0 ≤ x6_4
              ·rw [if_pos c30] at H
               have c30b0 : decide (0 ≤ x6_4) = true := decide_eq_true c30
               clear c30
               by_cases c31 : x6_4 < (l0_2.length : Int)
               ·rw [if_pos c31] at H
                have c31b0 : decide (x6_4 < (l0_2.length : Int)) = true := decide_eq_true c31
                clear c31
                by_cases c32 : 0 ≤ x4_2
                ·rw [if_pos c32] at H
                 have c32b0 : decide (0 ≤ x4_2) = true := decide_eq_true c32
                 clear c32
                 by_cases c33 : x4_2 < (l0_2.length : Int)
                 ·rw [if_pos c33] at H
                  have c33b0 : decide (x4_2 < (l0_2.length : Int)) = true := decide_eq_true c33
                  clear c33
                  by_cases c34 : (rdOf ByteArray.empty l0_2 x6_4).toList = (rdOf ByteArray.empty l0_2 x4_2).toList
                  ·rw [if_pos c34] at H
                   have c34b0 : ((rdOf ByteArray.empty l0_2 x6_4).toList == (rdOf ByteArray.empty l0_2 x4_2).toList) = true := beq_iff_eq.mpr c34
                   have c34b1 : ((rdOf ByteArray.empty l0_2 x6_4).toList != (rdOf ByteArray.empty l0_2 x4_2).toList) = false := bne_eq_false_iff_eq.mpr c34
                   clear c34
                   obtain rfl := Option.some.inj H
                   have hcz35_0 : wr.cell? ⟨gb277, 0, none⟩ = some (.string a0_0) := (bC BK277.out 0).trans rfl
                   have hcz35_1 : wr.cell? ⟨gb277, 1, none⟩ = some (.bool a0_1) := (bC BK277.out 1).trans rfl
                   have hcz35_2 : wr.cell? ⟨gb277, 2, none⟩ = some (.slice (some ad280) l0_2.length c0_2) := (bC BK277.out 2).trans rfl
                   have hcz35_3 : wr.cell? ⟨gb277, 3, none⟩ = some (.bool a0_3) := (bC BK277.out 3).trans rfl
                   have hcz35_4 : wr.cell? ⟨gb277, 4, none⟩ = some (.slice A0_4 l0_4.length c0_4) := (bC BK277.out 4).trans rfl
                   have hfz35_0 := bF BK277.out 0
                   have hfz35_1 := bF BK277.out 1
                   have hfz35_2 := bF BK277.out 2
                   have hfz35_3 := bF BK277.out 3
                   have hfz35_4 := bF BK277.out 4
                   have p283 : 0 ≤ (x6_4 : Int) := od (by assumption)
                   have q283 : x6_4 < (l0_2.length : Int) := od (by assumption)
                   obtain ⟨ad283, e283, hx283_0⟩ := Kd.at_string HR0_2.out x6_4 p283 q283
                   obtain rfl : ad280 = ad283 := (by injection e283)
                   replace hx283_0 := (HB.out.cell (cl w _ hx283_0)).trans hx283_0
                   replace p283 := eq_true p283
                   replace q283 := eq_true q283
                   have p284 : 0 ≤ (x4_2 : Int) := od (by assumption)
                   have q284 : x4_2 < (l0_2.length : Int) := od (by assumption)
                   obtain ⟨ad284, e284, hx284_0⟩ := Kd.at_string HR0_2.out x4_2 p284 q284
                   obtain rfl : ad280 = ad284 := (by injection e284)
                   replace hx284_0 := (HB.out.cell (cl w _ hx284_0)).trans hx284_0
                   replace p284 := eq_true p284
                   replace q284 := eq_true q284
                   go_wp2
                   repeat (go_quiet (fail); try go_wp2)
                   go_ret
                   exact ⟨by first | rfl | (simp [eN, eS] <;> rfl) | (simp [*, eN, eS] <;> rfl), by repeat (with_reducible first | exact HB.out | apply bA | apply bQ | apply bD | refine bS ?_ GE277.out)⟩
                  ·rw [if_neg c34] at H
                   have c34b0 : ((rdOf ByteArray.empty l0_2 x6_4).toList == (rdOf ByteArray.empty l0_2 x4_2).toList) = false := beq_eq_false_iff_ne.mpr c34
                   have c34b1 : ((rdOf ByteArray.empty l0_2 x6_4).toList != (rdOf ByteArray.empty l0_2 x4_2).toList) = true := bne_iff_ne.mpr c34
                   have H' := Az.mk H
                   clear H
                   have hcz36_0 : wr.cell? ⟨gb277, 0, none⟩ = some (.string a0_0) := (bC BK277.out 0).trans rfl
                   have hcz36_1 : wr.cell? ⟨gb277, 1, none⟩ = some (.bool a0_1) := (bC BK277.out 1).trans rfl
                   have hcz36_2 : wr.cell? ⟨gb277, 2, none⟩ = some (.slice (some ad280) l0_2.length c0_2) := (bC BK277.out 2).trans rfl
                   have hcz36_3 : wr.cell? ⟨gb277, 3, none⟩ = some (.bool a0_3) := (bC BK277.out 3).trans rfl
                   have hcz36_4 : wr.cell? ⟨gb277, 4, none⟩ = some (.slice A0_4 l0_4.length c0_4) := (bC BK277.out 4).trans rfl
                   have hfz36_0 := bF BK277.out 0
                   have hfz36_1 := bF BK277.out 1
                   have hfz36_2 := bF BK277.out 2
                   have hfz36_3 := bF BK277.out 3
                   have hfz36_4 := bF BK277.out 4
                   have p283 : 0 ≤ (x6_4 : Int) := od (by assumption)
                   have q283 : x6_4 < (l0_2.length : Int) := od (by assumption)
                   obtain ⟨ad283, e283, hx283_0⟩ := Kd.at_string HR0_2.out x6_4 p283 q283
                   obtain rfl : ad280 = ad283 := (by injection e283)
                   replace hx283_0 := (HB.out.cell (cl w _ hx283_0)).trans hx283_0
                   replace p283 := eq_true p283
                   replace q283 := eq_true q283
                   have p284 : 0 ≤ (x4_2 : Int) := od (by assumption)
                   have q284 : x4_2 < (l0_2.length : Int) := od (by assumption)
                   obtain ⟨ad284, e284, hx284_0⟩ := Kd.at_string HR0_2.out x4_2 p284 q284
                   obtain rfl : ad280 = ad284 := (by injection e284)
                   replace hx284_0 := (HB.out.cell (cl w _ hx284_0)).trans hx284_0
                   replace p284 := eq_true p284
                   replace q284 := eq_true q284
                   go_wp2
                   repeat (go_quiet (fail); try go_wp2)
                   go_roundg k4
                   case measure => have := HJ2.out; have := HK2.out; have := HJ22.out; have := HK4.out; omega
                   case rel => exact ⟨(wrap64 (x6_4 + 1)), (by first | rfl | (simp; done) | (simp [*]; done)), H', ⟨by have := HJ2.out; have := HK2.out; have := HJ22.out; have := HK4.out; omega⟩, ⟨by (with_reducible repeat (first | refine kN ?_ _ | refine kD ?_ | refine kA ?_ _)); exact BK277.out⟩, ⟨by repeat (with_reducible first | exact HB.out | apply bA | apply bQ | apply bD | refine bS ?_ GE277.out)⟩⟩
                 ·rw [if_neg c33] at H
                  exact absurd H (by simp)
                ·rw [if_neg c32] at H
                 exact absurd H (by simp)
               ·rw [if_neg c31] at H
                exact absurd H (by simp)
              ·rw [if_neg c30] at H
               exact absurd H (by simp)
             ·rw [if_neg c29] at H
              have c29b0 : decide (x6_4 < x4_2) = false := decide_eq_false c29
              clear c29
              have H' := Az.mk H
              clear H
              go_wp2
              repeat (go_quiet (fail); try go_wp2)
              go_roundg k4
              case measure => have := HJ2.out; have := HK2.out; have := HJ22.out; have := HK4.out; omega
              case rel => exact ⟨(wrap64 (x4_2 + 1)), (by first | rfl | (simp; done) | (simp [*]; done)), H', ⟨by have := HJ2.out; have := HK2.out; have := HJ22.out; have := HK4.out; omega⟩, ⟨by (with_reducible repeat (first | refine kN ?_ _ | refine kD ?_ | refine kA ?_ _)); exact BK277.out⟩, ⟨by repeat (with_reducible first | exact HB.out | apply bA | apply bQ | apply bD | refine bS ?_ GE277.out)⟩⟩
       ·rw [if_neg c21] at H
        exact absurd H (by simp)
      ·rw [if_neg c20] at H
       have c20b0 : decide (x4_2 < (l0_2.length : Int)) = false := decide_eq_false c20
       clear c20
       replace H := Option.bind_eq_some_iff.mp H
       obtain ⟨t279, A370, H⟩ := H
       replace H : (some t279) = some r := H
       have A37 := Az.mk A370
       clear A370
       obtain rfl := Option.some.inj H
       have hcz38_0 : wr.cell? ⟨gb277, 0, none⟩ = some (.string a0_0) := (bC BK277.out 0).trans rfl
       have hcz38_1 : wr.cell? ⟨gb277, 1, none⟩ = some (.bool a0_1) := (bC BK277.out 1).trans rfl
       have hcz38_2 : wr.cell? ⟨gb277, 2, none⟩ = some (.slice A0_2 l0_2.length c0_2) := (bC BK277.out 2).trans rfl
       have hcz38_3 : wr.cell? ⟨gb277, 3, none⟩ = some (.bool a0_3) := (bC BK277.out 3).trans rfl
       have hcz38_4 : wr.cell? ⟨gb277, 4, none⟩ = some (.slice A0_4 l0_4.length c0_4) := (bC BK277.out 4).trans rfl
       have hfz38_0 := bF BK277.out 0
       have hfz38_1 := bF BK277.out 1
       have hfz38_2 := bF BK277.out 2
       have hfz38_3 := bF BK277.out 3
       have hfz38_4 := bF BK277.out 4
       go_wp2_with (first | (go_at_call 41; (with_reducible refine (burinref03_body.calls k2 a0_0 a0_1 _ _ l0_2 a0_3 _ _ l0_4 t279 _ ?side1 ?side2 ?side3 ?side4 A37.out).mono ?_); (case side1 => repeat (first | exact (Kd.C_below HR0_2.out HB.out) | (with_reducible refine Kd.C_alloc ?_ _) | (with_reducible refine Kd.C_drewN ?_ _) | (with_reducible refine Kd.C_drew ?_))); (case side2 => exact HC0_2.out); (case side3 => repeat (first | exact (Kd.C_below HR0_4.out HB.out) | (with_reducible refine Kd.C_alloc ?_ _) | (with_reducible refine Kd.C_drewN ?_ _) | (with_reducible refine Kd.C_drew ?_))); (case side4 => exact HC0_4.out); rintro e w39 ⟨rfl, hb⟩; have n0_ := Az.mk (blk_below (g := gb277) (o := .cells #[.string a0_0, .bool a0_1, .slice A0_2 l0_2.length c0_2, .bool a0_3, .slice A0_4 l0_4.length c0_4] 33 (0, 0)) (by (with_reducible repeat (first | refine kN ?_ _ | refine kD ?_ | refine kA ?_ _)); exact BK277.out) hb); have n1_ := Az.mk (bP (by repeat (with_reducible first | exact HB.out | apply bA | apply bQ | apply bD | refine bS ?_ GE277.out)) hb); clear BK277; clear HB; have BK277 := n0_; have HB := n1_; clear n0_ n1_; (try clear hb); (try clear hb2); (try clear hk); (try clear hi)))
       repeat (go_quiet (first | (go_at_call 41; (with_reducible refine (burinref03_body.calls k2 a0_0 a0_1 _ _ l0_2 a0_3 _ _ l0_4 t279 _ ?side1 ?side2 ?side3 ?side4 A37.out).mono ?_); (case side1 => repeat (first | exact (Kd.C_below HR0_2.out HB.out) | (with_reducible refine Kd.C_alloc ?_ _) | (with_reducible refine Kd.C_drewN ?_ _) | (with_reducible refine Kd.C_drew ?_))); (case side2 => exact HC0_2.out); (case side3 => repeat (first | exact (Kd.C_below HR0_4.out HB.out) | (with_reducible refine Kd.C_alloc ?_ _) | (with_reducible refine Kd.C_drewN ?_ _) | (with_reducible refine Kd.C_drew ?_))); (case side4 => exact HC0_4.out); rintro e w39 ⟨rfl, hb⟩; have n0_ := Az.mk (blk_below (g := gb277) (o := .cells #[.string a0_0, .bool a0_1, .slice A0_2 l0_2.length c0_2, .bool a0_3, .slice A0_4 l0_4.length c0_4] 33 (0, 0)) (by (with_reducible repeat (first | refine kN ?_ _ | refine kD ?_ | refine kA ?_ _)); exact BK277.out) hb); have n1_ := Az.mk (bP (by repeat (with_reducible first | exact HB.out | apply bA | apply bQ | apply bD | refine bS ?_ GE277.out)) hb); clear BK277; clear HB; have BK277 := n0_; have HB := n1_; clear n0_ n1_; (try clear hb); (try clear hb2); (try clear hk); (try clear hi))); try go_wp2_with (first | (go_at_call 41; (with_reducible refine (burinref03_body.calls k2 a0_0 a0_1 _ _ l0_2 a0_3 _ _ l0_4 t279 _ ?side1 ?side2 ?side3 ?side4 A37.out).mono ?_); (case side1 => repeat (first | exact (Kd.C_below HR0_2.out HB.out) | (with_reducible refine Kd.C_alloc ?_ _) | (with_reducible refine Kd.C_drewN ?_ _) | (with_reducible refine Kd.C_drew ?_))); (case side2 => exact HC0_2.out); (case side3 => repeat (first | exact (Kd.C_below HR0_4.out HB.out) | (with_reducible refine Kd.C_alloc ?_ _) | (with_reducible refine Kd.C_drewN ?_ _) | (with_reducible refine Kd.C_drew ?_))); (case side4 => exact HC0_4.out); rintro e w39 ⟨rfl, hb⟩; have n0_ := Az.mk (blk_below (g := gb277) (o := .cells #[.string a0_0, .bool a0_1, .slice A0_2 l0_2.length c0_2, .bool a0_3, .slice A0_4 l0_4.length c0_4] 33 (0, 0)) (by (with_reducible repeat (first | refine kN ?_ _ | refine kD ?_ | refine kA ?_ _)); exact BK277.out) hb); have n1_ := Az.mk (bP (by repeat (with_reducible first | exact HB.out | apply bA | apply bQ | apply bD | refine bS ?_ GE277.out)) hb); clear BK277; clear HB; have BK277 := n0_; have HB := n1_; clear n0_ n1_; (try clear hb); (try clear hb2); (try clear hk); (try clear hi))))
       go_ret
       exact ⟨by first | rfl | (simp [eN, eS] <;> rfl) | (simp [*, eN, eS] <;> rfl), by repeat (with_reducible first | exact HB.out | apply bA | apply bQ | apply bD | refine bS ?_ GE277.out)⟩
end Go.Proofs.YtcbfbefpbjmglaaGreatDoor.PA
