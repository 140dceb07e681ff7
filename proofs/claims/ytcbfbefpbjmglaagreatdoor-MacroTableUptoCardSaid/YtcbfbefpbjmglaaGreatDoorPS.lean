import Derived.Test.YtcbfbefpbjmglaaGreatDoorMC
set_option maxHeartbeats 8000000
set_option maxRecDepth 100000
set_option linter.unusedSimpArgs false
set_option linter.unusedVariables false
namespace Go.Proofs.YtcbfbefpbjmglaaGreatDoor.PA
open Go.RowKit YtcbfbefpbjmglaaGreatDoorT YtcbfbefpbjmglaaGreatDoorW PrintWords PrintLast PrintMore
attribute [local go_sem] max2_int min2_int max_two min_two max_three min_three max_four min_four
def macro_Show.j0 : Nat → ByteArray → List ByteArray → ByteArray → Bool → List ByteArray → Bool → List (S55) → Option (ByteArray × Int)
 | 0, _, _, _, _, _, _, _ => none
 | k + 1, x4, x5, x132000, x132001, x132002, x132003, x132004 => (strings_Join.f x5 (⟨#[44, 32]⟩ : ByteArray)).bind fun t139 => (if 1 + t139.size ≤ 9223372036854775807 then (if ((⟨#[40]⟩ : ByteArray) ++ t139).size + 1 ≤ 9223372036854775807 then (if x4.size + (((⟨#[40]⟩ : ByteArray) ++ t139) ++ (⟨#[41]⟩ : ByteArray)).size ≤ 9223372036854775807 then (if (x132004.length : Int) > 0 then ((token_Spell.f x132004).bind fun t140 => (if 1 + t140.size ≤ 9223372036854775807 then (if (x4 ++ (((⟨#[40]⟩ : ByteArray) ++ t139) ++ (⟨#[41]⟩ : ByteArray))).size + ((⟨#[32]⟩ : ByteArray) ++ t140).size ≤ 9223372036854775807 then (some ((x4 ++ (((⟨#[40]⟩ : ByteArray) ++ t139) ++ (⟨#[41]⟩ : ByteArray))) ++ ((⟨#[32]⟩ : ByteArray) ++ t140), 0)) else (none)) else (none))) else (some (x4 ++ (((⟨#[40]⟩ : ByteArray) ++ t139) ++ (⟨#[41]⟩ : ByteArray)), 0))) else (none)) else (none)) else (none))
def macro_Show.f (k : Nat) (a0_0 : ByteArray) (a0_1 : Bool) (l0_2 : List ByteArray) (a0_3 : Bool) (l0_4 : List (S55)) : Option (ByteArray × Int) := (macro_Right.f a0_0 a0_1 l0_2 a0_3 l0_4).bind fun t132 => (if t132 = true then (if a0_1 = true then ((slices_Clone_string_string.f l0_2).bind fun t133 => (if a0_3 = true then (if t133.length < 8796093022208 then (macro_Show.j0 k a0_0 (t133 ++ [(⟨#[46, 46, 46]⟩ : ByteArray)]) a0_0 a0_1 l0_2 a0_3 l0_4) else (none)) else (macro_Show.j0 k a0_0 t133 a0_0 a0_1 l0_2 a0_3 l0_4))) else (if (l0_4.length : Int) > 0 then ((token_Spell.f l0_4).bind fun t141 => (if 1 + t141.size ≤ 9223372036854775807 then (if a0_0.size + ((⟨#[32]⟩ : ByteArray) ++ t141).size ≤ 9223372036854775807 then (some (a0_0 ++ ((⟨#[32]⟩ : ByteArray) ++ t141), 0)) else (none)) else (none))) else (some (a0_0, 0)))) else (some ((⟨#[]⟩ : ByteArray), 2)))
theorem macro_Show.calls (k : Nat) (a0_0 : ByteArray) (a0_1 : Bool) (A0_2 : Option Addr) (c0_2 : Nat) (l0_2 : List ByteArray) (a0_3 : Bool) (A0_4 : Option Addr) (c0_4 : Nat) (l0_4 : List (S55)) (r1 : ByteArray) (r2 : Int) (w : World) (hr0_2 : Kd.C Kd.string w A0_2 l0_2.length l0_2) (hc0_2 : l0_2.length ≤ c0_2) (hr0_4 : Kd.C k55 w A0_4 l0_4.length l0_4) (hc0_4 : l0_4.length ≤ c0_4) (hT : Tab w) (h : macro_Show.f k a0_0 a0_1 l0_2 a0_3 l0_4 = some (r1, r2)) :
  Calls Tryz.prog 18 #[.agg #[.string a0_0, .bool a0_1, .slice A0_2 l0_2.length c0_2, .bool a0_3, .slice A0_4 l0_4.length c0_4]] w fun e w' => e = .returned (.tuple #[.string r1, .int .i64 r2]) ∧ Below w.heap.size w w' := by
 have HTAB := Az.mk hT
 clear hT
 have hu32 := Tryz.underlying33
 have HR0_2 := Az.mk hr0_2
 have HC0_2 := Az.mk hc0_2
 clear hr0_2 hc0_2
 have HR0_4 := Az.mk hr0_4
 have HC0_4 := Az.mk hc0_4
 clear hr0_4 hc0_4
 have HB := Az.mk (Below.refl w.heap.size w)
 have H : ((macro_Right.f a0_0 a0_1 l0_2 a0_3 l0_4).bind fun t132 => (if t132 = true then (if a0_1 = true then ((slices_Clone_string_string.f l0_2).bind fun t133 => (if a0_3 = true then (if t133.length < 8796093022208 then (macro_Show.j0 k a0_0 (t133 ++ [(⟨#[46, 46, 46]⟩ : ByteArray)]) a0_0 a0_1 l0_2 a0_3 l0_4) else (none)) else (macro_Show.j0 k a0_0 t133 a0_0 a0_1 l0_2 a0_3 l0_4))) else (if (l0_4.length : Int) > 0 then ((token_Spell.f l0_4).bind fun t141 => (if 1 + t141.size ≤ 9223372036854775807 then (if a0_0.size + ((⟨#[32]⟩ : ByteArray) ++ t141).size ≤ 9223372036854775807 then (some (a0_0 ++ ((⟨#[32]⟩ : ByteArray) ++ t141), 0)) else (none)) else (none))) else (some (a0_0, 0)))) else (some ((⟨#[]⟩ : ByteArray), 2)))) = some (r1, r2) := h
 clear h
 replace H := Option.bind_eq_some_iff.mp H
 obtain ⟨t132, A20, H⟩ := H
 replace H : (if t132 = true then (if a0_1 = true then ((slices_Clone_string_string.f l0_2).bind fun t133 => (if a0_3 = true then (if t133.length < 8796093022208 then (macro_Show.j0 k a0_0 (t133 ++ [(⟨#[46, 46, 46]⟩ : ByteArray)]) a0_0 a0_1 l0_2 a0_3 l0_4) else (none)) else (macro_Show.j0 k a0_0 t133 a0_0 a0_1 l0_2 a0_3 l0_4))) else (if (l0_4.length : Int) > 0 then ((token_Spell.f l0_4).bind fun t141 => (if 1 + t141.size ≤ 9223372036854775807 then (if a0_0.size + ((⟨#[32]⟩ : ByteArray) ++ t141).size ≤ 9223372036854775807 then (some (a0_0 ++ ((⟨#[32]⟩ : ByteArray) ++ t141), 0)) else (none)) else (none))) else (some (a0_0, 0)))) else (some ((⟨#[]⟩ : ByteArray), 2))) = some (r1, r2) := H
 have A2 := Az.mk A20
 clear A20
 by_cases c3 : t132 = true
 ·subst c3
  have H1 : (if a0_1 = true then ((slices_Clone_string_string.f l0_2).bind fun t133 => (if a0_3 = true then (if t133.length < 8796093022208 then (macro_Show.j0 k a0_0 (t133 ++ [(⟨#[46, 46, 46]⟩ : ByteArray)]) a0_0 a0_1 l0_2 a0_3 l0_4) else (none)) else (macro_Show.j0 k a0_0 t133 a0_0 a0_1 l0_2 a0_3 l0_4))) else (if (l0_4.length : Int) > 0 then ((token_Spell.f l0_4).bind fun t141 => (if 1 + t141.size ≤ 9223372036854775807 then (if a0_0.size + ((⟨#[32]⟩ : ByteArray) ++ t141).size ≤ 9223372036854775807 then (some (a0_0 ++ ((⟨#[32]⟩ : ByteArray) ++ t141), 0)) else (none)) else (none))) else (some (a0_0, 0)))) = some (r1, r2) := by rw [if_pos rfl] at H; exact H
  clear H
  have H := H1
  clear H1
  by_cases c4 : a0_1 = true
  ·subst c4
   have H1 : ((slices_Clone_string_string.f l0_2).bind fun t133 => (if a0_3 = true then (if t133.length < 8796093022208 then (macro_Show.j0 k a0_0 (t133 ++ [(⟨#[46, 46, 46]⟩ : ByteArray)]) a0_0 true l0_2 a0_3 l0_4) else (none)) else (macro_Show.j0 k a0_0 t133 a0_0 true l0_2 a0_3 l0_4))) = some (r1, r2) := by rw [if_pos rfl] at H; exact H
   clear H
   have H := H1
   clear H1
   replace H := Option.bind_eq_some_iff.mp H
   obtain ⟨t133, A50, H⟩ := H
   replace H : (if a0_3 = true then (if t133.length < 8796093022208 then (macro_Show.j0 k a0_0 (t133 ++ [(⟨#[46, 46, 46]⟩ : ByteArray)]) a0_0 true l0_2 a0_3 l0_4) else (none)) else (macro_Show.j0 k a0_0 t133 a0_0 true l0_2 a0_3 l0_4)) = some (r1, r2) := H
   have A5 := Az.mk A50
   clear A50
   have HC6 := Az.mk H
   clear H
   go_enter Tryz.func18, Tryz.ntmps18
   go_upto_if 17 with (first | ((with_reducible refine gate_dst (N := 1) rfl ?_); refine box_event ?hg (N := 1) ?hd (cs := #[.string a0_0, .bool true, .slice A0_2 l0_2.length c0_2, .bool a0_3, .slice A0_4 l0_4.length c0_4]) (t := 33) ?hr ?_; (case hd => rfl); (case hg => rfl); (case hr => first | (go_simp; done) | (go_simp; rfl)); intro gb131 hg w7 hbox hb; have n0_ := Az.mk (bP (by repeat (with_reducible first | exact HB.out | apply bA | apply bQ | apply bD)) hb); have n1_ := Az.mk (hbox); have n2_ := Az.mk ((by rw [hg]; exact (bZ (by repeat (with_reducible first | exact HB.out | apply bA | apply bQ | apply bD))) : w.heap.size ≤ gb131)); have n3_ := n2_; clear HB; have HB := n0_; have BK131 := n1_; have GW131 := n2_; have GE131 := n3_; clear n0_ n1_ n2_ n3_; clear hb hbox hg; have hcz8_0 : w7.cell? ⟨gb131, 0, none⟩ = some (.string a0_0) := (bC BK131.out 0).trans rfl; have hcz8_1 : w7.cell? ⟨gb131, 1, none⟩ = some (.bool true) := (bC BK131.out 1).trans rfl; have hcz8_2 : w7.cell? ⟨gb131, 2, none⟩ = some (.slice A0_2 l0_2.length c0_2) := (bC BK131.out 2).trans rfl; have hcz8_3 : w7.cell? ⟨gb131, 3, none⟩ = some (.bool a0_3) := (bC BK131.out 3).trans rfl; have hcz8_4 : w7.cell? ⟨gb131, 4, none⟩ = some (.slice A0_4 l0_4.length c0_4) := (bC BK131.out 4).trans rfl; have hfz8_0 := bF BK131.out 0; have hfz8_1 := bF BK131.out 1; have hfz8_2 := bF BK131.out 2; have hfz8_3 := bF BK131.out 3; have hfz8_4 := bF BK131.out 4) | ((with_reducible refine gC (f := 21) rfl ?_); refine goesL_ (some 7) rfl rfl Tryz.func21 (by kernel_rfl) rfl #[.agg #[.string a0_0, .bool true, .slice A0_2 l0_2.length c0_2, .bool a0_3, .slice A0_4 l0_4.length c0_4]] rfl (by (try simp only [List.map_toArray, List.map_cons, List.map_nil]); first | done | rfl | (simp only [List.length_drop, List.length_take]; rfl)) ?_; (with_reducible refine (macro_Right.calls a0_0 true _ _ l0_2 a0_3 _ _ l0_4 true _ ?side1 ?side2 ?side3 ?side4 (HTAB.out.grow (by repeat (with_reducible first | exact HB.out | apply bA | apply bQ | apply bD | refine bS ?_ GE131.out))) A2.out).mono ?_); (case side1 => repeat (first | exact (Kd.C_below HR0_2.out HB.out) | (with_reducible refine Kd.C_alloc ?_ _) | (with_reducible refine Kd.C_drewN ?_ _) | (with_reducible refine Kd.C_drew ?_))); (case side2 => exact HC0_2.out); (case side3 => repeat (first | exact (Kd.C_below HR0_4.out HB.out) | (with_reducible refine Kd.C_alloc ?_ _) | (with_reducible refine Kd.C_drewN ?_ _) | (with_reducible refine Kd.C_drew ?_))); (case side4 => exact HC0_4.out); rintro e w9 ⟨rfl, hb⟩; refine ⟨_, rfl, ?_⟩; have n0_ := Az.mk (blk_below (g := gb131) (o := .cells #[.string a0_0, .bool true, .slice A0_2 l0_2.length c0_2, .bool a0_3, .slice A0_4 l0_4.length c0_4] 33 (0, 0)) (by (with_reducible repeat (first | refine kN ?_ _ | refine kD ?_ | refine kA ?_ _)); exact BK131.out) hb); have n1_ := Az.mk (bP (by repeat (with_reducible first | exact HB.out | apply bA | apply bQ | apply bD | refine bS ?_ GE131.out)) hb); clear BK131; clear HB; have BK131 := n0_; have HB := n1_; clear n0_ n1_; (try clear hb); (try clear hb2); (try clear hk); (try clear hi); have hcz10_0 : w9.cell? ⟨gb131, 0, none⟩ = some (.string a0_0) := (bC BK131.out 0).trans rfl; have hcz10_1 : w9.cell? ⟨gb131, 1, none⟩ = some (.bool true) := (bC BK131.out 1).trans rfl; have hcz10_2 : w9.cell? ⟨gb131, 2, none⟩ = some (.slice A0_2 l0_2.length c0_2) := (bC BK131.out 2).trans rfl; have hcz10_3 : w9.cell? ⟨gb131, 3, none⟩ = some (.bool a0_3) := (bC BK131.out 3).trans rfl; have hcz10_4 : w9.cell? ⟨gb131, 4, none⟩ = some (.slice A0_4 l0_4.length c0_4) := (bC BK131.out 4).trans rfl; have hfz10_0 := bF BK131.out 0; have hfz10_1 := bF BK131.out 1; have hfz10_2 := bF BK131.out 2; have hfz10_3 := bF BK131.out 3; have hfz10_4 := bF BK131.out 4) | ((with_reducible refine gC (f := 30) rfl ?_); refine goesL_ (some 15) rfl rfl Tryz.func30 (by kernel_rfl) rfl #[.slice A0_2 l0_2.length c0_2] rfl (by (try simp only [List.map_toArray, List.map_cons, List.map_nil]); first | done | rfl | (simp only [List.length_drop, List.length_take]; rfl)) ?_; (with_reducible refine (slices_Clone_string_string.calls _ _ l0_2 t133 _ ?side1 ?side2 A5.out).mono ?_); (case side1 => repeat (first | exact (Kd.C_below HR0_2.out HB.out) | (with_reducible refine Kd.C_alloc ?_ _) | (with_reducible refine Kd.C_drewN ?_ _) | (with_reducible refine Kd.C_drew ?_))); (case side2 => exact HC0_2.out); rintro e w11 ⟨v134, rfl, ho0, hb⟩; refine ⟨_, rfl, ?_⟩; have n0_ := Az.mk (Kd.R_lower ho0 (bZ (by repeat (with_reducible first | exact HB.out | apply bA | apply bQ | apply bD | refine bS ?_ GE131.out)))); have n1_ := Az.mk (blk_below (g := gb131) (o := .cells #[.string a0_0, .bool true, .slice A0_2 l0_2.length c0_2, .bool a0_3, .slice A0_4 l0_4.length c0_4] 33 (0, 0)) (by (with_reducible repeat (first | refine kN ?_ _ | refine kD ?_ | refine kA ?_ _)); exact BK131.out) hb); have n2_ := Az.mk (bP (by repeat (with_reducible first | exact HB.out | apply bA | apply bQ | apply bD | refine bS ?_ GE131.out)) hb); clear BK131; clear HB; have HO135 := n0_; have BK131 := n1_; have HB := n2_; clear n0_ n1_ n2_; (try clear hb); (try clear hb2); (try clear hk); (try clear hi); (try clear ho0); have hcz12_0 : w11.cell? ⟨gb131, 0, none⟩ = some (.string a0_0) := (bC BK131.out 0).trans rfl; have hcz12_1 : w11.cell? ⟨gb131, 1, none⟩ = some (.bool true) := (bC BK131.out 1).trans rfl; have hcz12_2 : w11.cell? ⟨gb131, 2, none⟩ = some (.slice A0_2 l0_2.length c0_2) := (bC BK131.out 2).trans rfl; have hcz12_3 : w11.cell? ⟨gb131, 3, none⟩ = some (.bool a0_3) := (bC BK131.out 3).trans rfl; have hcz12_4 : w11.cell? ⟨gb131, 4, none⟩ = some (.slice A0_4 l0_4.length c0_4) := (bC BK131.out 4).trans rfl; have hfz12_0 := bF BK131.out 0; have hfz12_1 := bF BK131.out 1; have hfz12_2 := bF BK131.out 2; have hfz12_3 := bF BK131.out 3; have hfz12_4 := bF BK131.out 4))
   (try simp only [Act.put, List.setIfInBounds_toArray, List.set_cons_zero, List.set_cons_succ])
   go_cut [5] (fun v5 wc => ∃ (kq : Nat) (x5_5 : List ByteArray), Az (macro_Show.j0 kq a0_0 x5_5 a0_0 true l0_2 a0_3 l0_4 = some (r1, r2)) ∧ Az (kq ≤ k) ∧ Az (Kd.R Kd.string 9 wc w.heap.size (fun _ => True) v5 x5_5) ∧ Az (wc.heap[gb131]? = some (.cells #[.string a0_0, .bool true, (.slice A0_2 l0_2.length c0_2), .bool a0_3, (.slice A0_4 l0_4.length c0_4)] 33 (0, 0))) ∧ Az (Below w.heap.size w wc))
   case first =>
    have H := HC6.out
    clear HC6
    by_cases c13 : a0_3 = true
    ·subst c13
     have H1 : (if t133.length < 8796093022208 then (macro_Show.j0 k a0_0 (t133 ++ [(⟨#[46, 46, 46]⟩ : ByteArray)]) a0_0 true l0_2 true l0_4) else (none)) = some (r1, r2) := by rw [if_pos rfl] at H; exact H
     clear H
     have H := H1
     clear H1
     by_cases c14 : t133.length < 8796093022208
     ·rw [if_pos c14] at H
      have LMc14 := Az.mk c14
      clear c14
      obtain ⟨y136, hy136⟩ : ∃ y_ : List ByteArray, y_ = (t133 ++ [(⟨#[46, 46, 46]⟩ : ByteArray)]) := ⟨_, rfl⟩
      replace H : (macro_Show.j0 k a0_0 y136 a0_0 true l0_2 true l0_4) = some (r1, r2) := by first | (rw [hy136]; with_reducible exact H) | (have H2_ := (Option.bind_some _ _).symm.trans H; rw [hy136]; with_reducible exact H2_) | (have H2_ := (Option.bind_some _ _).symm.trans H; with_reducible exact H2_) | with_reducible exact H | (rw [hy136]; exact H) | exact H
      have Ny136 := Az.mk hy136
      clear hy136
      have H' := Az.mk H
      clear H
      go_wp2_with (first | ((with_reducible refine gate_builtin (b := .append) (xs := #[.tmp 18, .tmp 19]) rfl ?_); at_builtin; refine Kd.R_append Kd.string (w0 := w) w.heap.size rfl (.tmp 18) (.tmp 19) 30 9 (.string ⟨#[]⟩) 16 rfl Tryz.underlying30 info9 rfl (by decide) (by omega) v134 t133 (⟨#[46, 46, 46]⟩ : ByteArray) [.string (⟨#[46, 46, 46]⟩ : ByteArray)] (fun _ => True) (fun _ => False) rfl rfl ?aP (fun _ hk => hk.elim) ?aF ?aO ?aB ?aS ?aL ?_; (case aP => exact rfl); (case aB => exact (by repeat (with_reducible first | exact HB.out | apply bA | apply bQ | apply bD | refine bS ?_ GE131.out))); (case aF => exact (fun _ _ => trivial)); (case aO => exact (by (with_reducible repeat (first | apply Kd.R_alloc | apply Kd.R_drewN | apply Kd.R_drew)); exact HO135.out)); (case aS => exact (bZ (by repeat (with_reducible first | exact HB.out | apply bA | apply bQ | apply bD | refine bS ?_ GE131.out)))); (case aL => have := LMc14.out; omega); intro v137 w15 ho hb hg hat; rw [← Ny136.out] at ho; have n0_ := Az.mk (blk_grown (g := gb131) (o := .cells #[.string a0_0, .bool true, .slice A0_2 l0_2.length c0_2, .bool true, .slice A0_4 l0_4.length c0_4] 33 (0, 0)) (by (with_reducible repeat (first | refine kN ?_ _ | refine kD ?_ | refine kA ?_ _)); exact BK131.out) hg (Kd.R_ne HO135.out BK131.out (by decide))); have n1_ := Az.mk (hb); have n2_ := Az.mk (ho); clear BK131; clear HB; clear HO135; have BK131 := n0_; have HB := n1_; have HO138 := n2_; clear n0_ n1_ n2_; clear ho hb hg hat))
      go_meet
      case rel => exact ⟨_, (y136), H', ⟨by first | omega | exact Nat.le_refl _⟩, ⟨by (with_reducible repeat (first | apply Kd.R_alloc | apply Kd.R_drewN | apply Kd.R_drew)); exact HO138.out⟩, ⟨by (with_reducible repeat (first | refine kN ?_ _ | refine kD ?_ | refine kA ?_ _)); exact BK131.out⟩, ⟨by repeat (with_reducible first | exact HB.out | apply bA | apply bQ | apply bD | refine bS ?_ GE131.out)⟩⟩
     ·rw [if_neg c14] at H
      exact absurd H (by simp)
    ·replace c13 := Bool.eq_false_iff.mpr c13
     subst c13
     have H1 : (macro_Show.j0 k a0_0 t133 a0_0 true l0_2 false l0_4) = some (r1, r2) := by rw [if_neg (show ¬ (false = true) by decide)] at H; exact H
     clear H
     have H := H1
     clear H1
     have H' := Az.mk H
     clear H
     go_wp2
     go_meet
     case rel => exact ⟨_, (t133), H', ⟨by first | omega | exact Nat.le_refl _⟩, ⟨by (with_reducible repeat (first | apply Kd.R_alloc | apply Kd.R_drewN | apply Kd.R_drew)); exact HO135.out⟩, ⟨by (with_reducible repeat (first | refine kN ?_ _ | refine kD ?_ | refine kA ?_ _)); exact BK131.out⟩, ⟨by repeat (with_reducible first | exact HB.out | apply bA | apply bQ | apply bD | refine bS ?_ GE131.out)⟩⟩
   case rest =>
    clear HC6
    try clear c1
    try clear p2
    try clear c3
    try clear c4
    try clear c13
    try clear c14
    try clear hcz10_0
    try clear hcz10_1
    try clear hcz10_2
    try clear hcz10_3
    try clear hcz10_4
    try clear hcz12_0
    try clear hcz12_1
    try clear hcz12_2
    try clear hcz12_3
    try clear hcz12_4
    try clear hcz8_0
    try clear hcz8_1
    try clear hcz8_2
    try clear hcz8_3
    try clear hcz8_4
    try clear hfz10_0
    try clear hfz10_1
    try clear hfz10_2
    try clear hfz10_3
    try clear hfz10_4
    try clear hfz12_0
    try clear hfz12_1
    try clear hfz12_2
    try clear hfz12_3
    try clear hfz12_4
    try clear hfz8_0
    try clear hfz8_1
    try clear hfz8_2
    try clear hfz8_3
    try clear hfz8_4
    obtain ⟨kq, x5_5, HA, HJ5, HO_5, BK131, HB⟩ := hcut
    cases kq with
    | zero => exact absurd HA.out (by simp [macro_Show.j0])
    | succ kj5 =>
     have H := HA.out
     clear HA
     simp only [macro_Show.j0] at H
     replace H := Option.bind_eq_some_iff.mp H
     obtain ⟨t139, A160, H⟩ := H
     replace H : (if 1 + t139.size ≤ 9223372036854775807 then (if ((⟨#[40]⟩ : ByteArray) ++ t139).size + 1 ≤ 9223372036854775807 then (if a0_0.size + (((⟨#[40]⟩ : ByteArray) ++ t139) ++ (⟨#[41]⟩ : ByteArray)).size ≤ 9223372036854775807 then (if (l0_4.length : Int) > 0 then ((token_Spell.f l0_4).bind fun t140 => (if 1 + t140.size ≤ 9223372036854775807 then (if (a0_0 ++ (((⟨#[40]⟩ : ByteArray) ++ t139) ++ (⟨#[41]⟩ : ByteArray))).size + ((⟨#[32]⟩ : ByteArray) ++ t140).size ≤ 9223372036854775807 then (some ((a0_0 ++ (((⟨#[40]⟩ : ByteArray) ++ t139) ++ (⟨#[41]⟩ : ByteArray))) ++ ((⟨#[32]⟩ : ByteArray) ++ t140), 0)) else (none)) else (none))) else (some (a0_0 ++ (((⟨#[40]⟩ : ByteArray) ++ t139) ++ (⟨#[41]⟩ : ByteArray)), 0))) else (none)) else (none)) else (none)) = some (r1, r2) := H
     have A16 := Az.mk A160
     clear A160
     by_cases c17 : 1 + t139.size ≤ 9223372036854775807
     ·rw [if_pos c17] at H
      have c17b0 := eq_true c17
      have c17b1 : decide (1 + t139.size ≤ 9223372036854775807) = true := decide_eq_true c17
      try have c17b2 : (9223372036854775807 < 1 + t139.size) = False := eq_false (Nat.not_lt.2 c17)
      by_cases c18 : ((⟨#[40]⟩ : ByteArray) ++ t139).size + 1 ≤ 9223372036854775807
      ·rw [if_pos c18] at H
       have c18b0 := eq_true c18
       have c18b1 : decide (((⟨#[40]⟩ : ByteArray) ++ t139).size + 1 ≤ 9223372036854775807) = true := decide_eq_true c18
       try have c18b2 : (9223372036854775807 < ((⟨#[40]⟩ : ByteArray) ++ t139).size + 1) = False := eq_false (Nat.not_lt.2 c18)
       try (have c18b4 := c18b2; simp only [ByteArray.size_append, show (⟨#[40]⟩ : ByteArray).size = 1 from rfl] at c18b4)
       by_cases c19 : a0_0.size + (((⟨#[40]⟩ : ByteArray) ++ t139) ++ (⟨#[41]⟩ : ByteArray)).size ≤ 9223372036854775807
       ·rw [if_pos c19] at H
        have c19b0 := eq_true c19
        have c19b1 : decide (a0_0.size + (((⟨#[40]⟩ : ByteArray) ++ t139) ++ (⟨#[41]⟩ : ByteArray)).size ≤ 9223372036854775807) = true := decide_eq_true c19
        try have c19b2 : (9223372036854775807 < a0_0.size + (((⟨#[40]⟩ : ByteArray) ++ t139) ++ (⟨#[41]⟩ : ByteArray)).size) = False := eq_false (Nat.not_lt.2 c19)
        try (have c19b4 := c19b2; simp only [ByteArray.size_append, show (⟨#[40]⟩ : ByteArray).size = 1 from rfl, show (⟨#[41]⟩ : ByteArray).size = 1 from rfl] at c19b4)
        by_cases c20 : (l0_4.length : Int) > 0
        ·rw [if_pos c20] at H
         have c20b0 : decide (0 < (l0_4.length : Int)) = true := decide_eq_true c20
         have c20b1 : decide (0 < l0_4.length) = true := decide_eq_true (by omega)
         clear c20
         replace H := Option.bind_eq_some_iff.mp H
         obtain ⟨t140, A210, H⟩ := H
         replace H : (if 1 + t140.size ≤ 9223372036854775807 then (if (a0_0 ++ (((⟨#[40]⟩ : ByteArray) ++ t139) ++ (⟨#[41]⟩ : ByteArray))).size + ((⟨#[32]⟩ : ByteArray) ++ t140).size ≤ 9223372036854775807 then (some ((a0_0 ++ (((⟨#[40]⟩ : ByteArray) ++ t139) ++ (⟨#[41]⟩ : ByteArray))) ++ ((⟨#[32]⟩ : ByteArray) ++ t140), 0)) else (none)) else (none)) = some (r1, r2) := H
         have A21 := Az.mk A210
         clear A210
         by_cases c22 : 1 + t140.size ≤ 9223372036854775807
         ·rw [if_pos c22] at H
          have c22b0 := eq_true c22
          have c22b1 : decide (1 + t140.size ≤ 9223372036854775807) = true := decide_eq_true c22
          try have c22b2 : (9223372036854775807 < 1 + t140.size) = False := eq_false (Nat.not_lt.2 c22)
          by_cases c23 : (a0_0 ++ (((⟨#[40]⟩ : ByteArray) ++ t139) ++ (⟨#[41]⟩ : ByteArray))).size + ((⟨#[32]⟩ : ByteArray) ++ t140).size ≤ 9223372036854775807
          ·rw [if_pos c23] at H
           have c23b0 := eq_true c23
           have c23b1 : decide ((a0_0 ++ (((⟨#[40]⟩ : ByteArray) ++ t139) ++ (⟨#[41]⟩ : ByteArray))).size + ((⟨#[32]⟩ : ByteArray) ++ t140).size ≤ 9223372036854775807) = true := decide_eq_true c23
           try have c23b2 : (9223372036854775807 < (a0_0 ++ (((⟨#[40]⟩ : ByteArray) ++ t139) ++ (⟨#[41]⟩ : ByteArray))).size + ((⟨#[32]⟩ : ByteArray) ++ t140).size) = False := eq_false (Nat.not_lt.2 c23)
           try (have c23b4 := c23b2; simp only [ByteArray.size_append, show (⟨#[32]⟩ : ByteArray).size = 1 from rfl, show (⟨#[40]⟩ : ByteArray).size = 1 from rfl, show (⟨#[41]⟩ : ByteArray).size = 1 from rfl] at c23b4)
           simp only [Option.some.injEq, Prod.mk.injEq] at H
           obtain ⟨rfl, rfl⟩ := H
           obtain ⟨Ao24, co24, eo24⟩ := Kd.R_slice HO_5.out
           subst eo24
           go_wp2_with (first | ((with_reducible refine gC (f := 31) rfl ?_); refine goesL_ (some 23) rfl rfl Tryz.func31 (by kernel_rfl) rfl #[.slice Ao24 x5_5.length co24, .string (⟨#[44, 32]⟩ : ByteArray)] rfl (by (try simp only [List.map_toArray, List.map_cons, List.map_nil]); first | done | rfl | (simp only [List.length_drop, List.length_take]; rfl)) ?_; (with_reducible refine (strings_Join.calls _ _ x5_5 (⟨#[44, 32]⟩ : ByteArray) t139 _ ?side1 ?side2 A16.out).mono ?_); (case side1 => repeat (first | exact (Kd.R_reads' HO_5.out).2.2 | (with_reducible refine Kd.C_alloc ?_ _) | (with_reducible refine Kd.C_drewN ?_ _) | (with_reducible refine Kd.C_drew ?_))); (case side2 => exact (Kd.R_reads' HO_5.out).2.1); rintro e w25 ⟨rfl, hb⟩; refine ⟨_, rfl, ?_⟩; have n0_ := Az.mk (Kd.R_below (by (with_reducible repeat (first | apply Kd.R_alloc | apply Kd.R_drewN | apply Kd.R_drew)); exact HO_5.out) hb); have n1_ := Az.mk (blk_below (g := gb131) (o := .cells #[.string a0_0, .bool true, .slice A0_2 l0_2.length c0_2, .bool a0_3, .slice A0_4 l0_4.length c0_4] 33 (0, 0)) (by (with_reducible repeat (first | refine kN ?_ _ | refine kD ?_ | refine kA ?_ _)); exact BK131.out) hb); have n2_ := Az.mk (bP (by repeat (with_reducible first | exact HB.out | apply bA | apply bQ | apply bD | refine bS ?_ GE131.out)) hb); clear HO_5; clear BK131; clear HB; have HO_5 := n0_; have BK131 := n1_; have HB := n2_; clear n0_ n1_ n2_; (try clear hb); (try clear hb2); (try clear hk); (try clear hi); have hcz26_0 : w25.cell? ⟨gb131, 0, none⟩ = some (.string a0_0) := (bC BK131.out 0).trans rfl; have hcz26_1 : w25.cell? ⟨gb131, 1, none⟩ = some (.bool true) := (bC BK131.out 1).trans rfl; have hcz26_2 : w25.cell? ⟨gb131, 2, none⟩ = some (.slice A0_2 l0_2.length c0_2) := (bC BK131.out 2).trans rfl; have hcz26_3 : w25.cell? ⟨gb131, 3, none⟩ = some (.bool a0_3) := (bC BK131.out 3).trans rfl; have hcz26_4 : w25.cell? ⟨gb131, 4, none⟩ = some (.slice A0_4 l0_4.length c0_4) := (bC BK131.out 4).trans rfl; have hfz26_0 := bF BK131.out 0; have hfz26_1 := bF BK131.out 1; have hfz26_2 := bF BK131.out 2; have hfz26_3 := bF BK131.out 3; have hfz26_4 := bF BK131.out 4) | ((with_reducible refine gC (f := 32) rfl ?_); refine goesL_ (some 34) rfl rfl Tryz.func32 (by kernel_rfl) rfl #[.slice A0_4 l0_4.length c0_4] rfl (by (try simp only [List.map_toArray, List.map_cons, List.map_nil]); first | done | rfl | (simp only [List.length_drop, List.length_take]; rfl)) ?_; (with_reducible refine (token_Spell.calls _ _ l0_4 t140 _ ?side1 ?side2 A21.out).mono ?_); (case side1 => repeat (first | exact (Kd.C_below HR0_4.out HB.out) | (with_reducible refine Kd.C_alloc ?_ _) | (with_reducible refine Kd.C_drewN ?_ _) | (with_reducible refine Kd.C_drew ?_))); (case side2 => exact HC0_4.out); rintro e w27 ⟨rfl, hb⟩; refine ⟨_, rfl, ?_⟩; have n0_ := Az.mk (Kd.R_below (by (with_reducible repeat (first | apply Kd.R_alloc | apply Kd.R_drewN | apply Kd.R_drew)); exact HO_5.out) hb); have n1_ := Az.mk (blk_below (g := gb131) (o := .cells #[.string a0_0, .bool true, .slice A0_2 l0_2.length c0_2, .bool a0_3, .slice A0_4 l0_4.length c0_4] 33 (0, 0)) (by (with_reducible repeat (first | refine kN ?_ _ | refine kD ?_ | refine kA ?_ _)); exact BK131.out) hb); have n2_ := Az.mk (bP (by repeat (with_reducible first | exact HB.out | apply bA | apply bQ | apply bD | refine bS ?_ GE131.out)) hb); clear HO_5; clear BK131; clear HB; have HO_5 := n0_; have BK131 := n1_; have HB := n2_; clear n0_ n1_ n2_; (try clear hb); (try clear hb2); (try clear hk); (try clear hi)))
           go_ret2
           exact ⟨by first | rfl | (simp [eN, eS] <;> rfl) | (simp [*, eN, eS] <;> rfl), by repeat (with_reducible first | exact HB.out | apply bA | apply bQ | apply bD | refine bS ?_ GE131.out)⟩
          ·rw [if_neg c23] at H
           exact absurd H (by simp)
         ·rw [if_neg c22] at H
          exact absurd H (by simp)
        ·rw [if_neg c20] at H
         have c20b0 : decide (0 < (l0_4.length : Int)) = false := decide_eq_false c20
         have c20b1 : decide (0 < l0_4.length) = false := decide_eq_false (by omega)
         clear c20
         simp only [Option.some.injEq, Prod.mk.injEq] at H
         obtain ⟨rfl, rfl⟩ := H
         obtain ⟨Ao28, co28, eo28⟩ := Kd.R_slice HO_5.out
         subst eo28
         go_wp2_with (first | ((with_reducible refine gC (f := 31) rfl ?_); refine goesL_ (some 23) rfl rfl Tryz.func31 (by kernel_rfl) rfl #[.slice Ao28 x5_5.length co28, .string (⟨#[44, 32]⟩ : ByteArray)] rfl (by (try simp only [List.map_toArray, List.map_cons, List.map_nil]); first | done | rfl | (simp only [List.length_drop, List.length_take]; rfl)) ?_; (with_reducible refine (strings_Join.calls _ _ x5_5 (⟨#[44, 32]⟩ : ByteArray) t139 _ ?side1 ?side2 A16.out).mono ?_); (case side1 => repeat (first | exact (Kd.R_reads' HO_5.out).2.2 | (with_reducible refine Kd.C_alloc ?_ _) | (with_reducible refine Kd.C_drewN ?_ _) | (with_reducible refine Kd.C_drew ?_))); (case side2 => exact (Kd.R_reads' HO_5.out).2.1); rintro e w29 ⟨rfl, hb⟩; refine ⟨_, rfl, ?_⟩; have n0_ := Az.mk (Kd.R_below (by (with_reducible repeat (first | apply Kd.R_alloc | apply Kd.R_drewN | apply Kd.R_drew)); exact HO_5.out) hb); have n1_ := Az.mk (blk_below (g := gb131) (o := .cells #[.string a0_0, .bool true, .slice A0_2 l0_2.length c0_2, .bool a0_3, .slice A0_4 l0_4.length c0_4] 33 (0, 0)) (by (with_reducible repeat (first | refine kN ?_ _ | refine kD ?_ | refine kA ?_ _)); exact BK131.out) hb); have n2_ := Az.mk (bP (by repeat (with_reducible first | exact HB.out | apply bA | apply bQ | apply bD | refine bS ?_ GE131.out)) hb); clear HO_5; clear BK131; clear HB; have HO_5 := n0_; have BK131 := n1_; have HB := n2_; clear n0_ n1_ n2_; (try clear hb); (try clear hb2); (try clear hk); (try clear hi); have hcz30_0 : w29.cell? ⟨gb131, 0, none⟩ = some (.string a0_0) := (bC BK131.out 0).trans rfl; have hcz30_1 : w29.cell? ⟨gb131, 1, none⟩ = some (.bool true) := (bC BK131.out 1).trans rfl; have hcz30_2 : w29.cell? ⟨gb131, 2, none⟩ = some (.slice A0_2 l0_2.length c0_2) := (bC BK131.out 2).trans rfl; have hcz30_3 : w29.cell? ⟨gb131, 3, none⟩ = some (.bool a0_3) := (bC BK131.out 3).trans rfl; have hcz30_4 : w29.cell? ⟨gb131, 4, none⟩ = some (.slice A0_4 l0_4.length c0_4) := (bC BK131.out 4).trans rfl; have hfz30_0 := bF BK131.out 0; have hfz30_1 := bF BK131.out 1; have hfz30_2 := bF BK131.out 2; have hfz30_3 := bF BK131.out 3; have hfz30_4 := bF BK131.out 4))
         go_ret2
         exact ⟨by first | rfl | (simp [eN, eS] <;> rfl) | (simp [*, eN, eS] <;> rfl), by repeat (with_reducible first | exact HB.out | apply bA | apply bQ | apply bD | refine bS ?_ GE131.out)⟩
       ·rw [if_neg c19] at H
        exact absurd H (by simp)
      ·rw [if_neg c18] at H
       exact absurd H (by simp)
     ·rw [if_neg c17] at H
      exact absurd H (by simp)
  ·replace c4 := Bool.eq_false_iff.mpr c4
   subst c4
   have H1 : (if (l0_4.length : Int) > 0 then ((token_Spell.f l0_4).bind fun t141 => (if 1 + t141.size ≤ 9223372036854775807 then (if a0_0.size + ((⟨#[32]⟩ : ByteArray) ++ t141).size ≤ 9223372036854775807 then (some (a0_0 ++ ((⟨#[32]⟩ : ByteArray) ++ t141), 0)) else (none)) else (none))) else (some (a0_0, 0))) = some (r1, r2) := by rw [if_neg (show ¬ (false = true) by decide)] at H; exact H
   clear H
   have H := H1
   clear H1
   by_cases c31 : (l0_4.length : Int) > 0
   ·rw [if_pos c31] at H
    have c31b0 : decide (0 < (l0_4.length : Int)) = true := decide_eq_true c31
    have c31b1 : decide (0 < l0_4.length) = true := decide_eq_true (by omega)
    clear c31
    replace H := Option.bind_eq_some_iff.mp H
    obtain ⟨t141, A320, H⟩ := H
    replace H : (if 1 + t141.size ≤ 9223372036854775807 then (if a0_0.size + ((⟨#[32]⟩ : ByteArray) ++ t141).size ≤ 9223372036854775807 then (some (a0_0 ++ ((⟨#[32]⟩ : ByteArray) ++ t141), 0)) else (none)) else (none)) = some (r1, r2) := H
    have A32 := Az.mk A320
    clear A320
    by_cases c33 : 1 + t141.size ≤ 9223372036854775807
    ·rw [if_pos c33] at H
     have c33b0 := eq_true c33
     have c33b1 : decide (1 + t141.size ≤ 9223372036854775807) = true := decide_eq_true c33
     try have c33b2 : (9223372036854775807 < 1 + t141.size) = False := eq_false (Nat.not_lt.2 c33)
     by_cases c34 : a0_0.size + ((⟨#[32]⟩ : ByteArray) ++ t141).size ≤ 9223372036854775807
     ·rw [if_pos c34] at H
      have c34b0 := eq_true c34
      have c34b1 : decide (a0_0.size + ((⟨#[32]⟩ : ByteArray) ++ t141).size ≤ 9223372036854775807) = true := decide_eq_true c34
      try have c34b2 : (9223372036854775807 < a0_0.size + ((⟨#[32]⟩ : ByteArray) ++ t141).size) = False := eq_false (Nat.not_lt.2 c34)
      try (have c34b4 := c34b2; simp only [ByteArray.size_append, show (⟨#[32]⟩ : ByteArray).size = 1 from rfl] at c34b4)
      simp only [Option.some.injEq, Prod.mk.injEq] at H
      obtain ⟨rfl, rfl⟩ := H
      go_enter Tryz.func18, Tryz.ntmps18
      go_wp2_with (first | ((with_reducible refine gate_dst (N := 1) rfl ?_); refine box_event ?hg (N := 1) ?hd (cs := #[.string a0_0, .bool false, .slice A0_2 l0_2.length c0_2, .bool a0_3, .slice A0_4 l0_4.length c0_4]) (t := 33) ?hr ?_; (case hd => rfl); (case hg => rfl); (case hr => first | (go_simp; done) | (go_simp; rfl)); intro gb131 hg w35 hbox hb; have n0_ := Az.mk (bP (by repeat (with_reducible first | exact HB.out | apply bA | apply bQ | apply bD)) hb); have n1_ := Az.mk (hbox); have n2_ := Az.mk ((by rw [hg]; exact (bZ (by repeat (with_reducible first | exact HB.out | apply bA | apply bQ | apply bD))) : w.heap.size ≤ gb131)); have n3_ := n2_; clear HB; have HB := n0_; have BK131 := n1_; have GW131 := n2_; have GE131 := n3_; clear n0_ n1_ n2_ n3_; clear hb hbox hg; have hcz36_0 : w35.cell? ⟨gb131, 0, none⟩ = some (.string a0_0) := (bC BK131.out 0).trans rfl; have hcz36_1 : w35.cell? ⟨gb131, 1, none⟩ = some (.bool false) := (bC BK131.out 1).trans rfl; have hcz36_2 : w35.cell? ⟨gb131, 2, none⟩ = some (.slice A0_2 l0_2.length c0_2) := (bC BK131.out 2).trans rfl; have hcz36_3 : w35.cell? ⟨gb131, 3, none⟩ = some (.bool a0_3) := (bC BK131.out 3).trans rfl; have hcz36_4 : w35.cell? ⟨gb131, 4, none⟩ = some (.slice A0_4 l0_4.length c0_4) := (bC BK131.out 4).trans rfl; have hfz36_0 := bF BK131.out 0; have hfz36_1 := bF BK131.out 1; have hfz36_2 := bF BK131.out 2; have hfz36_3 := bF BK131.out 3; have hfz36_4 := bF BK131.out 4) | ((with_reducible refine gC (f := 21) rfl ?_); refine goesL_ (some 7) rfl rfl Tryz.func21 (by kernel_rfl) rfl #[.agg #[.string a0_0, .bool false, .slice A0_2 l0_2.length c0_2, .bool a0_3, .slice A0_4 l0_4.length c0_4]] rfl (by (try simp only [List.map_toArray, List.map_cons, List.map_nil]); first | done | rfl | (simp only [List.length_drop, List.length_take]; rfl)) ?_; (with_reducible refine (macro_Right.calls a0_0 false _ _ l0_2 a0_3 _ _ l0_4 true _ ?side1 ?side2 ?side3 ?side4 (HTAB.out.grow (by repeat (with_reducible first | exact HB.out | apply bA | apply bQ | apply bD | refine bS ?_ GE131.out))) A2.out).mono ?_); (case side1 => repeat (first | exact (Kd.C_below HR0_2.out HB.out) | (with_reducible refine Kd.C_alloc ?_ _) | (with_reducible refine Kd.C_drewN ?_ _) | (with_reducible refine Kd.C_drew ?_))); (case side2 => exact HC0_2.out); (case side3 => repeat (first | exact (Kd.C_below HR0_4.out HB.out) | (with_reducible refine Kd.C_alloc ?_ _) | (with_reducible refine Kd.C_drewN ?_ _) | (with_reducible refine Kd.C_drew ?_))); (case side4 => exact HC0_4.out); rintro e w37 ⟨rfl, hb⟩; refine ⟨_, rfl, ?_⟩; have n0_ := Az.mk (blk_below (g := gb131) (o := .cells #[.string a0_0, .bool false, .slice A0_2 l0_2.length c0_2, .bool a0_3, .slice A0_4 l0_4.length c0_4] 33 (0, 0)) (by (with_reducible repeat (first | refine kN ?_ _ | refine kD ?_ | refine kA ?_ _)); exact BK131.out) hb); have n1_ := Az.mk (bP (by repeat (with_reducible first | exact HB.out | apply bA | apply bQ | apply bD | refine bS ?_ GE131.out)) hb); clear BK131; clear HB; have BK131 := n0_; have HB := n1_; clear n0_ n1_; (try clear hb); (try clear hb2); (try clear hk); (try clear hi); have hcz38_0 : w37.cell? ⟨gb131, 0, none⟩ = some (.string a0_0) := (bC BK131.out 0).trans rfl; have hcz38_1 : w37.cell? ⟨gb131, 1, none⟩ = some (.bool false) := (bC BK131.out 1).trans rfl; have hcz38_2 : w37.cell? ⟨gb131, 2, none⟩ = some (.slice A0_2 l0_2.length c0_2) := (bC BK131.out 2).trans rfl; have hcz38_3 : w37.cell? ⟨gb131, 3, none⟩ = some (.bool a0_3) := (bC BK131.out 3).trans rfl; have hcz38_4 : w37.cell? ⟨gb131, 4, none⟩ = some (.slice A0_4 l0_4.length c0_4) := (bC BK131.out 4).trans rfl; have hfz38_0 := bF BK131.out 0; have hfz38_1 := bF BK131.out 1; have hfz38_2 := bF BK131.out 2; have hfz38_3 := bF BK131.out 3; have hfz38_4 := bF BK131.out 4) | ((with_reducible refine gC (f := 32) rfl ?_); refine goesL_ (some 34) rfl rfl Tryz.func32 (by kernel_rfl) rfl #[.slice A0_4 l0_4.length c0_4] rfl (by (try simp only [List.map_toArray, List.map_cons, List.map_nil]); first | done | rfl | (simp only [List.length_drop, List.length_take]; rfl)) ?_; (with_reducible refine (token_Spell.calls _ _ l0_4 t141 _ ?side1 ?side2 A32.out).mono ?_); (case side1 => repeat (first | exact (Kd.C_below HR0_4.out HB.out) | (with_reducible refine Kd.C_alloc ?_ _) | (with_reducible refine Kd.C_drewN ?_ _) | (with_reducible refine Kd.C_drew ?_))); (case side2 => exact HC0_4.out); rintro e w39 ⟨rfl, hb⟩; refine ⟨_, rfl, ?_⟩; have n0_ := Az.mk (blk_below (g := gb131) (o := .cells #[.string a0_0, .bool false, .slice A0_2 l0_2.length c0_2, .bool a0_3, .slice A0_4 l0_4.length c0_4] 33 (0, 0)) (by (with_reducible repeat (first | refine kN ?_ _ | refine kD ?_ | refine kA ?_ _)); exact BK131.out) hb); have n1_ := Az.mk (bP (by repeat (with_reducible first | exact HB.out | apply bA | apply bQ | apply bD | refine bS ?_ GE131.out)) hb); clear BK131; clear HB; have BK131 := n0_; have HB := n1_; clear n0_ n1_; (try clear hb); (try clear hb2); (try clear hk); (try clear hi)))
      go_ret2
      exact ⟨by first | rfl | (simp [eN, eS] <;> rfl) | (simp [*, eN, eS] <;> rfl), by repeat (with_reducible first | exact HB.out | apply bA | apply bQ | apply bD | refine bS ?_ GE131.out)⟩
     ·rw [if_neg c34] at H
      exact absurd H (by simp)
    ·rw [if_neg c33] at H
     exact absurd H (by simp)
   ·rw [if_neg c31] at H
    have c31b0 : decide (0 < (l0_4.length : Int)) = false := decide_eq_false c31
    have c31b1 : decide (0 < l0_4.length) = false := decide_eq_false (by omega)
    clear c31
    simp only [Option.some.injEq, Prod.mk.injEq] at H
    obtain ⟨rfl, rfl⟩ := H
    go_enter Tryz.func18, Tryz.ntmps18
    go_wp2_with (first | ((with_reducible refine gate_dst (N := 1) rfl ?_); refine box_event ?hg (N := 1) ?hd (cs := #[.string a0_0, .bool false, .slice A0_2 l0_2.length c0_2, .bool a0_3, .slice A0_4 l0_4.length c0_4]) (t := 33) ?hr ?_; (case hd => rfl); (case hg => rfl); (case hr => first | (go_simp; done) | (go_simp; rfl)); intro gb131 hg w40 hbox hb; have n0_ := Az.mk (bP (by repeat (with_reducible first | exact HB.out | apply bA | apply bQ | apply bD)) hb); have n1_ := Az.mk (hbox); have n2_ := Az.mk ((by rw [hg]; exact (bZ (by repeat (with_reducible first | exact HB.out | apply bA | apply bQ | apply bD))) : w.heap.size ≤ gb131)); have n3_ := n2_; clear HB; have HB := n0_; have BK131 := n1_; have GW131 := n2_; have GE131 := n3_; clear n0_ n1_ n2_ n3_; clear hb hbox hg; have hcz41_0 : w40.cell? ⟨gb131, 0, none⟩ = some (.string a0_0) := (bC BK131.out 0).trans rfl; have hcz41_1 : w40.cell? ⟨gb131, 1, none⟩ = some (.bool false) := (bC BK131.out 1).trans rfl; have hcz41_2 : w40.cell? ⟨gb131, 2, none⟩ = some (.slice A0_2 l0_2.length c0_2) := (bC BK131.out 2).trans rfl; have hcz41_3 : w40.cell? ⟨gb131, 3, none⟩ = some (.bool a0_3) := (bC BK131.out 3).trans rfl; have hcz41_4 : w40.cell? ⟨gb131, 4, none⟩ = some (.slice A0_4 l0_4.length c0_4) := (bC BK131.out 4).trans rfl; have hfz41_0 := bF BK131.out 0; have hfz41_1 := bF BK131.out 1; have hfz41_2 := bF BK131.out 2; have hfz41_3 := bF BK131.out 3; have hfz41_4 := bF BK131.out 4) | ((with_reducible refine gC (f := 21) rfl ?_); refine goesL_ (some 7) rfl rfl Tryz.func21 (by kernel_rfl) rfl #[.agg #[.string a0_0, .bool false, .slice A0_2 l0_2.length c0_2, .bool a0_3, .slice A0_4 l0_4.length c0_4]] rfl (by (try simp only [List.map_toArray, List.map_cons, List.map_nil]); first | done | rfl | (simp only [List.length_drop, List.length_take]; rfl)) ?_; (with_reducible refine (macro_Right.calls a0_0 false _ _ l0_2 a0_3 _ _ l0_4 true _ ?side1 ?side2 ?side3 ?side4 (HTAB.out.grow (by repeat (with_reducible first | exact HB.out | apply bA | apply bQ | apply bD | refine bS ?_ GE131.out))) A2.out).mono ?_); (case side1 => repeat (first | exact (Kd.C_below HR0_2.out HB.out) | (with_reducible refine Kd.C_alloc ?_ _) | (with_reducible refine Kd.C_drewN ?_ _) | (with_reducible refine Kd.C_drew ?_))); (case side2 => exact HC0_2.out); (case side3 => repeat (first | exact (Kd.C_below HR0_4.out HB.out) | (with_reducible refine Kd.C_alloc ?_ _) | (with_reducible refine Kd.C_drewN ?_ _) | (with_reducible refine Kd.C_drew ?_))); (case side4 => exact HC0_4.out); rintro e w42 ⟨rfl, hb⟩; refine ⟨_, rfl, ?_⟩; have n0_ := Az.mk (blk_below (g := gb131) (o := .cells #[.string a0_0, .bool false, .slice A0_2 l0_2.length c0_2, .bool a0_3, .slice A0_4 l0_4.length c0_4] 33 (0, 0)) (by (with_reducible repeat (first | refine kN ?_ _ | refine kD ?_ | refine kA ?_ _)); exact BK131.out) hb); have n1_ := Az.mk (bP (by repeat (with_reducible first | exact HB.out | apply bA | apply bQ | apply bD | refine bS ?_ GE131.out)) hb); clear BK131; clear HB; have BK131 := n0_; have HB := n1_; clear n0_ n1_; (try clear hb); (try clear hb2); (try clear hk); (try clear hi); have hcz43_0 : w42.cell? ⟨gb131, 0, none⟩ = some (.string a0_0) := (bC BK131.out 0).trans rfl; have hcz43_1 : w42.cell? ⟨gb131, 1, none⟩ = some (.bool false) := (bC BK131.out 1).trans rfl; have hcz43_2 : w42.cell? ⟨gb131, 2, none⟩ = some (.slice A0_2 l0_2.length c0_2) := (bC BK131.out 2).trans rfl; have hcz43_3 : w42.cell? ⟨gb131, 3, none⟩ = some (.bool a0_3) := (bC BK131.out 3).trans rfl; have hcz43_4 : w42.cell? ⟨gb131, 4, none⟩ = some (.slice A0_4 l0_4.length c0_4) := (bC BK131.out 4).trans rfl; have hfz43_0 := bF BK131.out 0; have hfz43_1 := bF BK131.out 1; have hfz43_2 := bF BK131.out 2; have hfz43_3 := bF BK131.out 3; have hfz43_4 := bF BK131.out 4))
    go_ret2
    exact ⟨by first | rfl | (simp [eN, eS] <;> rfl) | (simp [*, eN, eS] <;> rfl), by repeat (with_reducible first | exact HB.out | apply bA | apply bQ | apply bD | refine bS ?_ GE131.out)⟩
 ·replace c3 := Bool.eq_false_iff.mpr c3
  subst c3
  have H1 : (some ((⟨#[]⟩ : ByteArray), 2)) = some (r1, r2) := by rw [if_neg (show ¬ (false = true) by decide)] at H; exact H
  clear H
  have H := H1
  clear H1
  simp only [Option.some.injEq, Prod.mk.injEq] at H
  obtain ⟨rfl, rfl⟩ := H
  go_enter Tryz.func18, Tryz.ntmps18
  go_wp2_with (first | ((with_reducible refine gate_dst (N := 1) rfl ?_); refine box_event ?hg (N := 1) ?hd (cs := #[.string a0_0, .bool a0_1, .slice A0_2 l0_2.length c0_2, .bool a0_3, .slice A0_4 l0_4.length c0_4]) (t := 33) ?hr ?_; (case hd => rfl); (case hg => rfl); (case hr => first | (go_simp; done) | (go_simp; rfl)); intro gb131 hg w44 hbox hb; have n0_ := Az.mk (bP (by repeat (with_reducible first | exact HB.out | apply bA | apply bQ | apply bD)) hb); have n1_ := Az.mk (hbox); have n2_ := Az.mk ((by rw [hg]; exact (bZ (by repeat (with_reducible first | exact HB.out | apply bA | apply bQ | apply bD))) : w.heap.size ≤ gb131)); have n3_ := n2_; clear HB; have HB := n0_; have BK131 := n1_; have GW131 := n2_; have GE131 := n3_; clear n0_ n1_ n2_ n3_; clear hb hbox hg; have hcz45_0 : w44.cell? ⟨gb131, 0, none⟩ = some (.string a0_0) := (bC BK131.out 0).trans rfl; have hcz45_1 : w44.cell? ⟨gb131, 1, none⟩ = some (.bool a0_1) := (bC BK131.out 1).trans rfl; have hcz45_2 : w44.cell? ⟨gb131, 2, none⟩ = some (.slice A0_2 l0_2.length c0_2) := (bC BK131.out 2).trans rfl; have hcz45_3 : w44.cell? ⟨gb131, 3, none⟩ = some (.bool a0_3) := (bC BK131.out 3).trans rfl; have hcz45_4 : w44.cell? ⟨gb131, 4, none⟩ = some (.slice A0_4 l0_4.length c0_4) := (bC BK131.out 4).trans rfl; have hfz45_0 := bF BK131.out 0; have hfz45_1 := bF BK131.out 1; have hfz45_2 := bF BK131.out 2; have hfz45_3 := bF BK131.out 3; have hfz45_4 := bF BK131.out 4) | ((with_reducible refine gC (f := 21) rfl ?_); refine goesL_ (some 7) rfl rfl Tryz.func21 (by kernel_rfl) rfl #[.agg #[.string a0_0, .bool a0_1, .slice A0_2 l0_2.length c0_2, .bool a0_3, .slice A0_4 l0_4.length c0_4]] rfl (by (try simp only [List.map_toArray, List.map_cons, List.map_nil]); first | done | rfl | (simp only [List.length_drop, List.length_take]; rfl)) ?_; (with_reducible refine (macro_Right.calls a0_0 a0_1 _ _ l0_2 a0_3 _ _ l0_4 false _ ?side1 ?side2 ?side3 ?side4 (HTAB.out.grow (by repeat (with_reducible first | exact HB.out | apply bA | apply bQ | apply bD | refine bS ?_ GE131.out))) A2.out).mono ?_); (case side1 => repeat (first | exact (Kd.C_below HR0_2.out HB.out) | (with_reducible refine Kd.C_alloc ?_ _) | (with_reducible refine Kd.C_drewN ?_ _) | (with_reducible refine Kd.C_drew ?_))); (case side2 => exact HC0_2.out); (case side3 => repeat (first | exact (Kd.C_below HR0_4.out HB.out) | (with_reducible refine Kd.C_alloc ?_ _) | (with_reducible refine Kd.C_drewN ?_ _) | (with_reducible refine Kd.C_drew ?_))); (case side4 => exact HC0_4.out); rintro e w46 ⟨rfl, hb⟩; refine ⟨_, rfl, ?_⟩; have n0_ := Az.mk (blk_below (g := gb131) (o := .cells #[.string a0_0, .bool a0_1, .slice A0_2 l0_2.length c0_2, .bool a0_3, .slice A0_4 l0_4.length c0_4] 33 (0, 0)) (by (with_reducible repeat (first | refine kN ?_ _ | refine kD ?_ | refine kA ?_ _)); exact BK131.out) hb); have n1_ := Az.mk (bP (by repeat (with_reducible first | exact HB.out | apply bA | apply bQ | apply bD | refine bS ?_ GE131.out)) hb); clear BK131; clear HB; have BK131 := n0_; have HB := n1_; clear n0_ n1_; (try clear hb); (try clear hb2); (try clear hk); (try clear hi)))
  go_ret2
  exact ⟨by first | rfl | (simp [eN, eS] <;> rfl) | (simp [*, eN, eS] <;> rfl), by repeat (with_reducible first | exact HB.out | apply bA | apply bQ | apply bD | refine bS ?_ GE131.out)⟩
end Go.Proofs.YtcbfbefpbjmglaaGreatDoor.PA
