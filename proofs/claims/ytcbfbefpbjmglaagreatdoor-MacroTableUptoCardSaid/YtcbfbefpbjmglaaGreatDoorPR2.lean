import Derived.Test.YtcbfbefpbjmglaaGreatDoorZ
import Derived.Test.YtcbfbefpbjmglaaGreatDoorPRa
import Derived.Test.YtcbfbefpbjmglaaGreatDoorPRc
import Derived.Test.YtcbfbefpbjmglaaGreatDoorMR0
set_option maxHeartbeats 8000000
set_option maxRecDepth 100000
set_option linter.unusedSimpArgs false
set_option linter.unusedVariables false
namespace Go.Proofs.YtcbfbefpbjmglaaGreatDoor.PA
open Go.RowKit YtcbfbefpbjmglaaGreatDoorT YtcbfbefpbjmglaaGreatDoorW PrintWords PrintLast PrintMore
attribute [local go_sem] max2_int min2_int max_two min_two max_three min_three max_four min_four
def burinref03_spelt.f (k : Nat) (l0 : List (S55)) : Option (Bool) := (burinref03_Bare.f k l0).bind fun t249 => ((burinref02_Same.f k l0 t249).bind fun t252 => (if t252 = true then ((burinref02_Spell.f k l0).bind fun t253 => ((burinref02_Lex.f (([(⟨1, t253⟩ : S63)] : List (S63)))).bind fun bt257 => (if bt257.2.1 = 0 then ((burinref03_Bare.f k bt257.1).bind fun t262 => ((burinref02_Same.f k l0 t262).bind fun t265 => (some t265))) else (some false)))) else (some false)))
theorem burinref03_spelt.calls (k : Nat) (A0 : Option Addr) (c0 : Nat) (l0 : List (S55)) (r : Bool) (w : World) (hr0 : Kd.C k55 w A0 l0.length l0) (hc0 : l0.length ≤ c0) (h : burinref03_spelt.f k l0 = some r) :
  Calls Tryz.prog 58 #[.slice A0 l0.length c0] w fun e w' => e = .returned (.bool r) ∧ Below w.heap.size w w' := by
 have hu28 := Tryz.underlying63
 have HR0 := Az.mk hr0
 have HC0 := Az.mk hc0
 clear hr0 hc0
 have HB := Az.mk (Below.refl w.heap.size w)
 have H : ((burinref03_Bare.f k l0).bind fun t249 => ((burinref02_Same.f k l0 t249).bind fun t252 => (if t252 = true then ((burinref02_Spell.f k l0).bind fun t253 => ((burinref02_Lex.f (([(⟨1, t253⟩ : S63)] : List (S63)))).bind fun bt257 => (if bt257.2.1 = 0 then ((burinref03_Bare.f k bt257.1).bind fun t262 => ((burinref02_Same.f k l0 t262).bind fun t265 => (some t265))) else (some false)))) else (some false)))) = some r := h
 clear h
 replace H := Option.bind_eq_some_iff.mp H
 obtain ⟨t249, A20, H⟩ := H
 replace H : ((burinref02_Same.f k l0 t249).bind fun t252 => (if t252 = true then ((burinref02_Spell.f k l0).bind fun t253 => ((burinref02_Lex.f (([(⟨1, t253⟩ : S63)] : List (S63)))).bind fun bt257 => (if bt257.2.1 = 0 then ((burinref03_Bare.f k bt257.1).bind fun t262 => ((burinref02_Same.f k l0 t262).bind fun t265 => (some t265))) else (some false)))) else (some false))) = some r := H
 have A2 := Az.mk A20
 clear A20
 replace H := Option.bind_eq_some_iff.mp H
 obtain ⟨t252, A30, H⟩ := H
 replace H : (if t252 = true then ((burinref02_Spell.f k l0).bind fun t253 => ((burinref02_Lex.f (([(⟨1, t253⟩ : S63)] : List (S63)))).bind fun bt257 => (if bt257.2.1 = 0 then ((burinref03_Bare.f k bt257.1).bind fun t262 => ((burinref02_Same.f k l0 t262).bind fun t265 => (some t265))) else (some false)))) else (some false)) = some r := H
 have A3 := Az.mk A30
 clear A30
 by_cases c4 : t252 = true
 ·subst c4
  have H1 : ((burinref02_Spell.f k l0).bind fun t253 => ((burinref02_Lex.f (([(⟨1, t253⟩ : S63)] : List (S63)))).bind fun bt257 => (if bt257.2.1 = 0 then ((burinref03_Bare.f k bt257.1).bind fun t262 => ((burinref02_Same.f k l0 t262).bind fun t265 => (some t265))) else (some false)))) = some r := by rw [if_pos rfl] at H; exact H
  clear H
  have H := H1
  clear H1
  replace H := Option.bind_eq_some_iff.mp H
  obtain ⟨t253, A50, H⟩ := H
  replace H : ((burinref02_Lex.f (([(⟨1, t253⟩ : S63)] : List (S63)))).bind fun bt257 => (if bt257.2.1 = 0 then ((burinref03_Bare.f k bt257.1).bind fun t262 => ((burinref02_Same.f k l0 t262).bind fun t265 => (some t265))) else (some false))) = some r := H
  have A5 := Az.mk A50
  clear A50
  obtain ⟨y254, hy254⟩ : ∃ y_ : List (S63), y_ = (([(⟨1, t253⟩ : S63)] : List (S63))) := ⟨_, rfl⟩
  replace H : ((burinref02_Lex.f y254).bind fun bt257 => (if bt257.2.1 = 0 then ((burinref03_Bare.f k bt257.1).bind fun t262 => ((burinref02_Same.f k l0 t262).bind fun t265 => (some t265))) else (some false))) = some r := by first | (rw [hy254]; with_reducible exact H) | (have H2_ := (Option.bind_some _ _).symm.trans H; rw [hy254]; with_reducible exact H2_) | (have H2_ := (Option.bind_some _ _).symm.trans H; with_reducible exact H2_) | with_reducible exact H | (rw [hy254]; exact H) | exact H
  have Ny254 := Az.mk hy254
  clear hy254
  replace H := Option.bind_eq_some_iff.mp H
  obtain ⟨⟨t257, t258, t259⟩, A60, H⟩ := H
  replace H : (if t258 = 0 then ((burinref03_Bare.f k t257).bind fun t262 => ((burinref02_Same.f k l0 t262).bind fun t265 => (some t265))) else (some false)) = some r := H
  have A6 := Az.mk A60
  clear A60
  by_cases c7 : t258 = 0
  ·rw [if_pos c7] at H
   have c7b0 : (t258 == 0) = true := beq_iff_eq.mpr c7
   have c7b1 : (t258 != 0) = false := bne_eq_false_iff_eq.mpr c7
   clear c7
   replace H := Option.bind_eq_some_iff.mp H
   obtain ⟨t262, A80, H⟩ := H
   replace H : ((burinref02_Same.f k l0 t262).bind fun t265 => (some t265)) = some r := H
   have A8 := Az.mk A80
   clear A80
   replace H := Option.bind_eq_some_iff.mp H
   obtain ⟨t265, A90, H⟩ := H
   replace H : (some t265) = some r := H
   have A9 := Az.mk A90
   clear A90
   obtain rfl := Option.some.inj H
   go_enter Tryz.func58, Tryz.ntmps58
   go_wp2_with (first | ((with_reducible refine gC (f := 78) rfl ?_); refine goesL_ (some 8) rfl rfl Tryz.func78 (by kernel_rfl) rfl #[.slice A0 l0.length c0] rfl (by (try simp only [List.map_toArray, List.map_cons, List.map_nil]); first | done | rfl | (simp only [List.length_drop, List.length_take]; rfl)) ?_; (with_reducible refine (burinref03_Bare.calls k _ _ l0 t249 _ ?side1 ?side2 A2.out).mono ?_); (case side1 => repeat (first | exact HR0.out | (with_reducible refine Kd.C_alloc ?_ _) | (with_reducible refine Kd.C_drewN ?_ _) | (with_reducible refine Kd.C_drew ?_))); (case side2 => exact HC0.out); rintro e w10 ⟨v250, rfl, ho0, hb⟩; refine ⟨_, rfl, ?_⟩; have n0_ := Az.mk (Kd.R_lower ho0 (bZ (by repeat (with_reducible first | exact HB.out | apply bA | apply bQ | apply bD)))); have n1_ := Az.mk (bP (by repeat (with_reducible first | exact HB.out | apply bA | apply bQ | apply bD)) hb); clear HB; have HO251 := n0_; have HB := n1_; clear n0_ n1_; (try clear hb); (try clear hb2); (try clear hk); (try clear hi); (try clear ho0); obtain ⟨Ao11, co11, eo11⟩ := Kd.R_slice HO251.out; subst eo11) | ((with_reducible refine gC (f := 27) rfl ?_); refine goesL_ (some 9) rfl rfl Tryz.func27 (by kernel_rfl) rfl #[.slice A0 l0.length c0, .slice Ao11 t249.length co11] rfl (by (try simp only [List.map_toArray, List.map_cons, List.map_nil]); first | done | rfl | (simp only [List.length_drop, List.length_take]; rfl)) ?_; (with_reducible refine (burinref02_Same.calls k _ _ l0 _ _ t249 true _ ?side1 ?side2 ?side3 ?side4 A3.out).mono ?_); (case side1 => repeat (first | exact (Kd.C_below HR0.out HB.out) | (with_reducible refine Kd.C_alloc ?_ _) | (with_reducible refine Kd.C_drewN ?_ _) | (with_reducible refine Kd.C_drew ?_))); (case side2 => exact HC0.out); (case side3 => repeat (first | exact (Kd.R_reads' HO251.out).2.2 | (with_reducible refine Kd.C_alloc ?_ _) | (with_reducible refine Kd.C_drewN ?_ _) | (with_reducible refine Kd.C_drew ?_))); (case side4 => exact (Kd.R_reads' HO251.out).2.1); rintro e w' ⟨rfl, ⟨nd, rfl⟩⟩; refine ⟨_, rfl, ?_⟩) | ((with_reducible refine gC (f := 79) rfl ?_); refine goesL_ (some 13) rfl rfl Tryz.func79 (by kernel_rfl) rfl #[.slice A0 l0.length c0] rfl (by (try simp only [List.map_toArray, List.map_cons, List.map_nil]); first | done | rfl | (simp only [List.length_drop, List.length_take]; rfl)) ?_; (with_reducible refine (burinref02_Spell.calls k _ _ l0 t253 _ ?side1 ?side2 A5.out).mono ?_); (case side1 => repeat (first | exact (Kd.C_below HR0.out (by repeat (with_reducible first | exact HB.out | apply bA | apply bQ | apply bD))) | (with_reducible refine Kd.C_alloc ?_ _) | (with_reducible refine Kd.C_drewN ?_ _) | (with_reducible refine Kd.C_drew ?_))); (case side2 => exact HC0.out); rintro e w12 ⟨rfl, hb⟩; refine ⟨_, rfl, ?_⟩; have n0_ := Az.mk (Kd.R_below (by (with_reducible repeat (first | apply Kd.R_alloc | apply Kd.R_drewN | apply Kd.R_drew)); exact HO251.out) hb); have n1_ := Az.mk (bP (by repeat (with_reducible first | exact HB.out | apply bA | apply bQ | apply bD)) hb); clear HO251; clear HB; have HO251 := n0_; have HB := n1_; clear n0_ n1_; (try clear hb); (try clear hb2); (try clear hk); (try clear hi)) | ((with_reducible refine gate_dst (N := 15) rfl ?_); refine Kd.R_lit k63 _ 63 ?hg (N := 15) ?hd (xs := ([(⟨1, t253⟩ : S63)] : List (S63))) (inner := [.int .i64 1, .string t253]) (ok := fun _ => True) (okp := fun _ => True) ?hr ?hp (fun _ hk => hk) trivial (Below.refl _ _) (Nat.le_refl _) (by simp) ?_; (case hd => rfl); (case hg => rfl); (case hr => first | (go_simp; done) | (go_simp; rfl)); (case hp => exact (Reps.c2 (show Kd.M k63 _ _ _ (⟨1, t253⟩ : S63) [.int .i64 1, .string t253] from (k63_mkM _ _ _ (⟨1, t253⟩ : S63) )) (Reps.none _ _))); intro v255 w13 ho14 hb hg_ hnew_; clear hg_ hnew_; (first | rw [← Ny254.out] at ho14 | (simp only [Int.reduceToNat] at ho14; rw [← Ny254.out] at ho14)); have n0_ := Az.mk (Kd.R_below (by (with_reducible repeat (first | apply Kd.R_alloc | apply Kd.R_drewN | apply Kd.R_drew)); exact HO251.out) hb); have n1_ := Az.mk (Kd.R_lower ho14 (bZ (by repeat (with_reducible first | exact HB.out | apply bA | apply bQ | apply bD)))); have n2_ := Az.mk (bP (by repeat (with_reducible first | exact HB.out | apply bA | apply bQ | apply bD)) hb); clear HO251; clear HB; have HO251 := n0_; have HO256 := n1_; have HB := n2_; clear n0_ n1_ n2_; clear hb ho14; obtain ⟨Ao15, co15, eo15⟩ := Kd.R_slice HO256.out; subst eo15) | ((with_reducible refine gC (f := 77) rfl ?_); refine goesL_ (some 16) rfl rfl Tryz.func77 (by kernel_rfl) rfl #[.slice Ao15 y254.length co15] rfl (by (try simp only [List.map_toArray, List.map_cons, List.map_nil]); first | done | rfl | (simp only [List.length_drop, List.length_take]; rfl)) ?_; (with_reducible refine (burinref02_Lex.calls _ _ y254 t257 t258 t259 _ ?side1 ?side2 A6.out).mono ?_); (case side1 => repeat (first | exact (Kd.R_reads' HO256.out).2.2 | (with_reducible refine Kd.C_alloc ?_ _) | (with_reducible refine Kd.C_drewN ?_ _) | (with_reducible refine Kd.C_drew ?_))); (case side2 => exact (Kd.R_reads' HO256.out).2.1); rintro e w16 ⟨v260, rfl, ho0, hb⟩; refine ⟨_, rfl, ?_⟩; have n0_ := Az.mk (Kd.R_elder' (by (with_reducible repeat (first | apply Kd.R_alloc | apply Kd.R_drewN | apply Kd.R_drew)); exact HO251.out) (Kd.R_base ho0) hb); have n1_ := Az.mk (Kd.R_below (by (with_reducible repeat (first | apply Kd.R_alloc | apply Kd.R_drewN | apply Kd.R_drew)); exact HO256.out) hb); have n2_ := Az.mk (Kd.R_lower (Kd.R_new' ho0 (Kd.R_lt (by (with_reducible repeat (first | apply Kd.R_alloc | apply Kd.R_drewN | apply Kd.R_drew)); exact HO251.out))) (bZ (by repeat (with_reducible first | exact HB.out | apply bA | apply bQ | apply bD)))); have n3_ := Az.mk (bP (by repeat (with_reducible first | exact HB.out | apply bA | apply bQ | apply bD)) hb); clear HO251; clear HO256; clear HB; have HO251 := n0_; have HO256 := n1_; have HO261 := n2_; have HB := n3_; clear n0_ n1_ n2_ n3_; (try clear hb); (try clear hb2); (try clear hk); (try clear hi); (try clear ho0); obtain ⟨Ao17, co17, eo17⟩ := Kd.R_slice HO261.out; subst eo17) | (go_at_call 78; (with_reducible refine (burinref03_Bare.calls k _ _ t257 t262 _ ?side1 ?side2 A8.out).mono ?_); (case side1 => repeat (first | exact (Kd.R_reads' HO261.out).2.2 | (with_reducible refine Kd.C_alloc ?_ _) | (with_reducible refine Kd.C_drewN ?_ _) | (with_reducible refine Kd.C_drew ?_))); (case side2 => exact (Kd.R_reads' HO261.out).2.1); rintro e w18 ⟨v263, rfl, ho0, hb⟩; have n0_ := Az.mk (Kd.R_elder' (by (with_reducible repeat (first | apply Kd.R_alloc | apply Kd.R_drewN | apply Kd.R_drew)); exact HO251.out) (Kd.R_base ho0) hb); have n1_ := Az.mk (Kd.R_below (by (with_reducible repeat (first | apply Kd.R_alloc | apply Kd.R_drewN | apply Kd.R_drew)); exact HO256.out) hb); have n2_ := Az.mk (Kd.R_elder' (by (with_reducible repeat (first | apply Kd.R_alloc | apply Kd.R_drewN | apply Kd.R_drew)); exact HO261.out) (Kd.R_base ho0) hb); have n3_ := Az.mk (Kd.R_lower (Kd.R_new' (Kd.R_new' ho0 (Kd.R_lt (by (with_reducible repeat (first | apply Kd.R_alloc | apply Kd.R_drewN | apply Kd.R_drew)); exact HO251.out))) (Kd.R_lt (by (with_reducible repeat (first | apply Kd.R_alloc | apply Kd.R_drewN | apply Kd.R_drew)); exact HO261.out))) (bZ (by repeat (with_reducible first | exact HB.out | apply bA | apply bQ | apply bD)))); have n4_ := Az.mk (bP (by repeat (with_reducible first | exact HB.out | apply bA | apply bQ | apply bD)) hb); clear HO251; clear HO256; clear HO261; clear HB; have HO251 := n0_; have HO256 := n1_; have HO261 := n2_; have HO264 := n3_; have HB := n4_; clear n0_ n1_ n2_ n3_ n4_; (try clear hb); (try clear hb2); (try clear hk); (try clear hi); (try clear ho0); obtain ⟨Ao19, co19, eo19⟩ := Kd.R_slice HO264.out; subst eo19) | (go_at_call 27; (with_reducible refine (burinref02_Same.calls k _ _ l0 _ _ t262 t265 _ ?side1 ?side2 ?side3 ?side4 A9.out).mono ?_); (case side1 => repeat (first | exact (Kd.C_below HR0.out HB.out) | (with_reducible refine Kd.C_alloc ?_ _) | (with_reducible refine Kd.C_drewN ?_ _) | (with_reducible refine Kd.C_drew ?_))); (case side2 => exact HC0.out); (case side3 => repeat (first | exact (Kd.R_reads' HO264.out).2.2 | (with_reducible refine Kd.C_alloc ?_ _) | (with_reducible refine Kd.C_drewN ?_ _) | (with_reducible refine Kd.C_drew ?_))); (case side4 => exact (Kd.R_reads' HO264.out).2.1); rintro e w' ⟨rfl, ⟨nd, rfl⟩⟩))
   go_ret
   exact ⟨by first | rfl | (simp [eN, eS] <;> rfl) | (simp [*, eN, eS] <;> rfl), by repeat (with_reducible first | exact HB.out | apply bA | apply bQ | apply bD)⟩
  ·rw [if_neg c7] at H
   have c7b0 : (t258 == 0) = false := beq_eq_false_iff_ne.mpr c7
   have c7b1 : (t258 != 0) = true := bne_iff_ne.mpr c7
   obtain rfl := Option.some.inj H
   go_enter Tryz.func58, Tryz.ntmps58
   go_wp2_with (first | ((with_reducible refine gC (f := 78) rfl ?_); refine goesL_ (some 8) rfl rfl Tryz.func78 (by kernel_rfl) rfl #[.slice A0 l0.length c0] rfl (by (try simp only [List.map_toArray, List.map_cons, List.map_nil]); first | done | rfl | (simp only [List.length_drop, List.length_take]; rfl)) ?_; (with_reducible refine (burinref03_Bare.calls k _ _ l0 t249 _ ?side1 ?side2 A2.out).mono ?_); (case side1 => repeat (first | exact HR0.out | (with_reducible refine Kd.C_alloc ?_ _) | (with_reducible refine Kd.C_drewN ?_ _) | (with_reducible refine Kd.C_drew ?_))); (case side2 => exact HC0.out); rintro e w20 ⟨v250, rfl, ho0, hb⟩; refine ⟨_, rfl, ?_⟩; have n0_ := Az.mk (Kd.R_lower ho0 (bZ (by repeat (with_reducible first | exact HB.out | apply bA | apply bQ | apply bD)))); have n1_ := Az.mk (bP (by repeat (with_reducible first | exact HB.out | apply bA | apply bQ | apply bD)) hb); clear HB; have HO251 := n0_; have HB := n1_; clear n0_ n1_; (try clear hb); (try clear hb2); (try clear hk); (try clear hi); (try clear ho0); obtain ⟨Ao21, co21, eo21⟩ := Kd.R_slice HO251.out; subst eo21) | ((with_reducible refine gC (f := 27) rfl ?_); refine goesL_ (some 9) rfl rfl Tryz.func27 (by kernel_rfl) rfl #[.slice A0 l0.length c0, .slice Ao21 t249.length co21] rfl (by (try simp only [List.map_toArray, List.map_cons, List.map_nil]); first | done | rfl | (simp only [List.length_drop, List.length_take]; rfl)) ?_; (with_reducible refine (burinref02_Same.calls k _ _ l0 _ _ t249 true _ ?side1 ?side2 ?side3 ?side4 A3.out).mono ?_); (case side1 => repeat (first | exact (Kd.C_below HR0.out HB.out) | (with_reducible refine Kd.C_alloc ?_ _) | (with_reducible refine Kd.C_drewN ?_ _) | (with_reducible refine Kd.C_drew ?_))); (case side2 => exact HC0.out); (case side3 => repeat (first | exact (Kd.R_reads' HO251.out).2.2 | (with_reducible refine Kd.C_alloc ?_ _) | (with_reducible refine Kd.C_drewN ?_ _) | (with_reducible refine Kd.C_drew ?_))); (case side4 => exact (Kd.R_reads' HO251.out).2.1); rintro e w' ⟨rfl, ⟨nd, rfl⟩⟩; refine ⟨_, rfl, ?_⟩) | ((with_reducible refine gC (f := 79) rfl ?_); refine goesL_ (some 13) rfl rfl Tryz.func79 (by kernel_rfl) rfl #[.slice A0 l0.length c0] rfl (by (try simp only [List.map_toArray, List.map_cons, List.map_nil]); first | done | rfl | (simp only [List.length_drop, List.length_take]; rfl)) ?_; (with_reducible refine (burinref02_Spell.calls k _ _ l0 t253 _ ?side1 ?side2 A5.out).mono ?_); (case side1 => repeat (first | exact (Kd.C_below HR0.out (by repeat (with_reducible first | exact HB.out | apply bA | apply bQ | apply bD))) | (with_reducible refine Kd.C_alloc ?_ _) | (with_reducible refine Kd.C_drewN ?_ _) | (with_reducible refine Kd.C_drew ?_))); (case side2 => exact HC0.out); rintro e w22 ⟨rfl, hb⟩; refine ⟨_, rfl, ?_⟩; have n0_ := Az.mk (Kd.R_below (by (with_reducible repeat (first | apply Kd.R_alloc | apply Kd.R_drewN | apply Kd.R_drew)); exact HO251.out) hb); have n1_ := Az.mk (bP (by repeat (with_reducible first | exact HB.out | apply bA | apply bQ | apply bD)) hb); clear HO251; clear HB; have HO251 := n0_; have HB := n1_; clear n0_ n1_; (try clear hb); (try clear hb2); (try clear hk); (try clear hi)) | ((with_reducible refine gate_dst (N := 15) rfl ?_); refine Kd.R_lit k63 _ 63 ?hg (N := 15) ?hd (xs := ([(⟨1, t253⟩ : S63)] : List (S63))) (inner := [.int .i64 1, .string t253]) (ok := fun _ => True) (okp := fun _ => True) ?hr ?hp (fun _ hk => hk) trivial (Below.refl _ _) (Nat.le_refl _) (by simp) ?_; (case hd => rfl); (case hg => rfl); (case hr => first | (go_simp; done) | (go_simp; rfl)); (case hp => exact (Reps.c2 (show Kd.M k63 _ _ _ (⟨1, t253⟩ : S63) [.int .i64 1, .string t253] from (k63_mkM _ _ _ (⟨1, t253⟩ : S63) )) (Reps.none _ _))); intro v255 w23 ho24 hb hg_ hnew_; clear hg_ hnew_; (first | rw [← Ny254.out] at ho24 | (simp only [Int.reduceToNat] at ho24; rw [← Ny254.out] at ho24)); have n0_ := Az.mk (Kd.R_below (by (with_reducible repeat (first | apply Kd.R_alloc | apply Kd.R_drewN | apply Kd.R_drew)); exact HO251.out) hb); have n1_ := Az.mk (Kd.R_lower ho24 (bZ (by repeat (with_reducible first | exact HB.out | apply bA | apply bQ | apply bD)))); have n2_ := Az.mk (bP (by repeat (with_reducible first | exact HB.out | apply bA | apply bQ | apply bD)) hb); clear HO251; clear HB; have HO251 := n0_; have HO256 := n1_; have HB := n2_; clear n0_ n1_ n2_; clear hb ho24; obtain ⟨Ao25, co25, eo25⟩ := Kd.R_slice HO256.out; subst eo25) | ((with_reducible refine gC (f := 77) rfl ?_); refine goesL_ (some 16) rfl rfl Tryz.func77 (by kernel_rfl) rfl #[.slice Ao25 y254.length co25] rfl (by (try simp only [List.map_toArray, List.map_cons, List.map_nil]); first | done | rfl | (simp only [List.length_drop, List.length_take]; rfl)) ?_; (with_reducible refine (burinref02_Lex.calls _ _ y254 t257 t258 t259 _ ?side1 ?side2 A6.out).mono ?_); (case side1 => repeat (first | exact (Kd.R_reads' HO256.out).2.2 | (with_reducible refine Kd.C_alloc ?_ _) | (with_reducible refine Kd.C_drewN ?_ _) | (with_reducible refine Kd.C_drew ?_))); (case side2 => exact (Kd.R_reads' HO256.out).2.1); rintro e w26 ⟨v260, rfl, ho0, hb⟩; refine ⟨_, rfl, ?_⟩; have n0_ := Az.mk (Kd.R_elder' (by (with_reducible repeat (first | apply Kd.R_alloc | apply Kd.R_drewN | apply Kd.R_drew)); exact HO251.out) (Kd.R_base ho0) hb); have n1_ := Az.mk (Kd.R_below (by (with_reducible repeat (first | apply Kd.R_alloc | apply Kd.R_drewN | apply Kd.R_drew)); exact HO256.out) hb); have n2_ := Az.mk (Kd.R_lower (Kd.R_new' ho0 (Kd.R_lt (by (with_reducible repeat (first | apply Kd.R_alloc | apply Kd.R_drewN | apply Kd.R_drew)); exact HO251.out))) (bZ (by repeat (with_reducible first | exact HB.out | apply bA | apply bQ | apply bD)))); have n3_ := Az.mk (bP (by repeat (with_reducible first | exact HB.out | apply bA | apply bQ | apply bD)) hb); clear HO251; clear HO256; clear HB; have HO251 := n0_; have HO256 := n1_; have HO261 := n2_; have HB := n3_; clear n0_ n1_ n2_ n3_; (try clear hb); (try clear hb2); (try clear hk); (try clear hi); (try clear ho0)))
   go_ret
   exact ⟨by first | rfl | (simp [eN, eS] <;> rfl) | (simp [*, eN, eS] <;> rfl), by repeat (with_reducible first | exact HB.out | apply bA | apply bQ | apply bD)⟩
 ·replace c4 := Bool.eq_false_iff.mpr c4
  subst c4
  have H1 : (some false) = some r := by rw [if_neg (show ¬ (false = true) by decide)] at H; exact H
  clear H
  have H := H1
  clear H1
  obtain rfl := Option.some.inj H
  go_enter Tryz.func58, Tryz.ntmps58
  go_wp2_with (first | ((with_reducible refine gC (f := 78) rfl ?_); refine goesL_ (some 8) rfl rfl Tryz.func78 (by kernel_rfl) rfl #[.slice A0 l0.length c0] rfl (by (try simp only [List.map_toArray, List.map_cons, List.map_nil]); first | done | rfl | (simp only [List.length_drop, List.length_take]; rfl)) ?_; (with_reducible refine (burinref03_Bare.calls k _ _ l0 t249 _ ?side1 ?side2 A2.out).mono ?_); (case side1 => repeat (first | exact HR0.out | (with_reducible refine Kd.C_alloc ?_ _) | (with_reducible refine Kd.C_drewN ?_ _) | (with_reducible refine Kd.C_drew ?_))); (case side2 => exact HC0.out); rintro e w27 ⟨v250, rfl, ho0, hb⟩; refine ⟨_, rfl, ?_⟩; have n0_ := Az.mk (Kd.R_lower ho0 (bZ (by repeat (with_reducible first | exact HB.out | apply bA | apply bQ | apply bD)))); have n1_ := Az.mk (bP (by repeat (with_reducible first | exact HB.out | apply bA | apply bQ | apply bD)) hb); clear HB; have HO251 := n0_; have HB := n1_; clear n0_ n1_; (try clear hb); (try clear hb2); (try clear hk); (try clear hi); (try clear ho0); obtain ⟨Ao28, co28, eo28⟩ := Kd.R_slice HO251.out; subst eo28) | ((with_reducible refine gC (f := 27) rfl ?_); refine goesL_ (some 9) rfl rfl Tryz.func27 (by kernel_rfl) rfl #[.slice A0 l0.length c0, .slice Ao28 t249.length co28] rfl (by (try simp only [List.map_toArray, List.map_cons, List.map_nil]); first | done | rfl | (simp only [List.length_drop, List.length_take]; rfl)) ?_; (with_reducible refine (burinref02_Same.calls k _ _ l0 _ _ t249 false _ ?side1 ?side2 ?side3 ?side4 A3.out).mono ?_); (case side1 => repeat (first | exact (Kd.C_below HR0.out HB.out) | (with_reducible refine Kd.C_alloc ?_ _) | (with_reducible refine Kd.C_drewN ?_ _) | (with_reducible refine Kd.C_drew ?_))); (case side2 => exact HC0.out); (case side3 => repeat (first | exact (Kd.R_reads' HO251.out).2.2 | (with_reducible refine Kd.C_alloc ?_ _) | (with_reducible refine Kd.C_drewN ?_ _) | (with_reducible refine Kd.C_drew ?_))); (case side4 => exact (Kd.R_reads' HO251.out).2.1); rintro e w' ⟨rfl, ⟨nd, rfl⟩⟩; refine ⟨_, rfl, ?_⟩))
  go_ret
  exact ⟨by first | rfl | (simp [eN, eS] <;> rfl) | (simp [*, eN, eS] <;> rfl), by repeat (with_reducible first | exact HB.out | apply bA | apply bQ | apply bD)⟩
def burinref03_param.l0 : Nat → Int → ByteArray → Bool → List ByteArray → Bool → List (S55) → Int → ByteArray → ByteArray → Int → Bool → Bool → Option (Int)
 | 0, _, _, _, _, _, _, _, _, _, _, _, _ => none
 | k + 1, x5, x267000, x267001, x267002, x267003, x267004, x268000, x268001, x268002, x268003, x268004, x268005 => if x5 < (x267002.length : Int) then (if x268000 = 1 then (if 0 ≤ x5 then (if x268001.toList = (rdOf ByteArray.empty x267002 x5).toList then (some x5) else (burinref03_param.l0 k (wrap64 (x5 + 1)) x267000 x267001 x267002 x267003 x267004 x268000 x268001 x268002 x268003 x268004 x268005)) else (none)) else (burinref03_param.l0 k (wrap64 (x5 + 1)) x267000 x267001 x267002 x267003 x267004 x268000 x268001 x268002 x268003 x268004 x268005)) else (if x267003 = true then (if x268000 = 1 then (if x268001.toList = ([95, 95, 86, 65, 95, 65, 82, 71, 83, 95, 95] : List UInt8) then (some (x267002.length : Int)) else (some (-1))) else (some (-1))) else (some (-1)))
def burinref03_param.f (k : Nat) (a0_0 : ByteArray) (a0_1 : Bool) (l0_2 : List ByteArray) (a0_3 : Bool) (l0_4 : List (S55)) (a1_0 : Int) (a1_1 : ByteArray) (a1_2 : ByteArray) (a1_3 : Int) (a1_4 : Bool) (a1_5 : Bool) : Option (Int) := burinref03_param.l0 k 0 a0_0 a0_1 l0_2 a0_3 l0_4 a1_0 a1_1 a1_2 a1_3 a1_4 a1_5
theorem burinref03_param.calls (k : Nat) (a0_0 : ByteArray) (a0_1 : Bool) (A0_2 : Option Addr) (c0_2 : Nat) (l0_2 : List ByteArray) (a0_3 : Bool) (A0_4 : Option Addr) (c0_4 : Nat) (l0_4 : List (S55)) (a1_0 : Int) (a1_1 : ByteArray) (a1_2 : ByteArray) (a1_3 : Int) (a1_4 : Bool) (a1_5 : Bool) (r : Int) (w : World) (hr0_2 : Kd.C Kd.string w A0_2 l0_2.length l0_2) (hc0_2 : l0_2.length ≤ c0_2) (hr0_4 : Kd.C k55 w A0_4 l0_4.length l0_4) (hc0_4 : l0_4.length ≤ c0_4) (h : burinref03_param.f k a0_0 a0_1 l0_2 a0_3 l0_4 a1_0 a1_1 a1_2 a1_3 a1_4 a1_5 = some r) :
  Calls Tryz.prog 59 #[.agg #[.string a0_0, .bool a0_1, .slice A0_2 l0_2.length c0_2, .bool a0_3, .slice A0_4 l0_4.length c0_4], .agg #[.int .i64 a1_0, .string a1_1, .string a1_2, .int .i64 a1_3, .bool a1_4, .bool a1_5]] w fun e w' => e = .returned (.int .i64 r) ∧ Below w.heap.size w w' := by
 have hu32 := Tryz.underlying33
 have hu48 := Tryz.underlying55
 have HR0_2 := Az.mk hr0_2
 have HC0_2 := Az.mk hc0_2
 clear hr0_2 hc0_2
 have HR0_4 := Az.mk hr0_4
 have HC0_4 := Az.mk hc0_4
 clear hr0_4 hc0_4
 have HB := Az.mk (Below.refl w.heap.size w)
 have H : (burinref03_param.l0 k 0 a0_0 a0_1 l0_2 a0_3 l0_4 a1_0 a1_1 a1_2 a1_3 a1_4 a1_5) = some r := h
 clear h
 have H' := Az.mk H
 clear H
 go_enter Tryz.func59, Tryz.ntmps59
 go_wp2_with (first | ((with_reducible refine gate_dst (N := 2) rfl ?_); refine box_event ?hg (N := 2) ?hd (cs := #[.string a0_0, .bool a0_1, .slice A0_2 l0_2.length c0_2, .bool a0_3, .slice A0_4 l0_4.length c0_4]) (t := 33) ?hr ?_; (case hd => rfl); (case hg => rfl); (case hr => first | (go_simp; done) | (go_simp; rfl)); intro gb266 hg w3 hbox hb; have n0_ := Az.mk (bP (by repeat (with_reducible first | exact HB.out | apply bA | apply bQ | apply bD)) hb); have n1_ := Az.mk (hbox); have n2_ := Az.mk ((by rw [hg]; exact (bZ (by repeat (with_reducible first | exact HB.out | apply bA | apply bQ | apply bD))) : w.heap.size ≤ gb266)); have n3_ := n2_; clear HB; have HB := n0_; have BK266 := n1_; have GW266 := n2_; have GE266 := n3_; clear n0_ n1_ n2_ n3_; clear hb hbox hg) | ((with_reducible refine gate_dst (N := 3) rfl ?_); refine box_event ?hg (N := 3) ?hd (cs := #[.int .i64 a1_0, .string a1_1, .string a1_2, .int .i64 a1_3, .bool a1_4, .bool a1_5]) (t := 55) ?hr ?_; (case hd => rfl); (case hg => rfl); (case hr => first | (go_simp; done) | (go_simp; rfl)); intro gb267 hg w4 hbox hb; have n0_ := Az.mk (blk_below (g := gb266) (o := .cells #[.string a0_0, .bool a0_1, .slice A0_2 l0_2.length c0_2, .bool a0_3, .slice A0_4 l0_4.length c0_4] 33 (0, 0)) (by (with_reducible repeat (first | refine kN ?_ _ | refine kD ?_ | refine kA ?_ _)); exact BK266.out) hb); have n1_ := Az.mk (bP (by repeat (with_reducible first | exact HB.out | apply bA | apply bQ | apply bD | refine bS ?_ GE266.out)) hb); have n2_ := Az.mk (hbox); have n3_ := Az.mk ((by rw [hg]; exact (bZ (by repeat (with_reducible first | exact HB.out | apply bA | apply bQ | apply bD | refine bS ?_ GE266.out))) : w.heap.size ≤ gb267)); have n4_ := n3_; have n5_ := Az.mk ((by rw [hg]; exact Nat.ne_of_lt (blk_lt (g := gb266) (o := .cells #[.string a0_0, .bool a0_1, .slice A0_2 l0_2.length c0_2, .bool a0_3, .slice A0_4 l0_4.length c0_4] 33 (0, 0)) (by (with_reducible repeat (first | refine kN ?_ _ | refine kD ?_ | refine kA ?_ _)); exact BK266.out)) : gb266 ≠ gb267)); have n6_ := Az.mk ((by rw [hg]; exact Nat.ne_of_gt (blk_lt (g := gb266) (o := .cells #[.string a0_0, .bool a0_1, .slice A0_2 l0_2.length c0_2, .bool a0_3, .slice A0_4 l0_4.length c0_4] 33 (0, 0)) (by (with_reducible repeat (first | refine kN ?_ _ | refine kD ?_ | refine kA ?_ _)); exact BK266.out)) : gb267 ≠ gb266)); clear BK266; clear HB; have BK266 := n0_; have HB := n1_; have BK267 := n2_; have GW267 := n3_; have GE267 := n4_; have NB266_267 := n5_; have NB267_266 := n6_; clear n0_ n1_ n2_ n3_ n4_ n5_ n6_; clear hb hbox hg))
 repeat (go_quiet (first | ((with_reducible refine gate_dst (N := 2) rfl ?_); refine box_event ?hg (N := 2) ?hd (cs := #[.string a0_0, .bool a0_1, .slice A0_2 l0_2.length c0_2, .bool a0_3, .slice A0_4 l0_4.length c0_4]) (t := 33) ?hr ?_; (case hd => rfl); (case hg => rfl); (case hr => first | (go_simp; done) | (go_simp; rfl)); intro gb266 hg w3 hbox hb; have n0_ := Az.mk (bP (by repeat (with_reducible first | exact HB.out | apply bA | apply bQ | apply bD)) hb); have n1_ := Az.mk (hbox); have n2_ := Az.mk ((by rw [hg]; exact (bZ (by repeat (with_reducible first | exact HB.out | apply bA | apply bQ | apply bD))) : w.heap.size ≤ gb266)); have n3_ := n2_; clear HB; have HB := n0_; have BK266 := n1_; have GW266 := n2_; have GE266 := n3_; clear n0_ n1_ n2_ n3_; clear hb hbox hg) | ((with_reducible refine gate_dst (N := 3) rfl ?_); refine box_event ?hg (N := 3) ?hd (cs := #[.int .i64 a1_0, .string a1_1, .string a1_2, .int .i64 a1_3, .bool a1_4, .bool a1_5]) (t := 55) ?hr ?_; (case hd => rfl); (case hg => rfl); (case hr => first | (go_simp; done) | (go_simp; rfl)); intro gb267 hg w4 hbox hb; have n0_ := Az.mk (blk_below (g := gb266) (o := .cells #[.string a0_0, .bool a0_1, .slice A0_2 l0_2.length c0_2, .bool a0_3, .slice A0_4 l0_4.length c0_4] 33 (0, 0)) (by (with_reducible repeat (first | refine kN ?_ _ | refine kD ?_ | refine kA ?_ _)); exact BK266.out) hb); have n1_ := Az.mk (bP (by repeat (with_reducible first | exact HB.out | apply bA | apply bQ | apply bD | refine bS ?_ GE266.out)) hb); have n2_ := Az.mk (hbox); have n3_ := Az.mk ((by rw [hg]; exact (bZ (by repeat (with_reducible first | exact HB.out | apply bA | apply bQ | apply bD | refine bS ?_ GE266.out))) : w.heap.size ≤ gb267)); have n4_ := n3_; have n5_ := Az.mk ((by rw [hg]; exact Nat.ne_of_lt (blk_lt (g := gb266) (o := .cells #[.string a0_0, .bool a0_1, .slice A0_2 l0_2.length c0_2, .bool a0_3, .slice A0_4 l0_4.length c0_4] 33 (0, 0)) (by (with_reducible repeat (first | refine kN ?_ _ | refine kD ?_ | refine kA ?_ _)); exact BK266.out)) : gb266 ≠ gb267)); have n6_ := Az.mk ((by rw [hg]; exact Nat.ne_of_gt (blk_lt (g := gb266) (o := .cells #[.string a0_0, .bool a0_1, .slice A0_2 l0_2.length c0_2, .bool a0_3, .slice A0_4 l0_4.length c0_4] 33 (0, 0)) (by (with_reducible repeat (first | refine kN ?_ _ | refine kD ?_ | refine kA ?_ _)); exact BK266.out)) : gb267 ≠ gb266)); clear BK266; clear HB; have BK266 := n0_; have HB := n1_; have BK267 := n2_; have GW267 := n3_; have GE267 := n4_; have NB266_267 := n5_; have NB267_266 := n6_; clear n0_ n1_ n2_ n3_ n4_ n5_ n6_; clear hb hbox hg)); try go_wp2_with (first | ((with_reducible refine gate_dst (N := 2) rfl ?_); refine box_event ?hg (N := 2) ?hd (cs := #[.string a0_0, .bool a0_1, .slice A0_2 l0_2.length c0_2, .bool a0_3, .slice A0_4 l0_4.length c0_4]) (t := 33) ?hr ?_; (case hd => rfl); (case hg => rfl); (case hr => first | (go_simp; done) | (go_simp; rfl)); intro gb266 hg w3 hbox hb; have n0_ := Az.mk (bP (by repeat (with_reducible first | exact HB.out | apply bA | apply bQ | apply bD)) hb); have n1_ := Az.mk (hbox); have n2_ := Az.mk ((by rw [hg]; exact (bZ (by repeat (with_reducible first | exact HB.out | apply bA | apply bQ | apply bD))) : w.heap.size ≤ gb266)); have n3_ := n2_; clear HB; have HB := n0_; have BK266 := n1_; have GW266 := n2_; have GE266 := n3_; clear n0_ n1_ n2_ n3_; clear hb hbox hg) | ((with_reducible refine gate_dst (N := 3) rfl ?_); refine box_event ?hg (N := 3) ?hd (cs := #[.int .i64 a1_0, .string a1_1, .string a1_2, .int .i64 a1_3, .bool a1_4, .bool a1_5]) (t := 55) ?hr ?_; (case hd => rfl); (case hg => rfl); (case hr => first | (go_simp; done) | (go_simp; rfl)); intro gb267 hg w4 hbox hb; have n0_ := Az.mk (blk_below (g := gb266) (o := .cells #[.string a0_0, .bool a0_1, .slice A0_2 l0_2.length c0_2, .bool a0_3, .slice A0_4 l0_4.length c0_4] 33 (0, 0)) (by (with_reducible repeat (first | refine kN ?_ _ | refine kD ?_ | refine kA ?_ _)); exact BK266.out) hb); have n1_ := Az.mk (bP (by repeat (with_reducible first | exact HB.out | apply bA | apply bQ | apply bD | refine bS ?_ GE266.out)) hb); have n2_ := Az.mk (hbox); have n3_ := Az.mk ((by rw [hg]; exact (bZ (by repeat (with_reducible first | exact HB.out | apply bA | apply bQ | apply bD | refine bS ?_ GE266.out))) : w.heap.size ≤ gb267)); have n4_ := n3_; have n5_ := Az.mk ((by rw [hg]; exact Nat.ne_of_lt (blk_lt (g := gb266) (o := .cells #[.string a0_0, .bool a0_1, .slice A0_2 l0_2.length c0_2, .bool a0_3, .slice A0_4 l0_4.length c0_4] 33 (0, 0)) (by (with_reducible repeat (first | refine kN ?_ _ | refine kD ?_ | refine kA ?_ _)); exact BK266.out)) : gb266 ≠ gb267)); have n6_ := Az.mk ((by rw [hg]; exact Nat.ne_of_gt (blk_lt (g := gb266) (o := .cells #[.string a0_0, .bool a0_1, .slice A0_2 l0_2.length c0_2, .bool a0_3, .slice A0_4 l0_4.length c0_4] 33 (0, 0)) (by (with_reducible repeat (first | refine kN ?_ _ | refine kD ?_ | refine kA ?_ _)); exact BK266.out)) : gb267 ≠ gb266)); clear BK266; clear HB; have BK266 := n0_; have HB := n1_; have BK267 := n2_; have GW267 := n3_; have GE267 := n4_; have NB266_267 := n5_; have NB267_266 := n6_; clear n0_ n1_ n2_ n3_ n4_ n5_ n6_; clear hb hbox hg)))
 go_loopg [5] k (fun kq v5 w' => ∃ (x5_1 : Int), v5 = .int .i64 x5_1 ∧ Az (burinref03_param.l0 kq x5_1 a0_0 a0_1 l0_2 a0_3 l0_4 a1_0 a1_1 a1_2 a1_3 a1_4 a1_5 = some r) ∧ Az (kq ≤ k) ∧ Az (w'.heap[gb266]? = some (.cells #[.string a0_0, .bool a0_1, (.slice A0_2 l0_2.length c0_2), .bool a0_3, (.slice A0_4 l0_4.length c0_4)] 33 (0, 0))) ∧ Az (w'.heap[gb267]? = some (.cells #[.int .i64 a1_0, .string a1_1, .string a1_2, .int .i64 a1_3, .bool a1_4, .bool a1_5] 55 (0, 0))) ∧ Az (Below w.heap.size w w'))
 case atStart => exact ⟨(0), (by first | rfl | (simp; done) | (simp [*]; done)), H', ⟨Nat.le_refl _⟩, ⟨by (with_reducible repeat (first | refine kN ?_ _ | refine kD ?_ | refine kA ?_ _)); exact BK266.out⟩, ⟨by (with_reducible repeat (first | refine kN ?_ _ | refine kD ?_ | refine kA ?_ _)); exact BK267.out⟩, ⟨by repeat (with_reducible first | exact HB.out | apply bA | apply bQ | apply bD | refine bS ?_ GE266.out | refine bS ?_ GE267.out)⟩⟩
 case round =>
  clear H'
  try clear p2
  obtain ⟨x5_1, rfl, HA, HK1, BK266, BK267, HB⟩ := hrel
  cases gk with
  | zero => exact absurd HA.out (by simp [burinref03_param.l0])
  | succ k1 =>
   have H := HA.out
   clear HA
   simp only [burinref03_param.l0] at H
   by_cases c5 : x5_1 < (l0_2.length : Int)
   ·rw [if_pos c5] at H
    have c5b0 : decide (x5_1 < (l0_2.length : Int)) = true := decide_eq_true c5
    clear c5
    by_cases c6 : a1_0 = 1
    ·rw [if_pos c6] at H
     have c6b0 : (a1_0 == 1) = true := beq_iff_eq.mpr c6
     have c6b1 : (a1_0 != 1) = false := bne_eq_false_iff_eq.mpr c6
     clear c6
     by_cases c7 : 0 ≤ x5_1
     ·rw [if_pos c7] at H
      have c7b0 : decide (0 ≤ x5_1) = true := decide_eq_true c7
      clear c7
      by_cases c8 : a1_1.toList = (rdOf ByteArray.empty l0_2 x5_1).toList
      ·rw [if_pos c8] at H
       have c8b0 : (a1_1.toList == (rdOf ByteArray.empty l0_2 x5_1).toList) = true := beq_iff_eq.mpr c8
       have c8b1 : (a1_1.toList != (rdOf ByteArray.empty l0_2 x5_1).toList) = false := bne_eq_false_iff_eq.mpr c8
       clear c8
       obtain rfl := Option.some.inj H
       have hnb9 := NB266_267.out
       have hnc9 := NB267_266.out
       have hcz10_0 : wr.cell? ⟨gb266, 0, none⟩ = some (.string a0_0) := (bC BK266.out 0).trans rfl
       have hcz10_1 : wr.cell? ⟨gb266, 1, none⟩ = some (.bool a0_1) := (bC BK266.out 1).trans rfl
       have hcz10_2 : wr.cell? ⟨gb266, 2, none⟩ = some (.slice A0_2 l0_2.length c0_2) := (bC BK266.out 2).trans rfl
       have hcz10_3 : wr.cell? ⟨gb266, 3, none⟩ = some (.bool a0_3) := (bC BK266.out 3).trans rfl
       have hcz10_4 : wr.cell? ⟨gb266, 4, none⟩ = some (.slice A0_4 l0_4.length c0_4) := (bC BK266.out 4).trans rfl
       have hfz10_0 := bF BK266.out 0
       have hfz10_1 := bF BK266.out 1
       have hfz10_2 := bF BK266.out 2
       have hfz10_3 := bF BK266.out 3
       have hfz10_4 := bF BK266.out 4
       have hcz11_0 : wr.cell? ⟨gb267, 0, none⟩ = some (.int .i64 a1_0) := (bC BK267.out 0).trans rfl
       have hcz11_1 : wr.cell? ⟨gb267, 1, none⟩ = some (.string a1_1) := (bC BK267.out 1).trans rfl
       have hcz11_2 : wr.cell? ⟨gb267, 2, none⟩ = some (.string a1_2) := (bC BK267.out 2).trans rfl
       have hcz11_3 : wr.cell? ⟨gb267, 3, none⟩ = some (.int .i64 a1_3) := (bC BK267.out 3).trans rfl
       have hcz11_4 : wr.cell? ⟨gb267, 4, none⟩ = some (.bool a1_4) := (bC BK267.out 4).trans rfl
       have hcz11_5 : wr.cell? ⟨gb267, 5, none⟩ = some (.bool a1_5) := (bC BK267.out 5).trans rfl
       have hfz11_0 := bF BK267.out 0
       have hfz11_1 := bF BK267.out 1
       have hfz11_2 := bF BK267.out 2
       have hfz11_3 := bF BK267.out 3
       have hfz11_4 := bF BK267.out 4
       have hfz11_5 := bF BK267.out 5
       have p268 : 0 ≤ (x5_1 : Int) := od (by assumption)
       have q268 : x5_1 < (l0_2.length : Int) := od (by assumption)
       obtain ⟨ad268, e268, hx268_0⟩ := Kd.at_string HR0_2.out x5_1 p268 q268
       cases e268
       replace hx268_0 := (HB.out.cell (cl w _ hx268_0)).trans hx268_0
       replace p268 := eq_true p268
       replace q268 := eq_true q268
       go_wp2
       repeat (go_quiet (fail); try go_wp2)
       go_ret
       exact ⟨by first | rfl | (simp [eN, eS] <;> rfl) | (simp [*, eN, eS] <;> rfl), by repeat (with_reducible first | exact HB.out | apply bA | apply bQ | apply bD | refine bS ?_ GE266.out | refine bS ?_ GE267.out)⟩
      ·rw [if_neg c8] at H
       have c8b0 : (a1_1.toList == (rdOf ByteArray.empty l0_2 x5_1).toList) = false := beq_eq_false_iff_ne.mpr c8
       have c8b1 : (a1_1.toList != (rdOf ByteArray.empty l0_2 x5_1).toList) = true := bne_iff_ne.mpr c8
       have H' := Az.mk H
       clear H
       have hnb12 := NB266_267.out
       have hnc12 := NB267_266.out
       have hcz13_0 : wr.cell? ⟨gb266, 0, none⟩ = some (.string a0_0) := (bC BK266.out 0).trans rfl
       have hcz13_1 : wr.cell? ⟨gb266, 1, none⟩ = some (.bool a0_1) := (bC BK266.out 1).trans rfl
       have hcz13_2 : wr.cell? ⟨gb266, 2, none⟩ = some (.slice A0_2 l0_2.length c0_2) := (bC BK266.out 2).trans rfl
       have hcz13_3 : wr.cell? ⟨gb266, 3, none⟩ = some (.bool a0_3) := (bC BK266.out 3).trans rfl
       have hcz13_4 : wr.cell? ⟨gb266, 4, none⟩ = some (.slice A0_4 l0_4.length c0_4) := (bC BK266.out 4).trans rfl
       have hfz13_0 := bF BK266.out 0
       have hfz13_1 := bF BK266.out 1
       have hfz13_2 := bF BK266.out 2
       have hfz13_3 := bF BK266.out 3
       have hfz13_4 := bF BK266.out 4
       have hcz14_0 : wr.cell? ⟨gb267, 0, none⟩ = some (.int .i64 a1_0) := (bC BK267.out 0).trans rfl
       have hcz14_1 : wr.cell? ⟨gb267, 1, none⟩ = some (.string a1_1) := (bC BK267.out 1).trans rfl
       have hcz14_2 : wr.cell? ⟨gb267, 2, none⟩ = some (.string a1_2) := (bC BK267.out 2).trans rfl
       have hcz14_3 : wr.cell? ⟨gb267, 3, none⟩ = some (.int .i64 a1_3) := (bC BK267.out 3).trans rfl
       have hcz14_4 : wr.cell? ⟨gb267, 4, none⟩ = some (.bool a1_4) := (bC BK267.out 4).trans rfl
       have hcz14_5 : wr.cell? ⟨gb267, 5, none⟩ = some (.bool a1_5) := (bC BK267.out 5).trans rfl
       have hfz14_0 := bF BK267.out 0
       have hfz14_1 := bF BK267.out 1
       have hfz14_2 := bF BK267.out 2
       have hfz14_3 := bF BK267.out 3
       have hfz14_4 := bF BK267.out 4
       have hfz14_5 := bF BK267.out 5
       have p268 : 0 ≤ (x5_1 : Int) := od (by assumption)
       have q268 : x5_1 < (l0_2.length : Int) := od (by assumption)
       obtain ⟨ad268, e268, hx268_0⟩ := Kd.at_string HR0_2.out x5_1 p268 q268
       cases e268
       replace hx268_0 := (HB.out.cell (cl w _ hx268_0)).trans hx268_0
       replace p268 := eq_true p268
       replace q268 := eq_true q268
       go_wp2
       repeat (go_quiet (fail); try go_wp2)
       go_roundg k1
       case measure => have := HK1.out; omega
       case rel => exact ⟨(wrap64 (x5_1 + 1)), (by first | rfl | (simp; done) | (simp [*]; done)), H', ⟨by have := HK1.out; omega⟩, ⟨by (with_reducible repeat (first | refine kN ?_ _ | refine kD ?_ | refine kA ?_ _)); exact BK266.out⟩, ⟨by (with_reducible repeat (first | refine kN ?_ _ | refine kD ?_ | refine kA ?_ _)); exact BK267.out⟩, ⟨by repeat (with_reducible first | exact HB.out | apply bA | apply bQ | apply bD | refine bS ?_ GE266.out | refine bS ?_ GE267.out)⟩⟩
     ·rw [if_neg c7] at H
      exact absurd H (by simp)
    ·rw [if_neg c6] at H
     have c6b0 : (a1_0 == 1) = false := beq_eq_false_iff_ne.mpr c6
     have c6b1 : (a1_0 != 1) = true := bne_iff_ne.mpr c6
     have H' := Az.mk H
     clear H
     have hnb15 := NB266_267.out
     have hnc15 := NB267_266.out
     have hcz16_0 : wr.cell? ⟨gb266, 0, none⟩ = some (.string a0_0) := (bC BK266.out 0).trans rfl
     have hcz16_1 : wr.cell? ⟨gb266, 1, none⟩ = some (.bool a0_1) := (bC BK266.out 1).trans rfl
     have hcz16_2 : wr.cell? ⟨gb266, 2, none⟩ = some (.slice A0_2 l0_2.length c0_2) := (bC BK266.out 2).trans rfl
     have hcz16_3 : wr.cell? ⟨gb266, 3, none⟩ = some (.bool a0_3) := (bC BK266.out 3).trans rfl
     have hcz16_4 : wr.cell? ⟨gb266, 4, none⟩ = some (.slice A0_4 l0_4.length c0_4) := (bC BK266.out 4).trans rfl
     have hfz16_0 := bF BK266.out 0
     have hfz16_1 := bF BK266.out 1
     have hfz16_2 := bF BK266.out 2
     have hfz16_3 := bF BK266.out 3
     have hfz16_4 := bF BK266.out 4
     have hcz17_0 : wr.cell? ⟨gb267, 0, none⟩ = some (.int .i64 a1_0) := (bC BK267.out 0).trans rfl
     have hcz17_1 : wr.cell? ⟨gb267, 1, none⟩ = some (.string a1_1) := (bC BK267.out 1).trans rfl
     have hcz17_2 : wr.cell? ⟨gb267, 2, none⟩ = some (.string a1_2) := (bC BK267.out 2).trans rfl
     have hcz17_3 : wr.cell? ⟨gb267, 3, none⟩ = some (.int .i64 a1_3) := (bC BK267.out 3).trans rfl
     have hcz17_4 : wr.cell? ⟨gb267, 4, none⟩ = some (.bool a1_4) := (bC BK267.out 4).trans rfl
     have hcz17_5 : wr.cell? ⟨gb267, 5, none⟩ = some (.bool a1_5) := (bC BK267.out 5).trans rfl
     have hfz17_0 := bF BK267.out 0
     have hfz17_1 := bF BK267.out 1
     have hfz17_2 := bF BK267.out 2
     have hfz17_3 := bF BK267.out 3
     have hfz17_4 := bF BK267.out 4
     have hfz17_5 := bF BK267.out 5
     go_wp2
     repeat (go_quiet (fail); try go_wp2)
     go_roundg k1
     case measure => have := HK1.out; omega
     case rel => exact ⟨(wrap64 (x5_1 + 1)), (by first | rfl | (simp; done) | (simp [*]; done)), H', ⟨by have := HK1.out; omega⟩, ⟨by (with_reducible repeat (first | refine kN ?_ _ | refine kD ?_ | refine kA ?_ _)); exact BK266.out⟩, ⟨by (with_reducible repeat (first | refine kN ?_ _ | refine kD ?_ | refine kA ?_ _)); exact BK267.out⟩, ⟨by repeat (with_reducible first | exact HB.out | apply bA | apply bQ | apply bD | refine bS ?_ GE266.out | refine bS ?_ GE267.out)⟩⟩
   ·rw [if_neg c5] at H
    have c5b0 : decide (x5_1 < (l0_2.length : Int)) = false := decide_eq_false c5
    clear c5
    by_cases c18 : a0_3 = true
    ·subst c18
     have H1 : (if a1_0 = 1 then (if a1_1.toList = ([95, 95, 86, 65, 95, 65, 82, 71, 83, 95, 95] : List UInt8) then (some (l0_2.length : Int)) else (some (-1))) else (some (-1))) = some r := by rw [if_pos rfl] at H; exact H
     clear H
     have H := H1
     clear H1
     by_cases c19 : a1_0 = 1
     ·rw [if_pos c19] at H
      have c19b0 : (a1_0 == 1) = true := beq_iff_eq.mpr c19
      have c19b1 : (a1_0 != 1) = false := bne_eq_false_iff_eq.mpr c19
      clear c19
      by_cases c20 : a1_1.toList = ([95, 95, 86, 65, 95, 65, 82, 71, 83, 95, 95] : List UInt8)
      ·rw [if_pos c20] at H
       have c20b0 : (a1_1.toList == ([95, 95, 86, 65, 95, 65, 82, 71, 83, 95, 95] : List UInt8)) = true := beq_iff_eq.mpr c20
       have c20b1 : (a1_1.toList != ([95, 95, 86, 65, 95, 65, 82, 71, 83, 95, 95] : List UInt8)) = false := bne_eq_false_iff_eq.mpr c20
       clear c20
       obtain rfl := Option.some.inj H
       have hnb21 := NB266_267.out
       have hnc21 := NB267_266.out
       have hcz22_0 : wr.cell? ⟨gb266, 0, none⟩ = some (.string a0_0) := (bC BK266.out 0).trans rfl
       have hcz22_1 : wr.cell? ⟨gb266, 1, none⟩ = some (.bool a0_1) := (bC BK266.out 1).trans rfl
       have hcz22_2 : wr.cell? ⟨gb266, 2, none⟩ = some (.slice A0_2 l0_2.length c0_2) := (bC BK266.out 2).trans rfl
       have hcz22_3 : wr.cell? ⟨gb266, 3, none⟩ = some (.bool true) := (bC BK266.out 3).trans rfl
       have hcz22_4 : wr.cell? ⟨gb266, 4, none⟩ = some (.slice A0_4 l0_4.length c0_4) := (bC BK266.out 4).trans rfl
       have hfz22_0 := bF BK266.out 0
       have hfz22_1 := bF BK266.out 1
       have hfz22_2 := bF BK266.out 2
       have hfz22_3 := bF BK266.out 3
       have hfz22_4 := bF BK266.out 4
       have hcz23_0 : wr.cell? ⟨gb267, 0, none⟩ = some (.int .i64 a1_0) := (bC BK267.out 0).trans rfl
       have hcz23_1 : wr.cell? ⟨gb267, 1, none⟩ = some (.string a1_1) := (bC BK267.out 1).trans rfl
       have hcz23_2 : wr.cell? ⟨gb267, 2, none⟩ = some (.string a1_2) := (bC BK267.out 2).trans rfl
       have hcz23_3 : wr.cell? ⟨gb267, 3, none⟩ = some (.int .i64 a1_3) := (bC BK267.out 3).trans rfl
       have hcz23_4 : wr.cell? ⟨gb267, 4, none⟩ = some (.bool a1_4) := (bC BK267.out 4).trans rfl
       have hcz23_5 : wr.cell? ⟨gb267, 5, none⟩ = some (.bool a1_5) := (bC BK267.out 5).trans rfl
       have hfz23_0 := bF BK267.out 0
       have hfz23_1 := bF BK267.out 1
       have hfz23_2 := bF BK267.out 2
       have hfz23_3 := bF BK267.out 3
       have hfz23_4 := bF BK267.out 4
       have hfz23_5 := bF BK267.out 5
       go_wp2
       repeat (go_quiet (fail); try go_wp2)
       go_ret
       exact ⟨by first | rfl | (simp [eN, eS] <;> rfl) | (simp [*, eN, eS] <;> rfl), by repeat (with_reducible first | exact HB.out | apply bA | apply bQ | apply bD | refine bS ?_ GE266.out | refine bS ?_ GE267.out)⟩
      ·rw [if_neg c20] at H
       have c20b0 : (a1_1.toList == ([95, 95, 86, 65, 95, 65, 82, 71, 83, 95, 95] : List UInt8)) = false := beq_eq_false_iff_ne.mpr c20
       have c20b1 : (a1_1.toList != ([95, 95, 86, 65, 95, 65, 82, 71, 83, 95, 95] : List UInt8)) = true := bne_iff_ne.mpr c20
       obtain rfl := Option.some.inj H
       have hnb24 := NB266_267.out
       have hnc24 := NB267_266.out
       have hcz25_0 : wr.cell? ⟨gb266, 0, none⟩ = some (.string a0_0) := (bC BK266.out 0).trans rfl
       have hcz25_1 : wr.cell? ⟨gb266, 1, none⟩ = some (.bool a0_1) := (bC BK266.out 1).trans rfl
       have hcz25_2 : wr.cell? ⟨gb266, 2, none⟩ = some (.slice A0_2 l0_2.length c0_2) := (bC BK266.out 2).trans rfl
       have hcz25_3 : wr.cell? ⟨gb266, 3, none⟩ = some (.bool true) := (bC BK266.out 3).trans rfl
       have hcz25_4 : wr.cell? ⟨gb266, 4, none⟩ = some (.slice A0_4 l0_4.length c0_4) := (bC BK266.out 4).trans rfl
       have hfz25_0 := bF BK266.out 0
       have hfz25_1 := bF BK266.out 1
       have hfz25_2 := bF BK266.out 2
       have hfz25_3 := bF BK266.out 3
       have hfz25_4 := bF BK266.out 4
       have hcz26_0 : wr.cell? ⟨gb267, 0, none⟩ = some (.int .i64 a1_0) := (bC BK267.out 0).trans rfl
       have hcz26_1 : wr.cell? ⟨gb267, 1, none⟩ = some (.string a1_1) := (bC BK267.out 1).trans rfl
       have hcz26_2 : wr.cell? ⟨gb267, 2, none⟩ = some (.string a1_2) := (bC BK267.out 2).trans rfl
       have hcz26_3 : wr.cell? ⟨gb267, 3, none⟩ = some (.int .i64 a1_3) := (bC BK267.out 3).trans rfl
       have hcz26_4 : wr.cell? ⟨gb267, 4, none⟩ = some (.bool a1_4) := (bC BK267.out 4).trans rfl
       have hcz26_5 : wr.cell? ⟨gb267, 5, none⟩ = some (.bool a1_5) := (bC BK267.out 5).trans rfl
       have hfz26_0 := bF BK267.out 0
       have hfz26_1 := bF BK267.out 1
       have hfz26_2 := bF BK267.out 2
       have hfz26_3 := bF BK267.out 3
       have hfz26_4 := bF BK267.out 4
       have hfz26_5 := bF BK267.out 5
       go_wp2
       repeat (go_quiet (fail); try go_wp2)
       go_ret
       exact ⟨by first | rfl | (simp [eN, eS] <;> rfl) | (simp [*, eN, eS] <;> rfl), by repeat (with_reducible first | exact HB.out | apply bA | apply bQ | apply bD | refine bS ?_ GE266.out | refine bS ?_ GE267.out)⟩
     ·rw [if_neg c19] at H
      have c19b0 : (a1_0 == 1) = false := beq_eq_false_iff_ne.mpr c19
      have c19b1 : (a1_0 != 1) = true := bne_iff_ne.mpr c19
      obtain rfl := Option.some.inj H
      have hnb27 := NB266_267.out
      have hnc27 := NB267_266.out
      have hcz28_0 : wr.cell? ⟨gb266, 0, none⟩ = some (.string a0_0) := (bC BK266.out 0).trans rfl
      have hcz28_1 : wr.cell? ⟨gb266, 1, none⟩ = some (.bool a0_1) := (bC BK266.out 1).trans rfl
      have hcz28_2 : wr.cell? ⟨gb266, 2, none⟩ = some (.slice A0_2 l0_2.length c0_2) := (bC BK266.out 2).trans rfl
      have hcz28_3 : wr.cell? ⟨gb266, 3, none⟩ = some (.bool true) := (bC BK266.out 3).trans rfl
      have hcz28_4 : wr.cell? ⟨gb266, 4, none⟩ = some (.slice A0_4 l0_4.length c0_4) := (bC BK266.out 4).trans rfl
      have hfz28_0 := bF BK266.out 0
      have hfz28_1 := bF BK266.out 1
      have hfz28_2 := bF BK266.out 2
      have hfz28_3 := bF BK266.out 3
      have hfz28_4 := bF BK266.out 4
      have hcz29_0 : wr.cell? ⟨gb267, 0, none⟩ = some (.int .i64 a1_0) := (bC BK267.out 0).trans rfl
      have hcz29_1 : wr.cell? ⟨gb267, 1, none⟩ = some (.string a1_1) := (bC BK267.out 1).trans rfl
      have hcz29_2 : wr.cell? ⟨gb267, 2, none⟩ = some (.string a1_2) := (bC BK267.out 2).trans rfl
      have hcz29_3 : wr.cell? ⟨gb267, 3, none⟩ = some (.int .i64 a1_3) := (bC BK267.out 3).trans rfl
      have hcz29_4 : wr.cell? ⟨gb267, 4, none⟩ = some (.bool a1_4) := (bC BK267.out 4).trans rfl
      have hcz29_5 : wr.cell? ⟨gb267, 5, none⟩ = some (.bool a1_5) := (bC BK267.out 5).trans rfl
      have hfz29_0 := bF BK267.out 0
      have hfz29_1 := bF BK267.out 1
      have hfz29_2 := bF BK267.out 2
      have hfz29_3 := bF BK267.out 3
      have hfz29_4 := bF BK267.out 4
      have hfz29_5 := bF BK267.out 5
      go_wp2
      repeat (go_quiet (fail); try go_wp2)
      go_ret
      exact ⟨by first | rfl | (simp [eN, eS] <;> rfl) | (simp [*, eN, eS] <;> rfl), by repeat (with_reducible first | exact HB.out | apply bA | apply bQ | apply bD | refine bS ?_ GE266.out | refine bS ?_ GE267.out)⟩
    ·replace c18 := Bool.eq_false_iff.mpr c18
     subst c18
     have H1 : (some (-1)) = some r := by rw [if_neg (show ¬ (false = true) by decide)] at H; exact H
     clear H
     have H := H1
     clear H1
     obtain rfl := Option.some.inj H
     have hnb30 := NB266_267.out
     have hnc30 := NB267_266.out
     have hcz31_0 : wr.cell? ⟨gb266, 0, none⟩ = some (.string a0_0) := (bC BK266.out 0).trans rfl
     have hcz31_1 : wr.cell? ⟨gb266, 1, none⟩ = some (.bool a0_1) := (bC BK266.out 1).trans rfl
     have hcz31_2 : wr.cell? ⟨gb266, 2, none⟩ = some (.slice A0_2 l0_2.length c0_2) := (bC BK266.out 2).trans rfl
     have hcz31_3 : wr.cell? ⟨gb266, 3, none⟩ = some (.bool false) := (bC BK266.out 3).trans rfl
     have hcz31_4 : wr.cell? ⟨gb266, 4, none⟩ = some (.slice A0_4 l0_4.length c0_4) := (bC BK266.out 4).trans rfl
     have hfz31_0 := bF BK266.out 0
     have hfz31_1 := bF BK266.out 1
     have hfz31_2 := bF BK266.out 2
     have hfz31_3 := bF BK266.out 3
     have hfz31_4 := bF BK266.out 4
     go_wp2
     repeat (go_quiet (fail); try go_wp2)
     go_ret
     exact ⟨by first | rfl | (simp [eN, eS] <;> rfl) | (simp [*, eN, eS] <;> rfl), by repeat (with_reducible first | exact HB.out | apply bA | apply bQ | apply bD | refine bS ?_ GE266.out | refine bS ?_ GE267.out)⟩
end Go.Proofs.YtcbfbefpbjmglaaGreatDoor.PA
