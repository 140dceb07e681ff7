import Derived.Test.YtgdkkcdmflopjaaDoorLP7
import Derived.Test.YtgdkkcdmflopjaaDoorLXt
import Derived.Test.YtgdkkcdmflopjaaDoorMR5
import Derived.Lib.LaidTab
import Derived.Test.YtgdkkcdmflopjaaDoorRows
import Derived.Test.YtgdkkcdmflopjaaDoorMF2
namespace Go.Proofs.YtgdkkcdmflopjaaDoor.Mc
open Go.RowKit Go.Proofs.YtgdkkcdmflopjaaDoor.PA Go.Proofs.YtgdkkcdmflopjaaDoor.Pure Go.Proofs.MapFun Go.Proofs.YtgdkkcdmflopjaaDoorW.PrintWords Go.Proofs.YtgdkkcdmflopjaaDoorW.PrintLast Go.Proofs.YtgdkkcdmflopjaaDoorW.PrintMore
set_option linter.unusedVariables false
set_option linter.unusedSimpArgs false
theorem sh56 {v a : Int} (h : v % 256 = a % 256) : (IntKind.u64.wrap (IntKind.u64.wrap v * 72057594037927936) != IntKind.u64.wrap (IntKind.u64.wrap a * 72057594037927936)) = false := by
  rw [bne_eq_false_iff_eq]
  simp only [wrap_u64]
  omega
theorem sh48 {v a : Int} (h : v % 65536 = a % 65536) : (IntKind.u64.wrap (IntKind.u64.wrap v * 281474976710656) != IntKind.u64.wrap (IntKind.u64.wrap a * 281474976710656)) = false := by
  rw [bne_eq_false_iff_eq]
  simp only [wrap_u64]
  omega
theorem sh32 {v a : Int} (h : v % 4294967296 = a % 4294967296) : (IntKind.u64.wrap (IntKind.u64.wrap v * 4294967296) != IntKind.u64.wrap (IntKind.u64.wrap a * 4294967296)) = false := by
  rw [bne_eq_false_iff_eq]
  simp only [wrap_u64]
  omega
set_option maxRecDepth 100000 in
set_option maxHeartbeats 8000000 in
theorem reckons_walk (op a b wd : Int) (sg : Bool) (c1 v1 p1 q1 c2 v2 p2 q2 c3 v3 p3 q3 c4 v4 : Int) (ev1 ev2 ev3 ev4 : List S69)
    (h1 : mach_Run.f (lX op) [hd2] ⟨#[102]⟩ [a, b] [] 20 64 = some (c1, v1, ev1)) (h2 : mach_Run.f (lY op) [hd2] ⟨#[102]⟩ [a, b] [] 20 64 = some (c2, v2, ev2)) (h3 : mach_Run.f (lZ op sg) [hd2] ⟨#[102]⟩ [a, b] [] 20 64 = some (c3, v3, ev3)) (h4 : mach_Run.f (lS wd sg) [hd2] ⟨#[102]⟩ [a, b] [] 20 64 = some (c4, v4, ev4))
    (w1 : arith_Wrap.f 8 op 7 a b = some (p1, q1)) (w2 : arith_Wrap.f 8 op 7 a 0 = some (p2, q2)) (kk : Int) (hk : kk = if sg then 7 else 8) (w3 : arith_Wrap.f 8 op kk a b = some (p3, q3))
    (k1 : (c1 = 0 ∧ q1 = 0 ∧ v1 = p1) ∨ c1 = 190) (k2 : (c2 = 0 ∧ q2 = 0 ∧ v2 = p2) ∨ c2 = 190) (k3 : (c3 = 0 ∧ q3 = 0 ∧ v3 = p3) ∨ c3 = 190) (kf : c1 = 0 ∨ (c1 = 190 ∧ c2 = 0) ∨ (c1 = 190 ∧ c2 = 190 ∧ c3 = 0) ∨ (c1 = 190 ∧ c2 = 190 ∧ c3 = 190 ∧ ¬ (1 ≤ op ∧ op ≤ 14)) ∨ (c1 = 190 ∧ c2 = 190 ∧ c3 = 190 ∧ op = 4) ∨ (c1 = 190 ∧ c2 = 190 ∧ c3 = 190 ∧ op = 5) ∨ (c1 = 190 ∧ c2 = 190 ∧ c3 = 190 ∧ (11 ≤ op ∧ op ≤ 14))) (k4 : (c4 = 0 ∧ ((wd = 1 ∧ v4 % 256 = a % 256) ∨ (wd = 2 ∧ v4 % 65536 = a % 65536) ∨ (wd = 4 ∧ v4 % 4294967296 = a % 4294967296))) ∨ c4 = 190)
    (w : World) (hT : Tab w) : Calls Tryd.prog 6 #[.int .i64 op, .int .i64 a, .int .i64 b, .int .i64 wd, .bool sg] w fun e w' => e = .returned (.bool true) ∧ Below w.heap.size w w' := by
  have HT := Lib.hid hT
  have H1 := Lib.hid h1
  have H2 := Lib.hid h2
  have H3 := Lib.hid h3
  have H4 := Lib.hid h4
  have W1 := Lib.hid w1
  have W2 := Lib.hid w2
  have W3 := Lib.hid w3
  have K1 := Lib.hid k1
  have K2 := Lib.hid k2
  have K3 := Lib.hid k3
  have K4 := Lib.hid k4
  have KF := Lib.hid kf
  have HK := Lib.hid hk
  clear hT h1 h2 h3 h4 w1 w2 w3 k1 k2 k3 k4 kf hk
  go_enter Tryd.func6, Tryd.ntmps6
  go_upto_region 5 with (first
    | (go_at_call 8; refine (shown_calls _ HT.out).mono ?_; rintro e w1 ⟨rfl, hb1⟩; have HB := Lib.hid hb1; clear hb1; have HM0 := alloc_at w1 (cells35 (iMov 0 7)) 35; have m0 : (w1.alloc (.cells #[.int .i64 2, .int .i64 0, .int .i64 7, .int .i64 0, .int .i64 0, .bool false, .int .i64 0, .string ⟨#[]⟩] 35)).cell? ⟨w1.heap.size, 0, none⟩ = some (.int .i64 2) := cell_at HM0 0 rfl; have m1 : (w1.alloc (.cells #[.int .i64 2, .int .i64 0, .int .i64 7, .int .i64 0, .int .i64 0, .bool false, .int .i64 0, .string ⟨#[]⟩] 35)).cell? ⟨w1.heap.size, 1, none⟩ = some (.int .i64 0) := cell_at HM0 1 rfl; have m2 : (w1.alloc (.cells #[.int .i64 2, .int .i64 0, .int .i64 7, .int .i64 0, .int .i64 0, .bool false, .int .i64 0, .string ⟨#[]⟩] 35)).cell? ⟨w1.heap.size, 2, none⟩ = some (.int .i64 7) := cell_at HM0 2 rfl; have m3 : (w1.alloc (.cells #[.int .i64 2, .int .i64 0, .int .i64 7, .int .i64 0, .int .i64 0, .bool false, .int .i64 0, .string ⟨#[]⟩] 35)).cell? ⟨w1.heap.size, 3, none⟩ = some (.int .i64 0) := cell_at HM0 3 rfl; have m4 : (w1.alloc (.cells #[.int .i64 2, .int .i64 0, .int .i64 7, .int .i64 0, .int .i64 0, .bool false, .int .i64 0, .string ⟨#[]⟩] 35)).cell? ⟨w1.heap.size, 4, none⟩ = some (.int .i64 0) := cell_at HM0 4 rfl; have m5 : (w1.alloc (.cells #[.int .i64 2, .int .i64 0, .int .i64 7, .int .i64 0, .int .i64 0, .bool false, .int .i64 0, .string ⟨#[]⟩] 35)).cell? ⟨w1.heap.size, 5, none⟩ = some (.bool false) := cell_at HM0 5 rfl; have m6 : (w1.alloc (.cells #[.int .i64 2, .int .i64 0, .int .i64 7, .int .i64 0, .int .i64 0, .bool false, .int .i64 0, .string ⟨#[]⟩] 35)).cell? ⟨w1.heap.size, 6, none⟩ = some (.int .i64 0) := cell_at HM0 6 rfl; have m7 : (w1.alloc (.cells #[.int .i64 2, .int .i64 0, .int .i64 7, .int .i64 0, .int .i64 0, .bool false, .int .i64 0, .string ⟨#[]⟩] 35)).cell? ⟨w1.heap.size, 7, none⟩ = some (.string ⟨#[]⟩) := cell_at HM0 7 rfl; have HM := Lib.hid HM0; clear HM0)
    | (go_at_call 14; refine (ran_c [iMov 0 7, iTwo 0 6 op] a b c1 v1 ev1 _ 2 _ (lit35n (by simp) _ (by show 2 ≤ maxLen; decide) _ rfl) (Nat.le_refl _) (by show 2 ≤ 1000; decide) H1.out (HT.out.below (below_alloc (below_alloc HB.out _) _))).mono ?_; rintro e w2 ⟨Av2, cv2, nv2, rfl, hb⟩; have HM2 := Lib.hid (blk_stp (blk_all HM.out _) hb); clear HM m0 m1 m2 m3 m4 m5 m6 m7; have HM := HM2; clear HM2; have HB2 := Lib.hid ((below_alloc (below_alloc HB.out _) _).trans (hb.mono (below_size (below_alloc (below_alloc HB.out _) _)))); clear hb HB; have HB := HB2; clear HB2; have HX0 := Lib.hid (box_c w2 c1 v1 (.slice Av2 nv2 cv2)); have HM2 := Lib.hid (blk_all HM.out (.cells #[.int .i64 c1, .int .i64 v1, .slice Av2 nv2 cv2] 29)); clear HM; have HM := HM2; clear HM2)
    | (go_at_call 15; refine (arith_Wrap.calls 8 op 7 a b p1 q1 _ W1.out).mono ?_; rintro e w3 ⟨rfl, hb⟩; have HX1 := blk_stp HX0.out hb; have y0 := cell_at HX1 0 (v := .int .i64 c1) rfl; have y1 := cell_at HX1 1 (v := .int .i64 v1) rfl; have HX := Lib.hid HX1; have HM2 := Lib.hid (blk_stp HM.out hb); clear HM HX0 HX1; have HM := HM2; clear HM2; have HB3 := Lib.hid ((below_alloc HB.out _).trans (hb.mono (below_size (below_alloc HB.out _)))); clear hb HB; have HB := HB3; clear HB3; skip))
  go_cut [53] from 41 to 53 (fun s wc => s = .bool false ∧ wc = w3)
  case first =>
    rcases K1.out with ⟨e1, e2, e3⟩ | e1
    · have b1 : (c1 == 0) = true := by rw [e1]; rfl
      have b2 : (q1 != 0) = false := by rw [e2]; rfl
      have b3 : (v1 != p1) = false := by rw [e3]; simp
      clear e1 e2 e3
      go_wp2
      go_meet
      case rel => exact ⟨rfl, rfl⟩
    · have b1 : (c1 == 0) = false := by rw [e1]; rfl
      clear e1
      go_wp2
      go_meet
      case rel => exact ⟨rfl, rfl⟩
  case rest =>
  obtain ⟨rfl, rfl⟩ := hcut
  obtain ⟨w3, rfl⟩ : ∃ z, z = wc := ⟨wc, rfl⟩
  have m0 : w3.cell? ⟨w1.heap.size, 0, none⟩ = some (.int .i64 2) := cell_at HM.out 0 rfl
  have m1 : w3.cell? ⟨w1.heap.size, 1, none⟩ = some (.int .i64 0) := cell_at HM.out 1 rfl
  have m2 : w3.cell? ⟨w1.heap.size, 2, none⟩ = some (.int .i64 7) := cell_at HM.out 2 rfl
  have m3 : w3.cell? ⟨w1.heap.size, 3, none⟩ = some (.int .i64 0) := cell_at HM.out 3 rfl
  have m4 : w3.cell? ⟨w1.heap.size, 4, none⟩ = some (.int .i64 0) := cell_at HM.out 4 rfl
  have m5 : w3.cell? ⟨w1.heap.size, 5, none⟩ = some (.bool false) := cell_at HM.out 5 rfl
  have m6 : w3.cell? ⟨w1.heap.size, 6, none⟩ = some (.int .i64 0) := cell_at HM.out 6 rfl
  have m7 : w3.cell? ⟨w1.heap.size, 7, none⟩ = some (.string ⟨#[]⟩) := cell_at HM.out 7 rfl
  go_upto_region 9 with (first
    | (go_at_call 14; refine (ran_c [iMov 0 7, iOne 0 op] a b c2 v2 ev2 _ 2 _ (lit35n (by simp) _ (by show 2 ≤ maxLen; decide) _ rfl) (Nat.le_refl _) (by show 2 ≤ 1000; decide) H2.out (HT.out.below (below_alloc HB.out _))).mono ?_; rintro e w4 ⟨Av4, cv4, nv4, rfl, hb⟩; have N_ := Lib.hid (blk_stp (blk_all HM.out _) hb); clear HM; have HM := N_; clear N_; have N_ := Lib.hid (blk_stp (blk_all HX.out _) hb); clear HX; have HX := N_; clear N_; clear m0 m1 m2 m3 m4 m5 m6 m7; clear y0 y1; have HB4 := Lib.hid ((below_alloc HB.out _).trans (hb.mono (below_size (below_alloc HB.out _)))); clear hb HB; have HB := HB4; clear HB4; have HY := Lib.hid (box_c w4 c2 v2 (.slice Av4 nv4 cv4)); have N_ := Lib.hid (blk_all HM.out (.cells #[.int .i64 c2, .int .i64 v2, .slice Av4 nv4 cv4] 29)); clear HM; have HM := N_; clear N_; have N_ := Lib.hid (blk_all HX.out (.cells #[.int .i64 c2, .int .i64 v2, .slice Av4 nv4 cv4] 29)); clear HX; have HX := N_; clear N_)
    | (go_at_call 15; refine (arith_Wrap.calls 8 op 7 a 0 p2 q2 _ W2.out).mono ?_; rintro e w5 ⟨rfl, hb⟩; have N_ := Lib.hid (blk_stp HM.out hb); clear HM; have HM := N_; clear N_; have N_ := Lib.hid (blk_stp HX.out hb); clear HX; have HX := N_; clear N_; have N_ := Lib.hid (blk_stp HY.out hb); clear HY; have HY := N_; clear N_; have y0 := cell_at HY.out 0 (v := .int .i64 c2) rfl; have y1 := cell_at HY.out 1 (v := .int .i64 v2) rfl; have HB5 := Lib.hid ((below_alloc HB.out _).trans (hb.mono (below_size (below_alloc HB.out _)))); clear hb HB; have HB := HB5; clear HB5; skip))
  go_cut [79] from 67 to 79 (fun s wc => s = .bool false ∧ wc = w5)
  case first =>
    rcases K2.out with ⟨e1, e2, e3⟩ | e1
    · have b1 : (c2 == 0) = true := by rw [e1]; rfl
      have b2 : (q2 != 0) = false := by rw [e2]; rfl
      have b3 : (v2 != p2) = false := by rw [e3]; simp
      clear e1 e2 e3
      go_wp2
      go_meet
      case rel => exact ⟨rfl, rfl⟩
    · have b1 : (c2 == 0) = false := by rw [e1]; rfl
      clear e1
      go_wp2
      go_meet
      case rel => exact ⟨rfl, rfl⟩
  case rest =>
  obtain ⟨rfl, rfl⟩ := hcut
  obtain ⟨w5, rfl⟩ : ∃ z, z = wc := ⟨wc, rfl⟩
  go_upto_if 80 with fail
  go_cut [19] from 80 to 80 (fun s wc => s = .int .i64 kk ∧ wc = w5)
  case first =>
    have hk := HK.out
    cases sg with
    | true =>
      clear HK
      go_wp2
      go_meet
      case rel => exact ⟨by rw [hk]; rfl, rfl⟩
    | false =>
      clear HK
      go_wp2
      go_meet
      case rel => exact ⟨by rw [hk]; rfl, rfl⟩
  case rest =>
  obtain ⟨rfl, rfl⟩ := hcut
  obtain ⟨w5, rfl⟩ : ∃ z, z = wc := ⟨wc, rfl⟩
  have m0 : w5.cell? ⟨w1.heap.size, 0, none⟩ = some (.int .i64 2) := cell_at HM.out 0 rfl
  have m1 : w5.cell? ⟨w1.heap.size, 1, none⟩ = some (.int .i64 0) := cell_at HM.out 1 rfl
  have m2 : w5.cell? ⟨w1.heap.size, 2, none⟩ = some (.int .i64 7) := cell_at HM.out 2 rfl
  have m3 : w5.cell? ⟨w1.heap.size, 3, none⟩ = some (.int .i64 0) := cell_at HM.out 3 rfl
  have m4 : w5.cell? ⟨w1.heap.size, 4, none⟩ = some (.int .i64 0) := cell_at HM.out 4 rfl
  have m5 : w5.cell? ⟨w1.heap.size, 5, none⟩ = some (.bool false) := cell_at HM.out 5 rfl
  have m6 : w5.cell? ⟨w1.heap.size, 6, none⟩ = some (.int .i64 0) := cell_at HM.out 6 rfl
  have m7 : w5.cell? ⟨w1.heap.size, 7, none⟩ = some (.string ⟨#[]⟩) := cell_at HM.out 7 rfl
  go_upto_region 16 with (first
    | (go_at_call 14; refine (ran_c [iMov 0 7, iMov 1 6, iShift 0 op sg] a b c3 v3 ev3 _ 3 _ (lit35n (by simp) _ (by show 3 ≤ maxLen; decide) _ rfl) (Nat.le_refl _) (by show 3 ≤ 1000; decide) H3.out (HT.out.below (below_alloc HB.out _))).mono ?_; rintro e w6 ⟨Av6, cv6, nv6, rfl, hb⟩; have N_ := Lib.hid (blk_stp (blk_all HM.out _) hb); clear HM; have HM := N_; clear N_; have N_ := Lib.hid (blk_stp (blk_all HX.out _) hb); clear HX; have HX := N_; clear N_; have N_ := Lib.hid (blk_stp (blk_all HY.out _) hb); clear HY; have HY := N_; clear N_; clear m0 m1 m2 m3 m4 m5 m6 m7; clear y0 y1; have HB6 := Lib.hid ((below_alloc HB.out _).trans (hb.mono (below_size (below_alloc HB.out _)))); clear hb HB; have HB := HB6; clear HB6; have HZ := Lib.hid (box_c w6 c3 v3 (.slice Av6 nv6 cv6)); have N_ := Lib.hid (blk_all HM.out (.cells #[.int .i64 c3, .int .i64 v3, .slice Av6 nv6 cv6] 29)); clear HM; have HM := N_; clear N_; have N_ := Lib.hid (blk_all HX.out (.cells #[.int .i64 c3, .int .i64 v3, .slice Av6 nv6 cv6] 29)); clear HX; have HX := N_; clear N_; have N_ := Lib.hid (blk_all HY.out (.cells #[.int .i64 c3, .int .i64 v3, .slice Av6 nv6 cv6] 29)); clear HY; have HY := N_; clear N_)
    | (go_at_call 15; refine (arith_Wrap.calls 8 op kk a b p3 q3 _ W3.out).mono ?_; rintro e w7 ⟨rfl, hb⟩; have N_ := Lib.hid (blk_stp HM.out hb); clear HM; have HM := N_; clear N_; have N_ := Lib.hid (blk_stp HX.out hb); clear HX; have HX := N_; clear N_; have N_ := Lib.hid (blk_stp HY.out hb); clear HY; have HY := N_; clear N_; have N_ := Lib.hid (blk_stp HZ.out hb); clear HZ; have HZ := N_; clear N_; have y0 := cell_at HZ.out 0 (v := .int .i64 c3) rfl; have y1 := cell_at HZ.out 1 (v := .int .i64 v3) rfl; have HB7 := Lib.hid ((below_alloc HB.out _).trans (hb.mono (below_size (below_alloc HB.out _)))); clear hb HB; have HB := HB7; clear HB7; skip))
  go_cut [110] from 98 to 110 (fun s wc => s = .bool false ∧ wc = w7)
  case first =>
    rcases K3.out with ⟨e1, e2, e3⟩ | e1
    · have b1 : (c3 == 0) = true := by rw [e1]; rfl
      have b2 : (q3 != 0) = false := by rw [e2]; rfl
      have b3 : (v3 != p3) = false := by rw [e3]; simp
      clear e1 e2 e3
      go_wp2
      go_meet
      case rel => exact ⟨rfl, rfl⟩
    · have b1 : (c3 == 0) = false := by rw [e1]; rfl
      clear e1
      go_wp2
      go_meet
      case rel => exact ⟨rfl, rfl⟩
  case rest =>
  obtain ⟨rfl, rfl⟩ := hcut
  obtain ⟨w7, rfl⟩ : ∃ z, z = wc := ⟨wc, rfl⟩
  clear HM
  go_upto_region 20 with (first
    | (go_at_call 14; refine (ran_c [iExt 0 7 wd sg] a b c4 v4 ev4 _ 1 _ (lit35n (by simp) _ (by show 1 ≤ maxLen; decide) _ rfl) (Nat.le_refl _) (by show 1 ≤ 1000; decide) H4.out (HT.out.below (below_alloc HB.out _))).mono ?_; rintro e w8 ⟨Av8, cv8, nv8, rfl, hb⟩; have N_ := Lib.hid (blk_stp (blk_all HX.out _) hb); clear HX; have HX := N_; clear N_; have N_ := Lib.hid (blk_stp (blk_all HY.out _) hb); clear HY; have HY := N_; clear N_; have N_ := Lib.hid (blk_stp (blk_all HZ.out _) hb); clear HZ; have HZ := N_; clear N_; clear y0 y1; have HB8 := Lib.hid ((below_alloc HB.out _).trans (hb.mono (below_size (below_alloc HB.out _)))); clear hb HB; have HB := HB8; clear HB8; have HS := box_c w8 c4 v4 (.slice Av8 nv8 cv8); have y0 := cell_at HS 0 (v := .int .i64 c4) rfl; have y1 := cell_at HS 1 (v := .int .i64 v4) rfl; have HB9 := Lib.hid (below_alloc HB.out (.cells #[.int .i64 c4, .int .i64 v4, .slice Av8 nv8 cv8] 29)); clear HS HB; have HB := HB9; clear HB9; have N_ := Lib.hid (blk_all HX.out (.cells #[.int .i64 c4, .int .i64 v4, .slice Av8 nv8 cv8] 29)); clear HX; have HX := N_; clear N_; have N_ := Lib.hid (blk_all HY.out (.cells #[.int .i64 c4, .int .i64 v4, .slice Av8 nv8 cv8] 29)); clear HY; have HY := N_; clear N_; have N_ := Lib.hid (blk_all HZ.out (.cells #[.int .i64 c4, .int .i64 v4, .slice Av8 nv8 cv8] 29)); clear HZ; have HZ := N_; clear N_))
  obtain ⟨N, hN⟩ : ∃ N, wrap64 (64 - wrap64 (8 * wd)) = N := ⟨_, rfl⟩
  rw [hN]
  have HN := Lib.hid hN
  clear hN
  go_cut [135] from 121 to 135 (fun s wc => s = .bool false ∧ wc = (w8.alloc (.cells #[.int .i64 c4, .int .i64 v4, .slice Av8 nv8 cv8] 29)).drew)
  case first =>
    rcases K4.out with ⟨e1, e2⟩ | e1
    · have b1 : (c4 == 0) = true := by rw [e1]; rfl
      rcases e2 with ⟨hw, hv⟩ | ⟨hw, hv⟩ | ⟨hw, hv⟩
      · subst hw
        have n1 : N = 56 := by rw [← HN.out]; decide +kernel
        subst n1
        clear HN
        clear e1
        go_region
        go_wp2
        go_meet
        case rel => exact ⟨by rw [sh56 hv], rfl⟩
      · subst hw
        have n1 : N = 48 := by rw [← HN.out]; decide +kernel
        subst n1
        clear HN
        clear e1
        go_region
        go_wp2
        go_meet
        case rel => exact ⟨by rw [sh48 hv], rfl⟩
      · subst hw
        have n1 : N = 32 := by rw [← HN.out]; decide +kernel
        subst n1
        clear HN
        clear e1
        go_region
        go_wp2
        go_meet
        case rel => exact ⟨by rw [sh32 hv], rfl⟩
    · have b1 : (c4 == 0) = false := by rw [e1]; rfl
      clear e1
      go_region
      go_wp2
      go_meet
      case rel => exact ⟨rfl, rfl⟩
  case rest =>
  obtain ⟨rfl, rfl⟩ := hcut
  have x0 : (w8.alloc (.cells #[.int .i64 c4, .int .i64 v4, .slice Av8 nv8 cv8] 29)).drew.cell? ⟨w2.heap.size, 0, none⟩ = some (.int .i64 c1) := cell_at HX.out 0 rfl
  have x1 : (w8.alloc (.cells #[.int .i64 c4, .int .i64 v4, .slice Av8 nv8 cv8] 29)).drew.cell? ⟨w4.heap.size, 0, none⟩ = some (.int .i64 c2) := cell_at HY.out 0 rfl
  have x2 : (w8.alloc (.cells #[.int .i64 c4, .int .i64 v4, .slice Av8 nv8 cv8] 29)).drew.cell? ⟨w6.heap.size, 0, none⟩ = some (.int .i64 c3) := cell_at HZ.out 0 rfl
  clear y0 y1
  rcases KF.out with e1 | ⟨e1, e2⟩ | ⟨e1, e2, e3⟩ | ⟨e1, e2, e3, e4⟩ | ⟨e1, e2, e3, e4⟩ | ⟨e1, e2, e3, e4⟩ | ⟨e1, e2, e3, e4⟩
  · skip
    have b1 : (c1 == 0) = true := by rw [e1]; rfl
    go_wp2
    go_ret
    exact ⟨rfl, by repeat (first | exact HB.out | apply below_drew1 | apply pw_below_drewN)⟩
  · skip
    have b1 : (c1 == 0) = false := by rw [e1]; rfl
    have b2 : (c2 == 0) = true := by rw [e2]; rfl
    go_wp2
    go_ret
    exact ⟨rfl, by repeat (first | exact HB.out | apply below_drew1 | apply pw_below_drewN)⟩
  · skip
    have b1 : (c1 == 0) = false := by rw [e1]; rfl
    have b2 : (c2 == 0) = false := by rw [e2]; rfl
    have b3 : (c3 == 0) = true := by rw [e3]; rfl
    go_wp2
    go_ret
    exact ⟨rfl, by repeat (first | exact HB.out | apply below_drew1 | apply pw_below_drewN)⟩
  · skip
    have b1 : (c1 == 0) = false := by rw [e1]; rfl
    have b2 : (c2 == 0) = false := by rw [e2]; rfl
    have b3 : (c3 == 0) = false := by rw [e3]; rfl
    have HBI : Hid (arith_Binary.f op = some false) := Lib.hid (by unfold arith_Binary.f; split <;> first | rfl | (rw [decide_eq_false (by omega)]))
    go_wp2_with (go_at_call 16; refine (arith_Binary.calls op false _ HBI.out).mono ?_; rintro e w9 ⟨rfl, ⟨n9, rfl⟩⟩)
    go_ret
    exact ⟨rfl, by repeat (first | exact HB.out | apply below_drew1 | apply pw_below_drewN)⟩
  · skip
    have b1 : (c1 == 0) = false := by rw [e1]; rfl
    have b2 : (c2 == 0) = false := by rw [e2]; rfl
    have b3 : (c3 == 0) = false := by rw [e3]; rfl
    have HBI : Hid (arith_Binary.f op = some true) := Lib.hid (by unfold arith_Binary.f; rw [if_pos (by omega), decide_eq_true (by omega)])
    have o4 : (op == 4) = true := by rw [e4]; rfl
    clear e4
    go_wp2_with (go_at_call 16; refine (arith_Binary.calls op true _ HBI.out).mono ?_; rintro e w9 ⟨rfl, ⟨n9, rfl⟩⟩)
    go_ret
    exact ⟨rfl, by repeat (first | exact HB.out | apply below_drew1 | apply pw_below_drewN)⟩
  · skip
    have b1 : (c1 == 0) = false := by rw [e1]; rfl
    have b2 : (c2 == 0) = false := by rw [e2]; rfl
    have b3 : (c3 == 0) = false := by rw [e3]; rfl
    have HBI : Hid (arith_Binary.f op = some true) := Lib.hid (by unfold arith_Binary.f; rw [if_pos (by omega), decide_eq_true (by omega)])
    have o4 : (op == 4) = false := by rw [e4]; rfl
    have o5 : (op == 5) = true := by rw [e4]; rfl
    clear e4
    go_wp2_with (go_at_call 16; refine (arith_Binary.calls op true _ HBI.out).mono ?_; rintro e w9 ⟨rfl, ⟨n9, rfl⟩⟩)
    go_ret
    exact ⟨rfl, by repeat (first | exact HB.out | apply below_drew1 | apply pw_below_drewN)⟩
  · skip
    have b1 : (c1 == 0) = false := by rw [e1]; rfl
    have b2 : (c2 == 0) = false := by rw [e2]; rfl
    have b3 : (c3 == 0) = false := by rw [e3]; rfl
    have HBI : Hid (arith_Binary.f op = some true) := Lib.hid (by unfold arith_Binary.f; rw [if_pos (by omega), decide_eq_true (by omega)])
    have o4 : (op == 4) = false := by simp; omega
    have o5 : (op == 5) = false := by simp; omega
    have o6 : (10 < op) = True := eq_true (by omega)
    go_wp2_with (go_at_call 16; refine (arith_Binary.calls op true _ HBI.out).mono ?_; rintro e w9 ⟨rfl, ⟨n9, rfl⟩⟩)
    go_ret
    exact ⟨rfl, by repeat (first | exact HB.out | apply below_drew1 | apply pw_below_drewN)⟩
end Go.Proofs.YtgdkkcdmflopjaaDoor.Mc
namespace Go.Proofs.YtgdkkcdmflopjaaDoor.Mc
open Go.RowKit Go.Proofs.YtgdkkcdmflopjaaDoor.PA Go.Proofs.YtgdkkcdmflopjaaDoor.Pure Go.Proofs.MapFun Go.Proofs.YtgdkkcdmflopjaaDoorW.PrintWords Go.Proofs.YtgdkkcdmflopjaaDoorW.PrintLast Go.Proofs.YtgdkkcdmflopjaaDoorW.PrintMore
set_option linter.unusedVariables false
set_option linter.unusedSimpArgs false
theorem reg_setR (s : St) (i k : Nat) (v : Int) (hi : i < s.r.length) : (s.setR i v).reg k = if i = k then v else s.reg k := by
  simp only [St.reg, St.setR, List.getD_eq_getElem?_getD, List.getElem?_set]
  by_cases h : i = k
  · subst h; simp [hi]
  · simp [h]
theorem lies8 {a : Int} (h : In64 a) : lies a 8 = true := by
  unfold In64 at h
  simp [lies, conv]
  omega
structure PI (W : Nat) (m : List Int) (q : Nat) (s : St) : Prop where
  e : s.e = 0
  pc : s.pc = (q : Int)
  rl : s.r.length = 16
  k : keptOk s
  ml : s.mem.length = W
  r4 : s.reg 4 = 8 * ((W : Int) - 1 - m.length)
  bot : s.mem.getD (W - 1) 0 = -1
  st : ∀ i, i < m.length → s.mem.getD (W - 1 - m.length + i) 0 = m.getD i 0
theorem w64_id {x : Int} (h : -9223372036854775808 ≤ x ∧ x ≤ 9223372036854775807) : wrap64 x = x := by unfold wrap64; omega
theorem PI.step {W : Nat} {m : List Int} {q : Nat} {s : St} (h : PI W m q s) (fl : Option (Int × Int)) : PI W m (q + 1) { s with pc := s.pc + 1, fl := fl } :=
  ⟨h.e, by show s.pc + 1 = _; rw [h.pc]; push_cast; rfl, h.rl, h.k, h.ml, h.r4, h.bot, h.st⟩
theorem PI.setR {W : Nat} {m : List Int} {q : Nat} {s : St} (h : PI W m q s) (d : Nat) (v : Int) (hd : d < 3) : PI W m q (s.setR d v) := by
  have hr : ∀ k, 3 ≤ k → (s.setR d v).reg k = s.reg k := fun k hk => by
    rw [reg_setR s d k v (by rw [h.rl]; omega), if_neg (by omega)]
  refine ⟨h.e, h.pc, by simp [St.setR, h.rl], ?_, h.ml, by rw [hr 4 (by omega)]; exact h.r4, h.bot, h.st⟩
  obtain ⟨k1, k2, k3, k4, k5, k6⟩ := h.k
  exact ⟨by rw [hr _ (by omega)]; exact k1, by rw [hr _ (by omega)]; exact k2, by rw [hr _ (by omega)]; exact k3, by rw [hr _ (by omega)]; exact k4, by rw [hr _ (by omega)]; exact k5, by rw [hr _ (by omega)]; exact k6⟩
theorem PI.push {W : Nat} {m : List Int} {q : Nat} {s : St} (h : PI W m q s) (hW : m.length + 2 ≤ W) (hW' : W ≤ 8192) (v : Int) : PI W (v :: m) (q + 1) (St.push { s with pc := s.pc + 1, fl := none } v) ∧ (St.push { s with pc := s.pc + 1, fl := none } v).reg 0 = s.reg 0 := by
  have e4 : wrap64 (St.reg { s with pc := s.pc + 1, fl := none } 4 - 8) = 8 * ((W : Int) - 1 - ((m.length + 1 : Nat) : Int)) := by
    show wrap64 (s.reg 4 - 8) = _
    rw [h.r4, w64_id (by omega)]; omega
  have hok : wordOk (St.setR { s with pc := s.pc + 1, fl := none } 4 (8 * ((W : Int) - 1 - ((m.length + 1 : Nat) : Int)))) (8 * ((W : Int) - 1 - ((m.length + 1 : Nat) : Int))) = true := by
    refine wordOk_iff.2 ⟨by omega, by omega, ?_⟩
    show _ < ((s.mem.length : Nat) : Int)
    rw [h.ml]; omega
  have hj : (8 * ((W : Int) - 1 - ((m.length + 1 : Nat) : Int)) / 8).toNat = W - 1 - (m.length + 1) := by omega
  have hr : ∀ k, (St.push { s with pc := s.pc + 1, fl := none } v).reg k = if 4 = k then 8 * ((W : Int) - 1 - ((m.length + 1 : Nat) : Int)) else s.reg k := fun k => by
    unfold St.push St.store
    rw [e4, if_pos hok]
    exact reg_setR { s with pc := s.pc + 1, fl := none } 4 k _ (show 4 < s.r.length by rw [h.rl]; omega)
  have hm : (St.push { s with pc := s.pc + 1, fl := none } v).mem = s.mem.set (W - 1 - (m.length + 1)) v := by
    unfold St.push St.store
    rw [e4, if_pos hok, hj]; rfl
  refine ⟨⟨?_, ?_, ?_, ?_, ?_, ?_, ?_, ?_⟩, by rw [hr, if_neg (by decide)]⟩
  · unfold St.push St.store; rw [e4, if_pos hok]; exact h.e
  · unfold St.push St.store; rw [e4, if_pos hok]; show s.pc + 1 = _; rw [h.pc]; push_cast; rfl
  · unfold St.push St.store; rw [e4, if_pos hok]; show (s.r.set _ _).length = _; rw [List.length_set, h.rl]
  · obtain ⟨k1, k2, k3, k4, k5, k6⟩ := h.k
    exact ⟨by rw [hr, if_neg (by decide)]; exact k1, by rw [hr, if_neg (by decide)]; exact k2, by rw [hr, if_neg (by decide)]; exact k3, by rw [hr, if_neg (by decide)]; exact k4, by rw [hr, if_neg (by decide)]; exact k5, by rw [hr, if_neg (by decide)]; exact k6⟩
  · rw [hm, List.length_set, h.ml]
  · rw [hr, if_pos rfl, List.length_cons]
  · rw [hm, List.getD_eq_getElem?_getD, List.getElem?_set, if_neg (by omega), ← List.getD_eq_getElem?_getD]; exact h.bot
  · intro i hi
    rw [hm, List.getD_eq_getElem?_getD, List.getElem?_set]
    rw [List.length_cons] at hi ⊢
    cases i with
    | zero => rw [if_pos (by omega), if_pos (by rw [h.ml]; omega)]; rfl
    | succ i =>
      rw [if_neg (by omega), ← List.getD_eq_getElem?_getD, show W - 1 - (m.length + 1) + (i + 1) = W - 1 - m.length + i by omega]
      exact h.st i (by omega)
theorem PI.pop {W : Nat} {m : List Int} {v : Int} {q : Nat} {s : St} (h : PI W (v :: m) q s) (hW : m.length + 2 ≤ W) (hW' : W ≤ 8192) : (St.pop { s with pc := s.pc + 1, fl := none }).1 = v ∧ PI W m (q + 1) (St.pop { s with pc := s.pc + 1, fl := none }).2 ∧ (St.pop { s with pc := s.pc + 1, fl := none }).2.reg 0 = s.reg 0 := by
  have h4 : St.reg { s with pc := s.pc + 1, fl := none } 4 = 8 * ((W : Int) - 1 - ((m.length + 1 : Nat) : Int)) := h.r4
  have hok : wordOk { s with pc := s.pc + 1, fl := none } (8 * ((W : Int) - 1 - ((m.length + 1 : Nat) : Int))) = true := by
    refine wordOk_iff.2 ⟨by omega, by omega, ?_⟩
    show _ < ((s.mem.length : Nat) : Int)
    rw [h.ml]; omega
  have hl : St.load { s with pc := s.pc + 1, fl := none } (8 * ((W : Int) - 1 - ((m.length + 1 : Nat) : Int))) = (v, { s with pc := s.pc + 1, fl := none }) := by
    unfold St.load
    rw [if_pos hok]
    congr 1
    have := h.st 0 (by simp)
    rw [show (8 * ((W : Int) - 1 - ((m.length + 1 : Nat) : Int)) / 8).toNat = W - 1 - (v :: m).length + 0 by rw [List.length_cons]; omega]
    exact this
  have e8 : wrap64 (8 * ((W : Int) - 1 - ((m.length + 1 : Nat) : Int)) + 8) = 8 * ((W : Int) - 1 - m.length) := by rw [w64_id (by omega)]; omega
  have hp : St.pop { s with pc := s.pc + 1, fl := none } = (v, St.setR { s with pc := s.pc + 1, fl := none } 4 (8 * ((W : Int) - 1 - m.length))) := by
    unfold St.pop
    rw [h4, hl, e8]
  rw [hp]
  have hr : ∀ k, (St.setR { s with pc := s.pc + 1, fl := none } 4 (8 * ((W : Int) - 1 - m.length))).reg k = if 4 = k then 8 * ((W : Int) - 1 - m.length) else s.reg k := fun k =>
    reg_setR { s with pc := s.pc + 1, fl := none } 4 k _ (show 4 < s.r.length by rw [h.rl]; omega)
  refine ⟨rfl, ⟨h.e, ?_, ?_, ?_, h.ml, by rw [hr, if_pos rfl], h.bot, ?_⟩, by rw [hr, if_neg (by decide)]⟩
  · show s.pc + 1 = _; rw [h.pc]; push_cast; rfl
  · show (s.r.set _ _).length = _; rw [List.length_set, h.rl]
  · obtain ⟨k1, k2, k3, k4, k5, k6⟩ := h.k
    exact ⟨by rw [hr, if_neg (by decide)]; exact k1, by rw [hr, if_neg (by decide)]; exact k2, by rw [hr, if_neg (by decide)]; exact k3, by rw [hr, if_neg (by decide)]; exact k4, by rw [hr, if_neg (by decide)]; exact k5, by rw [hr, if_neg (by decide)]; exact k6⟩
  · intro i hi
    have := h.st (i + 1) (by rw [List.length_cons]; omega)
    rw [List.length_cons, show W - 1 - (m.length + 1) + (i + 1) = W - 1 - m.length + i by omega] at this
    exact this
end Go.Proofs.YtgdkkcdmflopjaaDoor.Mc
namespace Go.Proofs.YtgdkkcdmflopjaaDoor.Mc
open Go.RowKit Go.Proofs.YtgdkkcdmflopjaaDoor.PA Go.Proofs.YtgdkkcdmflopjaaDoor.Pure Go.Proofs.MapFun Go.Proofs.YtgdkkcdmflopjaaDoorW.PrintWords Go.Proofs.YtgdkkcdmflopjaaDoorW.PrintLast Go.Proofs.YtgdkkcdmflopjaaDoorW.PrintMore
set_option linter.unusedVariables false
set_option linter.unusedSimpArgs false
theorem lies7 {a : Int} (h : In64 a) : lies a 7 = true := by
  unfold In64 at h
  simp [lies, conv]
  omega
def kOf (sg : Bool) : Int := if sg then 7 else 8
theorem lies_k (sg : Bool) {a : Int} (h : In64 a) : lies a (kOf sg) = true := by
  cases sg with
  | false => exact lies8 h
  | true => exact lies7 h
theorem wrapS_plain {op k a b : Int} (h1 : 1 ≤ op ∧ op ≤ 17) (h2 : op ≠ 17) (h3 : ¬ (11 ≤ op ∧ op ≤ 14)) (h4 : op ≠ 6) (h5 : op ≠ 7) (ha : lies a k = true) (hb : lies b k = true) : wrapS op k a b = (conv k (res op k (tv k a) (tv k b)), 0) := by
  unfold wrapS
  rw [if_pos h1, if_pos ⟨ha, hb⟩, if_neg h2, if_neg h3, if_neg h4, if_neg h5]
theorem conv78 {x y : Int} (h : x % 18446744073709551616 = y % 18446744073709551616) : conv 7 x = conv 8 y := by
  show (x + 9223372036854775808) % 18446744073709551616 - 9223372036854775808 = (y + 9223372036854775808) % 18446744073709551616 - 9223372036854775808
  omega
theorem res1 (k x y : Int) : res 1 k x y = x + y := rfl
theorem res2 (k x y : Int) : res 2 k x y = x - y := rfl
theorem res3 (k x y : Int) : res 3 k x y = x * y := rfl
theorem res15 (k x y : Int) : res 15 k x y = -x := rfl
theorem res16 (k x y : Int) : res 16 k x y = -x - 1 := rfl
theorem res_arith {op a b : Int} (h : op = 1 ∨ op = 2 ∨ op = 3 ∨ op = 15 ∨ op = 16) : res op 7 a b % 18446744073709551616 = res op 8 (a % 18446744073709551616) (b % 18446744073709551616) % 18446744073709551616 := by
  rcases h with rfl | rfl | rfl | rfl | rfl
  · rw [res1, res1]; omega
  · rw [res2, res2]; omega
  · rw [res3, res3, Int.mul_emod]
  · rw [res15, res15]; omega
  · rw [res16, res16]; omega
theorem res_bits {op a b : Int} (h : op = 8 ∨ op = 9 ∨ op = 10) : res op 7 a b % 18446744073709551616 = res op 8 (a % 18446744073709551616) (b % 18446744073709551616) % 18446744073709551616 := by
  have e0 : ∀ k x y, res op k x y = bnum op k x y := fun k x y => by
    unfold res
    rw [if_neg (by omega), if_neg (by omega), if_neg (by omega), if_neg (by omega), if_neg (by omega), if_neg (by omega), if_neg (by omega)]
  have e : ∀ x y, res op 7 x y = wrap64 (bop op x y) := fun x y => by
    rw [e0]; unfold bnum; rw [if_neg (by decide)]
  have e' : ∀ x y, res op 8 x y = bop op x y := fun x y => by
    rw [e0]; unfold bnum; rw [if_pos rfl]
  rw [e, e']
  have h2 : bop op (a % 18446744073709551616) (b % 18446744073709551616) = bop op a b := by
    have := bop_lo op a b
    unfold lo at this
    exact this
  rw [h2]
  unfold wrap64; omega
theorem wrap78 {op a b : Int} (h : (1 ≤ op ∧ op ≤ 3) ∨ (8 ≤ op ∧ op ≤ 10) ∨ op = 15 ∨ op = 16) (ha : In64 a) (hb : In64 b) : wrapS op 7 a b = (wv op 8 a b, 0) := by
  unfold wv
  rw [wrapS_plain (by omega) (by omega) (by omega) (by omega) (by omega) (lies7 ha) (lies7 hb), wrapS_plain (by omega) (by omega) (by omega) (by omega) (by omega) (lies8 ha) (lies8 hb)]
  have ht : ∀ x, tv 7 x = x := fun _ => rfl
  have ht' : ∀ x, tv 8 x = x % 18446744073709551616 := fun _ => rfl
  rw [ht, ht, ht', ht']
  congr 1
  rcases (show (op = 1 ∨ op = 2 ∨ op = 3 ∨ op = 15 ∨ op = 16) ∨ (op = 8 ∨ op = 9 ∨ op = 10) by omega) with h | h
  · exact conv78 (res_arith h)
  · exact conv78 (res_bits h)
theorem and63_eq (b : Int) (hb : In64 b) : Go.bits .and .i64 b 63 = b % 64 := by
  rw [and_i64]
  have e : bop 8 b 63 = b % 64 := by
    unfold bop
    rw [if_pos rfl, bits_and_u64, BitVec.toNat_and, BitVec.toNat_ofInt, BitVec.toNat_ofInt]
    have e2 : ((lo 63) % ((2 ^ 64 : Nat) : Int)).toNat = 2 ^ 6 - 1 := by decide
    rw [e2, Nat.and_two_pow_sub_one_eq_mod]
    unfold lo
    unfold In64 at hb
    simp only [wrap_u64]
    omega
  rw [e, w64_id (by omega)]
theorem wrapS6 {k a b : Int} (ha : lies a k = true) (hb : lies b k = true) : wrapS 6 k a b = (conv k (tv k a * 2 ^ ((b % 18446744073709551616) % wd k).toNat), 0) := by
  unfold wrapS
  rw [if_pos (by decide), if_pos ⟨ha, hb⟩, if_neg (by decide), if_neg (by decide), if_pos rfl]
theorem wrapS7 {k a b : Int} (ha : lies a k = true) (hb : lies b k = true) : wrapS 7 k a b = (conv k (tv k a / 2 ^ ((b % 18446744073709551616) % wd k).toNat), 0) := by
  unfold wrapS
  rw [if_pos (by decide), if_pos ⟨ha, hb⟩, if_neg (by decide), if_neg (by decide), if_neg (by decide), if_pos rfl]
theorem shift_law {op a b : Int} (sg : Bool) (h : op = 6 ∨ op = 7) (ha : In64 a) (hb : In64 b) : wrapS op (kOf sg) a b = (wv op (kOf sg) a (Go.bits .and .i64 b 63), 0) := by
  rw [and63_eq b hb]
  have hb' : In64 (b % 64) := by unfold In64; omega
  have hw : wd (kOf sg) = 64 := by cases sg <;> rfl
  have hc : (b % 18446744073709551616) % 64 = (b % 64 % 18446744073709551616) % 64 := by omega
  unfold wv
  rcases h with rfl | rfl
  · rw [wrapS6 (lies_k sg ha) (lies_k sg hb), wrapS6 (lies_k sg ha) (lies_k sg hb'), hw, hc]
  · rw [wrapS7 (lies_k sg ha) (lies_k sg hb), wrapS7 (lies_k sg ha) (lies_k sg hb'), hw, hc]
theorem kindOf_k (sg : Bool) : kindOfP 8 sg = kOf sg := by cases sg <;> rfl
end Go.Proofs.YtgdkkcdmflopjaaDoor.Mc
namespace Go.Proofs.LaidStrs
open Go.Lib
def strData {H : Type} (ss : List (List UInt8)) : DataW H := .agg (ss.map fun s => .lit (.string s))
def StrsIs (P : Program) (w : World) (name : String) (ss : List (List UInt8)) : Prop := w.var? P name = some (ss.map fun s => Value.string ⟨s.toArray⟩).toArray
theorem cells_of_strs {H : Type} {enc : TypeId × Value → H} {P : Program} {w : World} {base : Nat} {sp : Nat → Bool} {held : Bool} {fuel : Nat} {t e : TypeId} {n : Nat} {cs : List Value} {ss : List (List UInt8)} {p : List MemPlace}
    (ht : P.underlying t = some (.array n e)) (he : P.underlying e = some .string) (hce : P.cellsOf e = 1) (hct : P.cellsOf t = n)
    (h : DataW.trod enc P w base sp held fuel t cs = some (strData ss, p)) : cs = ss.map fun s => Value.string ⟨s.toArray⟩ := by
  cases fuel with
  | zero => simp [DataW.trod] at h
  | succ fuel =>
    simp only [DataW.trod, ht, hce, hct, Nat.mul_one] at h
    split at h
    · rename_i hl
      obtain ⟨xs, hm, hx⟩ := Option.map_eq_some_iff.1 h
      have hxs : xs.map (·.1) = ss.map fun s => (DataW.lit (.string s) : DataW H) := by
        have := congrArg Prod.fst hx
        simpa [strData] using this
      have hxl : xs.length = n := by simpa using mapM_length hm
      have hzl : ss.length = n := by
        have := congrArg List.length hxs
        simp at this
        omega
      apply List.ext_getElem?
      intro i
      by_cases hi : i < n
      · obtain ⟨b, hb, hf⟩ := mapM_at hm i i (by simp [hi])
        obtain ⟨s, hc, rfl, _⟩ := DataW.trod_string he hf
        have h1 : cs[i]? = some (.string s) := by
          have := congrArg (·[0]?) hc
          simpa [List.getElem?_take, List.getElem?_drop] using this
        have h2 : (xs.map (·.1))[i]? = some (DataW.lit (.string s.data.toList) : DataW H) := by simp [hb]
        rw [hxs] at h2
        simp only [List.getElem?_map, Option.map_eq_some_iff, DataW.lit.injEq, Lit.string.injEq] at h2
        obtain ⟨s', hs', hs2⟩ := h2
        rw [h1, List.getElem?_map, hs', hs2]
        simp
      · rw [List.getElem?_eq_none (by omega), List.getElem?_eq_none (by simp; omega)]
    · cases h
theorem strsIs_of_vars {P : Program} {W : World} {name : String} {ss : List (List UInt8)} {rest : List (String × DataW Unit)} {g : Nat} {t e : TypeId} {n : Nat} {ps : List MemPlace}
    (hg : P.globalNamed name = some g) (hty : (P.globals[g]?).map (·.type) = some t) (ht : P.underlying t = some (.array n e)) (he : P.underlying e = some .string) (hce : P.cellsOf e = 1) (hct : P.cellsOf t = n)
    (h : DataW.LaidVars P W ((name, strData ss) :: rest) ps) : StrsIs P W name ss ∧ ∃ q, DataW.LaidVars P W rest q := by
  obtain ⟨g', t', cs, fuel, p, q, hg', ht', hvar, hd, hr, _⟩ := h
  obtain rfl := Option.some.inj (hg.symm.trans hg')
  obtain rfl := Option.some.inj (hty.symm.trans ht')
  refine ⟨?_, q, hr⟩
  unfold StrsIs
  rw [hvar, ← cells_of_strs ht he hce hct hd]
theorem tabIs_of_vars {P : Program} {W : World} {name : String} {k : IntKind} {zs : List Int} {rest : List (String × DataW Unit)} {g : Nat} {t e : TypeId} {n : Nat} {ps : List MemPlace}
    (hg : P.globalNamed name = some g) (hty : (P.globals[g]?).map (·.type) = some t) (ht : P.underlying t = some (.array n e)) (he : P.underlying e = some (.int k)) (hce : P.cellsOf e = 1) (hct : P.cellsOf t = n)
    (h : DataW.LaidVars P W ((name, tabData k zs) :: rest) ps) : TabIs P W name k zs ∧ ∃ q, DataW.LaidVars P W rest q := by
  obtain ⟨g', t', cs, fuel, p, q, hg', ht', hvar, hd, hr, _⟩ := h
  obtain rfl := Option.some.inj (hg.symm.trans hg')
  obtain rfl := Option.some.inj (hty.symm.trans ht')
  refine ⟨?_, q, hr⟩
  unfold TabIs
  rw [hvar, ← cells_of_tab ht he hce hct hd]
theorem StrsIs.cell {P : Program} {W : World} {name : String} {ss : List (List UInt8)} {g : Nat} (h : StrsIs P W name ss) (hg : P.globalNamed name = some g) (i : Nat) (hi : i < ss.length) :
    W.cell? ⟨g, i, none⟩ = some (.string ⟨(ss.getD i []).toArray⟩) := by
  have := World.var?_cell hg h i
  simpa [List.getD, hi] using this
end Go.Proofs.LaidStrs
namespace Go.Proofs.YtgdkkcdmflopjaaDoor.Mc
open Go.Lib Go.Proofs.LaidStrs Go.Proofs.YtgdkkcdmflopjaaDoor
theorem gK : Tryd.prog.globalNamed "burin/mach.kept" = some 0 := by kernel_rfl
theorem gG : Tryd.prog.globalNamed "burin/mach.given" = some 1 := by kernel_rfl
theorem gN : Tryd.prog.globalNamed "burin/kind.names" = some 2 := by kernel_rfl
theorem gL : Tryd.prog.globalNamed "burin/mach.lost" = some 3 := by kernel_rfl
theorem tK : (Tryd.prog.globals[0]?).map (·.type) = some 85 := by kernel_rfl
theorem tG : (Tryd.prog.globals[1]?).map (·.type) = some 85 := by kernel_rfl
theorem tN : (Tryd.prog.globals[2]?).map (·.type) = some 111 := by kernel_rfl
theorem tL : (Tryd.prog.globals[3]?).map (·.type) = some 120 := by kernel_rfl
def laidL : List (String × DataW Unit) := [("burin/kind.names", strData nms), ("burin/mach.given", tabData .i64 givenL), ("burin/mach.kept", tabData .i64 keptL), ("burin/mach.lost", tabData .i64 lostL)]
theorem table {W : World} (h : laidMetH Tryd.prog laidL W) : Tab W := by
  have h0 : laidMet Tryd.prog laidL W := h
  obtain ⟨ps, hv, _⟩ := h0
  obtain ⟨hN, q1, h1⟩ := strsIs_of_vars gN tN Tryd.underlying111 Tryd.underlying9 (by kernel_rfl) (by kernel_rfl) hv
  obtain ⟨hG, q2, h2⟩ := tabIs_of_vars gG tG Tryd.underlying85 Tryd.underlying3 (by kernel_rfl) (by kernel_rfl) h1
  obtain ⟨hK, q3, h3⟩ := tabIs_of_vars gK tK Tryd.underlying85 Tryd.underlying3 (by kernel_rfl) (by kernel_rfl) h2
  obtain ⟨hL, q4, h4⟩ := tabIs_of_vars gL tL Tryd.underlying120 Tryd.underlying3 (by kernel_rfl) (by kernel_rfl) h3
  exact ⟨fun i hi => hK.cell gK i hi, fun i hi => hG.cell gG i hi, fun i hi => hN.cell gN i hi, fun i hi => hL.cell gL i hi⟩
def layB (cs : Array Value) : Obj → Obj
  | .cells _ t frozen => .cells cs t frozen
  | o => o
noncomputable def laidWorld (os : Os) : World :=
  { World.holding Tryd.prog os ⟨#[], #[], []⟩ with heap := ((((World.holding Tryd.prog os ⟨#[], #[], []⟩).heap.modify 0 (layB (keptL.map fun z => Value.int .i64 z).toArray)).modify 1 (layB (givenL.map fun z => Value.int .i64 z).toArray)).modify 2 (layB (nms.map fun s => Value.string ⟨s.toArray⟩).toArray)).modify 3 (layB (lostL.map fun z => Value.int .i64 z).toArray) }
end Go.Proofs.YtgdkkcdmflopjaaDoor.Mc
namespace Go.Proofs.YtgdkkcdmflopjaaDoor.Mc
open Go.RowKit Go.Proofs.YtgdkkcdmflopjaaDoor.PA Go.Proofs.YtgdkkcdmflopjaaDoor.Pure
theorem toP_cut (a w : Int) (sg : Bool) : (w = 1 → toP a (kindOfP w sg) % 256 = a % 256) ∧ (w = 2 → toP a (kindOfP w sg) % 65536 = a % 65536) ∧ (w = 4 → toP a (kindOfP w sg) % 4294967296 = a % 4294967296) := by
  refine ⟨?_, ?_, ?_⟩ <;> rintro rfl
  · cases sg with
    | true => show ((a + 128) % 256 - 128) % 256 = a % 256; omega
    | false => show (a % 256) % 256 = a % 256; omega
  · cases sg with
    | true => show ((a + 32768) % 65536 - 32768) % 65536 = a % 65536; omega
    | false => show (a % 65536) % 65536 = a % 65536; omega
  · cases sg with
    | true => show ((a + 2147483648) % 4294967296 - 2147483648) % 4294967296 = a % 4294967296; omega
    | false => show (a % 4294967296) % 4294967296 = a % 4294967296; omega
theorem wrap_pair (op k a b : Int) (ha : In64 a) (hb : In64 b) : arith_Wrap.f 8 op k a b = some ((wrapS op k a b).1, (wrapS op k a b).2) := wrap_eq 0 op k a b ha.1 ha.2 hb.1 hb.2
theorem machReckons_calls (op a b wd : Int) (sg : Bool) (ha0 : (Lit.int .i64 a).wf = true) (hb0 : (Lit.int .i64 b).wf = true) (w : World) (hT : Tab w) :
    Calls Tryd.prog 6 #[.int .i64 op, .int .i64 a, .int .i64 b, .int .i64 wd, .bool sg] w fun e w' => e = .returned (.bool true) ∧ Below w.heap.size w w' := by
  have ha : In64 a := wf_i64 ha0
  have hb : In64 b := wf_i64 hb0
  have h0 : In64 0 := by unfold In64; omega
  obtain ⟨c1, v1, ev1, h1, r1⟩ := lX_run op a b ha hb
  obtain ⟨c2, v2, ev2, h2, r2⟩ := lY_run op a b ha hb
  obtain ⟨c3, v3, ev3, h3, r3⟩ := lZ_run op a b sg ha hb
  obtain ⟨c4, v4, ev4, h4, r4⟩ := lS_run wd a b sg ha hb
  refine reckons_walk op a b wd sg c1 v1 _ _ c2 v2 _ _ c3 v3 _ _ c4 v4 ev1 ev2 ev3 ev4 h1 h2 h3 h4 (wrap_pair op 7 a b ha hb) (wrap_pair op 7 a 0 ha h0) (kOf sg) (by cases sg <;> rfl) (wrap_pair op (kOf sg) a b ha hb) ?_ ?_ ?_ ?_ ?_ w hT
  · rcases r1 with ⟨rfl, rfl, h⟩ | ⟨rfl, _⟩
    · have := wrap78 (op := op) (by omega) ha hb
      exact .inl ⟨rfl, by rw [this], by rw [this]⟩
    · exact .inr rfl
  · rcases r2 with ⟨rfl, rfl, h⟩ | ⟨rfl, _⟩
    · have := wrap78 (op := op) (by omega) ha h0
      exact .inl ⟨rfl, by rw [this], by rw [this]⟩
    · exact .inr rfl
  · rcases r3 with ⟨rfl, rfl, h⟩ | ⟨rfl, _⟩
    · have := shift_law sg h ha hb
      exact .inl ⟨rfl, by rw [this], by rw [this, kindOf_k]⟩
    · exact .inr rfl
  · rcases r1 with ⟨rfl, _⟩ | ⟨rfl, n1⟩
    · exact .inl rfl
    rcases r2 with ⟨rfl, _⟩ | ⟨rfl, n2⟩
    · exact .inr (.inl ⟨rfl, rfl⟩)
    rcases r3 with ⟨rfl, _⟩ | ⟨rfl, n3⟩
    · exact .inr (.inr (.inl ⟨rfl, rfl, rfl⟩))
    refine .inr (.inr (.inr ?_))
    by_cases g : 1 ≤ op ∧ op ≤ 14
    · refine .inr ?_
      rcases (show op = 4 ∨ op = 5 ∨ (11 ≤ op ∧ op ≤ 14) by omega) with h | h | h
      · exact .inl ⟨rfl, rfl, rfl, h⟩
      · exact .inr (.inl ⟨rfl, rfl, rfl, h⟩)
      · exact .inr (.inr ⟨rfl, rfl, rfl, h⟩)
    · exact .inl ⟨rfl, rfl, rfl, g⟩
  · rcases r4 with ⟨rfl, rfl, h⟩ | ⟨rfl, _⟩
    · obtain ⟨t1, t2, t4⟩ := toP_cut a wd sg
      refine .inl ⟨rfl, ?_⟩
      rcases h with h | h | h
      · exact .inl ⟨h, t1 h⟩
      · exact .inr (.inl ⟨h, t2 h⟩)
      · exact .inr (.inr ⟨h, t4 h⟩)
    · exact .inr rfl
end Go.Proofs.YtgdkkcdmflopjaaDoor.Mc
