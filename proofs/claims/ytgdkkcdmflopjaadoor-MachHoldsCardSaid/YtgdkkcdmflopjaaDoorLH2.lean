import Derived.Test.YtgdkkcdmflopjaaDoorLXt
import Derived.Test.YtgdkkcdmflopjaaDoorLZ
import Derived.Lib.LaidTab
import Derived.Test.YtgdkkcdmflopjaaDoorRows
import Derived.Test.YtgdkkcdmflopjaaDoorMF2
namespace Go.Proofs.YtgdkkcdmflopjaaDoor.Mc
open Go.RowKit Go.Proofs.YtgdkkcdmflopjaaDoor.PA Go.Proofs.YtgdkkcdmflopjaaDoor.Pure Go.Proofs.MapFun Go.Proofs.YtgdkkcdmflopjaaDoorW.PrintWords Go.Proofs.YtgdkkcdmflopjaaDoorW.PrintLast Go.Proofs.YtgdkkcdmflopjaaDoorW.PrintMore
set_option linter.unusedVariables false
set_option linter.unusedSimpArgs false
theorem lit35n {W : World} {n : Nat} (hn : n = W.heap.size) (xs : List S35) (hmax : xs.length ≤ maxLen) (cs : Array Value) (hcs : cs = (xs.map c35l).flatten.toArray) : Kd.C k35 (W.alloc (.cells cs 35)) (some ⟨n, 0, none⟩) xs.length xs := by
  subst hn
  exact lit35 W xs hmax cs hcs
set_option maxRecDepth 100000 in
set_option maxHeartbeats 4000000 in
theorem holds_true_good (a b v1 v2 q : Int) (ev1 ev2 ev3 : List S69) (h1 : mach_Run.f [iLab, iCmp 7 6, iSet 0 2, iRet] [hd2] ⟨#[102]⟩ [a, b] [] 20 64 = some (0, v1, ev1)) (h2 : mach_Run.f [iLab, iCmp 7 6, iSet 0 3, iRet] [hd2] ⟨#[102]⟩ [a, b] [] 20 64 = some (0, v2, ev2)) (h3 : mach_Run.f (divL true) [hd2] ⟨#[102]⟩ [a, b] [] 20 64 = some (0, q, ev3))
    (w1 : arith_Wrap.f 8 11 7 a b = some (v1, 0)) (w2 : arith_Wrap.f 8 12 7 a b = some (v2, 0)) (t : arith_Two.f 8 4 a 7 b 7 = some (q, 7, 0)) (hl : kind_Lies.f a 7 = some true) (hl2 : kind_Lies.f b 7 = some true) (w : World) (hT : Tab w) :
    Calls Tryd.prog 7 #[.int .i64 a, .int .i64 b, .bool true] w fun e w' => e = .returned (.bool true) ∧ Below w.heap.size w w' := by
  have HT := Lib.hid hT
  have H1 := Lib.hid h1
  have H2 := Lib.hid h2
  have H3 := Lib.hid h3
  have W1 := Lib.hid w1
  have W2 := Lib.hid w2
  have T := Lib.hid t
  have HL := Lib.hid hl
  have HL2 := Lib.hid hl2
  clear hT h1 h2 h3 w1 w2 t hl hl2
  have ST0 : True := trivial
  go_enter Tryd.func7, Tryd.ntmps7
  go_wp2_with (first
    | (go_at_call 8; have g_ := ST0; clear g_ ST0; refine (shown_calls _ HT.out).mono ?_; rintro e w1 ⟨rfl, hb1⟩; have HB := Lib.hid hb1; clear hb1; have ST1 : True := trivial)
    | (go_at_call 14; have g_ := ST1; clear g_ ST1; refine (ran_c [iCmp 7 6, iSet 0 2] a b 0 v1 ev1 _ 2 _ (lit35 w1 _ (by show 2 ≤ maxLen; decide) _ rfl) (Nat.le_refl _) (by show 2 ≤ 1000; decide) H1.out (HT.out.below (below_alloc HB.out _))).mono ?_; rintro e w2 ⟨Av2, cv2, nv2, rfl, hb⟩; skip; have HB2 := Lib.hid ((below_alloc HB.out _).trans (hb.mono (below_size (below_alloc HB.out _)))); clear hb HB; have HB := HB2; clear HB2; have x0 : (w2.alloc (.cells #[.int .i64 0, .int .i64 v1, .slice Av2 nv2 cv2] 29)).cell? ⟨w2.heap.size, 0, none⟩ = some (.int .i64 0) := cell_new rfl rfl; have x1 : (w2.alloc (.cells #[.int .i64 0, .int .i64 v1, .slice Av2 nv2 cv2] 29)).cell? ⟨w2.heap.size, 1, none⟩ = some (.int .i64 v1) := cell_new rfl rfl; have ST2 : True := trivial)
    | (go_at_call 15; have g_ := ST2; clear g_ ST2; refine (arith_Wrap.calls 8 11 7 a b v1 0 _ W1.out).mono ?_; rintro e w3 ⟨rfl, hb⟩; have y0 := (hb.cell (World.block_lt_of_cell? _ _ x0)).trans x0; have y1 := (hb.cell (World.block_lt_of_cell? _ _ x1)).trans x1; have HB3 := Lib.hid ((below_alloc HB.out _).trans (hb.mono (below_size (below_alloc HB.out _)))); clear x0 x1 hb HB; have HB := HB3; clear HB3; have ST3 : True := trivial)
    | (go_at_call 14; have g_ := ST3; clear g_ ST3; refine (ran_c [iCmp 7 6, iSet 0 3] a b 0 v2 ev2 _ 2 _ (lit35 w3 _ (by show 2 ≤ maxLen; decide) _ rfl) (Nat.le_refl _) (by show 2 ≤ 1000; decide) H2.out (HT.out.below (below_alloc HB.out _))).mono ?_; rintro e w4 ⟨Av4, cv4, nv4, rfl, hb⟩; have p0 := (hb.cell (World.block_lt_of_cell? _ _ (cell_alloc y0 _))).trans (cell_alloc y0 _); have p1 := (hb.cell (World.block_lt_of_cell? _ _ (cell_alloc y1 _))).trans (cell_alloc y1 _); have HB4 := Lib.hid ((below_alloc HB.out _).trans (hb.mono (below_size (below_alloc HB.out _)))); clear hb HB; have HB := HB4; clear HB4; have r0 := cell_alloc p0 (.cells #[.int .i64 0, .int .i64 v2, .slice Av4 nv4 cv4] 29); have r1 := cell_alloc p1 (.cells #[.int .i64 0, .int .i64 v2, .slice Av4 nv4 cv4] 29); have s0 : (w4.alloc (.cells #[.int .i64 0, .int .i64 v2, .slice Av4 nv4 cv4] 29)).cell? ⟨w4.heap.size, 0, none⟩ = some (.int .i64 0) := cell_new rfl rfl; have s1 : (w4.alloc (.cells #[.int .i64 0, .int .i64 v2, .slice Av4 nv4 cv4] 29)).cell? ⟨w4.heap.size, 1, none⟩ = some (.int .i64 v2) := cell_new rfl rfl; clear p0 p1 y0 y1; have ST4 : True := trivial)
    | (go_at_call 15; have g_ := ST4; clear g_ ST4; refine (arith_Wrap.calls 8 12 7 a b v2 0 _ W2.out).mono ?_; rintro e w5 ⟨rfl, hb⟩; have y0 := (hb.cell (World.block_lt_of_cell? _ _ r0)).trans r0; have y1 := (hb.cell (World.block_lt_of_cell? _ _ r1)).trans r1; have z0 := (hb.cell (World.block_lt_of_cell? _ _ s0)).trans s0; have z1 := (hb.cell (World.block_lt_of_cell? _ _ s1)).trans s1; have HB3 := Lib.hid ((below_alloc HB.out _).trans (hb.mono (below_size (below_alloc HB.out _)))); clear r0 r1 s0 s1 hb HB; have HB := HB3; clear HB3; have u0 : (w5.alloc (.cells #[.int .i64 8, .int .i64 0, .int .i64 0, .int .i64 0, .int .i64 0, .bool false, .int .i64 0, .string ⟨#[]⟩] 35)).cell? ⟨w5.heap.size, 0, none⟩ = some (.int .i64 8) := cell_new rfl rfl; have u1 : (w5.alloc (.cells #[.int .i64 8, .int .i64 0, .int .i64 0, .int .i64 0, .int .i64 0, .bool false, .int .i64 0, .string ⟨#[]⟩] 35)).cell? ⟨w5.heap.size, 1, none⟩ = some (.int .i64 0) := cell_new rfl rfl; have u2 : (w5.alloc (.cells #[.int .i64 8, .int .i64 0, .int .i64 0, .int .i64 0, .int .i64 0, .bool false, .int .i64 0, .string ⟨#[]⟩] 35)).cell? ⟨w5.heap.size, 2, none⟩ = some (.int .i64 0) := cell_new rfl rfl; have u3 : (w5.alloc (.cells #[.int .i64 8, .int .i64 0, .int .i64 0, .int .i64 0, .int .i64 0, .bool false, .int .i64 0, .string ⟨#[]⟩] 35)).cell? ⟨w5.heap.size, 3, none⟩ = some (.int .i64 0) := cell_new rfl rfl; have u4 : (w5.alloc (.cells #[.int .i64 8, .int .i64 0, .int .i64 0, .int .i64 0, .int .i64 0, .bool false, .int .i64 0, .string ⟨#[]⟩] 35)).cell? ⟨w5.heap.size, 4, none⟩ = some (.int .i64 0) := cell_new rfl rfl; have u5 : (w5.alloc (.cells #[.int .i64 8, .int .i64 0, .int .i64 0, .int .i64 0, .int .i64 0, .bool false, .int .i64 0, .string ⟨#[]⟩] 35)).cell? ⟨w5.heap.size, 5, none⟩ = some (.bool false) := cell_new rfl rfl; have u6 : (w5.alloc (.cells #[.int .i64 8, .int .i64 0, .int .i64 0, .int .i64 0, .int .i64 0, .bool false, .int .i64 0, .string ⟨#[]⟩] 35)).cell? ⟨w5.heap.size, 6, none⟩ = some (.int .i64 0) := cell_new rfl rfl; have u7 : (w5.alloc (.cells #[.int .i64 8, .int .i64 0, .int .i64 0, .int .i64 0, .int .i64 0, .bool false, .int .i64 0, .string ⟨#[]⟩] 35)).cell? ⟨w5.heap.size, 7, none⟩ = some (.string ⟨#[]⟩) := cell_new rfl rfl; have ST5 : True := trivial)
    | (go_at_call 14; have g_ := ST5; clear g_ ST5; refine (ran_c [iMov 0 7, iCqo, iDiv 6 true] a b 0 q ev3 _ 3 _ (lit35n (by simp) _ (by show 3 ≤ maxLen; decide) _ rfl) (Nat.le_refl _) (by show 3 ≤ 1000; decide) H3.out (HT.out.below (below_alloc (below_alloc HB.out _) _))).mono ?_; rintro e w6 ⟨Av6, cv6, nv6, rfl, hb⟩; have p0 := (hb.cell (World.block_lt_of_cell? _ _ (cell_alloc (cell_alloc y0 _) _))).trans (cell_alloc (cell_alloc y0 _) _); have p1 := (hb.cell (World.block_lt_of_cell? _ _ (cell_alloc (cell_alloc y1 _) _))).trans (cell_alloc (cell_alloc y1 _) _); have p2 := (hb.cell (World.block_lt_of_cell? _ _ (cell_alloc (cell_alloc z0 _) _))).trans (cell_alloc (cell_alloc z0 _) _); have p3 := (hb.cell (World.block_lt_of_cell? _ _ (cell_alloc (cell_alloc z1 _) _))).trans (cell_alloc (cell_alloc z1 _) _); have HB6 := Lib.hid ((below_alloc (below_alloc HB.out _) _).trans (hb.mono (below_size (below_alloc (below_alloc HB.out _) _)))); clear hb HB; have HB := HB6; clear HB6; have r0 := cell_alloc p0 (.cells #[.int .i64 0, .int .i64 q, .slice Av6 nv6 cv6] 29); have r1 := cell_alloc p1 (.cells #[.int .i64 0, .int .i64 q, .slice Av6 nv6 cv6] 29); have r2 := cell_alloc p2 (.cells #[.int .i64 0, .int .i64 q, .slice Av6 nv6 cv6] 29); have r3 := cell_alloc p3 (.cells #[.int .i64 0, .int .i64 q, .slice Av6 nv6 cv6] 29); have s0 : (w6.alloc (.cells #[.int .i64 0, .int .i64 q, .slice Av6 nv6 cv6] 29)).cell? ⟨w6.heap.size, 0, none⟩ = some (.int .i64 0) := cell_new rfl rfl; have s1 : (w6.alloc (.cells #[.int .i64 0, .int .i64 q, .slice Av6 nv6 cv6] 29)).cell? ⟨w6.heap.size, 1, none⟩ = some (.int .i64 q) := cell_new rfl rfl; clear p0 p1 p2 p3 y0 y1 z0 z1 u0 u1 u2 u3 u4 u5 u6 u7; have ST6 : True := trivial)
    | (go_at_call 17; have g_ := ST6; clear g_ ST6; refine (arith_Two.calls 8 4 a 7 b 7 q 7 0 _ T.out (by rfl) HL.out HL2.out (by rfl) (by rfl) rfl).mono ?_; rintro e w7 ⟨rfl, hb⟩; have y0 := (hb.cell (World.block_lt_of_cell? _ _ r0)).trans r0; have y1 := (hb.cell (World.block_lt_of_cell? _ _ r1)).trans r1; have y2 := (hb.cell (World.block_lt_of_cell? _ _ r2)).trans r2; have y3 := (hb.cell (World.block_lt_of_cell? _ _ r3)).trans r3; have y4 := (hb.cell (World.block_lt_of_cell? _ _ s0)).trans s0; have y5 := (hb.cell (World.block_lt_of_cell? _ _ s1)).trans s1; have HB3 := Lib.hid ((below_alloc HB.out _).trans (hb.mono (below_size (below_alloc HB.out _)))); clear r0 r1 r2 r3 s0 s1 hb HB; have HB := HB3; clear HB3; have ST7 : True := trivial)
    | (go_at_call 18; have g_ := ST7; clear g_ ST7; refine (kind_Lies.calls a 7 true _ HL.out).mono ?_; rintro e w8 ⟨rfl, ⟨n8, rfl⟩⟩; have ST8 : True := trivial))
  go_ret
  exact ⟨rfl, pw_below_drewN HB.out _⟩
set_option maxRecDepth 100000 in
set_option maxHeartbeats 4000000 in
theorem holds_false_good (a b v1 v2 q : Int) (ev1 ev2 ev3 : List S69) (h1 : mach_Run.f [iLab, iCmp 7 6, iSet 0 4, iRet] [hd2] ⟨#[102]⟩ [a, b] [] 20 64 = some (0, v1, ev1)) (h2 : mach_Run.f [iLab, iCmp 7 6, iSet 0 5, iRet] [hd2] ⟨#[102]⟩ [a, b] [] 20 64 = some (0, v2, ev2)) (h3 : mach_Run.f (divL false) [hd2] ⟨#[102]⟩ [a, b] [] 20 64 = some (0, q, ev3))
    (w1 : arith_Wrap.f 8 11 8 a b = some (v1, 0)) (w2 : arith_Wrap.f 8 12 8 a b = some (v2, 0)) (t : arith_Two.f 8 4 a 8 b 8 = some (q, 8, 0)) (hl : kind_Lies.f a 8 = some true) (hl2 : kind_Lies.f b 8 = some true) (w : World) (hT : Tab w) :
    Calls Tryd.prog 7 #[.int .i64 a, .int .i64 b, .bool false] w fun e w' => e = .returned (.bool true) ∧ Below w.heap.size w w' := by
  have HT := Lib.hid hT
  have H1 := Lib.hid h1
  have H2 := Lib.hid h2
  have H3 := Lib.hid h3
  have W1 := Lib.hid w1
  have W2 := Lib.hid w2
  have T := Lib.hid t
  have HL := Lib.hid hl
  have HL2 := Lib.hid hl2
  clear hT h1 h2 h3 w1 w2 t hl hl2
  have ST0 : True := trivial
  go_enter Tryd.func7, Tryd.ntmps7
  go_wp2_with (first
    | (go_at_call 8; have g_ := ST0; clear g_ ST0; refine (shown_calls _ HT.out).mono ?_; rintro e w1 ⟨rfl, hb1⟩; have HB := Lib.hid hb1; clear hb1; have ST1 : True := trivial)
    | (go_at_call 14; have g_ := ST1; clear g_ ST1; refine (ran_c [iCmp 7 6, iSet 0 4] a b 0 v1 ev1 _ 2 _ (lit35 w1 _ (by show 2 ≤ maxLen; decide) _ rfl) (Nat.le_refl _) (by show 2 ≤ 1000; decide) H1.out (HT.out.below (below_alloc HB.out _))).mono ?_; rintro e w2 ⟨Av2, cv2, nv2, rfl, hb⟩; skip; have HB2 := Lib.hid ((below_alloc HB.out _).trans (hb.mono (below_size (below_alloc HB.out _)))); clear hb HB; have HB := HB2; clear HB2; have x0 : (w2.alloc (.cells #[.int .i64 0, .int .i64 v1, .slice Av2 nv2 cv2] 29)).cell? ⟨w2.heap.size, 0, none⟩ = some (.int .i64 0) := cell_new rfl rfl; have x1 : (w2.alloc (.cells #[.int .i64 0, .int .i64 v1, .slice Av2 nv2 cv2] 29)).cell? ⟨w2.heap.size, 1, none⟩ = some (.int .i64 v1) := cell_new rfl rfl; have ST2 : True := trivial)
    | (go_at_call 15; have g_ := ST2; clear g_ ST2; refine (arith_Wrap.calls 8 11 8 a b v1 0 _ W1.out).mono ?_; rintro e w3 ⟨rfl, hb⟩; have y0 := (hb.cell (World.block_lt_of_cell? _ _ x0)).trans x0; have y1 := (hb.cell (World.block_lt_of_cell? _ _ x1)).trans x1; have HB3 := Lib.hid ((below_alloc HB.out _).trans (hb.mono (below_size (below_alloc HB.out _)))); clear x0 x1 hb HB; have HB := HB3; clear HB3; have ST3 : True := trivial)
    | (go_at_call 14; have g_ := ST3; clear g_ ST3; refine (ran_c [iCmp 7 6, iSet 0 5] a b 0 v2 ev2 _ 2 _ (lit35 w3 _ (by show 2 ≤ maxLen; decide) _ rfl) (Nat.le_refl _) (by show 2 ≤ 1000; decide) H2.out (HT.out.below (below_alloc HB.out _))).mono ?_; rintro e w4 ⟨Av4, cv4, nv4, rfl, hb⟩; have p0 := (hb.cell (World.block_lt_of_cell? _ _ (cell_alloc y0 _))).trans (cell_alloc y0 _); have p1 := (hb.cell (World.block_lt_of_cell? _ _ (cell_alloc y1 _))).trans (cell_alloc y1 _); have HB4 := Lib.hid ((below_alloc HB.out _).trans (hb.mono (below_size (below_alloc HB.out _)))); clear hb HB; have HB := HB4; clear HB4; have r0 := cell_alloc p0 (.cells #[.int .i64 0, .int .i64 v2, .slice Av4 nv4 cv4] 29); have r1 := cell_alloc p1 (.cells #[.int .i64 0, .int .i64 v2, .slice Av4 nv4 cv4] 29); have s0 : (w4.alloc (.cells #[.int .i64 0, .int .i64 v2, .slice Av4 nv4 cv4] 29)).cell? ⟨w4.heap.size, 0, none⟩ = some (.int .i64 0) := cell_new rfl rfl; have s1 : (w4.alloc (.cells #[.int .i64 0, .int .i64 v2, .slice Av4 nv4 cv4] 29)).cell? ⟨w4.heap.size, 1, none⟩ = some (.int .i64 v2) := cell_new rfl rfl; clear p0 p1 y0 y1; have ST4 : True := trivial)
    | (go_at_call 15; have g_ := ST4; clear g_ ST4; refine (arith_Wrap.calls 8 12 8 a b v2 0 _ W2.out).mono ?_; rintro e w5 ⟨rfl, hb⟩; have y0 := (hb.cell (World.block_lt_of_cell? _ _ r0)).trans r0; have y1 := (hb.cell (World.block_lt_of_cell? _ _ r1)).trans r1; have z0 := (hb.cell (World.block_lt_of_cell? _ _ s0)).trans s0; have z1 := (hb.cell (World.block_lt_of_cell? _ _ s1)).trans s1; have HB3 := Lib.hid ((below_alloc HB.out _).trans (hb.mono (below_size (below_alloc HB.out _)))); clear r0 r1 s0 s1 hb HB; have HB := HB3; clear HB3; have u0 : (w5.alloc (.cells #[.int .i64 1, .int .i64 2, .int .i64 0, .int .i64 0, .int .i64 0, .bool false, .int .i64 0, .string ⟨#[]⟩] 35)).cell? ⟨w5.heap.size, 0, none⟩ = some (.int .i64 1) := cell_new rfl rfl; have u1 : (w5.alloc (.cells #[.int .i64 1, .int .i64 2, .int .i64 0, .int .i64 0, .int .i64 0, .bool false, .int .i64 0, .string ⟨#[]⟩] 35)).cell? ⟨w5.heap.size, 1, none⟩ = some (.int .i64 2) := cell_new rfl rfl; have u2 : (w5.alloc (.cells #[.int .i64 1, .int .i64 2, .int .i64 0, .int .i64 0, .int .i64 0, .bool false, .int .i64 0, .string ⟨#[]⟩] 35)).cell? ⟨w5.heap.size, 2, none⟩ = some (.int .i64 0) := cell_new rfl rfl; have u3 : (w5.alloc (.cells #[.int .i64 1, .int .i64 2, .int .i64 0, .int .i64 0, .int .i64 0, .bool false, .int .i64 0, .string ⟨#[]⟩] 35)).cell? ⟨w5.heap.size, 3, none⟩ = some (.int .i64 0) := cell_new rfl rfl; have u4 : (w5.alloc (.cells #[.int .i64 1, .int .i64 2, .int .i64 0, .int .i64 0, .int .i64 0, .bool false, .int .i64 0, .string ⟨#[]⟩] 35)).cell? ⟨w5.heap.size, 4, none⟩ = some (.int .i64 0) := cell_new rfl rfl; have u5 : (w5.alloc (.cells #[.int .i64 1, .int .i64 2, .int .i64 0, .int .i64 0, .int .i64 0, .bool false, .int .i64 0, .string ⟨#[]⟩] 35)).cell? ⟨w5.heap.size, 5, none⟩ = some (.bool false) := cell_new rfl rfl; have u6 : (w5.alloc (.cells #[.int .i64 1, .int .i64 2, .int .i64 0, .int .i64 0, .int .i64 0, .bool false, .int .i64 0, .string ⟨#[]⟩] 35)).cell? ⟨w5.heap.size, 6, none⟩ = some (.int .i64 0) := cell_new rfl rfl; have u7 : (w5.alloc (.cells #[.int .i64 1, .int .i64 2, .int .i64 0, .int .i64 0, .int .i64 0, .bool false, .int .i64 0, .string ⟨#[]⟩] 35)).cell? ⟨w5.heap.size, 7, none⟩ = some (.string ⟨#[]⟩) := cell_new rfl rfl; have ST5 : True := trivial)
    | (go_at_call 14; have g_ := ST5; clear g_ ST5; refine (ran_c [iMov 0 7, iImm 2 0, iDiv 6 false] a b 0 q ev3 _ 3 _ (lit35n (by simp) _ (by show 3 ≤ maxLen; decide) _ rfl) (Nat.le_refl _) (by show 3 ≤ 1000; decide) H3.out (HT.out.below (below_alloc (below_alloc HB.out _) _))).mono ?_; rintro e w6 ⟨Av6, cv6, nv6, rfl, hb⟩; have p0 := (hb.cell (World.block_lt_of_cell? _ _ (cell_alloc (cell_alloc y0 _) _))).trans (cell_alloc (cell_alloc y0 _) _); have p1 := (hb.cell (World.block_lt_of_cell? _ _ (cell_alloc (cell_alloc y1 _) _))).trans (cell_alloc (cell_alloc y1 _) _); have p2 := (hb.cell (World.block_lt_of_cell? _ _ (cell_alloc (cell_alloc z0 _) _))).trans (cell_alloc (cell_alloc z0 _) _); have p3 := (hb.cell (World.block_lt_of_cell? _ _ (cell_alloc (cell_alloc z1 _) _))).trans (cell_alloc (cell_alloc z1 _) _); have HB6 := Lib.hid ((below_alloc (below_alloc HB.out _) _).trans (hb.mono (below_size (below_alloc (below_alloc HB.out _) _)))); clear hb HB; have HB := HB6; clear HB6; have r0 := cell_alloc p0 (.cells #[.int .i64 0, .int .i64 q, .slice Av6 nv6 cv6] 29); have r1 := cell_alloc p1 (.cells #[.int .i64 0, .int .i64 q, .slice Av6 nv6 cv6] 29); have r2 := cell_alloc p2 (.cells #[.int .i64 0, .int .i64 q, .slice Av6 nv6 cv6] 29); have r3 := cell_alloc p3 (.cells #[.int .i64 0, .int .i64 q, .slice Av6 nv6 cv6] 29); have s0 : (w6.alloc (.cells #[.int .i64 0, .int .i64 q, .slice Av6 nv6 cv6] 29)).cell? ⟨w6.heap.size, 0, none⟩ = some (.int .i64 0) := cell_new rfl rfl; have s1 : (w6.alloc (.cells #[.int .i64 0, .int .i64 q, .slice Av6 nv6 cv6] 29)).cell? ⟨w6.heap.size, 1, none⟩ = some (.int .i64 q) := cell_new rfl rfl; clear p0 p1 p2 p3 y0 y1 z0 z1 u0 u1 u2 u3 u4 u5 u6 u7; have ST6 : True := trivial)
    | (go_at_call 17; have g_ := ST6; clear g_ ST6; refine (arith_Two.calls 8 4 a 8 b 8 q 8 0 _ T.out (by rfl) HL.out HL2.out (by rfl) (by rfl) rfl).mono ?_; rintro e w7 ⟨rfl, hb⟩; have y0 := (hb.cell (World.block_lt_of_cell? _ _ r0)).trans r0; have y1 := (hb.cell (World.block_lt_of_cell? _ _ r1)).trans r1; have y2 := (hb.cell (World.block_lt_of_cell? _ _ r2)).trans r2; have y3 := (hb.cell (World.block_lt_of_cell? _ _ r3)).trans r3; have y4 := (hb.cell (World.block_lt_of_cell? _ _ s0)).trans s0; have y5 := (hb.cell (World.block_lt_of_cell? _ _ s1)).trans s1; have HB3 := Lib.hid ((below_alloc HB.out _).trans (hb.mono (below_size (below_alloc HB.out _)))); clear r0 r1 r2 r3 s0 s1 hb HB; have HB := HB3; clear HB3; have ST7 : True := trivial)
    | (go_at_call 18; have g_ := ST7; clear g_ ST7; refine (kind_Lies.calls a 8 true _ HL.out).mono ?_; rintro e w8 ⟨rfl, ⟨n8, rfl⟩⟩; have ST8 : True := trivial))
  go_ret
  exact ⟨rfl, pw_below_drewN HB.out _⟩
set_option maxRecDepth 100000 in
set_option maxHeartbeats 4000000 in
theorem holds_true_bad (a b v1 v2 q : Int) (ev1 ev2 ev3 : List S69) (h1 : mach_Run.f [iLab, iCmp 7 6, iSet 0 2, iRet] [hd2] ⟨#[102]⟩ [a, b] [] 20 64 = some (0, v1, ev1)) (h2 : mach_Run.f [iLab, iCmp 7 6, iSet 0 3, iRet] [hd2] ⟨#[102]⟩ [a, b] [] 20 64 = some (0, v2, ev2)) (h3 : mach_Run.f (divL true) [hd2] ⟨#[102]⟩ [a, b] [] 20 64 = some (193, 0, ev3))
    (w1 : arith_Wrap.f 8 11 7 a b = some (v1, 0)) (w2 : arith_Wrap.f 8 12 7 a b = some (v2, 0)) (t : arith_Two.f 8 4 a 7 b 7 = some (0, 0, 90)) (hl : kind_Lies.f a 7 = some true) (hl2 : kind_Lies.f b 7 = some true) (w : World) (hT : Tab w) :
    Calls Tryd.prog 7 #[.int .i64 a, .int .i64 b, .bool true] w fun e w' => e = .returned (.bool true) ∧ Below w.heap.size w w' := by
  have HT := Lib.hid hT
  have H1 := Lib.hid h1
  have H2 := Lib.hid h2
  have H3 := Lib.hid h3
  have W1 := Lib.hid w1
  have W2 := Lib.hid w2
  have T := Lib.hid t
  have HL := Lib.hid hl
  have HL2 := Lib.hid hl2
  clear hT h1 h2 h3 w1 w2 t hl hl2
  have ST0 : True := trivial
  go_enter Tryd.func7, Tryd.ntmps7
  go_wp2_with (first
    | (go_at_call 8; have g_ := ST0; clear g_ ST0; refine (shown_calls _ HT.out).mono ?_; rintro e w1 ⟨rfl, hb1⟩; have HB := Lib.hid hb1; clear hb1; have ST1 : True := trivial)
    | (go_at_call 14; have g_ := ST1; clear g_ ST1; refine (ran_c [iCmp 7 6, iSet 0 2] a b 0 v1 ev1 _ 2 _ (lit35 w1 _ (by show 2 ≤ maxLen; decide) _ rfl) (Nat.le_refl _) (by show 2 ≤ 1000; decide) H1.out (HT.out.below (below_alloc HB.out _))).mono ?_; rintro e w2 ⟨Av2, cv2, nv2, rfl, hb⟩; skip; have HB2 := Lib.hid ((below_alloc HB.out _).trans (hb.mono (below_size (below_alloc HB.out _)))); clear hb HB; have HB := HB2; clear HB2; have x0 : (w2.alloc (.cells #[.int .i64 0, .int .i64 v1, .slice Av2 nv2 cv2] 29)).cell? ⟨w2.heap.size, 0, none⟩ = some (.int .i64 0) := cell_new rfl rfl; have x1 : (w2.alloc (.cells #[.int .i64 0, .int .i64 v1, .slice Av2 nv2 cv2] 29)).cell? ⟨w2.heap.size, 1, none⟩ = some (.int .i64 v1) := cell_new rfl rfl; have ST2 : True := trivial)
    | (go_at_call 15; have g_ := ST2; clear g_ ST2; refine (arith_Wrap.calls 8 11 7 a b v1 0 _ W1.out).mono ?_; rintro e w3 ⟨rfl, hb⟩; have y0 := (hb.cell (World.block_lt_of_cell? _ _ x0)).trans x0; have y1 := (hb.cell (World.block_lt_of_cell? _ _ x1)).trans x1; have HB3 := Lib.hid ((below_alloc HB.out _).trans (hb.mono (below_size (below_alloc HB.out _)))); clear x0 x1 hb HB; have HB := HB3; clear HB3; have ST3 : True := trivial)
    | (go_at_call 14; have g_ := ST3; clear g_ ST3; refine (ran_c [iCmp 7 6, iSet 0 3] a b 0 v2 ev2 _ 2 _ (lit35 w3 _ (by show 2 ≤ maxLen; decide) _ rfl) (Nat.le_refl _) (by show 2 ≤ 1000; decide) H2.out (HT.out.below (below_alloc HB.out _))).mono ?_; rintro e w4 ⟨Av4, cv4, nv4, rfl, hb⟩; have p0 := (hb.cell (World.block_lt_of_cell? _ _ (cell_alloc y0 _))).trans (cell_alloc y0 _); have p1 := (hb.cell (World.block_lt_of_cell? _ _ (cell_alloc y1 _))).trans (cell_alloc y1 _); have HB4 := Lib.hid ((below_alloc HB.out _).trans (hb.mono (below_size (below_alloc HB.out _)))); clear hb HB; have HB := HB4; clear HB4; have r0 := cell_alloc p0 (.cells #[.int .i64 0, .int .i64 v2, .slice Av4 nv4 cv4] 29); have r1 := cell_alloc p1 (.cells #[.int .i64 0, .int .i64 v2, .slice Av4 nv4 cv4] 29); have s0 : (w4.alloc (.cells #[.int .i64 0, .int .i64 v2, .slice Av4 nv4 cv4] 29)).cell? ⟨w4.heap.size, 0, none⟩ = some (.int .i64 0) := cell_new rfl rfl; have s1 : (w4.alloc (.cells #[.int .i64 0, .int .i64 v2, .slice Av4 nv4 cv4] 29)).cell? ⟨w4.heap.size, 1, none⟩ = some (.int .i64 v2) := cell_new rfl rfl; clear p0 p1 y0 y1; have ST4 : True := trivial)
    | (go_at_call 15; have g_ := ST4; clear g_ ST4; refine (arith_Wrap.calls 8 12 7 a b v2 0 _ W2.out).mono ?_; rintro e w5 ⟨rfl, hb⟩; have y0 := (hb.cell (World.block_lt_of_cell? _ _ r0)).trans r0; have y1 := (hb.cell (World.block_lt_of_cell? _ _ r1)).trans r1; have z0 := (hb.cell (World.block_lt_of_cell? _ _ s0)).trans s0; have z1 := (hb.cell (World.block_lt_of_cell? _ _ s1)).trans s1; have HB3 := Lib.hid ((below_alloc HB.out _).trans (hb.mono (below_size (below_alloc HB.out _)))); clear r0 r1 s0 s1 hb HB; have HB := HB3; clear HB3; have u0 : (w5.alloc (.cells #[.int .i64 8, .int .i64 0, .int .i64 0, .int .i64 0, .int .i64 0, .bool false, .int .i64 0, .string ⟨#[]⟩] 35)).cell? ⟨w5.heap.size, 0, none⟩ = some (.int .i64 8) := cell_new rfl rfl; have u1 : (w5.alloc (.cells #[.int .i64 8, .int .i64 0, .int .i64 0, .int .i64 0, .int .i64 0, .bool false, .int .i64 0, .string ⟨#[]⟩] 35)).cell? ⟨w5.heap.size, 1, none⟩ = some (.int .i64 0) := cell_new rfl rfl; have u2 : (w5.alloc (.cells #[.int .i64 8, .int .i64 0, .int .i64 0, .int .i64 0, .int .i64 0, .bool false, .int .i64 0, .string ⟨#[]⟩] 35)).cell? ⟨w5.heap.size, 2, none⟩ = some (.int .i64 0) := cell_new rfl rfl; have u3 : (w5.alloc (.cells #[.int .i64 8, .int .i64 0, .int .i64 0, .int .i64 0, .int .i64 0, .bool false, .int .i64 0, .string ⟨#[]⟩] 35)).cell? ⟨w5.heap.size, 3, none⟩ = some (.int .i64 0) := cell_new rfl rfl; have u4 : (w5.alloc (.cells #[.int .i64 8, .int .i64 0, .int .i64 0, .int .i64 0, .int .i64 0, .bool false, .int .i64 0, .string ⟨#[]⟩] 35)).cell? ⟨w5.heap.size, 4, none⟩ = some (.int .i64 0) := cell_new rfl rfl; have u5 : (w5.alloc (.cells #[.int .i64 8, .int .i64 0, .int .i64 0, .int .i64 0, .int .i64 0, .bool false, .int .i64 0, .string ⟨#[]⟩] 35)).cell? ⟨w5.heap.size, 5, none⟩ = some (.bool false) := cell_new rfl rfl; have u6 : (w5.alloc (.cells #[.int .i64 8, .int .i64 0, .int .i64 0, .int .i64 0, .int .i64 0, .bool false, .int .i64 0, .string ⟨#[]⟩] 35)).cell? ⟨w5.heap.size, 6, none⟩ = some (.int .i64 0) := cell_new rfl rfl; have u7 : (w5.alloc (.cells #[.int .i64 8, .int .i64 0, .int .i64 0, .int .i64 0, .int .i64 0, .bool false, .int .i64 0, .string ⟨#[]⟩] 35)).cell? ⟨w5.heap.size, 7, none⟩ = some (.string ⟨#[]⟩) := cell_new rfl rfl; have ST5 : True := trivial)
    | (go_at_call 14; have g_ := ST5; clear g_ ST5; refine (ran_c [iMov 0 7, iCqo, iDiv 6 true] a b 193 0 ev3 _ 3 _ (lit35n (by simp) _ (by show 3 ≤ maxLen; decide) _ rfl) (Nat.le_refl _) (by show 3 ≤ 1000; decide) H3.out (HT.out.below (below_alloc (below_alloc HB.out _) _))).mono ?_; rintro e w6 ⟨Av6, cv6, nv6, rfl, hb⟩; have p0 := (hb.cell (World.block_lt_of_cell? _ _ (cell_alloc (cell_alloc y0 _) _))).trans (cell_alloc (cell_alloc y0 _) _); have p1 := (hb.cell (World.block_lt_of_cell? _ _ (cell_alloc (cell_alloc y1 _) _))).trans (cell_alloc (cell_alloc y1 _) _); have p2 := (hb.cell (World.block_lt_of_cell? _ _ (cell_alloc (cell_alloc z0 _) _))).trans (cell_alloc (cell_alloc z0 _) _); have p3 := (hb.cell (World.block_lt_of_cell? _ _ (cell_alloc (cell_alloc z1 _) _))).trans (cell_alloc (cell_alloc z1 _) _); have HB6 := Lib.hid ((below_alloc (below_alloc HB.out _) _).trans (hb.mono (below_size (below_alloc (below_alloc HB.out _) _)))); clear hb HB; have HB := HB6; clear HB6; have r0 := cell_alloc p0 (.cells #[.int .i64 193, .int .i64 0, .slice Av6 nv6 cv6] 29); have r1 := cell_alloc p1 (.cells #[.int .i64 193, .int .i64 0, .slice Av6 nv6 cv6] 29); have r2 := cell_alloc p2 (.cells #[.int .i64 193, .int .i64 0, .slice Av6 nv6 cv6] 29); have r3 := cell_alloc p3 (.cells #[.int .i64 193, .int .i64 0, .slice Av6 nv6 cv6] 29); have s0 : (w6.alloc (.cells #[.int .i64 193, .int .i64 0, .slice Av6 nv6 cv6] 29)).cell? ⟨w6.heap.size, 0, none⟩ = some (.int .i64 193) := cell_new rfl rfl; have s1 : (w6.alloc (.cells #[.int .i64 193, .int .i64 0, .slice Av6 nv6 cv6] 29)).cell? ⟨w6.heap.size, 1, none⟩ = some (.int .i64 0) := cell_new rfl rfl; clear p0 p1 p2 p3 y0 y1 z0 z1 u0 u1 u2 u3 u4 u5 u6 u7; have ST6 : True := trivial)
    | (go_at_call 17; have g_ := ST6; clear g_ ST6; refine (arith_Two.calls 8 4 a 7 b 7 0 0 90 _ T.out (by rfl) HL.out HL2.out (by rfl) (by rfl) rfl).mono ?_; rintro e w7 ⟨rfl, hb⟩; have y0 := (hb.cell (World.block_lt_of_cell? _ _ r0)).trans r0; have y1 := (hb.cell (World.block_lt_of_cell? _ _ r1)).trans r1; have y2 := (hb.cell (World.block_lt_of_cell? _ _ r2)).trans r2; have y3 := (hb.cell (World.block_lt_of_cell? _ _ r3)).trans r3; have y4 := (hb.cell (World.block_lt_of_cell? _ _ s0)).trans s0; have y5 := (hb.cell (World.block_lt_of_cell? _ _ s1)).trans s1; have HB3 := Lib.hid ((below_alloc HB.out _).trans (hb.mono (below_size (below_alloc HB.out _)))); clear r0 r1 r2 r3 s0 s1 hb HB; have HB := HB3; clear HB3; have ST7 : True := trivial)
    | (go_at_call 18; have g_ := ST7; clear g_ ST7; refine (kind_Lies.calls a 7 true _ HL.out).mono ?_; rintro e w8 ⟨rfl, ⟨n8, rfl⟩⟩; have ST8 : True := trivial))
  go_ret
  exact ⟨rfl, pw_below_drewN HB.out _⟩
set_option maxRecDepth 100000 in
set_option maxHeartbeats 4000000 in
theorem holds_false_bad (a b v1 v2 q : Int) (ev1 ev2 ev3 : List S69) (h1 : mach_Run.f [iLab, iCmp 7 6, iSet 0 4, iRet] [hd2] ⟨#[102]⟩ [a, b] [] 20 64 = some (0, v1, ev1)) (h2 : mach_Run.f [iLab, iCmp 7 6, iSet 0 5, iRet] [hd2] ⟨#[102]⟩ [a, b] [] 20 64 = some (0, v2, ev2)) (h3 : mach_Run.f (divL false) [hd2] ⟨#[102]⟩ [a, b] [] 20 64 = some (193, 0, ev3))
    (w1 : arith_Wrap.f 8 11 8 a b = some (v1, 0)) (w2 : arith_Wrap.f 8 12 8 a b = some (v2, 0)) (t : arith_Two.f 8 4 a 8 b 8 = some (0, 0, 90)) (hl : kind_Lies.f a 8 = some true) (hl2 : kind_Lies.f b 8 = some true) (w : World) (hT : Tab w) :
    Calls Tryd.prog 7 #[.int .i64 a, .int .i64 b, .bool false] w fun e w' => e = .returned (.bool true) ∧ Below w.heap.size w w' := by
  have HT := Lib.hid hT
  have H1 := Lib.hid h1
  have H2 := Lib.hid h2
  have H3 := Lib.hid h3
  have W1 := Lib.hid w1
  have W2 := Lib.hid w2
  have T := Lib.hid t
  have HL := Lib.hid hl
  have HL2 := Lib.hid hl2
  clear hT h1 h2 h3 w1 w2 t hl hl2
  have ST0 : True := trivial
  go_enter Tryd.func7, Tryd.ntmps7
  go_wp2_with (first
    | (go_at_call 8; have g_ := ST0; clear g_ ST0; refine (shown_calls _ HT.out).mono ?_; rintro e w1 ⟨rfl, hb1⟩; have HB := Lib.hid hb1; clear hb1; have ST1 : True := trivial)
    | (go_at_call 14; have g_ := ST1; clear g_ ST1; refine (ran_c [iCmp 7 6, iSet 0 4] a b 0 v1 ev1 _ 2 _ (lit35 w1 _ (by show 2 ≤ maxLen; decide) _ rfl) (Nat.le_refl _) (by show 2 ≤ 1000; decide) H1.out (HT.out.below (below_alloc HB.out _))).mono ?_; rintro e w2 ⟨Av2, cv2, nv2, rfl, hb⟩; skip; have HB2 := Lib.hid ((below_alloc HB.out _).trans (hb.mono (below_size (below_alloc HB.out _)))); clear hb HB; have HB := HB2; clear HB2; have x0 : (w2.alloc (.cells #[.int .i64 0, .int .i64 v1, .slice Av2 nv2 cv2] 29)).cell? ⟨w2.heap.size, 0, none⟩ = some (.int .i64 0) := cell_new rfl rfl; have x1 : (w2.alloc (.cells #[.int .i64 0, .int .i64 v1, .slice Av2 nv2 cv2] 29)).cell? ⟨w2.heap.size, 1, none⟩ = some (.int .i64 v1) := cell_new rfl rfl; have ST2 : True := trivial)
    | (go_at_call 15; have g_ := ST2; clear g_ ST2; refine (arith_Wrap.calls 8 11 8 a b v1 0 _ W1.out).mono ?_; rintro e w3 ⟨rfl, hb⟩; have y0 := (hb.cell (World.block_lt_of_cell? _ _ x0)).trans x0; have y1 := (hb.cell (World.block_lt_of_cell? _ _ x1)).trans x1; have HB3 := Lib.hid ((below_alloc HB.out _).trans (hb.mono (below_size (below_alloc HB.out _)))); clear x0 x1 hb HB; have HB := HB3; clear HB3; have ST3 : True := trivial)
    | (go_at_call 14; have g_ := ST3; clear g_ ST3; refine (ran_c [iCmp 7 6, iSet 0 5] a b 0 v2 ev2 _ 2 _ (lit35 w3 _ (by show 2 ≤ maxLen; decide) _ rfl) (Nat.le_refl _) (by show 2 ≤ 1000; decide) H2.out (HT.out.below (below_alloc HB.out _))).mono ?_; rintro e w4 ⟨Av4, cv4, nv4, rfl, hb⟩; have p0 := (hb.cell (World.block_lt_of_cell? _ _ (cell_alloc y0 _))).trans (cell_alloc y0 _); have p1 := (hb.cell (World.block_lt_of_cell? _ _ (cell_alloc y1 _))).trans (cell_alloc y1 _); have HB4 := Lib.hid ((below_alloc HB.out _).trans (hb.mono (below_size (below_alloc HB.out _)))); clear hb HB; have HB := HB4; clear HB4; have r0 := cell_alloc p0 (.cells #[.int .i64 0, .int .i64 v2, .slice Av4 nv4 cv4] 29); have r1 := cell_alloc p1 (.cells #[.int .i64 0, .int .i64 v2, .slice Av4 nv4 cv4] 29); have s0 : (w4.alloc (.cells #[.int .i64 0, .int .i64 v2, .slice Av4 nv4 cv4] 29)).cell? ⟨w4.heap.size, 0, none⟩ = some (.int .i64 0) := cell_new rfl rfl; have s1 : (w4.alloc (.cells #[.int .i64 0, .int .i64 v2, .slice Av4 nv4 cv4] 29)).cell? ⟨w4.heap.size, 1, none⟩ = some (.int .i64 v2) := cell_new rfl rfl; clear p0 p1 y0 y1; have ST4 : True := trivial)
    | (go_at_call 15; have g_ := ST4; clear g_ ST4; refine (arith_Wrap.calls 8 12 8 a b v2 0 _ W2.out).mono ?_; rintro e w5 ⟨rfl, hb⟩; have y0 := (hb.cell (World.block_lt_of_cell? _ _ r0)).trans r0; have y1 := (hb.cell (World.block_lt_of_cell? _ _ r1)).trans r1; have z0 := (hb.cell (World.block_lt_of_cell? _ _ s0)).trans s0; have z1 := (hb.cell (World.block_lt_of_cell? _ _ s1)).trans s1; have HB3 := Lib.hid ((below_alloc HB.out _).trans (hb.mono (below_size (below_alloc HB.out _)))); clear r0 r1 s0 s1 hb HB; have HB := HB3; clear HB3; have u0 : (w5.alloc (.cells #[.int .i64 1, .int .i64 2, .int .i64 0, .int .i64 0, .int .i64 0, .bool false, .int .i64 0, .string ⟨#[]⟩] 35)).cell? ⟨w5.heap.size, 0, none⟩ = some (.int .i64 1) := cell_new rfl rfl; have u1 : (w5.alloc (.cells #[.int .i64 1, .int .i64 2, .int .i64 0, .int .i64 0, .int .i64 0, .bool false, .int .i64 0, .string ⟨#[]⟩] 35)).cell? ⟨w5.heap.size, 1, none⟩ = some (.int .i64 2) := cell_new rfl rfl; have u2 : (w5.alloc (.cells #[.int .i64 1, .int .i64 2, .int .i64 0, .int .i64 0, .int .i64 0, .bool false, .int .i64 0, .string ⟨#[]⟩] 35)).cell? ⟨w5.heap.size, 2, none⟩ = some (.int .i64 0) := cell_new rfl rfl; have u3 : (w5.alloc (.cells #[.int .i64 1, .int .i64 2, .int .i64 0, .int .i64 0, .int .i64 0, .bool false, .int .i64 0, .string ⟨#[]⟩] 35)).cell? ⟨w5.heap.size, 3, none⟩ = some (.int .i64 0) := cell_new rfl rfl; have u4 : (w5.alloc (.cells #[.int .i64 1, .int .i64 2, .int .i64 0, .int .i64 0, .int .i64 0, .bool false, .int .i64 0, .string ⟨#[]⟩] 35)).cell? ⟨w5.heap.size, 4, none⟩ = some (.int .i64 0) := cell_new rfl rfl; have u5 : (w5.alloc (.cells #[.int .i64 1, .int .i64 2, .int .i64 0, .int .i64 0, .int .i64 0, .bool false, .int .i64 0, .string ⟨#[]⟩] 35)).cell? ⟨w5.heap.size, 5, none⟩ = some (.bool false) := cell_new rfl rfl; have u6 : (w5.alloc (.cells #[.int .i64 1, .int .i64 2, .int .i64 0, .int .i64 0, .int .i64 0, .bool false, .int .i64 0, .string ⟨#[]⟩] 35)).cell? ⟨w5.heap.size, 6, none⟩ = some (.int .i64 0) := cell_new rfl rfl; have u7 : (w5.alloc (.cells #[.int .i64 1, .int .i64 2, .int .i64 0, .int .i64 0, .int .i64 0, .bool false, .int .i64 0, .string ⟨#[]⟩] 35)).cell? ⟨w5.heap.size, 7, none⟩ = some (.string ⟨#[]⟩) := cell_new rfl rfl; have ST5 : True := trivial)
    | (go_at_call 14; have g_ := ST5; clear g_ ST5; refine (ran_c [iMov 0 7, iImm 2 0, iDiv 6 false] a b 193 0 ev3 _ 3 _ (lit35n (by simp) _ (by show 3 ≤ maxLen; decide) _ rfl) (Nat.le_refl _) (by show 3 ≤ 1000; decide) H3.out (HT.out.below (below_alloc (below_alloc HB.out _) _))).mono ?_; rintro e w6 ⟨Av6, cv6, nv6, rfl, hb⟩; have p0 := (hb.cell (World.block_lt_of_cell? _ _ (cell_alloc (cell_alloc y0 _) _))).trans (cell_alloc (cell_alloc y0 _) _); have p1 := (hb.cell (World.block_lt_of_cell? _ _ (cell_alloc (cell_alloc y1 _) _))).trans (cell_alloc (cell_alloc y1 _) _); have p2 := (hb.cell (World.block_lt_of_cell? _ _ (cell_alloc (cell_alloc z0 _) _))).trans (cell_alloc (cell_alloc z0 _) _); have p3 := (hb.cell (World.block_lt_of_cell? _ _ (cell_alloc (cell_alloc z1 _) _))).trans (cell_alloc (cell_alloc z1 _) _); have HB6 := Lib.hid ((below_alloc (below_alloc HB.out _) _).trans (hb.mono (below_size (below_alloc (below_alloc HB.out _) _)))); clear hb HB; have HB := HB6; clear HB6; have r0 := cell_alloc p0 (.cells #[.int .i64 193, .int .i64 0, .slice Av6 nv6 cv6] 29); have r1 := cell_alloc p1 (.cells #[.int .i64 193, .int .i64 0, .slice Av6 nv6 cv6] 29); have r2 := cell_alloc p2 (.cells #[.int .i64 193, .int .i64 0, .slice Av6 nv6 cv6] 29); have r3 := cell_alloc p3 (.cells #[.int .i64 193, .int .i64 0, .slice Av6 nv6 cv6] 29); have s0 : (w6.alloc (.cells #[.int .i64 193, .int .i64 0, .slice Av6 nv6 cv6] 29)).cell? ⟨w6.heap.size, 0, none⟩ = some (.int .i64 193) := cell_new rfl rfl; have s1 : (w6.alloc (.cells #[.int .i64 193, .int .i64 0, .slice Av6 nv6 cv6] 29)).cell? ⟨w6.heap.size, 1, none⟩ = some (.int .i64 0) := cell_new rfl rfl; clear p0 p1 p2 p3 y0 y1 z0 z1 u0 u1 u2 u3 u4 u5 u6 u7; have ST6 : True := trivial)
    | (go_at_call 17; have g_ := ST6; clear g_ ST6; refine (arith_Two.calls 8 4 a 8 b 8 0 0 90 _ T.out (by rfl) HL.out HL2.out (by rfl) (by rfl) rfl).mono ?_; rintro e w7 ⟨rfl, hb⟩; have y0 := (hb.cell (World.block_lt_of_cell? _ _ r0)).trans r0; have y1 := (hb.cell (World.block_lt_of_cell? _ _ r1)).trans r1; have y2 := (hb.cell (World.block_lt_of_cell? _ _ r2)).trans r2; have y3 := (hb.cell (World.block_lt_of_cell? _ _ r3)).trans r3; have y4 := (hb.cell (World.block_lt_of_cell? _ _ s0)).trans s0; have y5 := (hb.cell (World.block_lt_of_cell? _ _ s1)).trans s1; have HB3 := Lib.hid ((below_alloc HB.out _).trans (hb.mono (below_size (below_alloc HB.out _)))); clear r0 r1 r2 r3 s0 s1 hb HB; have HB := HB3; clear HB3; have ST7 : True := trivial)
    | (go_at_call 18; have g_ := ST7; clear g_ ST7; refine (kind_Lies.calls a 8 true _ HL.out).mono ?_; rintro e w8 ⟨rfl, ⟨n8, rfl⟩⟩; have ST8 : True := trivial))
  go_ret
  exact ⟨rfl, pw_below_drewN HB.out _⟩
end Go.Proofs.YtgdkkcdmflopjaaDoor.Mc
namespace Go.Proofs.LaidStrs
open Go.Lib
def strData {H : Type} (ss : List (List UInt8)) : DataW H := .agg (ss.map fun s => .lit (.string s))
def StrsIs (P : Program) (w : World) (name : String) (ss : List (List UInt8)) : Prop := w.var? P name = some (ss.map fun s => Value.string ⟨s.toArray⟩).toArray
theorem cells_of_strs {H : Type} {enc : TypeId × Value → H} {P : Program} {w : World} {base : Nat} {sp : Nat → Bool} {held : Bool} {fuel : Nat} {t e : TypeId} {n : Nat} {cs : List Value} {ss : List (List UInt8)} {p : List MemPlace}
    (ht : P.underlying t = some (.array n e)) (he : P.underlying e = some .string) (hce : P.cellsOf e = 1) (hct : P.cellsOf t = n)
    (h : DataW.trod enc P w base sp held fuel t cs = some (strData ss, p)) : cs = ss.map fun s => Value.string ⟨s.toArray⟩ := by
  cases fuel with
  | zero => simp [DataW.trod] at h
  | succ fuel =>
    simp only [DataW.trod, ht, hce, hct, Nat.mul_one] at h
    split at h
    · rename_i hl
      obtain ⟨xs, hm, hx⟩ := Option.map_eq_some_iff.1 h
      have hxs : xs.map (·.1) = ss.map fun s => (DataW.lit (.string s) : DataW H) := by
        have := congrArg Prod.fst hx
        simpa [strData] using this
      have hxl : xs.length = n := by simpa using mapM_length hm
      have hzl : ss.length = n := by
        have := congrArg List.length hxs
        simp at this
        omega
      apply List.ext_getElem?
      intro i
      by_cases hi : i < n
      · obtain ⟨b, hb, hf⟩ := mapM_at hm i i (by simp [hi])
        obtain ⟨s, hc, rfl, _⟩ := DataW.trod_string he hf
        have h1 : cs[i]? = some (.string s) := by
          have := congrArg (·[0]?) hc
          simpa [List.getElem?_take, List.getElem?_drop] using this
        have h2 : (xs.map (·.1))[i]? = some (DataW.lit (.string s.data.toList) : DataW H) := by simp [hb]
        rw [hxs] at h2
        simp only [List.getElem?_map, Option.map_eq_some_iff, DataW.lit.injEq, Lit.string.injEq] at h2
        obtain ⟨s', hs', hs2⟩ := h2
        rw [h1, List.getElem?_map, hs', hs2]
        simp
      · rw [List.getElem?_eq_none (by omega), List.getElem?_eq_none (by simp; omega)]
    · cases h
theorem strsIs_of_vars {P : Program} {W : World} {name : String} {ss : List (List UInt8)} {rest : List (String × DataW Unit)} {g : Nat} {t e : TypeId} {n : Nat} {ps : List MemPlace}
    (hg : P.globalNamed name = some g) (hty : (P.globals[g]?).map (·.type) = some t) (ht : P.underlying t = some (.array n e)) (he : P.underlying e = some .string) (hce : P.cellsOf e = 1) (hct : P.cellsOf t = n)
    (h : DataW.LaidVars P W ((name, strData ss) :: rest) ps) : StrsIs P W name ss ∧ ∃ q, DataW.LaidVars P W rest q := by
  obtain ⟨g', t', cs, fuel, p, q, hg', ht', hvar, hd, hr, _⟩ := h
  obtain rfl := Option.some.inj (hg.symm.trans hg')
  obtain rfl := Option.some.inj (hty.symm.trans ht')
  refine ⟨?_, q, hr⟩
  unfold StrsIs
  rw [hvar, ← cells_of_strs ht he hce hct hd]
theorem tabIs_of_vars {P : Program} {W : World} {name : String} {k : IntKind} {zs : List Int} {rest : List (String × DataW Unit)} {g : Nat} {t e : TypeId} {n : Nat} {ps : List MemPlace}
    (hg : P.globalNamed name = some g) (hty : (P.globals[g]?).map (·.type) = some t) (ht : P.underlying t = some (.array n e)) (he : P.underlying e = some (.int k)) (hce : P.cellsOf e = 1) (hct : P.cellsOf t = n)
    (h : DataW.LaidVars P W ((name, tabData k zs) :: rest) ps) : TabIs P W name k zs ∧ ∃ q, DataW.LaidVars P W rest q := by
  obtain ⟨g', t', cs, fuel, p, q, hg', ht', hvar, hd, hr, _⟩ := h
  obtain rfl := Option.some.inj (hg.symm.trans hg')
  obtain rfl := Option.some.inj (hty.symm.trans ht')
  refine ⟨?_, q, hr⟩
  unfold TabIs
  rw [hvar, ← cells_of_tab ht he hce hct hd]
theorem StrsIs.cell {P : Program} {W : World} {name : String} {ss : List (List UInt8)} {g : Nat} (h : StrsIs P W name ss) (hg : P.globalNamed name = some g) (i : Nat) (hi : i < ss.length) :
    W.cell? ⟨g, i, none⟩ = some (.string ⟨(ss.getD i []).toArray⟩) := by
  have := World.var?_cell hg h i
  simpa [List.getD, hi] using this
end Go.Proofs.LaidStrs
namespace Go.Proofs.YtgdkkcdmflopjaaDoor.Mc
open Go.Lib Go.Proofs.LaidStrs Go.Proofs.YtgdkkcdmflopjaaDoor
theorem gK : Tryd.prog.globalNamed "burin/mach.kept" = some 0 := by kernel_rfl
theorem gG : Tryd.prog.globalNamed "burin/mach.given" = some 1 := by kernel_rfl
theorem gN : Tryd.prog.globalNamed "burin/kind.names" = some 2 := by kernel_rfl
theorem gL : Tryd.prog.globalNamed "burin/mach.lost" = some 3 := by kernel_rfl
theorem tK : (Tryd.prog.globals[0]?).map (·.type) = some 85 := by kernel_rfl
theorem tG : (Tryd.prog.globals[1]?).map (·.type) = some 85 := by kernel_rfl
theorem tN : (Tryd.prog.globals[2]?).map (·.type) = some 111 := by kernel_rfl
theorem tL : (Tryd.prog.globals[3]?).map (·.type) = some 120 := by kernel_rfl
def laidL : List (String × DataW Unit) := [("burin/kind.names", strData nms), ("burin/mach.given", tabData .i64 givenL), ("burin/mach.kept", tabData .i64 keptL), ("burin/mach.lost", tabData .i64 lostL)]
theorem table {W : World} (h : laidMetH Tryd.prog laidL W) : Tab W := by
  have h0 : laidMet Tryd.prog laidL W := h
  obtain ⟨ps, hv, _⟩ := h0
  obtain ⟨hN, q1, h1⟩ := strsIs_of_vars gN tN Tryd.underlying111 Tryd.underlying9 (by kernel_rfl) (by kernel_rfl) hv
  obtain ⟨hG, q2, h2⟩ := tabIs_of_vars gG tG Tryd.underlying85 Tryd.underlying3 (by kernel_rfl) (by kernel_rfl) h1
  obtain ⟨hK, q3, h3⟩ := tabIs_of_vars gK tK Tryd.underlying85 Tryd.underlying3 (by kernel_rfl) (by kernel_rfl) h2
  obtain ⟨hL, q4, h4⟩ := tabIs_of_vars gL tL Tryd.underlying120 Tryd.underlying3 (by kernel_rfl) (by kernel_rfl) h3
  exact ⟨fun i hi => hK.cell gK i hi, fun i hi => hG.cell gG i hi, fun i hi => hN.cell gN i hi, fun i hi => hL.cell gL i hi⟩
def layB (cs : Array Value) : Obj → Obj
  | .cells _ t frozen => .cells cs t frozen
  | o => o
noncomputable def laidWorld (os : Os) : World :=
  { World.holding Tryd.prog os ⟨#[], #[], []⟩ with heap := ((((World.holding Tryd.prog os ⟨#[], #[], []⟩).heap.modify 0 (layB (keptL.map fun z => Value.int .i64 z).toArray)).modify 1 (layB (givenL.map fun z => Value.int .i64 z).toArray)).modify 2 (layB (nms.map fun s => Value.string ⟨s.toArray⟩).toArray)).modify 3 (layB (lostL.map fun z => Value.int .i64 z).toArray) }
end Go.Proofs.YtgdkkcdmflopjaaDoor.Mc
namespace Go.Proofs.YtgdkkcdmflopjaaDoor.Mc
open Go.RowKit Go.Proofs.YtgdkkcdmflopjaaDoor.PA Go.Proofs.YtgdkkcdmflopjaaDoor.Pure
theorem machHolds_calls (a b : Int) (sg : Bool) (ha : (Lit.int .i64 a).wf = true) (hb : (Lit.int .i64 b).wf = true) (w : World) (hT : Tab w) :
    Calls Tryd.prog 7 #[.int .i64 a, .int .i64 b, .bool sg] w fun e w' => e = .returned (.bool true) ∧ Below w.heap.size w w' := by
  have ha' : In64 a := wf_i64 ha
  have hb' : In64 b := wf_i64 hb
  have hl : kind_Lies.f a (kOf sg) = some true := by rw [lies_eq _ _ ha'.1 ha'.2, lies_k sg ha']
  have hl2 : kind_Lies.f b (kOf sg) = some true := by rw [lies_eq _ _ hb'.1 hb'.2, lies_k sg hb']
  have w1 := less_law sg a b ha' hb'
  have w2 := leq_law sg a b ha' hb'
  have ht := div_law sg a b ha' hb'
  obtain ⟨ev3, h3⟩ := div_run sg a b ha' hb'
  rw [kindOf_k] at h3
  cases sg with
  | true =>
    obtain ⟨ev1, h1⟩ := cmp_run a b 2 ha' hb' (by decide)
    obtain ⟨ev2, h2⟩ := cmp_run a b 3 ha' hb' (by decide)
    cases hc : noDiv true a b with
    | true =>
      rw [hc, if_pos rfl] at ht
      rw [hc, if_pos rfl, if_pos rfl] at h3
      exact holds_true_bad a b _ _ 0 ev1 ev2 ev3 h1 h2 h3 w1 w2 ht hl hl2 w hT
    | false =>
      rw [hc, if_neg (by decide)] at ht
      rw [hc, if_neg (by decide), if_neg (by decide)] at h3
      exact holds_true_good a b _ _ _ ev1 ev2 ev3 h1 h2 h3 w1 w2 ht hl hl2 w hT
  | false =>
    obtain ⟨ev1, h1⟩ := cmp_run a b 4 ha' hb' (by decide)
    obtain ⟨ev2, h2⟩ := cmp_run a b 5 ha' hb' (by decide)
    cases hc : noDiv false a b with
    | true =>
      rw [hc, if_pos rfl] at ht
      rw [hc, if_pos rfl, if_pos rfl] at h3
      exact holds_false_bad a b _ _ 0 ev1 ev2 ev3 h1 h2 h3 w1 w2 ht hl hl2 w hT
    | false =>
      rw [hc, if_neg (by decide)] at ht
      rw [hc, if_neg (by decide), if_neg (by decide)] at h3
      exact holds_false_good a b _ _ _ ev1 ev2 ev3 h1 h2 h3 w1 w2 ht hl hl2 w hT
end Go.Proofs.YtgdkkcdmflopjaaDoor.Mc
