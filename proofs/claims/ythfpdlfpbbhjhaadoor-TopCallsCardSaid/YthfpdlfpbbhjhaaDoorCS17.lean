import Derived.Test.YthfpdlfpbbhjhaaDoorCS16
import Derived.Lib.LaidTab
import Derived.Test.YthfpdlfpbbhjhaaDoorRows
import Derived.Test.YthfpdlfpbbhjhaaDoorMF2
namespace Go.Proofs.YthfpdlfpbbhjhaaDoor.Mc
open Go.RowKit Go.Proofs.YthfpdlfpbbhjhaaDoor.PA Go.Proofs.YthfpdlfpbbhjhaaDoor.Pure Go.Proofs.MapFun Go.Proofs.YthfpdlfpbbhjhaaDoorW.PrintWords Go.Proofs.YthfpdlfpbbhjhaaDoorW.PrintLast Go.Proofs.YthfpdlfpbbhjhaaDoorW.PrintMore
set_option linter.unusedVariables false
set_option linter.unusedSimpArgs false
theorem runS : ∃ ev, mach_Run.f (lT 6) [hdN 7] ⟨#[102]⟩ [1, 2, 3, 4, 5, 6, 77] [] 10 64 = some (0, 77, ev) := by
  have hg := lT_good 7 (by decide) 6 (by decide)
  simp only [goodT, Bool.and_eq_true, beq_iff_eq, List.all_eq_true (p := fun x => decide (kindU x)), decide_eq_true_eq] at hg
  obtain ⟨⟨⟨⟨g1, g2⟩, g3⟩, g4⟩, g5⟩ := hg
  have hbeg : (beginsG (st0 64 ((0 : Nat) : Int)) [1, 2, 3, 4, 5, 6, 77] 64).e = 0 ∧ (beginsG (st0 64 ((0 : Nat) : Int)) [1, 2, 3, 4, 5, 6, 77] 64).reg 4 = 40 := ⟨by decide +kernel, by decide +kernel⟩
  have ho : obs (endP (lT 6) [1, 2, 3, 4, 5, 6, 77] 10 64 ((0 : Nat) : Int)) = [0, 77, 1, 2, 3, 4, 5, 6, 48] := by decide +kernel
  obtain ⟨o1, o2, o3, o4⟩ := obs_ok ho
  have hx : ∀ k, In64 (([1, 2, 3, 4, 5, 6, 77] : List Int).getD k 0) := by
    intro k
    match k with
    | 0 => unfold In64; decide
    | 1 => unfold In64; decide
    | 2 => unfold In64; decide
    | 3 => unfold In64; decide
    | 4 => unfold In64; decide
    | 5 => unfold In64; decide
    | 6 => unfold In64; decide
    | k + 7 => simp [In64]
  have hR : RunOk (lT 6) [hdN 7] ⟨#[102]⟩ [1, 2, 3, 4, 5, 6, 77] [] 10 64 0 := {
    right := g1
    plain := regB_all g2
    kindsU := g3
    len := by show 3 ≤ 40000; decide
    names := by intro c hc; obtain rfl := List.mem_singleton.1 hc; show 1 ≤ 140737488351232; decide
    one := rfl
    find := g5
    lab := g4
    nsize := by decide
    few := by decide
    kinds := rfl
    ain := hx
    ret := rfl
    noscr := rfl
    steps0 := by decide
    steps1 := by decide
    stack0 := by decide
    stack1 := by decide
    stack16 := by decide
    beg := hbeg.1
    kept := fun _ => ⟨o3, by rw [o4, hbeg.2]; decide +kernel⟩ }
  refine ⟨(endP (lT 6) [1, 2, 3, 4, 5, 6, 77] 10 64 ((0 : Nat) : Int)).ev, ?_⟩
  rw [mach_Run.eq hR, o1, if_pos rfl, o2, toP7 (by unfold In64; decide)]
theorem taken_76 (w : World) : Calls Tryd.prog 5 #[.int .i64 7, .int .i64 6] w (TakenPost w 7 6) := taken_c 7 6 (by decide) (by decide) w
theorem head_C (W : World) (n : Nat) (hn : n ≤ 8) (ga ca : Nat) (hca : n ≤ ca) (h : Kd.C (Kd.int .i64) W (some ⟨ga, 0, none⟩) n (List.replicate n 7)) :
    Kd.C k28 (W.alloc (.cells #[.string ⟨#[102]⟩, .int .i64 7, .slice (some ⟨ga, 0, none⟩) n ca, .bool false, .int .i64 0, .slice none 0 0] 28)) (some ⟨W.heap.size, 0, none⟩) 1 [hdN n] := by
  have h' := Kd.C_alloc h (.cells #[.string ⟨#[102]⟩, .int .i64 7, .slice (some ⟨ga, 0, none⟩) n ca, .bool false, .int .i64 0, .slice none 0 0] 28)
  have hl : (hdN n).f2.length = n := List.length_replicate
  refine lit40 W (hdN n) [.string ⟨#[102]⟩, .int .i64 7, .slice (some ⟨ga, 0, none⟩) n ca, .bool false, .int .i64 0, .slice none 0 0] rfl ?_
  have := k28_mk (W.alloc (.cells #[.string ⟨#[102]⟩, .int .i64 7, .slice (some ⟨ga, 0, none⟩) n ca, .bool false, .int .i64 0, .slice none 0 0] 28)) (hdN n) (A2 := some ⟨ga, 0, none⟩) (c2 := ca) (by rw [hl]; exact hca) (by rw [hl]; exact h') (A5 := none) (c5 := 0) (Nat.le_refl _) (C_none _ _)
  rw [hl] at this
  exact this
def OutPost (W : World) (v : Int) (e : Ending) (w' : World) : Prop := ∃ Av cv nv, e = .returned (.agg #[.int .i64 0, .int .i64 v, .slice Av nv cv]) ∧ Below W.heap.size W w'
theorem run_at (W : World) (n i : Nat) (hn : n ≤ 8) (xs : List Int) (hl : xs.length = n) (b : Nat) (Ah As : Option Addr) (cs : Nat) (hcs : n ≤ cs) (v a6 : Int) (ev : List S133)
    (hC : Kd.C k50 W (some ⟨b, 0, none⟩) 3 (lT i)) (hH : Kd.C k28 W Ah 1 [hdN n]) (hA : Kd.C (Kd.int .i64) W As n xs) (hT : Tab W) (hrun : mach_Run.f (lT i) [hdN n] ⟨#[102]⟩ xs [] 10 a6 = some (0, v, ev)) :
    Calls Tryd.prog 6 #[.slice (some ⟨b, 0, none⟩) 3 3, .slice Ah 1 1, .string ⟨#[102]⟩, .slice As n cs, .slice none 0 0, .int .i64 10, .int .i64 a6] W (OutPost W v) := by
  subst hl
  refine (mach_Run.calls (some ⟨b, 0, none⟩) 3 (lT i) Ah 1 [hdN xs.length] ⟨#[102]⟩ As cs xs none 0 [] 10 a6 0 v ev W hC (Nat.le_refl _) hH (Nat.le_refl _) hA hcs (C_none _ _) (Nat.le_refl _) hrun hT).mono ?_
  rintro e w' ⟨v2, rfl, hN, hb⟩
  obtain ⟨Av, cv, rfl, _, _⟩ := Kd.N_reads hN
  exact ⟨Av, cv, _, rfl, hb⟩
theorem shown_run (w1 : World) (b ga ca : Nat) (hca : 7 ≤ ca) (hC : Kd.C k50 w1 (some ⟨b, 0, none⟩) 3 (lT 6)) (hI : Kd.C (Kd.int .i64) w1 (some ⟨ga, 0, none⟩) 7 (List.replicate 7 7)) (hT : Tab w1) :
    Calls Tryd.prog 6 #[.slice (some ⟨b, 0, none⟩) 3 3, .slice (some ⟨w1.heap.size + 1, 0, none⟩) 1 1, .string ⟨#[102]⟩, .slice (some ⟨w1.heap.size + 1 + 1, 0, none⟩) 7 7, .slice none 0 0, .int .i64 10, .int .i64 64]
      (((w1.alloc (.cells #[.string ⟨#[102]⟩, .int .i64 7, .slice (some ⟨ga, 0, none⟩) 7 ca, .bool false, .int .i64 0, .slice none 0 0] 28)).alloc (.cells #[.string ⟨#[102]⟩, .int .i64 7, .slice (some ⟨ga, 0, none⟩) 7 ca, .bool false, .int .i64 0, .slice none 0 0] 28)).alloc (.cells #[.int .i64 1, .int .i64 2, .int .i64 3, .int .i64 4, .int .i64 5, .int .i64 6, .int .i64 77] 2))
      (OutPost (((w1.alloc (.cells #[.string ⟨#[102]⟩, .int .i64 7, .slice (some ⟨ga, 0, none⟩) 7 ca, .bool false, .int .i64 0, .slice none 0 0] 28)).alloc (.cells #[.string ⟨#[102]⟩, .int .i64 7, .slice (some ⟨ga, 0, none⟩) 7 ca, .bool false, .int .i64 0, .slice none 0 0] 28)).alloc (.cells #[.int .i64 1, .int .i64 2, .int .i64 3, .int .i64 4, .int .i64 5, .int .i64 6, .int .i64 77] 2)) 77) := by
  obtain ⟨ev, hev⟩ := runS
  obtain ⟨W2, hW2⟩ : ∃ W2, w1.alloc (.cells #[.string ⟨#[102]⟩, .int .i64 7, .slice (some ⟨ga, 0, none⟩) 7 ca, .bool false, .int .i64 0, .slice none 0 0] 28) = W2 := ⟨_, rfl⟩
  have hs2 : W2.heap.size = w1.heap.size + 1 := by rw [← hW2]; simp
  have hI2 : Kd.C (Kd.int .i64) W2 (some ⟨ga, 0, none⟩) 7 (List.replicate 7 7) := by rw [← hW2]; exact Kd.C_alloc hI _
  have hC2 : Kd.C k50 W2 (some ⟨b, 0, none⟩) 3 (lT 6) := by rw [← hW2]; exact Kd.C_alloc hC _
  have hT2 : Tab W2 := by rw [← hW2]; exact hT.below (below_alloc (Below.refl _ _) _)
  rw [hW2]
  have hH := head_C W2 7 (by decide) ga ca hca hI2
  obtain ⟨W3, hW3⟩ : ∃ W3, W2.alloc (.cells #[.string ⟨#[102]⟩, .int .i64 7, .slice (some ⟨ga, 0, none⟩) 7 ca, .bool false, .int .i64 0, .slice none 0 0] 28) = W3 := ⟨_, rfl⟩
  have hs3 : W3.heap.size = w1.heap.size + 1 + 1 := by rw [← hW3, ← hs2]; simp
  have hC3 : Kd.C k50 W3 (some ⟨b, 0, none⟩) 3 (lT 6) := by rw [← hW3]; exact Kd.C_alloc hC2 _
  have hT3 : Tab W3 := by rw [← hW3]; exact hT2.below (below_alloc (Below.refl _ _) _)
  rw [hW3] at hH ⊢
  rw [hs2] at hH
  have hz := blk_new W3 (.cells #[.int .i64 1, .int .i64 2, .int .i64 3, .int .i64 4, .int .i64 5, .int .i64 6, .int .i64 77] 2)
  rw [hs3] at hz
  refine run_at _ 7 6 (by decide) [1, 2, 3, 4, 5, 6, 77] rfl b _ _ 7 (Nat.le_refl _) 77 64 ev (Kd.C_alloc hC3 _) (Kd.C_alloc hH _) (ints_C _ [1, 2, 3, 4, 5, 6, 77] _ (by simp [maxLen]) (fun j p hj => ?_)) (hT3.below (below_alloc (Below.refl _ _) _)) hev
  rw [blk_cell hz j]
  match j, hj with
  | 0, hj => obtain rfl := Option.some.inj hj; rfl
  | 1, hj => obtain rfl := Option.some.inj hj; rfl
  | 2, hj => obtain rfl := Option.some.inj hj; rfl
  | 3, hj => obtain rfl := Option.some.inj hj; rfl
  | 4, hj => obtain rfl := Option.some.inj hj; rfl
  | 5, hj => obtain rfl := Option.some.inj hj; rfl
  | 6, hj => obtain rfl := Option.some.inj hj; rfl
  | j + 7, hj => simp at hj
set_option maxRecDepth 100000 in
set_option maxHeartbeats 400000 in
theorem shownCalls_c (w : World) (hT : Tab w) : Calls Tryd.prog 4 #[] w fun e w' => e = .returned (.bool true) ∧ Below w.heap.size w w' := by
  have HT := Lib.hid hT
  clear hT
  go_enter Tryd.func4, Tryd.ntmps4
  go_wp2_with (first
    | (go_at_call 5; refine (taken_76 _).mono ?_; rintro e w1 ⟨b, ga, ca, rfl, hca, hC, hI, hb1⟩; have hz := blk_new w1 (.cells #[.string ⟨#[102]⟩, .int .i64 7, .slice (some ⟨ga, 0, none⟩) 7 ca, .bool false, .int .i64 0, .slice none 0 0] 28); have e0 := blk_cell hz 0; have e1 := blk_cell hz 1; have e2 := blk_cell hz 2; have e3 := blk_cell hz 3; have e4 := blk_cell hz 4; have e5 := blk_cell hz 5; have HR := Lib.hid (shown_run w1 b ga ca hca hC hI (HT.out.below hb1)); have H1 := Lib.hid hb1; clear hca hC hI hb1 hz)
    | (go_at_call 6; refine HR.out.mono ?_; rintro e w5 ⟨Av, cv, nv, rfl, hb5⟩; have hz := blk_new w5 (.cells #[.int .i64 0, .int .i64 77, .slice Av nv cv] 34); clear e0 e1 e2 e3 e4 e5; have e0 := blk_cell hz 0; have e1 := blk_cell hz 1; have e2 := blk_cell hz 2; have H5 := Lib.hid hb5; clear hb5 hz HR))
  go_ret
  refine ⟨rfl, ?_⟩
  refine below_alloc (Below.trans (below_alloc (below_alloc (below_alloc H1.out _) _) _) (H5.out.mono ?_)) _
  exact (below_alloc (below_alloc (below_alloc H1.out _) _) _).size
end Go.Proofs.YthfpdlfpbbhjhaaDoor.Mc
namespace Go.Proofs.YthfpdlfpbbhjhaaDoor.Mc
open Go.RowKit Go.Proofs.YthfpdlfpbbhjhaaDoor.PA Go.Proofs.YthfpdlfpbbhjhaaDoor.Pure Go.Proofs.MapFun Go.Proofs.YthfpdlfpbbhjhaaDoorW.PrintWords Go.Proofs.YthfpdlfpbbhjhaaDoorW.PrintLast Go.Proofs.YthfpdlfpbbhjhaaDoorW.PrintMore
attribute [local go_sem] max2_int min2_int max_two min_two
set_option linter.unusedVariables false
set_option linter.unusedSimpArgs false
def TruePost (w : World) (e : Ending) (w' : World) : Prop := e = .returned (.bool true) ∧ Below w.heap.size w w'
set_option maxRecDepth 100000 in
set_option maxHeartbeats 400000 in
theorem top_out1 (A : Option Addr) (n c : Nat) (hnc : n ≤ c) (hn : n ≤ 8) (k : Int) (w : World) (hT : Tab w) (h : k < 0 ∨ (n : Int) ≤ k) : Calls Tryd.prog 3 #[.slice A n c, .int .i64 k] w (TruePost w) := by
  have HT := Lib.hid hT
  clear hT
  by_cases h0 : k < 0
  · clear h
    go_enter Tryd.func3, Tryd.ntmps3
    go_wp2_with (go_at_call 4; refine (shownCalls_c _ HT.out).mono ?_; rintro e w1 ⟨rfl, hb1⟩; have HB := Lib.hid hb1; clear hb1)
    go_ret
    exact ⟨rfl, HB.out⟩
  · have h1 : (n : Int) ≤ k := by omega
    clear h
    go_enter Tryd.func3, Tryd.ntmps3
    go_wp2_with (go_at_call 4; refine (shownCalls_c _ HT.out).mono ?_; rintro e w1 ⟨rfl, hb1⟩; have HB := Lib.hid hb1; clear hb1)
    go_ret
    exact ⟨rfl, HB.out⟩
set_option maxRecDepth 100000 in
set_option maxHeartbeats 400000 in
theorem top_out2 (A : Option Addr) (n c : Nat) (hnc : n ≤ c) (hm : c ≤ 9223372036854775807) (hn : 8 < n) (k : Int) (w : World) (hT : Tab w) (h : k < 0 ∨ 8 ≤ k) : Calls Tryd.prog 3 #[.slice A n c, .int .i64 k] w (TruePost w) := by
  have HT := Lib.hid hT
  have hc8 : 8 ≤ c := by omega
  clear hT
  by_cases h0 : k < 0
  · clear h
    go_enter Tryd.func3, Tryd.ntmps3
    go_wp2_with (go_at_call 4; refine (shownCalls_c _ HT.out).mono ?_; rintro e w1 ⟨rfl, hb1⟩; have HB := Lib.hid hb1; clear hb1)
    go_ret
    exact ⟨rfl, HB.out⟩
  · have h1 : 8 ≤ k := by omega
    clear h
    go_enter Tryd.func3, Tryd.ntmps3
    go_wp2_with (go_at_call 4; refine (shownCalls_c _ HT.out).mono ?_; rintro e w1 ⟨rfl, hb1⟩; have HB := Lib.hid hb1; clear hb1)
    go_ret
    exact ⟨rfl, HB.out⟩
theorem top_run (w1 : World) (n i : Nat) (hn : n ≤ 8) (xs : List Int) (hl : xs.length = n) (hi : i < n) (hx : ∀ k, In64 (xs.getD k 0)) (b ga ca : Nat) (As : Option Addr) (cs : Nat) (hcs : n ≤ cs) (hca : n ≤ ca) (hC : Kd.C k50 w1 (some ⟨b, 0, none⟩) 3 (lT i)) (hI : Kd.C (Kd.int .i64) w1 (some ⟨ga, 0, none⟩) n (List.replicate n 7)) (hA : Kd.C (Kd.int .i64) w1 As n xs) (hT : Tab w1) :
    Calls Tryd.prog 6 #[.slice (some ⟨b, 0, none⟩) 3 3, .slice (some ⟨w1.heap.size + 1, 0, none⟩) 1 1, .string ⟨#[102]⟩, .slice As n cs, .slice none 0 0, .int .i64 10, .int .i64 256]
      ((w1.alloc (.cells #[.string ⟨#[102]⟩, .int .i64 7, .slice (some ⟨ga, 0, none⟩) n ca, .bool false, .int .i64 0, .slice none 0 0] 28)).alloc (.cells #[.string ⟨#[102]⟩, .int .i64 7, .slice (some ⟨ga, 0, none⟩) n ca, .bool false, .int .i64 0, .slice none 0 0] 28))
      (OutPost ((w1.alloc (.cells #[.string ⟨#[102]⟩, .int .i64 7, .slice (some ⟨ga, 0, none⟩) n ca, .bool false, .int .i64 0, .slice none 0 0] 28)).alloc (.cells #[.string ⟨#[102]⟩, .int .i64 7, .slice (some ⟨ga, 0, none⟩) n ca, .bool false, .int .i64 0, .slice none 0 0] 28)) (xs.getD i 0)) := by
  obtain ⟨ev, hev⟩ := topT xs (by omega) i (by omega) hx
  rw [hl] at hev
  obtain ⟨W2, hW2⟩ : ∃ W2, w1.alloc (.cells #[.string ⟨#[102]⟩, .int .i64 7, .slice (some ⟨ga, 0, none⟩) n ca, .bool false, .int .i64 0, .slice none 0 0] 28) = W2 := ⟨_, rfl⟩
  have hs2 : W2.heap.size = w1.heap.size + 1 := by rw [← hW2]; simp
  have hI2 : Kd.C (Kd.int .i64) W2 (some ⟨ga, 0, none⟩) n (List.replicate n 7) := by rw [← hW2]; exact Kd.C_alloc hI _
  have hC2 : Kd.C k50 W2 (some ⟨b, 0, none⟩) 3 (lT i) := by rw [← hW2]; exact Kd.C_alloc hC _
  have hA2 : Kd.C (Kd.int .i64) W2 As n xs := by rw [← hW2]; exact Kd.C_alloc hA _
  have hT2 : Tab W2 := by rw [← hW2]; exact hT.below (below_alloc (Below.refl _ _) _)
  rw [hW2]
  have hH := head_C W2 n hn ga ca hca hI2
  rw [hs2] at hH
  exact run_at _ n i hn xs hl b _ As cs hcs _ 256 ev (Kd.C_alloc hC2 _) hH (Kd.C_alloc hA2 _) (hT2.below (below_alloc (Below.refl _ _) _)) hev
set_option maxRecDepth 100000 in
set_option maxHeartbeats 400000 in
theorem top_in1 (ad : Addr) (n c i : Nat) (hnc : n ≤ c) (hn : n ≤ 8) (hi : i < n) (xs : List Int) (hl : xs.length = n) (hx : ∀ k, In64 (xs.getD k 0)) (w : World) (hT : Tab w) (hA : Kd.C (Kd.int .i64) w (some ad) n xs) (v : Int) (hv : xs.getD i 0 = v) (hc : w.cell? (ad.add i) = some (.int .i64 v)) : Calls Tryd.prog 3 #[.slice (some ad) n c, .int .i64 i] w (TruePost w) := by
  have HT := Lib.hid hT
  have HA := Lib.hid hA
  have HC := Lib.hid hc
  have HX := Lib.hid hx
  have HV := Lib.hid hv
  clear hT hA hc hx hv
  go_enter Tryd.func3, Tryd.ntmps3
  go_wp2_with (first
    | (go_at_call 4; refine (shownCalls_c _ HT.out).mono ?_; rintro e w1 ⟨rfl, hb1⟩; have HB := Lib.hid hb1; clear hb1)
    | (go_at_call 5; refine (taken_c n i hn hi _).mono ?_; rintro e w2 ⟨b, ga, ca, rfl, hca, hC, hI, hb2⟩; have hz := blk_new w2 (.cells #[.string ⟨#[102]⟩, .int .i64 7, .slice (some ⟨ga, 0, none⟩) n ca, .bool false, .int .i64 0, .slice none 0 0] 28); have e0 := blk_cell hz 0; have e1 := blk_cell hz 1; have e2 := blk_cell hz 2; have e3 := blk_cell hz 3; have e4 := blk_cell hz 4; have e5 := blk_cell hz 5; have HB2 := Lib.hid (HB.out.trans (hb2.mono HB.out.size)); have HR := Lib.hid (HV.out ▸ top_run w2 n i hn xs hl hi HX.out b ga ca (some ad) c hnc hca hC hI (Kd.C_below HA.out HB2.out) (HT.out.below HB2.out)); clear hca hC hI hb2 hz)
    | (go_at_call 6; refine HR.out.mono ?_; rintro e w5 ⟨Av, cv, nv, rfl, hb5⟩; have H5 := Lib.hid (Below.trans (below_alloc (below_alloc HB2.out _) _) (hb5.mono (below_alloc (below_alloc HB2.out _) _).size)); have hz := blk_new w5 (.cells #[.int .i64 0, .int .i64 v, .slice Av nv cv] 34); clear e0 e1 e2 e3 e4 e5; have e0 := blk_cell hz 0; have e1 := blk_cell hz 1; have e2 := blk_cell hz 2; clear hb5 hz HR))
  have hb6 := below_alloc H5.out (.cells #[.int .i64 0, .int .i64 v, .slice Av nv cv] 34)
  have a0 := (hb6.cell (World.block_lt_of_cell? w _ HC.out)).trans HC.out
  have HB6 := Lib.hid hb6
  clear hb6
  obtain ⟨R, hR⟩ : ∃ R, w5.heap.size = R := ⟨_, rfl⟩
  have x0 : (w5.alloc (.cells #[.int .i64 0, .int .i64 v, .slice Av nv cv] 34)).cell? ⟨R, 0, none⟩ = some (.int .i64 0) := by rw [← hR]; exact e0
  have x1 : (w5.alloc (.cells #[.int .i64 0, .int .i64 v, .slice Av nv cv] 34)).cell? ⟨R, 1, none⟩ = some (.int .i64 v) := by rw [← hR]; exact e1
  obtain ⟨W6, hW6⟩ : ∃ W6, w5.alloc (.cells #[.int .i64 0, .int .i64 v, .slice Av nv cv] 34) = W6 := ⟨_, rfl⟩
  rw [hW6] at a0 x0 x1 HB6 ⊢
  rw [hR]
  clear e0 e1 e2 hW6 hR
  go_quiet (fail)
  go_wp2
  go_ret
  exact ⟨rfl, pw_below_drewN HB6.out _⟩
end Go.Proofs.YthfpdlfpbbhjhaaDoor.Mc
namespace Go.Proofs.YthfpdlfpbbhjhaaDoor.Mc
open Go.RowKit Go.Proofs.YthfpdlfpbbhjhaaDoor.PA Go.Proofs.YthfpdlfpbbhjhaaDoor.Pure Go.Proofs.MapFun Go.Proofs.YthfpdlfpbbhjhaaDoorW.PrintWords Go.Proofs.YthfpdlfpbbhjhaaDoorW.PrintLast Go.Proofs.YthfpdlfpbbhjhaaDoorW.PrintMore
attribute [local go_sem] max2_int min2_int max_two min_two
set_option linter.unusedVariables false
set_option linter.unusedSimpArgs false
theorem taken_8 (i : Nat) (hi : i < 8) (w : World) : Calls Tryd.prog 5 #[.int .i64 8, .int .i64 i] w (TakenPost w 8 i) := taken_c 8 i (by decide) hi w
set_option maxRecDepth 100000 in
set_option maxHeartbeats 400000 in
theorem top_in2 (ad : Addr) (n c i : Nat) (hnc : n ≤ c) (hm : c ≤ 9223372036854775807) (hn : 8 < n) (hi : i < 8) (xs : List Int) (hl : xs.length = 8) (hx : ∀ k, In64 (xs.getD k 0)) (w : World) (hT : Tab w) (hA : Kd.C (Kd.int .i64) w (some ad) 8 xs) (v : Int) (hv : xs.getD i 0 = v) (hc : w.cell? (ad.add i) = some (.int .i64 v)) : Calls Tryd.prog 3 #[.slice (some ad) n c, .int .i64 i] w (TruePost w) := by
  have HT := Lib.hid hT
  have hc8 : 8 ≤ c := by omega
  have HA := Lib.hid hA
  have HC := Lib.hid hc
  have HX := Lib.hid hx
  have HV := Lib.hid hv
  clear hT hA hc hx hv
  go_enter Tryd.func3, Tryd.ntmps3
  go_wp2_with (first
    | (go_at_call 4; refine (shownCalls_c _ HT.out).mono ?_; rintro e w1 ⟨rfl, hb1⟩; have HB := Lib.hid hb1; clear hb1)
    | (go_at_call 5; refine (taken_8 i hi _).mono ?_; rintro e w2 ⟨b, ga, ca, rfl, hca, hC, hI, hb2⟩; have hz := blk_new w2 (.cells #[.string ⟨#[102]⟩, .int .i64 7, .slice (some ⟨ga, 0, none⟩) 8 ca, .bool false, .int .i64 0, .slice none 0 0] 28); have e0 := blk_cell hz 0; have e1 := blk_cell hz 1; have e2 := blk_cell hz 2; have e3 := blk_cell hz 3; have e4 := blk_cell hz 4; have e5 := blk_cell hz 5; have HB2 := Lib.hid (HB.out.trans (hb2.mono HB.out.size)); have HR := Lib.hid (HV.out ▸ top_run w2 8 i (Nat.le_refl _) xs hl hi HX.out b ga ca (some ad) c hc8 hca hC hI (Kd.C_below HA.out HB2.out) (HT.out.below HB2.out)); clear hca hC hI hb2 hz)
    | (go_at_call 6; refine HR.out.mono ?_; rintro e w5 ⟨Av, cv, nv, rfl, hb5⟩; have H5 := Lib.hid (Below.trans (below_alloc (below_alloc HB2.out _) _) (hb5.mono (below_alloc (below_alloc HB2.out _) _).size)); have hz := blk_new w5 (.cells #[.int .i64 0, .int .i64 v, .slice Av nv cv] 34); clear e0 e1 e2 e3 e4 e5; have e0 := blk_cell hz 0; have e1 := blk_cell hz 1; have e2 := blk_cell hz 2; clear hb5 hz HR))
  have hb6 := below_alloc H5.out (.cells #[.int .i64 0, .int .i64 v, .slice Av nv cv] 34)
  have a0 := (hb6.cell (World.block_lt_of_cell? w _ HC.out)).trans HC.out
  have HB6 := Lib.hid hb6
  clear hb6
  obtain ⟨R, hR⟩ : ∃ R, w5.heap.size = R := ⟨_, rfl⟩
  have x0 : (w5.alloc (.cells #[.int .i64 0, .int .i64 v, .slice Av nv cv] 34)).cell? ⟨R, 0, none⟩ = some (.int .i64 0) := by rw [← hR]; exact e0
  have x1 : (w5.alloc (.cells #[.int .i64 0, .int .i64 v, .slice Av nv cv] 34)).cell? ⟨R, 1, none⟩ = some (.int .i64 v) := by rw [← hR]; exact e1
  obtain ⟨W6, hW6⟩ : ∃ W6, w5.alloc (.cells #[.int .i64 0, .int .i64 v, .slice Av nv cv] 34) = W6 := ⟨_, rfl⟩
  rw [hW6] at a0 x0 x1 HB6 ⊢
  rw [hR]
  clear e0 e1 e2 hW6 hR
  go_quiet (fail)
  go_wp2
  go_ret
  exact ⟨rfl, pw_below_drewN HB6.out _⟩
end Go.Proofs.YthfpdlfpbbhjhaaDoor.Mc
namespace Go.Proofs.YthfpdlfpbbhjhaaDoor.Mc
open Go.RowKit Go.Proofs.YthfpdlfpbbhjhaaDoor.PA Go.Proofs.YthfpdlfpbbhjhaaDoor.Pure Go.Proofs.MapFun Go.Proofs.YthfpdlfpbbhjhaaDoorW.PrintWords Go.Proofs.YthfpdlfpbbhjhaaDoorW.PrintLast Go.Proofs.YthfpdlfpbbhjhaaDoorW.PrintMore
set_option linter.unusedVariables false
set_option linter.unusedSimpArgs false
theorem take_in {zs : List Int} (h : ∀ n ∈ zs, (Lit.int .i64 n).wf = true) (m : Nat) : ∀ k, In64 ((zs.take m).getD k 0) := by
  intro k
  rw [List.getD_eq_getElem?_getD]
  cases hk : (zs.take m)[k]? with
  | none => simp [In64]
  | some v =>
    have hv : v ∈ zs := List.mem_of_mem_take (List.mem_of_getElem? hk)
    exact wf_i64 (h v hv)
theorem ints_take {w : World} {x : Addr} {zs : List Int} {m : Nat} (hm : m ≤ zs.length) (hx : m ≤ maxLen) (h : ∀ i, i < zs.length → w.cell? (x.add i) = some (.int .i64 (zs.getD i 0))) : Kd.C (Kd.int .i64) w (some x) m (zs.take m) := by
  refine ⟨by simp; omega, hx, fun _ => ⟨_, rfl, fun j p hj => ⟨[.int .i64 p], rfl, rfl, fun i u hu => ?_⟩⟩⟩
  have hi : i = 0 := by have := (List.getElem?_eq_some_iff.1 hu).1; simp at this; exact this
  subst hi
  have hu' : Value.int .i64 p = u := by simpa using hu
  subst hu'
  have hj1 : j < m := by have := (List.getElem?_eq_some_iff.1 hj).1; simp at this; omega
  have hj2 : zs[j]? = some p := by rw [List.getElem?_take_of_lt hj1] at hj; exact hj
  have := h j (by omega)
  rw [List.getD_eq_getElem?_getD, hj2] at this
  simpa [Kd.int, Kd.scalar] using this
theorem getD_take {zs : List Int} {m i : Nat} (hi : i < m) : (zs.take m).getD i 0 = zs.getD i 0 := by
  rw [List.getD_eq_getElem?_getD, List.getD_eq_getElem?_getD, List.getElem?_take_of_lt hi]
theorem topCalls_calls (a : Option Addr) (len cap : Nat) (zs : List Int) (k : Int) (W : World) (hT : Tab W)
    (h : (a = none ∧ len = 0 ∧ cap = 0 ∧ zs = []) ∨ ∃ x, a = some x ∧ len ≤ cap ∧ cap ≤ maxLen ∧ zs.length = cap ∧ (∀ i, i < zs.length → W.cell? (x.add i) = some (.int .i64 (zs.getD i 0))) ∧ ∀ n ∈ zs, (Lit.int .i64 n).wf = true) :
    Calls Tryd.prog 3 #[.slice a len cap, .int .i64 k] W (TruePost W) := by
  rcases h with ⟨rfl, rfl, rfl, rfl⟩ | ⟨x, rfl, hl, hm, hz, hc, hw⟩
  · exact top_out1 none 0 0 (Nat.le_refl _) (by omega) k W hT (by omega)
  · by_cases h8 : len ≤ 8
    · by_cases hk : k < 0 ∨ (len : Int) ≤ k
      · exact top_out1 _ len cap hl h8 k W hT hk
      · obtain ⟨i, rfl⟩ : ∃ i : Nat, k = i := ⟨k.toNat, by omega⟩
        exact top_in1 x len cap i hl h8 (by omega) (zs.take len) (by simp; omega) (take_in hw _) W hT (ints_take (by omega) (by omega) hc) _ rfl (by rw [getD_take (by omega)]; exact hc i (by omega))
    · by_cases hk : k < 0 ∨ 8 ≤ k
      · exact top_out2 _ len cap hl hm (by omega) k W hT hk
      · obtain ⟨i, rfl⟩ : ∃ i : Nat, k = i := ⟨k.toNat, by omega⟩
        exact top_in2 x len cap i hl hm (by omega) (by omega) (zs.take 8) (by simp; omega) (take_in hw _) W hT (ints_take (by omega) (by unfold maxLen; omega) hc) _ rfl (by rw [getD_take (by omega)]; exact hc i (by omega))
end Go.Proofs.YthfpdlfpbbhjhaaDoor.Mc
namespace Go.Proofs.LaidStrs
open Go.Lib
def strData {H : Type} (ss : List (List UInt8)) : DataW H := .agg (ss.map fun s => .lit (.string s))
def StrsIs (P : Program) (w : World) (name : String) (ss : List (List UInt8)) : Prop := w.var? P name = some (ss.map fun s => Value.string ⟨s.toArray⟩).toArray
theorem cells_of_strs {H : Type} {enc : TypeId × Value → H} {P : Program} {w : World} {base : Nat} {sp : Nat → Bool} {held : Bool} {fuel : Nat} {t e : TypeId} {n : Nat} {cs : List Value} {ss : List (List UInt8)} {p : List MemPlace}
    (ht : P.underlying t = some (.array n e)) (he : P.underlying e = some .string) (hce : P.cellsOf e = 1) (hct : P.cellsOf t = n)
    (h : DataW.trod enc P w base sp held fuel t cs = some (strData ss, p)) : cs = ss.map fun s => Value.string ⟨s.toArray⟩ := by
  cases fuel with
  | zero => simp [DataW.trod] at h
  | succ fuel =>
    simp only [DataW.trod, ht, hce, hct, Nat.mul_one] at h
    split at h
    · rename_i hl
      obtain ⟨xs, hm, hx⟩ := Option.map_eq_some_iff.1 h
      have hxs : xs.map (·.1) = ss.map fun s => (DataW.lit (.string s) : DataW H) := by
        have := congrArg Prod.fst hx
        simpa [strData] using this
      have hxl : xs.length = n := by simpa using mapM_length hm
      have hzl : ss.length = n := by
        have := congrArg List.length hxs
        simp at this
        omega
      apply List.ext_getElem?
      intro i
      by_cases hi : i < n
      · obtain ⟨b, hb, hf⟩ := mapM_at hm i i (by simp [hi])
        obtain ⟨s, hc, rfl, _⟩ := DataW.trod_string he hf
        have h1 : cs[i]? = some (.string s) := by
          have := congrArg (·[0]?) hc
          simpa [List.getElem?_take, List.getElem?_drop] using this
        have h2 : (xs.map (·.1))[i]? = some (DataW.lit (.string s.data.toList) : DataW H) := by simp [hb]
        rw [hxs] at h2
        simp only [List.getElem?_map, Option.map_eq_some_iff, DataW.lit.injEq, Lit.string.injEq] at h2
        obtain ⟨s', hs', hs2⟩ := h2
        rw [h1, List.getElem?_map, hs', hs2]
        simp
      · rw [List.getElem?_eq_none (by omega), List.getElem?_eq_none (by simp; omega)]
    · cases h
theorem strsIs_of_vars {P : Program} {W : World} {name : String} {ss : List (List UInt8)} {rest : List (String × DataW Unit)} {g : Nat} {t e : TypeId} {n : Nat} {ps : List MemPlace}
    (hg : P.globalNamed name = some g) (hty : (P.globals[g]?).map (·.type) = some t) (ht : P.underlying t = some (.array n e)) (he : P.underlying e = some .string) (hce : P.cellsOf e = 1) (hct : P.cellsOf t = n)
    (h : DataW.LaidVars P W ((name, strData ss) :: rest) ps) : StrsIs P W name ss ∧ ∃ q, DataW.LaidVars P W rest q := by
  obtain ⟨g', t', cs, fuel, p, q, hg', ht', hvar, hd, hr, _⟩ := h
  obtain rfl := Option.some.inj (hg.symm.trans hg')
  obtain rfl := Option.some.inj (hty.symm.trans ht')
  refine ⟨?_, q, hr⟩
  unfold StrsIs
  rw [hvar, ← cells_of_strs ht he hce hct hd]
theorem tabIs_of_vars {P : Program} {W : World} {name : String} {k : IntKind} {zs : List Int} {rest : List (String × DataW Unit)} {g : Nat} {t e : TypeId} {n : Nat} {ps : List MemPlace}
    (hg : P.globalNamed name = some g) (hty : (P.globals[g]?).map (·.type) = some t) (ht : P.underlying t = some (.array n e)) (he : P.underlying e = some (.int k)) (hce : P.cellsOf e = 1) (hct : P.cellsOf t = n)
    (h : DataW.LaidVars P W ((name, tabData k zs) :: rest) ps) : TabIs P W name k zs ∧ ∃ q, DataW.LaidVars P W rest q := by
  obtain ⟨g', t', cs, fuel, p, q, hg', ht', hvar, hd, hr, _⟩ := h
  obtain rfl := Option.some.inj (hg.symm.trans hg')
  obtain rfl := Option.some.inj (hty.symm.trans ht')
  refine ⟨?_, q, hr⟩
  unfold TabIs
  rw [hvar, ← cells_of_tab ht he hce hct hd]
theorem StrsIs.cell {P : Program} {W : World} {name : String} {ss : List (List UInt8)} {g : Nat} (h : StrsIs P W name ss) (hg : P.globalNamed name = some g) (i : Nat) (hi : i < ss.length) :
    W.cell? ⟨g, i, none⟩ = some (.string ⟨(ss.getD i []).toArray⟩) := by
  have := World.var?_cell hg h i
  simpa [List.getD, hi] using this
end Go.Proofs.LaidStrs
namespace Go.Proofs.YthfpdlfpbbhjhaaDoor.Mc
open Go.Lib Go.Proofs.LaidStrs Go.Proofs.YthfpdlfpbbhjhaaDoor
theorem gK : Tryd.prog.globalNamed "burin/mach.kept" = some 0 := by kernel_rfl
theorem gG : Tryd.prog.globalNamed "burin/mach.given" = some 1 := by kernel_rfl
theorem gN : Tryd.prog.globalNamed "burin/kind.names" = some 2 := by kernel_rfl
theorem gL : Tryd.prog.globalNamed "burin/mach.lost" = some 3 := by kernel_rfl
theorem tK : (Tryd.prog.globals[0]?).map (·.type) = some 46 := by kernel_rfl
theorem tG : (Tryd.prog.globals[1]?).map (·.type) = some 46 := by kernel_rfl
theorem tN : (Tryd.prog.globals[2]?).map (·.type) = some 121 := by kernel_rfl
theorem tL : (Tryd.prog.globals[3]?).map (·.type) = some 134 := by kernel_rfl
def laidL : List (String × DataW Unit) := [("burin/kind.names", strData nms), ("burin/mach.given", tabData .i64 givenL), ("burin/mach.kept", tabData .i64 keptL), ("burin/mach.lost", tabData .i64 lostL)]
theorem table {W : World} (h : laidMetH Tryd.prog laidL W) : Tab W := by
  have h0 : laidMet Tryd.prog laidL W := h
  obtain ⟨ps, hv, _⟩ := h0
  obtain ⟨hN, q1, h1⟩ := strsIs_of_vars gN tN Tryd.underlying121 Tryd.underlying9 (by kernel_rfl) (by kernel_rfl) hv
  obtain ⟨hG, q2, h2⟩ := tabIs_of_vars gG tG Tryd.underlying46 Tryd.underlying3 (by kernel_rfl) (by kernel_rfl) h1
  obtain ⟨hK, q3, h3⟩ := tabIs_of_vars gK tK Tryd.underlying46 Tryd.underlying3 (by kernel_rfl) (by kernel_rfl) h2
  obtain ⟨hL, q4, h4⟩ := tabIs_of_vars gL tL Tryd.underlying134 Tryd.underlying3 (by kernel_rfl) (by kernel_rfl) h3
  exact ⟨fun i hi => hK.cell gK i hi, fun i hi => hG.cell gG i hi, fun i hi => hN.cell gN i hi, fun i hi => hL.cell gL i hi⟩
def layB (cs : Array Value) : Obj → Obj
  | .cells _ t frozen => .cells cs t frozen
  | o => o
noncomputable def laidWorld (os : Os) : World :=
  { World.holding Tryd.prog os ⟨#[], #[], []⟩ with heap := ((((World.holding Tryd.prog os ⟨#[], #[], []⟩).heap.modify 0 (layB (keptL.map fun z => Value.int .i64 z).toArray)).modify 1 (layB (givenL.map fun z => Value.int .i64 z).toArray)).modify 2 (layB (nms.map fun s => Value.string ⟨s.toArray⟩).toArray)).modify 3 (layB (lostL.map fun z => Value.int .i64 z).toArray) }
end Go.Proofs.YthfpdlfpbbhjhaaDoor.Mc
