import Derived.Test.YtgdkkcdmflopjaaDoorLR
import Derived.Test.YtgdkkcdmflopjaaDoorMZ
import Derived.Test.YtgdkkcdmflopjaaDoorA0
import Derived.Test.YtgdkkcdmflopjaaDoorA2
import Derived.Test.YtgdkkcdmflopjaaDoorA7
import Derived.Test.YtgdkkcdmflopjaaDoorA10
import Derived.Test.YtgdkkcdmflopjaaDoorA3
namespace Go.Proofs.YtgdkkcdmflopjaaDoor.Mc
open Go.RowKit Go.Proofs.YtgdkkcdmflopjaaDoor.PA Go.Proofs.YtgdkkcdmflopjaaDoor.Pure Go.Proofs.MapFun Go.Proofs.YtgdkkcdmflopjaaDoorW.PrintWords Go.Proofs.YtgdkkcdmflopjaaDoorW.PrintLast Go.Proofs.YtgdkkcdmflopjaaDoorW.PrintMore
set_option linter.unusedVariables false
set_option linter.unusedSimpArgs false
def iOne (d op : Int) : S35 := ⟨6, d, 0, 0, 0, false, op, ⟨#[]⟩⟩
def iShift (d op : Int) (sg : Bool) : S35 := ⟨7, d, 0, 0, 0, sg, op, ⟨#[]⟩⟩
def iExt (d s w : Int) (sg : Bool) : S35 := ⟨10, d, s, 0, w, sg, 0, ⟨#[]⟩⟩
def lX (op : Int) : List S35 := [iLab, iMov 0 7, iTwo 0 6 op, iRet]
def lY (op : Int) : List S35 := [iLab, iMov 0 7, iOne 0 op, iRet]
def lZ (op : Int) (sg : Bool) : List S35 := [iLab, iMov 0 7, iMov 1 6, iShift 0 op sg, iRet]
def lS (w : Int) (sg : Bool) : List S35 := [iLab, iExt 0 7 w sg, iRet]
theorem lX_obs (op a b : Int) : obs (endP (lX op) [a, b] 20 64 ((0 : Nat) : Int)) = [0, wv op 8 a b, 1, 2, 3, 4, 5, 6, 64] := by kernel_rfl
theorem lY_obs (op a b : Int) : obs (endP (lY op) [a, b] 20 64 ((0 : Nat) : Int)) = [0, wv op 8 a 0, 1, 2, 3, 4, 5, 6, 64] := by kernel_rfl
theorem lZ_obs (op a b : Int) (sg : Bool) : obs (endP (lZ op sg) [a, b] 20 64 ((0 : Nat) : Int)) = [0, wv op (kindOfP 8 sg) a (Go.bits .and .i64 b 63), 1, 2, 3, 4, 5, 6, 64] := by kernel_rfl
theorem lS_obs (w a b : Int) (sg : Bool) : obs (endP (lS w sg) [a, b] 20 64 ((0 : Nat) : Int)) = [0, toP a (kindOfP w sg), 1, 2, 3, 4, 5, 6, 64] := by kernel_rfl
theorem lX_good : ∀ op ∈ [1, 2, 3, 8, 9, 10], goodL (lX op) = true := by decide +kernel
theorem lY_good : ∀ op ∈ [15, 16], goodL (lY op) = true := by decide +kernel
theorem lZ_good : ∀ op ∈ [6, 7], ∀ sg, goodL (lZ op sg) = true := by decide +kernel
theorem lS_good : ∀ w ∈ [1, 2, 4], ∀ sg, goodL (lS w sg) = true := by decide +kernel
theorem bad_of {l : List S35} (k : Nat) (hk : k < l.length) (hf : formP (l.getD k z35) = false) (hu : ∀ x ∈ l, kindU x) (hs : ∀ x ∈ l, x.f7.size ≤ 140737488351232) (hl : l.length ≤ 40000) : BadOk l [hd2] where
  right := by
    unfold rightP
    rw [labels_no l k hk (by unfold labOk; rw [hf]; rfl)]
    rfl
  small := hs
  kindsU := hu
  len := hl
  names := by intro c hc; obtain rfl := List.mem_singleton.1 hc; decide
theorem uLab : kindU iLab := .inl ⟨by decide +kernel, .inr (.inl rfl)⟩
theorem uRet : kindU iRet := .inl ⟨by decide +kernel, .inr (.inr rfl)⟩
theorem uMov7 : kindU (iMov 0 7) := .inl ⟨by decide +kernel, .inl rfl⟩
theorem uMov6 : kindU (iMov 1 6) := .inl ⟨by decide +kernel, .inl rfl⟩
theorem uTwo (op : Int) : kindU (iTwo 0 6 op) := .inr ⟨by simp [eqW, wantP, iTwo, eq35, noReg, e0], .inl rfl⟩
theorem uOne (op : Int) : kindU (iOne 0 op) := .inr ⟨by simp [eqW, wantP, iOne, eq35, noReg, e0], .inr (.inl rfl)⟩
theorem uShift (op : Int) (sg : Bool) : kindU (iShift 0 op sg) := .inr ⟨by simp [eqW, wantP, iShift, eq35, noReg, e0], .inr (.inr (.inl rfl))⟩
theorem uExt (w : Int) (sg : Bool) : kindU (iExt 0 7 w sg) := .inr ⟨by simp [eqW, wantP, iExt, eq35, noReg, e0], .inr (.inr (.inr rfl))⟩
theorem lX_bad (op : Int) (h : ¬ ((1 ≤ op ∧ op ≤ 3) ∨ (8 ≤ op ∧ op ≤ 10))) : BadOk (lX op) [hd2] := by
  refine bad_of 2 (by show 2 < 4; decide) ?_ ?_ ?_ (by show 4 ≤ 40000; decide)
  · show (decide ((1 ≤ op ∧ op ≤ 3) ∨ (8 ≤ op ∧ op ≤ 10)) && _) = false
    rw [decide_eq_false h]; rfl
  · intro x hx
    simp only [lX, List.mem_cons, List.not_mem_nil, or_false] at hx
    rcases hx with rfl | rfl | rfl | rfl
    · exact uLab
    · exact uMov7
    · exact uTwo op
    · exact uRet
  · intro x hx
    simp only [lX, List.mem_cons, List.not_mem_nil, or_false] at hx
    rcases hx with rfl | rfl | rfl | rfl <;> (first | (show (0 : Nat) ≤ 140737488351232; decide) | (show (1 : Nat) ≤ 140737488351232; decide))
theorem lY_bad (op : Int) (h : ¬ (op = 15 ∨ op = 16)) : BadOk (lY op) [hd2] := by
  refine bad_of 2 (by show 2 < 4; decide) ?_ ?_ ?_ (by show 4 ≤ 40000; decide)
  · show (decide (op = 15 ∨ op = 16) && _) = false
    rw [decide_eq_false h]; rfl
  · intro x hx
    simp only [lY, List.mem_cons, List.not_mem_nil, or_false] at hx
    rcases hx with rfl | rfl | rfl | rfl
    · exact uLab
    · exact uMov7
    · exact uOne op
    · exact uRet
  · intro x hx
    simp only [lY, List.mem_cons, List.not_mem_nil, or_false] at hx
    rcases hx with rfl | rfl | rfl | rfl <;> (first | (show (0 : Nat) ≤ 140737488351232; decide) | (show (1 : Nat) ≤ 140737488351232; decide))
theorem lZ_bad (op : Int) (sg : Bool) (h : ¬ (op = 6 ∨ op = 7)) : BadOk (lZ op sg) [hd2] := by
  refine bad_of 3 (by show 3 < 5; decide) ?_ ?_ ?_ (by show 5 ≤ 40000; decide)
  · show (decide (op = 6 ∨ op = 7) && _) = false
    rw [decide_eq_false h]; rfl
  · intro x hx
    simp only [lZ, List.mem_cons, List.not_mem_nil, or_false] at hx
    rcases hx with rfl | rfl | rfl | rfl | rfl
    · exact uLab
    · exact uMov7
    · exact uMov6
    · exact uShift op sg
    · exact uRet
  · intro x hx
    simp only [lZ, List.mem_cons, List.not_mem_nil, or_false] at hx
    rcases hx with rfl | rfl | rfl | rfl | rfl <;> (first | (show (0 : Nat) ≤ 140737488351232; decide) | (show (1 : Nat) ≤ 140737488351232; decide))
theorem lS_bad (w : Int) (sg : Bool) (h : ¬ (w = 1 ∨ w = 2 ∨ w = 4)) : BadOk (lS w sg) [hd2] := by
  refine bad_of 1 (by show 1 < 3; decide) ?_ ?_ ?_ (by show 3 ≤ 40000; decide)
  · show (decide (w = 1 ∨ w = 2 ∨ w = 4) && _) = false
    rw [decide_eq_false h]; rfl
  · intro x hx
    simp only [lS, List.mem_cons, List.not_mem_nil, or_false] at hx
    rcases hx with rfl | rfl | rfl
    · exact uLab
    · exact uExt w sg
    · exact uRet
  · intro x hx
    simp only [lS, List.mem_cons, List.not_mem_nil, or_false] at hx
    rcases hx with rfl | rfl | rfl <;> (first | (show (0 : Nat) ≤ 140737488351232; decide) | (show (1 : Nat) ≤ 140737488351232; decide))
theorem run_g {l : List S35} {a b v : Int} (hg : goodL l = true) (ha : In64 a) (hb : In64 b) (ho : obs (endP l [a, b] 20 64 ((0 : Nat) : Int)) = [0, v, 1, 2, 3, 4, 5, 6, 64]) (hv : In64 v) :
    ∃ ev, mach_Run.f l [hd2] ⟨#[102]⟩ [a, b] [] 20 64 = some (0, v, ev) :=
  run_v 56 hg ha hb (by decide) (by decide) (by decide) (by decide) (by decide) (beg64 a b) ho (by decide +kernel) hv
theorem lX_run (op a b : Int) (ha : In64 a) (hb : In64 b) : ∃ c v ev, mach_Run.f (lX op) [hd2] ⟨#[102]⟩ [a, b] [] 20 64 = some (c, v, ev) ∧ ((c = 0 ∧ v = wv op 8 a b ∧ ((1 ≤ op ∧ op ≤ 3) ∨ (8 ≤ op ∧ op ≤ 10))) ∨ (c = 190 ∧ ¬ ((1 ≤ op ∧ op ≤ 3) ∨ (8 ≤ op ∧ op ≤ 10)))) := by
  by_cases h : (1 ≤ op ∧ op ≤ 3) ∨ (8 ≤ op ∧ op ≤ 10)
  · have hm : op ∈ [(1 : Int), 2, 3, 8, 9, 10] := by
      rcases (show op = 1 ∨ op = 2 ∨ op = 3 ∨ op = 8 ∨ op = 9 ∨ op = 10 by omega) with rfl | rfl | rfl | rfl | rfl | rfl <;> decide
    obtain ⟨ev, hr⟩ := run_g (lX_good op hm) ha hb (lX_obs op a b) (wv_in _ _ _ _)
    exact ⟨_, _, ev, hr, .inl ⟨rfl, rfl, h⟩⟩
  · exact ⟨_, _, _, mach_Run.bad _ _ _ _ _ (lX_bad op h), .inr ⟨rfl, h⟩⟩
theorem lY_run (op a b : Int) (ha : In64 a) (hb : In64 b) : ∃ c v ev, mach_Run.f (lY op) [hd2] ⟨#[102]⟩ [a, b] [] 20 64 = some (c, v, ev) ∧ ((c = 0 ∧ v = wv op 8 a 0 ∧ (op = 15 ∨ op = 16)) ∨ (c = 190 ∧ ¬ (op = 15 ∨ op = 16))) := by
  by_cases h : op = 15 ∨ op = 16
  · obtain ⟨ev, hr⟩ := run_g (lY_good op (by rcases h with rfl | rfl <;> decide)) ha hb (lY_obs op a b) (wv_in _ _ _ _)
    exact ⟨_, _, ev, hr, .inl ⟨rfl, rfl, h⟩⟩
  · exact ⟨_, _, _, mach_Run.bad _ _ _ _ _ (lY_bad op h), .inr ⟨rfl, h⟩⟩
theorem lZ_run (op a b : Int) (sg : Bool) (ha : In64 a) (hb : In64 b) : ∃ c v ev, mach_Run.f (lZ op sg) [hd2] ⟨#[102]⟩ [a, b] [] 20 64 = some (c, v, ev) ∧ ((c = 0 ∧ v = wv op (kindOfP 8 sg) a (Go.bits .and .i64 b 63) ∧ (op = 6 ∨ op = 7)) ∨ (c = 190 ∧ ¬ (op = 6 ∨ op = 7))) := by
  by_cases h : op = 6 ∨ op = 7
  · obtain ⟨ev, hr⟩ := run_g (lZ_good op (by rcases h with rfl | rfl <;> decide) sg) ha hb (lZ_obs op a b sg) (wv_in _ _ _ _)
    exact ⟨_, _, ev, hr, .inl ⟨rfl, rfl, h⟩⟩
  · exact ⟨_, _, _, mach_Run.bad _ _ _ _ _ (lZ_bad op sg h), .inr ⟨rfl, h⟩⟩
theorem lS_run (w a b : Int) (sg : Bool) (ha : In64 a) (hb : In64 b) : ∃ c v ev, mach_Run.f (lS w sg) [hd2] ⟨#[102]⟩ [a, b] [] 20 64 = some (c, v, ev) ∧ ((c = 0 ∧ v = toP a (kindOfP w sg) ∧ (w = 1 ∨ w = 2 ∨ w = 4)) ∨ (c = 190 ∧ ¬ (w = 1 ∨ w = 2 ∨ w = 4))) := by
  by_cases h : w = 1 ∨ w = 2 ∨ w = 4
  · obtain ⟨ev, hr⟩ := run_g (lS_good w (by rcases h with rfl | rfl | rfl <;> decide) sg) ha hb (lS_obs w a b sg) (toP_in _ _)
    exact ⟨_, _, ev, hr, .inl ⟨rfl, rfl, h⟩⟩
  · exact ⟨_, _, _, mach_Run.bad _ _ _ _ _ (lS_bad w sg h), .inr ⟨rfl, h⟩⟩
end Go.Proofs.YtgdkkcdmflopjaaDoor.Mc
namespace Go.Proofs.YtgdkkcdmflopjaaDoor.Mc
open Go.RowKit Go.Proofs.YtgdkkcdmflopjaaDoor.PA Go.Proofs.YtgdkkcdmflopjaaDoor.Pure Go.Proofs.MapFun Go.Proofs.YtgdkkcdmflopjaaDoorW.PrintWords Go.Proofs.YtgdkkcdmflopjaaDoorW.PrintLast Go.Proofs.YtgdkkcdmflopjaaDoorW.PrintMore
set_option linter.unusedVariables false
set_option linter.unusedSimpArgs false
theorem blk_stp {w w' : World} {k : Nat} {o : Obj} (h : w.heap[k]? = some o) (hb : Below w.heap.size w w') : w'.heap[k]? = some o :=
  (hb.block k (Array.getElem?_eq_some_iff.1 h).1).trans h
theorem blk_all {w : World} {k : Nat} {o : Obj} (h : w.heap[k]? = some o) (o' : Obj) : (w.alloc o').heap[k]? = some o := blk_stp h (below_alloc (Below.refl _ _) _)
theorem box_c (W : World) (c v : Int) (s : Value) : (W.alloc (.cells #[.int .i64 c, .int .i64 v, s] 29)).heap[W.heap.size]? = some (.cells #[.int .i64 c, .int .i64 v, s] 29 (0, 0)) := alloc_at W _ _
theorem lit35n {W : World} {n : Nat} (hn : n = W.heap.size) (xs : List S35) (hmax : xs.length ≤ maxLen) (cs : Array Value) (hcs : cs = (xs.map c35l).flatten.toArray) : Kd.C k35 (W.alloc (.cells cs 35)) (some ⟨n, 0, none⟩) xs.length xs := by
  subst hn
  exact lit35 W xs hmax cs hcs
end Go.Proofs.YtgdkkcdmflopjaaDoor.Mc
namespace Go.Proofs.YtgdkkcdmflopjaaDoor.PA
open Go.RowKit Go.Proofs.YtgdkkcdmflopjaaDoorX Go.Proofs.YtgdkkcdmflopjaaDoorW.PrintWords Go.Proofs.YtgdkkcdmflopjaaDoorW.PrintLast Go.Proofs.YtgdkkcdmflopjaaDoorW.PrintMore
attribute [local go_sem] max2_int min2_int max_two min_two max_three min_three max_four min_four   -- for this text's walks alone
set_option linter.unusedVariables false
set_option linter.unusedSimpArgs false
def arith_Binary.f (a0 : Int) : Option (Bool) := if a0 ≥ 1 then (some (decide (a0 ≤ 14))) else (some false)
set_option maxHeartbeats 8000000 in
set_option maxRecDepth 100000 in
theorem arith_Binary.calls (a0 : Int) (r : Bool) (w : World) (h : arith_Binary.f a0 = some r) :
  Calls Tryd.prog 16 #[.int .i64 a0] w fun e w' => e = .returned (.bool r) ∧ Drawn0 w w' := by
 have H : (if a0 ≥ 1 then (some (decide (a0 ≤ 14))) else (some false)) = some r := h
 clear h
 by_cases c2 : a0 ≥ 1
 ·rw [if_pos c2] at H
  have c2b0 : decide (1 ≤ a0) = true := decide_eq_true c2
  clear c2
  obtain rfl := Option.some.inj H
  go_enter Tryd.func16, Tryd.ntmps16
  go_wp2
  go_ret
  exact ⟨by first | rfl | (simp; done) | (simp [*]; done), by repeat (first | exact Drawn0.refl _ | apply Drawn0.step)⟩
 ·rw [if_neg c2] at H
  have c2b0 : decide (1 ≤ a0) = false := decide_eq_false c2
  clear c2
  obtain rfl := Option.some.inj H
  go_enter Tryd.func16, Tryd.ntmps16
  go_wp2
  go_ret
  exact ⟨by first | rfl | (simp; done) | (simp [*]; done), by repeat (first | exact Drawn0.refl _ | apply Drawn0.step)⟩
def kind_Promoted.f (a0 : Int) : Option (Int × Int) := (kind_is.f a0).bind fun t409 => (if t409 = true then (if a0 < 5 then (some (5, 0)) else (some (a0, 0))) else (some (0, 80)))
set_option maxHeartbeats 8000000 in
set_option maxRecDepth 100000 in
theorem kind_Promoted.calls (a0 : Int) (r1 : Int) (r2 : Int) (w : World) (h : kind_Promoted.f a0 = some (r1, r2)) :
  Calls Tryd.prog 51 #[.int .i64 a0] w fun e w' => e = .returned (.tuple #[.int .i64 r1, .int .i64 r2]) ∧ Drawn0 w w' := by
 have H : ((kind_is.f a0).bind fun t409 => (if t409 = true then (if a0 < 5 then (some (5, 0)) else (some (a0, 0))) else (some (0, 80)))) = some (r1, r2) := h
 clear h
 replace H := Option.bind_eq_some_iff.mp H
 obtain ⟨t409, A20, H⟩ := H
 replace H : (if t409 = true then (if a0 < 5 then (some (5, 0)) else (some (a0, 0))) else (some (0, 80))) = some (r1, r2) := H
 have A2 := Aside0.mk A20
 clear A20
 by_cases c3 : t409 = true
 ·subst c3
  have H1 : (if a0 < 5 then (some (5, 0)) else (some (a0, 0))) = some (r1, r2) := by rw [if_pos rfl] at H; exact H
  clear H
  have H := H1
  clear H1
  by_cases c4 : a0 < 5
  ·rw [if_pos c4] at H
   have c4b0 : decide (a0 < 5) = true := decide_eq_true c4
   clear c4
   simp only [Option.some.injEq, Prod.mk.injEq] at H
   obtain ⟨rfl, rfl⟩ := H
   go_enter Tryd.func51, Tryd.ntmps51
   go_wp2_with (first | ((with_reducible refine gate_callee (f := 44) rfl ?_); refine goesL_ (some 5) rfl rfl Tryd.func44 (by kernel_rfl) rfl #[.int .i64 a0] rfl (by (try simp only [List.map_toArray, List.map_cons, List.map_nil]); first | done | rfl | (simp only [List.length_drop, List.length_take]; rfl)) ?_; (with_reducible refine (kind_is.calls a0 true _ A2.out).mono ?_); rintro e w' ⟨rfl, ⟨nd, rfl⟩⟩; refine ⟨_, rfl, ?_⟩))
   go_ret2
   exact ⟨by first | rfl | (simp; done) | (simp [*]; done), by repeat (first | exact Drawn0.refl _ | apply Drawn0.step)⟩
  ·rw [if_neg c4] at H
   have c4b0 : decide (a0 < 5) = false := decide_eq_false c4
   clear c4
   simp only [Option.some.injEq, Prod.mk.injEq] at H
   obtain ⟨rfl, rfl⟩ := H
   go_enter Tryd.func51, Tryd.ntmps51
   go_wp2_with (first | ((with_reducible refine gate_callee (f := 44) rfl ?_); refine goesL_ (some 5) rfl rfl Tryd.func44 (by kernel_rfl) rfl #[.int .i64 a0] rfl (by (try simp only [List.map_toArray, List.map_cons, List.map_nil]); first | done | rfl | (simp only [List.length_drop, List.length_take]; rfl)) ?_; (with_reducible refine (kind_is.calls a0 true _ A2.out).mono ?_); rintro e w' ⟨rfl, ⟨nd, rfl⟩⟩; refine ⟨_, rfl, ?_⟩))
   go_ret2
   exact ⟨by first | rfl | (simp; done) | (simp [*]; done), by repeat (first | exact Drawn0.refl _ | apply Drawn0.step)⟩
 ·replace c3 := Bool.eq_false_iff.mpr c3
  subst c3
  have H1 : (some (0, 80)) = some (r1, r2) := by rw [if_neg (show ¬ (false = true) by decide)] at H; exact H
  clear H
  have H := H1
  clear H1
  simp only [Option.some.injEq, Prod.mk.injEq] at H
  obtain ⟨rfl, rfl⟩ := H
  go_enter Tryd.func51, Tryd.ntmps51
  go_wp2_with (first | ((with_reducible refine gate_callee (f := 44) rfl ?_); refine goesL_ (some 5) rfl rfl Tryd.func44 (by kernel_rfl) rfl #[.int .i64 a0] rfl (by (try simp only [List.map_toArray, List.map_cons, List.map_nil]); first | done | rfl | (simp only [List.length_drop, List.length_take]; rfl)) ?_; (with_reducible refine (kind_is.calls a0 false _ A2.out).mono ?_); rintro e w' ⟨rfl, ⟨nd, rfl⟩⟩; refine ⟨_, rfl, ?_⟩))
  go_ret2
  exact ⟨by first | rfl | (simp; done) | (simp [*]; done), by repeat (first | exact Drawn0.refl _ | apply Drawn0.step)⟩
def kind_Usual.f (a0 : Int) (a1 : Int) : Option (Int × Int) := (kind_Promoted.f a0).bind fun bt410 => ((kind_Promoted.f a1).bind fun bt412 => (if bt410.2 = 0 then (if bt412.2 = 0 then (some (mx bt410.1 bt412.1, 0)) else (some (0, 80))) else (some (0, 80))))
set_option maxHeartbeats 8000000 in
set_option maxRecDepth 100000 in
theorem kind_Usual.calls (a0 : Int) (a1 : Int) (r1 : Int) (r2 : Int) (w : World) (h : kind_Usual.f a0 a1 = some (r1, r2)) :
  Calls Tryd.prog 52 #[.int .i64 a0, .int .i64 a1] w fun e w' => e = .returned (.tuple #[.int .i64 r1, .int .i64 r2]) ∧ Below w.heap.size w w' := by
 have HB := Aside0.mk (Below.refl w.heap.size w)
 have H : ((kind_Promoted.f a0).bind fun bt410 => ((kind_Promoted.f a1).bind fun bt412 => (if bt410.2 = 0 then (if bt412.2 = 0 then (some (mx bt410.1 bt412.1, 0)) else (some (0, 80))) else (some (0, 80))))) = some (r1, r2) := h
 clear h
 replace H := Option.bind_eq_some_iff.mp H
 obtain ⟨⟨t410, t411⟩, A30, H⟩ := H
 replace H : ((kind_Promoted.f a1).bind fun bt412 => (if t411 = 0 then (if bt412.2 = 0 then (some (mx t410 bt412.1, 0)) else (some (0, 80))) else (some (0, 80)))) = some (r1, r2) := H
 have A3 := Aside0.mk A30
 clear A30
 replace H := Option.bind_eq_some_iff.mp H
 obtain ⟨⟨t412, t413⟩, A40, H⟩ := H
 replace H : (if t411 = 0 then (if t413 = 0 then (some (mx t410 t412, 0)) else (some (0, 80))) else (some (0, 80))) = some (r1, r2) := H
 have A4 := Aside0.mk A40
 clear A40
 by_cases c5 : t411 = 0
 ·rw [if_pos c5] at H
  have c5b0 : (t411 == 0) = true := beq_iff_eq.mpr c5
  have c5b1 : (t411 != 0) = false := bne_eq_false_iff_eq.mpr c5
  clear c5
  by_cases c6 : t413 = 0
  ·rw [if_pos c6] at H
   have c6b0 : (t413 == 0) = true := beq_iff_eq.mpr c6
   have c6b1 : (t413 != 0) = false := bne_eq_false_iff_eq.mpr c6
   clear c6
   obtain ⟨ji7, hji7⟩ : ∃ j_ : Int, (mx t410 t412) = j_ := ⟨_, rfl⟩
   replace H : (some (ji7, 0)) = some (r1, r2) := by first | (rw [hji7] at H; exact H) | (simp only [hji7] at H ⊢; exact H)
   (try rw [hji7] at A3)
   (try rw [hji7] at A4)
   have hji7_ : (if t410 < t412 then t412 else t410) = ji7 := hji7
   simp only [Option.some.injEq, Prod.mk.injEq] at H
   obtain ⟨rfl, rfl⟩ := H
   go_enter Tryd.func52, Tryd.ntmps52
   go_wp2_with (first | ((with_reducible refine gate_callee (f := 51) rfl ?_); refine goesL_ (some 12) rfl rfl Tryd.func51 (by kernel_rfl) rfl #[.int .i64 a0] rfl (by (try simp only [List.map_toArray, List.map_cons, List.map_nil]); first | done | rfl | (simp only [List.length_drop, List.length_take]; rfl)) ?_; (with_reducible refine (kind_Promoted.calls a0 t410 t411 _ A3.out).mono ?_); rintro e w' ⟨rfl, ⟨nd, rfl⟩⟩; refine ⟨_, rfl, ?_⟩) | ((with_reducible refine gate_callee (f := 51) rfl ?_); refine goesL_ (some 17) rfl rfl Tryd.func51 (by kernel_rfl) rfl #[.int .i64 a1] rfl (by (try simp only [List.map_toArray, List.map_cons, List.map_nil]); first | done | rfl | (simp only [List.length_drop, List.length_take]; rfl)) ?_; (with_reducible refine (kind_Promoted.calls a1 t412 t413 _ A4.out).mono ?_); rintro e w' ⟨rfl, ⟨nd, rfl⟩⟩; refine ⟨_, rfl, ?_⟩))
   go_ret2
   exact ⟨by first | rfl | (simp [errW_none, errW_some] <;> rfl) | (simp only [← hji7]; first | rfl | (simp [errW_none, errW_some] <;> rfl)) | (simp [*, errW_none, errW_some] <;> rfl), by repeat (with_reducible first | exact HB.out | apply below_alloc | apply pw_below_drewN | apply below_drew1)⟩
  ·rw [if_neg c6] at H
   have c6b0 : (t413 == 0) = false := beq_eq_false_iff_ne.mpr c6
   have c6b1 : (t413 != 0) = true := bne_iff_ne.mpr c6
   simp only [Option.some.injEq, Prod.mk.injEq] at H
   obtain ⟨rfl, rfl⟩ := H
   go_enter Tryd.func52, Tryd.ntmps52
   go_wp2_with (first | ((with_reducible refine gate_callee (f := 51) rfl ?_); refine goesL_ (some 12) rfl rfl Tryd.func51 (by kernel_rfl) rfl #[.int .i64 a0] rfl (by (try simp only [List.map_toArray, List.map_cons, List.map_nil]); first | done | rfl | (simp only [List.length_drop, List.length_take]; rfl)) ?_; (with_reducible refine (kind_Promoted.calls a0 t410 t411 _ A3.out).mono ?_); rintro e w' ⟨rfl, ⟨nd, rfl⟩⟩; refine ⟨_, rfl, ?_⟩) | ((with_reducible refine gate_callee (f := 51) rfl ?_); refine goesL_ (some 17) rfl rfl Tryd.func51 (by kernel_rfl) rfl #[.int .i64 a1] rfl (by (try simp only [List.map_toArray, List.map_cons, List.map_nil]); first | done | rfl | (simp only [List.length_drop, List.length_take]; rfl)) ?_; (with_reducible refine (kind_Promoted.calls a1 t412 t413 _ A4.out).mono ?_); rintro e w' ⟨rfl, ⟨nd, rfl⟩⟩; refine ⟨_, rfl, ?_⟩))
   go_ret2
   exact ⟨by first | rfl | (simp [errW_none, errW_some] <;> rfl) | (simp [*, errW_none, errW_some] <;> rfl), by repeat (with_reducible first | exact HB.out | apply below_alloc | apply pw_below_drewN | apply below_drew1)⟩
 ·rw [if_neg c5] at H
  have c5b0 : (t411 == 0) = false := beq_eq_false_iff_ne.mpr c5
  have c5b1 : (t411 != 0) = true := bne_iff_ne.mpr c5
  simp only [Option.some.injEq, Prod.mk.injEq] at H
  obtain ⟨rfl, rfl⟩ := H
  go_enter Tryd.func52, Tryd.ntmps52
  go_wp2_with (first | ((with_reducible refine gate_callee (f := 51) rfl ?_); refine goesL_ (some 12) rfl rfl Tryd.func51 (by kernel_rfl) rfl #[.int .i64 a0] rfl (by (try simp only [List.map_toArray, List.map_cons, List.map_nil]); first | done | rfl | (simp only [List.length_drop, List.length_take]; rfl)) ?_; (with_reducible refine (kind_Promoted.calls a0 t410 t411 _ A3.out).mono ?_); rintro e w' ⟨rfl, ⟨nd, rfl⟩⟩; refine ⟨_, rfl, ?_⟩) | ((with_reducible refine gate_callee (f := 51) rfl ?_); refine goesL_ (some 17) rfl rfl Tryd.func51 (by kernel_rfl) rfl #[.int .i64 a1] rfl (by (try simp only [List.map_toArray, List.map_cons, List.map_nil]); first | done | rfl | (simp only [List.length_drop, List.length_take]; rfl)) ?_; (with_reducible refine (kind_Promoted.calls a1 t412 t413 _ A4.out).mono ?_); rintro e w' ⟨rfl, ⟨nd, rfl⟩⟩; refine ⟨_, rfl, ?_⟩))
  go_ret2
  exact ⟨by first | rfl | (simp [errW_none, errW_some] <;> rfl) | (simp [*, errW_none, errW_some] <;> rfl), by repeat (with_reducible first | exact HB.out | apply below_alloc | apply pw_below_drewN | apply below_drew1)⟩
def arith_in.f (a0 : Int) (a1 : Int) (a2 : Int) : Option (Int × Int) := (arith_Binary.f a0).bind fun t414 => (if t414 = true then ((kind_Usual.f a1 a2).bind fun bt417 => (if bt417.2 = 0 then ((arith_isShift.f a0).bind fun t419 => (if t419 = true then ((kind_Promoted.f a1).bind fun bt420 => (some (bt420.1, bt420.2))) else (some (bt417.1, bt417.2)))) else (some (bt417.1, bt417.2)))) else ((kind_Promoted.f a1).bind fun bt415 => (some (bt415.1, bt415.2))))
set_option maxHeartbeats 8000000 in
set_option maxRecDepth 100000 in
theorem arith_in.calls (a0 : Int) (a1 : Int) (a2 : Int) (r1 : Int) (r2 : Int) (w : World) (h : arith_in.f a0 a1 a2 = some (r1, r2)) :
  Calls Tryd.prog 32 #[.int .i64 a0, .int .i64 a1, .int .i64 a2] w fun e w' => e = .returned (.tuple #[.int .i64 r1, .int .i64 r2]) ∧ Below w.heap.size w w' := by
 have HB := Aside0.mk (Below.refl w.heap.size w)
 have H : ((arith_Binary.f a0).bind fun t414 => (if t414 = true then ((kind_Usual.f a1 a2).bind fun bt417 => (if bt417.2 = 0 then ((arith_isShift.f a0).bind fun t419 => (if t419 = true then ((kind_Promoted.f a1).bind fun bt420 => (some (bt420.1, bt420.2))) else (some (bt417.1, bt417.2)))) else (some (bt417.1, bt417.2)))) else ((kind_Promoted.f a1).bind fun bt415 => (some (bt415.1, bt415.2))))) = some (r1, r2) := h
 clear h
 replace H := Option.bind_eq_some_iff.mp H
 obtain ⟨t414, A40, H⟩ := H
 replace H : (if t414 = true then ((kind_Usual.f a1 a2).bind fun bt417 => (if bt417.2 = 0 then ((arith_isShift.f a0).bind fun t419 => (if t419 = true then ((kind_Promoted.f a1).bind fun bt420 => (some (bt420.1, bt420.2))) else (some (bt417.1, bt417.2)))) else (some (bt417.1, bt417.2)))) else ((kind_Promoted.f a1).bind fun bt415 => (some (bt415.1, bt415.2)))) = some (r1, r2) := H
 have A4 := Aside0.mk A40
 clear A40
 by_cases c5 : t414 = true
 ·subst c5
  have H1 : ((kind_Usual.f a1 a2).bind fun bt417 => (if bt417.2 = 0 then ((arith_isShift.f a0).bind fun t419 => (if t419 = true then ((kind_Promoted.f a1).bind fun bt420 => (some (bt420.1, bt420.2))) else (some (bt417.1, bt417.2)))) else (some (bt417.1, bt417.2)))) = some (r1, r2) := by rw [if_pos rfl] at H; exact H
  clear H
  have H := H1
  clear H1
  replace H := Option.bind_eq_some_iff.mp H
  obtain ⟨⟨t417, t418⟩, A60, H⟩ := H
  replace H : (if t418 = 0 then ((arith_isShift.f a0).bind fun t419 => (if t419 = true then ((kind_Promoted.f a1).bind fun bt420 => (some (bt420.1, bt420.2))) else (some (t417, t418)))) else (some (t417, t418))) = some (r1, r2) := H
  have A6 := Aside0.mk A60
  clear A60
  by_cases c7 : t418 = 0
  ·rw [if_pos c7] at H
   have c7b0 : (t418 == 0) = true := beq_iff_eq.mpr c7
   have c7b1 : (t418 != 0) = false := bne_eq_false_iff_eq.mpr c7
   clear c7
   replace H := Option.bind_eq_some_iff.mp H
   obtain ⟨t419, A80, H⟩ := H
   replace H : (if t419 = true then ((kind_Promoted.f a1).bind fun bt420 => (some (bt420.1, bt420.2))) else (some (t417, t418))) = some (r1, r2) := H
   have A8 := Aside0.mk A80
   clear A80
   by_cases c9 : t419 = true
   ·subst c9
    have H1 : ((kind_Promoted.f a1).bind fun bt420 => (some (bt420.1, bt420.2))) = some (r1, r2) := by rw [if_pos rfl] at H; exact H
    clear H
    have H := H1
    clear H1
    replace H := Option.bind_eq_some_iff.mp H
    obtain ⟨⟨t420, t421⟩, A100, H⟩ := H
    replace H : (some (t420, t421)) = some (r1, r2) := H
    have A10 := Aside0.mk A100
    clear A100
    simp only [Option.some.injEq, Prod.mk.injEq] at H
    obtain ⟨rfl, rfl⟩ := H
    go_enter Tryd.func32, Tryd.ntmps32
    go_wp2_with (first | ((with_reducible refine gate_callee (f := 16) rfl ?_); refine goesL_ (some 11) rfl rfl Tryd.func16 (by kernel_rfl) rfl #[.int .i64 a0] rfl (by (try simp only [List.map_toArray, List.map_cons, List.map_nil]); first | done | rfl | (simp only [List.length_drop, List.length_take]; rfl)) ?_; (with_reducible refine (arith_Binary.calls a0 true _ A4.out).mono ?_); rintro e w' ⟨rfl, ⟨nd, rfl⟩⟩; refine ⟨_, rfl, ?_⟩) | ((with_reducible refine gate_callee (f := 52) rfl ?_); refine goesL_ (some 20) rfl rfl Tryd.func52 (by kernel_rfl) rfl #[.int .i64 a1, .int .i64 a2] rfl (by (try simp only [List.map_toArray, List.map_cons, List.map_nil]); first | done | rfl | (simp only [List.length_drop, List.length_take]; rfl)) ?_; (with_reducible refine (kind_Usual.calls a1 a2 t417 t418 _ A6.out).mono ?_); rintro e w11 ⟨rfl, hb⟩; refine ⟨_, rfl, ?_⟩; have n0_ := Aside0.mk (below_step (by repeat (with_reducible first | exact HB.out | apply below_alloc | apply pw_below_drewN | apply below_drew1)) hb); clear HB; have HB := n0_; clear n0_; (try clear hb); (try clear hb2); (try clear hk); (try clear hi)) | (go_at_call 29; (with_reducible refine (arith_isShift.calls a0 true _ A8.out).mono ?_); rintro e w' ⟨rfl, ⟨nd, rfl⟩⟩) | ((with_reducible refine gate_callee (f := 51) rfl ?_); refine goesL_ (some 30) rfl rfl Tryd.func51 (by kernel_rfl) rfl #[.int .i64 a1] rfl (by (try simp only [List.map_toArray, List.map_cons, List.map_nil]); first | done | rfl | (simp only [List.length_drop, List.length_take]; rfl)) ?_; (with_reducible refine (kind_Promoted.calls a1 t420 t421 _ A10.out).mono ?_); rintro e w' ⟨rfl, ⟨nd, rfl⟩⟩; refine ⟨_, rfl, ?_⟩))
    go_ret2
    exact ⟨by first | rfl | (simp [errW_none, errW_some] <;> rfl) | (simp [*, errW_none, errW_some] <;> rfl), by repeat (with_reducible first | exact HB.out | apply below_alloc | apply pw_below_drewN | apply below_drew1)⟩
   ·replace c9 := Bool.eq_false_iff.mpr c9
    subst c9
    have H1 : (some (t417, t418)) = some (r1, r2) := by rw [if_neg (show ¬ (false = true) by decide)] at H; exact H
    clear H
    have H := H1
    clear H1
    simp only [Option.some.injEq, Prod.mk.injEq] at H
    obtain ⟨rfl, rfl⟩ := H
    go_enter Tryd.func32, Tryd.ntmps32
    go_wp2_with (first | ((with_reducible refine gate_callee (f := 16) rfl ?_); refine goesL_ (some 11) rfl rfl Tryd.func16 (by kernel_rfl) rfl #[.int .i64 a0] rfl (by (try simp only [List.map_toArray, List.map_cons, List.map_nil]); first | done | rfl | (simp only [List.length_drop, List.length_take]; rfl)) ?_; (with_reducible refine (arith_Binary.calls a0 true _ A4.out).mono ?_); rintro e w' ⟨rfl, ⟨nd, rfl⟩⟩; refine ⟨_, rfl, ?_⟩) | ((with_reducible refine gate_callee (f := 52) rfl ?_); refine goesL_ (some 20) rfl rfl Tryd.func52 (by kernel_rfl) rfl #[.int .i64 a1, .int .i64 a2] rfl (by (try simp only [List.map_toArray, List.map_cons, List.map_nil]); first | done | rfl | (simp only [List.length_drop, List.length_take]; rfl)) ?_; (with_reducible refine (kind_Usual.calls a1 a2 t417 t418 _ A6.out).mono ?_); rintro e w12 ⟨rfl, hb⟩; refine ⟨_, rfl, ?_⟩; have n0_ := Aside0.mk (below_step (by repeat (with_reducible first | exact HB.out | apply below_alloc | apply pw_below_drewN | apply below_drew1)) hb); clear HB; have HB := n0_; clear n0_; (try clear hb); (try clear hb2); (try clear hk); (try clear hi)) | (go_at_call 29; (with_reducible refine (arith_isShift.calls a0 false _ A8.out).mono ?_); rintro e w' ⟨rfl, ⟨nd, rfl⟩⟩))
    go_ret2
    exact ⟨by first | rfl | (simp [errW_none, errW_some] <;> rfl) | (simp [*, errW_none, errW_some] <;> rfl), by repeat (with_reducible first | exact HB.out | apply below_alloc | apply pw_below_drewN | apply below_drew1)⟩
  ·rw [if_neg c7] at H
   have c7b0 : (t418 == 0) = false := beq_eq_false_iff_ne.mpr c7
   have c7b1 : (t418 != 0) = true := bne_iff_ne.mpr c7
   simp only [Option.some.injEq, Prod.mk.injEq] at H
   obtain ⟨rfl, rfl⟩ := H
   go_enter Tryd.func32, Tryd.ntmps32
   go_wp2_with (first | ((with_reducible refine gate_callee (f := 16) rfl ?_); refine goesL_ (some 11) rfl rfl Tryd.func16 (by kernel_rfl) rfl #[.int .i64 a0] rfl (by (try simp only [List.map_toArray, List.map_cons, List.map_nil]); first | done | rfl | (simp only [List.length_drop, List.length_take]; rfl)) ?_; (with_reducible refine (arith_Binary.calls a0 true _ A4.out).mono ?_); rintro e w' ⟨rfl, ⟨nd, rfl⟩⟩; refine ⟨_, rfl, ?_⟩) | ((with_reducible refine gate_callee (f := 52) rfl ?_); refine goesL_ (some 20) rfl rfl Tryd.func52 (by kernel_rfl) rfl #[.int .i64 a1, .int .i64 a2] rfl (by (try simp only [List.map_toArray, List.map_cons, List.map_nil]); first | done | rfl | (simp only [List.length_drop, List.length_take]; rfl)) ?_; (with_reducible refine (kind_Usual.calls a1 a2 t417 t418 _ A6.out).mono ?_); rintro e w13 ⟨rfl, hb⟩; refine ⟨_, rfl, ?_⟩; have n0_ := Aside0.mk (below_step (by repeat (with_reducible first | exact HB.out | apply below_alloc | apply pw_below_drewN | apply below_drew1)) hb); clear HB; have HB := n0_; clear n0_; (try clear hb); (try clear hb2); (try clear hk); (try clear hi)))
   go_ret2
   exact ⟨by first | rfl | (simp [errW_none, errW_some] <;> rfl) | (simp [*, errW_none, errW_some] <;> rfl), by repeat (with_reducible first | exact HB.out | apply below_alloc | apply pw_below_drewN | apply below_drew1)⟩
 ·replace c5 := Bool.eq_false_iff.mpr c5
  subst c5
  have H1 : ((kind_Promoted.f a1).bind fun bt415 => (some (bt415.1, bt415.2))) = some (r1, r2) := by rw [if_neg (show ¬ (false = true) by decide)] at H; exact H
  clear H
  have H := H1
  clear H1
  replace H := Option.bind_eq_some_iff.mp H
  obtain ⟨⟨t415, t416⟩, A140, H⟩ := H
  replace H : (some (t415, t416)) = some (r1, r2) := H
  have A14 := Aside0.mk A140
  clear A140
  simp only [Option.some.injEq, Prod.mk.injEq] at H
  obtain ⟨rfl, rfl⟩ := H
  go_enter Tryd.func32, Tryd.ntmps32
  go_wp2_with (first | ((with_reducible refine gate_callee (f := 16) rfl ?_); refine goesL_ (some 11) rfl rfl Tryd.func16 (by kernel_rfl) rfl #[.int .i64 a0] rfl (by (try simp only [List.map_toArray, List.map_cons, List.map_nil]); first | done | rfl | (simp only [List.length_drop, List.length_take]; rfl)) ?_; (with_reducible refine (arith_Binary.calls a0 false _ A4.out).mono ?_); rintro e w' ⟨rfl, ⟨nd, rfl⟩⟩; refine ⟨_, rfl, ?_⟩) | ((with_reducible refine gate_callee (f := 51) rfl ?_); refine goesL_ (some 14) rfl rfl Tryd.func51 (by kernel_rfl) rfl #[.int .i64 a1] rfl (by (try simp only [List.map_toArray, List.map_cons, List.map_nil]); first | done | rfl | (simp only [List.length_drop, List.length_take]; rfl)) ?_; (with_reducible refine (kind_Promoted.calls a1 t415 t416 _ A14.out).mono ?_); rintro e w' ⟨rfl, ⟨nd, rfl⟩⟩; refine ⟨_, rfl, ?_⟩))
  go_ret2
  exact ⟨by first | rfl | (simp [errW_none, errW_some] <;> rfl) | (simp [*, errW_none, errW_some] <;> rfl), by repeat (with_reducible first | exact HB.out | apply below_alloc | apply pw_below_drewN | apply below_drew1)⟩
end Go.Proofs.YtgdkkcdmflopjaaDoor.PA
