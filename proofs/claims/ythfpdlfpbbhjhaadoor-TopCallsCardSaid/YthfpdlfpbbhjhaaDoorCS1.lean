import Derived.Test.YthfpdlfpbbhjhaaDoorA2
import Derived.RegionTactic
import Derived.ChangeAlike
import Derived.BigRegion
import Derived.Outline
import Derived.Lib.Hide
import Derived.Shelf.RegionOpen
import Derived.RangeFuncGives
import Derived.RangeFuncNested
import Derived.RangeFuncBound
import Derived.RangeFuncCalls
import Derived.RangeFuncLeaves
import Derived.RangeFuncBox
import Derived.RangeFuncWrites
import Derived.RangeFuncFrom
import Derived.OwnWalkIn
import Derived.Shelf.Abstract
import Derived.WalkKit
import Derived.TacticsInMore
import Derived.LoopNIn
import Derived.LoopIn
import Derived.Lib.OthersKept
import Derived.Deep.QuietTactic
import Derived.BigQuiet
namespace Go.Proofs.YthfpdlfpbbhjhaaDoor.Mc
open Go.RowKit Go.Proofs.YthfpdlfpbbhjhaaDoor.PA Go.Proofs.YthfpdlfpbbhjhaaDoorW.PrintWords Go.Proofs.YthfpdlfpbbhjhaaDoorW.PrintLast Go.Proofs.YthfpdlfpbbhjhaaDoorW.PrintMore
set_option linter.unusedVariables false
set_option linter.unusedSimpArgs false
theorem blk_new1 (w : World) (o1 o2 : Obj) : ((w.alloc o1).alloc o2).heap[w.heap.size + 1]? = some o2 := by
  have h := blk_new (w.alloc o1) o2
  rwa [show (w.alloc o1).heap.size = w.heap.size + 1 by simp] at h
theorem csize (w : World) : Calls Tryd.prog 28 #[.int .i64 7] w fun e w' => e = .returned (.int .i64 8) ∧ ∃ n, w' = w.drewN n :=
  (kind_Size.calls 7 8 w (by decide +kernel)).mono fun e w' h => by obtain ⟨h, ⟨n, h2⟩⟩ := h; exact ⟨h, n, h2⟩
set_option maxRecDepth 100000 in
set_option maxHeartbeats 4000000 in
theorem lie_c (d : Int) (hd : 1 ≤ d) (w : World) : Calls Tryd.prog 52 #[.agg #[.int .i64 1, .int .i64 7, .int .i64 0, .slice none 0 0, .slice none 0 0, .bool false, .int .i64 0], .int .i64 d] w fun e w' => e = .returned (.tuple #[.agg #[.int .i64 8, .int .i64 8, .slice none 0 0], .int .i64 0]) ∧ Below w.heap.size w w' := by
  go_enter Tryd.func52, Tryd.ntmps52
  go_wp2_with (go_at_call 28; refine (csize _).mono ?_; rintro e w1 ⟨rfl, n, rfl⟩)
  have BK := blk_new1 w (.cells #[.int .i64 1, .int .i64 7, .int .i64 0, .slice none 0 0, .slice none 0 0, .bool false, .int .i64 0] 45) (.cells #[.int .i64 0, .int .i64 0, .slice none 0 0] 115)
  refine bodyPost_ret (results_ct rfl _ _ (w.heap.size + 1) 115 #[.int .i64 8, .int .i64 8, .slice none 0 0] (0, 0) _ rfl (by refine blk_put (cs := #[.int .i64 8, .int .i64 8, .slice none 0 0]) ?_ 2 _ rfl; refine blk_put (cs := #[.int .i64 8, .int .i64 0, .slice none 0 0]) ?_ 1 _ rfl; refine blk_put (cs := #[.int .i64 0, .int .i64 0, .slice none 0 0]) ?_ 0 _ rfl; refine blk_drewN ?_ _; exact BK) Tryd.underlying115 rfl (by kernel_rfl)) rfl ?_
  exact ⟨rfl, by repeat (first | exact Below.refl _ _ | apply below_alloc | apply pw_below_drewN | refine Below.setCell ?_ (by dsimp only; omega) _)⟩
set_option maxRecDepth 100000 in
set_option maxHeartbeats 4000000 in
theorem right_c (w : World) : Calls Tryd.prog 31 #[.agg #[.int .i64 1, .int .i64 7, .int .i64 0, .slice none 0 0, .slice none 0 0, .bool false, .int .i64 0]] w fun e w' => e = .returned (.int .i64 0) ∧ Below w.heap.size w w' := by
  go_enter Tryd.func31, Tryd.ntmps31
  have z0 : (w.alloc (.cells #[.int .i64 1, .int .i64 7, .int .i64 0, .slice none 0 0, .slice none 0 0, .bool false, .int .i64 0] 45)).heap[w.heap.size]? = some (.cells #[.int .i64 1, .int .i64 7, .int .i64 0, .slice none 0 0, .slice none 0 0, .bool false, .int .i64 0] 45 (0, 0)) := by
    show (w.heap.push _)[w.heap.size]? = _
    simp
  have c0 := blk_cell z0 0
  have c1 := blk_cell z0 1
  have c2 := blk_cell z0 2
  have c3 := blk_cell z0 3
  have c4 := blk_cell z0 4
  have c5 := blk_cell z0 5
  have c6 := blk_cell z0 6
  go_wp2_with (go_at_call 52; refine (lie_c 6 (by decide) _).mono ?_; rintro e w1 ⟨rfl, hb⟩; have HB := Lib.hid hb; clear hb)
  go_ret
  exact ⟨rfl, by repeat (first | exact (below_alloc (Below.refl _ _) _).trans (HB.out.mono (below_size (below_alloc (Below.refl _ _) _))) | apply below_alloc | apply pw_below_drewN | refine Below.setCell ?_ (by dsimp only; omega) _)⟩
set_option maxRecDepth 100000 in
set_option maxHeartbeats 4000000 in
theorem tysize_c (w : World) : Calls Tryd.prog 32 #[.agg #[.int .i64 1, .int .i64 7, .int .i64 0, .slice none 0 0, .slice none 0 0, .bool false, .int .i64 0]] w fun e w' => e = .returned (.tuple #[.int .i64 8, .int .i64 8, .int .i64 0]) ∧ Below w.heap.size w w' := by
  go_enter Tryd.func32, Tryd.ntmps32
  have z0 := blk_new w (.cells #[.int .i64 1, .int .i64 7, .int .i64 0, .slice none 0 0, .slice none 0 0, .bool false, .int .i64 0] 45)
  have c0 := blk_cell z0 0
  have c1 := blk_cell z0 1
  have c2 := blk_cell z0 2
  have c3 := blk_cell z0 3
  have c4 := blk_cell z0 4
  have c5 := blk_cell z0 5
  have c6 := blk_cell z0 6
  go_wp2_with (go_at_call 52; refine (lie_c 6 (by decide) _).mono ?_; rintro e w1 ⟨rfl, hb⟩; have HB := Lib.hid hb; clear hb; have y0 := blk_cell (blk_new w1 (.cells #[.int .i64 8, .int .i64 8, .slice none 0 0] 115)) 0; have y1 := blk_cell (blk_new w1 (.cells #[.int .i64 8, .int .i64 8, .slice none 0 0] 115)) 1)
  go_region
  go_wp2
  refine bodyPost_ret (results_tmp3 rfl _ _ _) rfl ?_
  exact ⟨rfl, by repeat (first | exact (below_alloc (Below.refl _ _) _).trans (HB.out.mono (below_size (below_alloc (Below.refl _ _) _))) | apply below_alloc | apply below_drew1 | apply pw_below_drewN | refine Below.setCell ?_ (by dsimp only; omega) _)⟩
end Go.Proofs.YthfpdlfpbbhjhaaDoor.Mc
namespace Go.Proofs.YthfpdlfpbbhjhaaDoor.Mc
open Go.RowKit Go.Proofs.YthfpdlfpbbhjhaaDoor.PA Go.Proofs.YthfpdlfpbbhjhaaDoorW.PrintWords Go.Proofs.YthfpdlfpbbhjhaaDoorW.PrintLast Go.Proofs.YthfpdlfpbbhjhaaDoorW.PrintMore
set_option linter.unusedVariables false
set_option linter.unusedSimpArgs false
set_option maxRecDepth 100000 in
set_option maxHeartbeats 4000000 in
theorem same_c (w : World) : Calls Tryd.prog 16 #[.agg #[.int .i64 1, .int .i64 7, .int .i64 0, .slice none 0 0, .slice none 0 0, .bool false, .int .i64 0], .agg #[.int .i64 0, .int .i64 0, .int .i64 0, .slice none 0 0, .slice none 0 0, .bool false, .int .i64 0]] w fun e w' => e = .returned (.bool false) ∧ Below w.heap.size w w' := by
  go_enter Tryd.func16, Tryd.ntmps16
  go_wp2
  go_ret
  exact ⟨rfl, by repeat (first | exact Below.refl _ _ | apply below_alloc | apply below_drew1 | apply pw_below_drewN)⟩
end Go.Proofs.YthfpdlfpbbhjhaaDoor.Mc
namespace Go.Proofs.YthfpdlfpbbhjhaaDoor.Mc
open Go.RowKit
set_option linter.unusedVariables false
def SeqAll {α : Type} (F : Fence) (n : Nat) (P : Program) (g : Nat) (lb : Array Value) (enc : α → Value) (S : List α → Prop) (N : Nat) (Kp : World → World → Prop) (w : World) : Prop :=
  ∀ (l : Nat) (J : List α → World → Prop) (W : World), Below w.heap.size w W → AbidesFrom W.heap.size J →
    (∀ pre x W1, J pre W1 → pre.length < N → YieldAt F (n - 1) P l #[enc x] W1 fun e W' => e = .returned (.bool true) ∧ J (pre ++ [x]) W' ∧ Kp W1 W') →
    J [] W → CallsIn F n P g (#[.func (.yield l) #[] #[]] ++ lb) W fun e W' => (∃ v, e = .returned v) ∧ ∃ xs, S xs ∧ J xs W'
variable {F : Fence} {n : Nat} {P : Program}
theorem wpIn_rangeFunc_all {α : Type} {g : Operand} {ps : Array Tmp} {assign body : Code} {Q : Exit → Act → World → Prop} {a : Act} {w : World}
    (hro : F.round = none) (h1 : 1 ≤ n) {gf : Nat} {lb : Array Value} (hg : a.eval g = .func (.func gf) #[] lb) (hFg : F.fn gf) (eg : ∀ args w, (callFunc gf args).run P w = .ok (.enter gf args) w)
    {enc : α → Value} {S : List α → Prop} {N : Nat} {Kp : World → World → Prop} (hKt : ∀ {A B C : World}, Kp A B → Kp B C → Kp A C) (hKb : ∀ (W : World) (l : Nat) (o : Obj), w.heap.size ≤ l → Kp W (W.putObj l o)) (hseq : SeqAll F (n - 1) P gf lb enc S N Kp w) (hps : ps.size = 1)
    (I : List α → World → Prop) (hI : OwnFrom w.heap.size I) (h0 : I [] w) (Mid : α → Act → World → Prop) (hMid : ∀ x a', OwnFrom w.heap.size (fun (_ : Unit) W => Mid x a' W))
    (hassign : ∀ (l : Nat) (pre : List α) (x : α) (W : World) (K : Act → World → Prop), I pre W → (∀ a' W', KeepsOthers W W' → Kp W W' → I pre W' → Mid x a' W' → K a' W') →
      assign.wpIn (F.inRound l) (n - 1 - 1) P (Exit.then K (fun _ _ _ => False)) { tmps := (ps.zip #[enc x]).foldl (fun t (p, v) => t.setIfInBounds p v) a.tmps, defers := [] } W)
    (hbody : ∀ (l : Nat) (pre : List α) (x : α) (a' : Act) (W : World), I pre W → Mid x a' W → pre.length < N →
      body.wpIn (F.inRound l) (n - 1 - 1) P (fun e _ W' => e = .normal ∧ KeepsOthers W W' ∧ Kp W W' ∧ I (pre ++ [x]) W') a' W)
    (hdone : ∀ (D : Nat) (xs : List α) (W : World), w.heap.size ≤ D → S xs → I xs W → W.heap[D]? = some (.deferred (some [])) → Q .normal { a with defers := { target := .collected D, args := #[] } :: a.defers } W) :
    (Code.rangeFunc g ps assign body).wpIn F n P Q a w := by
  refine wpIn_rangeFunc fun fn hfn => ?_
  rw [hro]
  let D := w.heap.size
  let L := w.heap.size + 1
  let R : LoopState → Loop := fun st => { state := st, pending := none, fn, tmps := a.tmps, params := ps, assign, body, defers := D }
  obtain ⟨W1, hW1⟩ : ∃ W1, (w.alloc (.deferred (some []))).alloc (.loop (R .ready)) = W1 := ⟨_, rfl⟩
  have hL1 : W1.heap[L]? = some (.loop (R .ready)) := by
    rw [← hW1]; have := World.alloc_heap_new (w.alloc (.deferred (some []))) (.loop (R .ready)); rwa [World.size_alloc] at this
  have hD1 : W1.heap[D]? = some (.deferred (some [])) := by
    rw [← hW1]; exact (Below.heap_alloc _ _ _ (by simp [D])).trans (World.alloc_heap_new w _)
  have hg0 : w.grownBy W1 none := by
    rw [← hW1]
    have b : Below w.heap.size w ((w.alloc (.deferred (some []))).alloc (.loop (R .ready))) := ((Below.refl _ w).alloc (Nat.le_refl _) _).alloc (by simp) _
    exact ⟨b.os, b.tape, b.output, b.size, fun i hi _ => b.block i hi⟩
  have hB1 : Below w.heap.size w W1 := by
    rw [← hW1]; exact ((Below.refl _ w).alloc (Nat.le_refl _) _).alloc (by simp) _
  have hI1 : I [] W1 := hI _ _ _ none h0 hg0 (fun r e => by cases e)
  have hsz : W1.heap.size = w.heap.size + 2 := by rw [← hW1]; simp
  have walkc : ∀ {A : World} {row : Option Nat}, (∀ r, row = some r → W1.heap.size ≤ r ∧ ∃ o : Obj, A.heap[r]? = some o ∧ o.isWalk = true) → ∀ r, row = some r → w.heap.size ≤ r ∧ ∃ o : Obj, A.heap[r]? = some o ∧ o.isCells = false :=
    fun hr r e => by obtain ⟨hle, o, ho, hw⟩ := hr r e; exact ⟨by omega, o, ho, Obj.not_cells_of_walk hw⟩
  refine ⟨L, [{ target := .collected D, args := #[] }], W1, { target := .fn (.func gf) lb, args := #[.func (.yield L) #[] #[]] }, W1, gf, #[.func (.yield L) #[] #[]] ++ lb, W1, ?_, ?_, ?_, ?_, fun _ => h1, ?_⟩
  · rw [← hW1]; exact run_enterLoop_outer _ _ _ _ _
  · simp only [resolve, hg]; simp [go_sem]
  · intro f' hf'; simp [Target.leads] at hf'; subst hf'; exact hFg
  · simp [invoke, go_sem, eg]
  · refine (hseq L (fun pre W => I pre W ∧ W.heap[L]? = some (.loop (R .ready)) ∧ W.heap[D]? = some (.deferred (some []))) W1 hB1 ?_ ?_ ⟨hI1, hL1, hD1⟩).mono ?_
    · rintro s A B row ⟨hs, hl, hd⟩ hg' hr
      exact ⟨hI s A B row hs hg' (walkc hr), (grownBy_keeps hg' (fun r e => (hr r e).2) hl rfl).trans hl, (grownBy_keeps hg' (fun r e => (hr r e).2) hd rfl).trans hd⟩
    · rintro pre x W ⟨hi, hl, hd⟩ hlen
      have hLt : L < W.heap.size := (Array.getElem?_eq_some_iff.1 hl).1
      refine ⟨fn, _, assign, body, run_yield hl (by simp [R, hps]), roundIn_of_wpIn hfn (hassign L pre x W _ hi ?_)⟩
      intro a' W' hk hb hi' hm
      have hl' := hk.same _ _ hl rfl
      have hd' := hk.same _ _ hd rfl
      have hLt' : L < W'.heap.size := (Array.getElem?_eq_some_iff.1 hl').1
      refine ⟨_, run_beginRound hl' rfl, ?_⟩
      have hl2 : (W'.putObj L (.loop { R .ready with state := .busy })).heap[L]? = some (.loop { R .ready with state := .busy }) := World.putObj_heap_same hLt'
      have hd2 : (W'.putObj L (.loop { R .ready with state := .busy })).heap[D]? = some (.deferred (some [])) := (World.putObj_heap_other (by omega)).trans hd'
      refine wpIn_mono (hbody L pre x a' _ (hI.putObj _ hi' (by omega) hl' rfl) ((hMid x a').putObj (s := ()) _ hm (by omega) hl' rfl) hlen) ?_
      rintro e a3 W3 ⟨rfl, hk3, hb3, hi3⟩
      have hl3 := hk3.same _ _ hl2 rfl
      have hd3 := hk3.same _ _ hd2 rfl
      refine ⟨_, _, run_endRound none hl3, rfl, ⟨hI.putObj _ hi3 (by omega) hl3 rfl, World.putObj_heap_same (Array.getElem?_eq_some_iff.1 hl3).1, (World.putObj_heap_other (by omega)).trans hd3⟩, ?_⟩
      exact hKt (hKt (hKt hb (hKb _ _ _ (by omega))) hb3) (hKb _ _ _ (by omega))
    · rintro e W2 ⟨⟨v, rfl⟩, xs, hS, hi, hl, hd⟩
      exact ⟨none, _, run_endLoop hl (by simp [R]), hdone D xs _ (Nat.le_refl _) hS (hI.putObj _ hi (by omega) hl rfl) ((World.putObj_heap_other (by omega)).trans hd)⟩
end Go.Proofs.YthfpdlfpbbhjhaaDoor.Mc
namespace Go.Proofs.YthfpdlfpbbhjhaaDoor.Mc
open Go.RowKit Go.Proofs.YthfpdlfpbbhjhaaDoor.PA Go.Proofs.YthfpdlfpbbhjhaaDoorW.PrintWords Go.Proofs.YthfpdlfpbbhjhaaDoorW.PrintLast Go.Proofs.YthfpdlfpbbhjhaaDoorW.PrintMore
set_option linter.unusedVariables false
set_option linter.unusedSimpArgs false
set_option maxRecDepth 100000 in
set_option maxHeartbeats 4000000 in
theorem leaves1_all (n : Nat) (hn : 3 ≤ n) (w : World) (b1 b2 : Nat) (h1 : w.heap[b1]? = some (.cells #[.int .i64 1, .int .i64 7, .int .i64 0, .slice none 0 0, .slice none 0 0, .bool false, .int .i64 0] 45 (0, 0))) (h2 : w.heap[b2]? = some (.cells #[.int .i64 0] 2 (0, 0))) :
    SeqAll Fence.wide n Tryd.prog 62 #[.pointer (some ⟨b1, 0, none⟩), .pointer (some ⟨b2, 0, none⟩)] (fun (_ : Unit) => .agg #[.int .i64 0, .int .i64 64, .int .i64 7]) (fun xs => xs = [()]) 1 (fun W W' => ∀ o, W.heap[b1]? = some o → W'.heap[b1]? = some o) w := by
  intro l J W hW hJ hY h0
  show CallsIn Fence.wide n Tryd.prog 62 #[.func (.yield l) #[] #[], .pointer (some ⟨b1, 0, none⟩), .pointer (some ⟨b2, 0, none⟩)] W _
  refine callsIn_of_wp Tryd.func62 rfl trivial ?_ rfl
  simp only [Tryd.ntmps62, List.size_toArray, List.length_cons, List.length_nil, Nat.reduceAdd, Nat.reduceSub, Array.replicate_succ, Array.replicate_zero, List.push_toArray, List.append_toArray, List.nil_append, List.cons_append]
  obtain ⟨A, hA⟩ : ∃ A, W.alloc (.cells #[.func (.yield l) #[] #[]] 93) = A := ⟨_, rfl⟩
  have bA : Below W.heap.size W A := by rw [← hA]; exact below_alloc (Below.refl _ _) _
  have hs : A.heap.size = W.heap.size + 1 := by rw [← hA]; simp
  have hWs := hW.size
  have q1 := (bA.block b1 (by have := blk_lt h1; omega)).trans ((hW.block b1 (blk_lt h1)).trans h1)
  have q2 := (bA.block b2 (by have := blk_lt h2; omega)).trans ((hW.block b2 (blk_lt h2)).trans h2)
  have q3 : A.heap[W.heap.size]? = some (.cells #[.func (.yield l) #[] #[]] 93 (0, 0)) := by rw [← hA]; exact blk_new W _
  have c0 := blk_cell q1 0
  have c1 := blk_cell q1 1
  have c2 := blk_cell q1 2
  have c3 := blk_cell q1 3
  have c4 := blk_cell q1 4
  have c5 := blk_cell q1 5
  have c6 := blk_cell q1 6
  have HJ := Lib.hid hJ
  have HY := Lib.hid hY
  have H0 := Lib.hid h0
  have HBA := Lib.hid bA
  have HQ := Lib.hid (And.intro q1 (And.intro q2 q3))
  clear hJ hY h0 bA q1 q2 q3 hW h1 h2
  gi_wp2_with (first
    | (refine ⟨trivial, fun _ => by omega, ?_⟩; gi_at_call 52; (try rw [hA]); refine (callsIn_wide.2 (lie_c 6 (by decide) _)).mono ?_; rintro e w1 ⟨rfl, hb⟩; have bx := hb.trans ((below_alloc (Below.refl w1.heap.size w1) (.cells #[.int .i64 8, .int .i64 8, .slice none 0 0] 115)).mono hb.size); have q1 := (bx.block _ (blk_lt HQ.out.1)).trans HQ.out.1; have q2 := (bx.block _ (blk_lt HQ.out.2.1)).trans HQ.out.2.1; have q3 := (bx.block _ (blk_lt HQ.out.2.2)).trans HQ.out.2.2; have q4 := blk_new w1 (.cells #[.int .i64 8, .int .i64 8, .slice none 0 0] 115); clear c0 c1 c2 c3 c4 c5 c6; have c0 := blk_cell q1 0; have c1 := blk_cell q1 1; have c2 := blk_cell q1 2; have c3 := blk_cell q1 3; have c4 := blk_cell q1 4; have c5 := blk_cell q1 5; have c6 := blk_cell q1 6; have d0 := blk_cell q2 0; have d1 := blk_cell q4 0; have y0 := blk_cell q3 0; have HB := Lib.hid (And.intro bx q1); clear hb bx q1 q2 q3 q4))
  have hj1 := HJ.out [] W _ none H0.out (grown_of_below (HBA.out.trans (HB.out.1.mono (by rw [hs]; omega))) none) (fun r e => by cases e)
  obtain ⟨fn, tmps, assign, body, hy, hR⟩ := HY.out [] () _ hj1 (by decide)
  rw [hy]
  gi_wp2
  refine ⟨fun _ => by omega, hR.mono ?_⟩
  rintro e W3 ⟨rfl, hJ3, hk3⟩
  have q1 := hk3 _ HB.out.2
  clear c0 c1 c2 c3 c4 c5 c6 d0 d1 y0
  have c0 := blk_cell q1 0
  have c1 := blk_cell q1 1
  have c2 := blk_cell q1 2
  have c3 := blk_cell q1 3
  have c4 := blk_cell q1 4
  have c5 := blk_cell q1 5
  have c6 := blk_cell q1 6
  have H3 := Lib.hid hJ3
  clear hJ3 hk3 q1 hR hy hj1
  gi_wp2
  gi_loopw [72] (fun i wr => i = .int .i64 0 ∧ J [()] wr) (fun _ _ => 0)
  case atStart => exact ⟨rfl, H3.out⟩
  case round =>
    obtain ⟨rfl, hJs⟩ := hrel
    gi_wp2
    go_end0
    exact ⟨⟨_, rfl⟩, _, rfl, hJs⟩
end Go.Proofs.YthfpdlfpbbhjhaaDoor.Mc
namespace Go.Proofs.YthfpdlfpbbhjhaaDoor.Mc
open Go.RowKit Go.Proofs.YthfpdlfpbbhjhaaDoor.PA Go.Proofs.YthfpdlfpbbhjhaaDoorW.PrintWords Go.Proofs.YthfpdlfpbbhjhaaDoorW.PrintLast Go.Proofs.YthfpdlfpbbhjhaaDoorW.PrintMore
set_option linter.unusedVariables false
set_option linter.unusedSimpArgs false
attribute [local go_sem] Oper.semAt_some
set_option maxHeartbeats 1000000 in
theorem leaves_in (n : Nat) (w : World) :
    CallsIn Fence.wide n Tryd.prog 51 #[.agg #[.int .i64 1, .int .i64 7, .int .i64 0, .slice none 0 0, .slice none 0 0, .bool false, .int .i64 0], .int .i64 0] w fun e w' => e = .returned (.func (.func 62) #[] #[.pointer (some ⟨w.heap.size, 0, none⟩), .pointer (some ⟨w.heap.size + 1, 0, none⟩)]) ∧ w' = (w.alloc (.cells #[.int .i64 1, .int .i64 7, .int .i64 0, .slice none 0 0, .slice none 0 0, .bool false, .int .i64 0] 45)).alloc (.cells #[.int .i64 0] 2) := by
  refine callsIn_of_wp Tryd.func51 rfl trivial ?_ rfl
  simp only [Tryd.ntmps51, List.size_toArray, List.length_cons, List.length_nil, Nat.reduceAdd, Nat.reduceSub, Array.replicate_succ, Array.replicate_zero, List.push_toArray, List.append_toArray, List.nil_append, List.cons_append]
  gi_wp2
  go_ret
  exact ⟨by simp, rfl⟩
theorem blk_al {W : World} {b : Nat} {o : Obj} (h : W.heap[b]? = some o) (o' : Obj) : (W.alloc o').heap[b]? = some o := (Below.heap_alloc W o' b (blk_lt h)).trans h
theorem inf_of {P : Program} {n : Nat} {z : Value} {s b : Nat} (h : (P.info? n).map (fun i => (i.zero, i.size, i.bytes)) = some (some z, s, b)) : ∃ i, P.info? n = some i ∧ i.zero = some z ∧ i.size = s ∧ i.bytes = b := by
  cases hi : P.info? n with
  | none => rw [hi] at h; cases h
  | some i =>
    rw [hi] at h
    simp only [Option.map_some, Option.some.injEq, Prod.mk.injEq] at h
    exact ⟨i, rfl, h.1, h.2.1, h.2.2⟩
theorem inf92 : ∃ i, Tryd.prog.info? 92 = some i ∧ i.zero = some (.agg #[.int .i64 0, .int .i64 0, .int .i64 0]) ∧ i.size = 3 ∧ i.bytes = 24 := inf_of (by kernel_rfl)
theorem cells_three_new (W : World) (x y z : Value) (t : TypeId) : ∀ j u, [x, y, z][j]? = some u → (W.alloc (.cells #[x, y, z] t)).cell? ((⟨W.heap.size, 0, none⟩ : Addr).add j) = some u := by
  intro j u hj
  match j, hj with
  | 0, hj => simp at hj; subst hj; show World.cell? _ ⟨W.heap.size, 0 + 0, none⟩ = _; unfold World.cell?; rw [World.alloc_heap_new]; rfl
  | 1, hj => simp at hj; subst hj; show World.cell? _ ⟨W.heap.size, 0 + 1, none⟩ = _; unfold World.cell?; rw [World.alloc_heap_new]; rfl
  | 2, hj => simp at hj; subst hj; show World.cell? _ ⟨W.heap.size, 0 + 2, none⟩ = _; unfold World.cell?; rw [World.alloc_heap_new]; rfl
def lvRow : List Unit → List Value
  | [] => []
  | _ => [.int .i64 0, .int .i64 64, .int .i64 7]
set_option maxRecDepth 100000 in
set_option maxHeartbeats 4000000 in
theorem Leaves_c (w : World) :
    Calls Tryd.prog 30 #[.agg #[.int .i64 1, .int .i64 7, .int .i64 0, .slice none 0 0, .slice none 0 0, .bool false, .int .i64 0]] w fun e w' => ∃ v, e = .returned (.tuple #[v, .int .i64 0]) ∧ w'.ownsRow w.heap.size 92 3 v 1 [.int .i64 0, .int .i64 64, .int .i64 7] ∧ Below w.heap.size w w' := by
  refine (callsIn_wide (n := 6)).1 ?_
  refine callsIn_of_wp_marks Tryd.func30 rfl trivial ?_ rfl
  simp only [Tryd.ntmps30, List.size_toArray, List.length_cons, List.length_nil, Nat.reduceAdd, Nat.reduceSub, Array.replicate_succ, Array.replicate_zero, List.push_toArray, List.append_toArray, List.nil_append, List.cons_append]
  obtain ⟨A, hA⟩ : ∃ A, ((w.alloc (.cells #[.int .i64 1, .int .i64 7, .int .i64 0, .slice none 0 0, .slice none 0 0, .bool false, .int .i64 0] 45)).alloc (.cells #[.slice none 0 0] 85)).alloc (.cells #[.int .i64 0] 31) = A := ⟨_, rfl⟩
  have hB0 : Below w.heap.size w A := by rw [← hA]; exact ((((Below.refl _ w).alloc (Nat.le_refl _) _).alloc (by simp) _).alloc (by simp; omega) _)
  have hs : A.heap.size = w.heap.size + 3 := by rw [← hA]; simp
  have x0 : A.heap[w.heap.size]? = some (.cells #[.int .i64 1, .int .i64 7, .int .i64 0, .slice none 0 0, .slice none 0 0, .bool false, .int .i64 0] 45 (0, 0)) := by rw [← hA]; exact blk_al (blk_al (blk_new w _) _) _
  have x1 : Boxed A (w.heap.size + 1) 85 (.slice none 0 0) := by rw [← hA]; exact blk_al (blk_new1 w _ _) _
  have x2 : Boxed A (w.heap.size + 1 + 1) 31 (.int .i64 0) := by
    rw [← hA]; have := blk_new ((w.alloc (.cells #[.int .i64 1, .int .i64 7, .int .i64 0, .slice none 0 0, .slice none 0 0, .bool false, .int .i64 0] 45)).alloc (.cells #[.slice none 0 0] 85)) (.cells #[.int .i64 0] 31)
    rwa [show ((w.alloc (.cells #[.int .i64 1, .int .i64 7, .int .i64 0, .slice none 0 0, .slice none 0 0, .bool false, .int .i64 0] 45)).alloc (.cells #[.slice none 0 0] 85)).heap.size = w.heap.size + 1 + 1 by simp] at this
  have c0 := blk_cell x0 0
  have c1 := blk_cell x0 1
  have c2 := blk_cell x0 2
  have c3 := blk_cell x0 3
  have c4 := blk_cell x0 4
  have c5 := blk_cell x0 5
  have c6 := blk_cell x0 6
  have HX := Lib.hid (And.intro x0 (And.intro x1 x2))
  clear x0 x1 x2
  gi_wp2_with (first
    | (refine ⟨trivial, ?_⟩; gi_at_call 31; refine (callsIn_wide.2 (right_c _)).mono ?_; rintro e w1 ⟨rfl, hb⟩; have bx := hb.trans ((below_alloc (Below.refl w1.heap.size w1) (.cells #[.slice none 0 0] 85)).mono hb.size); have q0 := (bx.block _ (blk_lt HX.out.1)).trans HX.out.1; clear c0 c1 c2 c3 c4 c5 c6; have c0 := blk_cell q0 0; have c1 := blk_cell q0 1; have c2 := blk_cell q0 2; have c3 := blk_cell q0 3; have c4 := blk_cell q0 4; have c5 := blk_cell q0 5; have c6 := blk_cell q0 6; have HB := Lib.hid (And.intro hb bx); clear hb bx q0)
    | (refine ⟨trivial, ?_⟩; gi_at_call 51; refine (leaves_in _ _).mono ?_; rintro e w2 ⟨rfl, hw2⟩))
  clear c0 c1 c2 c3 c4 c5 c6
  obtain ⟨W2, hW2⟩ : ∃ W2, ((w1.alloc (.cells #[.slice none 0 0] 85)).alloc (.cells #[.int .i64 1, .int .i64 7, .int .i64 0, .slice none 0 0, .slice none 0 0, .bool false, .int .i64 0] 45)).alloc (.cells #[.int .i64 0] 2) = W2 := ⟨_, rfl⟩
  rw [hW2]
  have hbA : Below A.heap.size A W2 := by
    rw [← hW2]; exact HB.out.2.alloc (by have := HB.out.2.size; exact this) _ |>.alloc (by have := HB.out.2.size; simp at this ⊢; omega) _
  have y0 : Boxed W2 w1.heap.size 85 (.slice none 0 0) := by rw [← hW2]; exact blk_al (blk_al (blk_new w1 _) _) _
  have yt : W2.heap[w1.heap.size + 1]? = some (.cells #[.int .i64 1, .int .i64 7, .int .i64 0, .slice none 0 0, .slice none 0 0, .bool false, .int .i64 0] 45 (0, 0)) := by rw [← hW2]; exact blk_al (blk_new1 w1 _ _) _
  have yf : W2.heap[w1.heap.size + 1 + 1]? = some (.cells #[.int .i64 0] 2 (0, 0)) := by
    rw [← hW2]; have := blk_new ((w1.alloc (.cells #[.slice none 0 0] 85)).alloc (.cells #[.int .i64 1, .int .i64 7, .int .i64 0, .slice none 0 0, .slice none 0 0, .bool false, .int .i64 0] 45)) (.cells #[.int .i64 0] 2)
    rwa [show ((w1.alloc (.cells #[.slice none 0 0] 85)).alloc (.cells #[.int .i64 1, .int .i64 7, .int .i64 0, .slice none 0 0, .slice none 0 0, .bool false, .int .i64 0] 45)).heap.size = w1.heap.size + 1 + 1 by simp] at this
  have hs2 : W2.heap.size = w1.heap.size + 3 := by rw [← hW2]; simp
  have hA1 : A.heap.size ≤ w1.heap.size := HB.out.1.size
  have r1 : Boxed W2 (w.heap.size + 1) 85 (.slice none 0 0) := (hbA.block _ (by omega)).trans HX.out.2.1
  have r2 : Boxed W2 (w.heap.size + 1 + 1) 31 (.int .i64 0) := (hbA.block _ (by omega)).trans HX.out.2.2
  have hB2 : Below w.heap.size w W2 := hB0.trans (hbA.mono (by omega))
  clear hW2 hA hbA HB HX hB0
  obtain ⟨n0, hn0⟩ : ∃ n0, w.heap.size = n0 := ⟨_, rfl⟩
  rw [hn0] at hB2 r1 r2 hs ⊢
  have HN0 := Lib.hid hn0
  clear hn0
  obtain ⟨B, hB⟩ : ∃ B, w1.heap.size = B := ⟨_, rfl⟩
  rw [hB] at y0 yt yf hs2 hA1 ⊢
  clear hB
  refine wpIn_rangeFunc_all (α := Unit) (F := Fence.wide) (n := 6) rfl (by decide) (gf := 62) (lb := #[.pointer (some ⟨B + 1, 0, none⟩), .pointer (some ⟨B + 1 + 1, 0, none⟩)]) rfl trivial (enters_of Tryd.func62 (by kernel_rfl) rfl)
    (enc := fun _ => .agg #[.int .i64 0, .int .i64 64, .int .i64 7]) (S := fun xs => xs = [()]) (N := 1) (Kp := fun W W' => ∀ o, W.heap[B + 1]? = some o → W'.heap[B + 1]? = some o)
    (fun h k o e => k o (h o e)) (fun W l o hl o' e => (World.putObj_heap_other (by omega)).trans e)
    (leaves1_all 5 (by decide) W2 (B + 1) (B + 1 + 1) yt yf) rfl
    (fun pre W => (∃ v, Boxed W B 85 v ∧ W.ownsRow n0 92 3 v pre.length (lvRow pre) ∧ (pre = [] → v = .slice none 0 0)) ∧ Boxed W (n0 + 1) 85 (.slice none 0 0) ∧ Boxed W (n0 + 1 + 1) 31 (.int .i64 0) ∧ Below n0 w W)
    (fun s W W' row hs' hg hr => ?own) ⟨⟨_, y0, World.ownsRow_nil _ _ _ _, fun _ => rfl⟩, r1, r2, hB2⟩
    (fun x a' W => ∃ b, b ≠ B ∧ W.heap[b]? = some (.cells #[.int .i64 0, .int .i64 64, .int .i64 7] 92 (0, 0)) ∧ a' = { tmps := #[.agg #[.int .i64 1, .int .i64 7, .int .i64 0, .slice none 0 0, .slice none 0 0, .bool false, .int .i64 0], .pointer (some ⟨n0, 0, none⟩), .pointer (some ⟨n0 + 1, 0, none⟩), .pointer (some ⟨n0 + 1 + 1, 0, none⟩), .int .i64 0, .pointer (some ⟨B, 0, none⟩), .pointer (some ⟨b, 0, none⟩), .agg #[.int .i64 1, .int .i64 7, .int .i64 0, .slice none 0 0, .slice none 0 0, .bool false, .int .i64 0], .int .i64 0, .int .i64 0, .bool false, undef, .agg #[.int .i64 1, .int .i64 7, .int .i64 0, .slice none 0 0, .slice none 0 0, .bool false, .int .i64 0], .func (.func 62) #[] #[.pointer (some ⟨B + 1, 0, none⟩), .pointer (some ⟨B + 1 + 1, 0, none⟩)], .agg #[.int .i64 0, .int .i64 64, .int .i64 7], undef, undef, undef, undef, undef, undef, undef, undef], defers := [] })
    (fun x a' s W W' row hs' hg hr => ?ownM) ?assign ?body ?done
  case own =>
    obtain ⟨h1, h2, h3, h4⟩ := hs'
    refine ⟨holdsRow_own n0 B 85 92 3 (fun pre : List Unit => pre.length) lvRow (fun pre v => pre = [] → v = .slice none 0 0) s W W' row h1 hg (fun r e => (hr r e).2), h2.kept hg (fun e => ?_), h3.kept hg (fun e => ?_), h4.grown hg (by have := h4.size; have := h2.lt; omega) (fun k e => by have := (hr k e).1; omega)⟩
    · have := (hr _ e.symm).1; omega
    · have := (hr _ e.symm).1; omega
  case ownM =>
    obtain ⟨b, h1, h2, h3⟩ := hs'
    exact ⟨b, h1, (hg.block b (blk_lt h2) (fun e' => by obtain ⟨o, ho, hc⟩ := (hr b e'.symm).2; rw [h2] at ho; cases ho; cases hc)).trans h2, h3⟩
  case assign =>
    rintro l pre x W K ⟨⟨v, h1, h2, h3⟩, h4, h5, h6⟩ hK
    have hbn : Below W.heap.size W (W.alloc (.cells #[.int .i64 0, .int .i64 64, .int .i64 7] 92)) := (Below.refl _ _).alloc (Nat.le_refl _) _
    have HK := Lib.hid hK
    clear hK
    have hlt := h1.lt
    have hn : n0 ≤ W.heap.size := by have := h4.lt; omega
    gi_wp2
    exact HK.out _ _ (KeepsOthers.alloc W _) (fun o e => blk_al e _) ⟨⟨v, h1.alloc _, h2.alloc _, h3⟩, h4.alloc _, h5.alloc _, h6.trans (hbn.mono hn)⟩ ⟨W.heap.size, by omega, blk_new _ _, rfl⟩
  case body =>
    rintro l pre x a' W ⟨⟨v, h1, h2, h3⟩, h4, h5, h6⟩ ⟨b, hbB, h7, rfl⟩ hlen
    obtain rfl : pre = [] := List.eq_nil_of_length_eq_zero (by omega)
    obtain rfl := h3 rfl
    obtain ⟨i0, hi0, hz0, hz1, hz2⟩ := inf92
    have hc0 := h1.cell
    have hf0 := h1.frozen
    have s0 := blk_cell h7 0
    have s1 := blk_cell h7 1
    have s2 := blk_cell h7 2
    have hlt := h1.lt
    have h4l := h4.lt
    have hn : n0 ≤ W.heap.size := by omega
    have HH := Lib.hid (And.intro h1 (And.intro h2 (And.intro h4 (And.intro h5 h6))))
    clear h1 h2 h4 h5 h6 h7 h3
    gi_wp2_with (first | (gi_at_builtin; refine wpListIn_append_own _ rfl _ _ 85 rfl n0 92 i0 (.agg #[.int .i64 0, .int .i64 0, .int .i64 0]) 3 24 Tryd.underlying85 hi0 hz0 hz1 hz2 rfl (by decide) _ _ _ rfl (HH.out.2.1.alloc _) ⟨W.heap.size, 0, none⟩ 1 1 [.int .i64 0, .int .i64 64, .int .i64 7] rfl rfl (cells_three_new _ _ _ _ _) (by simp [Value.oneCell']) (by simp [maxLen]) (by simp) (by simp; omega) ?_; intro v' w3 hown' hgrow _; obtain ⟨g', cap', rfl⟩ := ownsRow_succ hown'; obtain ⟨hv1, hv2, hr2, hkp2, hb2⟩ := HH.out.1.appended (by decide) HH.out.2.1 hn (by omega) hown' hgrow; have hc1 : w3.cell? ⟨B, 0, none⟩ = _ := hv1.cell; have hf1 : w3.frozen? ⟨B, 0, none⟩ = false := hv1.frozen))
    have hg0 : World.grownBy (W.alloc (.cells #[.int .i64 0, .int .i64 64, .int .i64 7] 92)) w3 none := hgrow
    have keep : ∀ (k : Nat) (o : Obj), k ≠ B → W.heap[k]? = some o → (w3.setCell ⟨B, 0, none⟩ (.slice (some ⟨g', 0, none⟩) 1 cap')).heap[k]? = some o := fun k o hk ho =>
      (Below.heap_setCell w3 ⟨B, 0, none⟩ _ k hk).trans ((hg0.block k (blk_lt (blk_al ho _)) (by simp)).trans (blk_al ho _))
    exact ⟨hkp2, fun o e => keep _ o (by omega) e, ⟨_, hv2, hr2⟩, keep _ _ (by omega) HH.out.2.2.1, keep _ _ (by omega) HH.out.2.2.2.1, HH.out.2.2.2.2.trans hb2⟩
  case done =>
    rintro D xs W hD rfl ⟨⟨v, h1, h2, h3⟩, h4, h5, h6⟩ hK
    obtain ⟨g', cap', rfl⟩ := ownsRow_succ h2
    have c0 := h1.cell
    have c1 := h4.cell
    have c2 := h5.cell
    have f1 := h4.frozen
    have f2 := h5.frozen
    have HH := Lib.hid (And.intro h1 (And.intro h2 (And.intro h4 (And.intro h5 (And.intro h6 (And.intro hK hD))))))
    clear h1 h2 h4 h5 h6 hK h3
    gi_wp2
    obtain ⟨W3, hW3⟩ : ∃ W3, (W.setCell ⟨n0 + 1, 0, none⟩ (.slice (some ⟨g', 0, none⟩) 1 cap')).setCell ⟨n0 + 1 + 1, 0, none⟩ (.int .i64 0) = W3 := ⟨_, rfl⟩
    rw [hW3]
    have ko : KeepsOthers W W3 := by rw [← hW3]; exact (KeepsOthers.setCell _ _ _).trans (KeepsOthers.setCell _ _ _)
    have hK2 := ko.same D _ HH.out.2.2.2.2.2.1 rfl
    have b1 : Boxed (W3.putObj D (.deferred none)) (n0 + 1) 85 (.slice (some ⟨g', 0, none⟩) 1 cap') := by
      have hne : n0 + 1 ≠ D := by have := HH.out.2.2.2.2.2.2; omega
      refine (World.putObj_heap_other hne).trans ?_
      rw [← hW3]
      exact (HH.out.2.2.1.set _).kept (grownBy_setCell' _ _ _) (by simp)
    have b2 : Boxed (W3.putObj D (.deferred none)) (n0 + 1 + 1) 31 (.int .i64 0) := by
      have hne : n0 + 1 + 1 ≠ D := by have := HH.out.2.2.2.2.2.2; omega
      refine (World.putObj_heap_other hne).trans ?_
      rw [← hW3]
      exact (HH.out.2.2.2.1.kept (grownBy_setCell' _ (n0 + 1) _) (by simp)).set _
    have ow : W3.ownsRow n0 92 3 (.slice (some ⟨g', 0, none⟩) 1 cap') 1 [.int .i64 0, .int .i64 64, .int .i64 7] := by
      rw [← hW3]
      have o1 := HH.out.2.1.kept (grownBy_setCell' W (n0 + 1) (.slice (some ⟨g', 0, none⟩) 1 cap')) (.inr (HH.out.2.2.1.not_row (by decide) HH.out.2.1).symm)
      exact o1.kept (grownBy_setCell' _ (n0 + 1 + 1) _) (.inr ((HH.out.2.2.2.1.kept (grownBy_setCell' _ (n0 + 1) _) (by simp)).not_row (by decide) o1).symm)
    have cb1 := b1.cell
    have cb2 := b2.cell
    show bodyPostM _ _ _ _ _ Exit.ret _ _
    refine ⟨by simp, .inl ⟨_, _, rfl, run_takeDeferred hK2, ?_⟩⟩
    refine ⟨.tuple #[(.slice (some ⟨g', 0, none⟩) 1 cap' : Value), (.int .i64 0 : Value)], ?_, _, rfl, ?_⟩
    · simp [results, Tryd.results30, go_sem, cb1, cb2]
    · rw [HN0.out]
      have hBW : Below n0 W W3 := by rw [← hW3]; exact ((Below.refl n0 W).setCell (p := ⟨n0 + 1, 0, none⟩) (by show n0 ≤ n0 + 1; omega) _).setCell (p := ⟨n0 + 1 + 1, 0, none⟩) (by show n0 ≤ n0 + 1 + 1; omega) _
      exact ⟨ownsRow_putObj ow _ hK2 rfl, (HH.out.2.2.2.2.1.trans hBW).grown (grownBy_putObj' W3 D _) (by have := hBW.size; have := HH.out.1.lt; omega) (fun k e => by cases e; have := HH.out.2.2.2.2.2.2; omega)⟩
end Go.Proofs.YthfpdlfpbbhjhaaDoor.Mc
namespace Go.Proofs.YthfpdlfpbbhjhaaDoor.Mc
open Go.RowKit Go.Proofs.YthfpdlfpbbhjhaaDoor.PA Go.Proofs.YthfpdlfpbbhjhaaDoorW.PrintWords Go.Proofs.YthfpdlfpbbhjhaaDoorW.PrintLast Go.Proofs.YthfpdlfpbbhjhaaDoorW.PrintMore
set_option linter.unusedVariables false
set_option linter.unusedSimpArgs false
set_option maxRecDepth 100000 in
set_option maxHeartbeats 4000000 in
theorem mem_c (w : World) : Calls Tryd.prog 33 #[.agg #[.int .i64 0, .int .i64 64, .int .i64 7]] w fun e w' => e = .returned (.bool false) ∧ Below w.heap.size w w' := by
  go_enter Tryd.func33, Tryd.ntmps33
  have z0 := blk_new w (.cells #[.int .i64 0, .int .i64 64, .int .i64 7] 92)
  have c0 := blk_cell z0 0
  have c1 := blk_cell z0 1
  have c2 := blk_cell z0 2
  have m1 : IntKind.i64.wrap (8 * 8) = 64 := by decide
  go_wp2
  go_quiet ((go_at_call 28; exact Calls.quiet_of (csize _)))
  go_wp2
  go_ret
  exact ⟨rfl, pw_below_drewN (below_alloc (Below.refl _ _) _) _⟩
end Go.Proofs.YthfpdlfpbbhjhaaDoor.Mc
namespace Go.Proofs.YthfpdlfpbbhjhaaDoor.Mc
open Go.RowKit Go.Proofs.YthfpdlfpbbhjhaaDoor.PA Go.Proofs.YthfpdlfpbbhjhaaDoorW.PrintWords Go.Proofs.YthfpdlfpbbhjhaaDoorW.PrintLast Go.Proofs.YthfpdlfpbbhjhaaDoorW.PrintMore
set_option linter.unusedVariables false
set_option linter.unusedSimpArgs false
def SpotAt (w : World) (g : Nat) : Prop := w.cell? ⟨g, 0, none⟩ = some (.int .i64 0) ∧ w.cell? ⟨g, 1, none⟩ = some (.int .i64 64) ∧ w.cell? ⟨g, 2, none⟩ = some (.int .i64 7)
theorem SpotAt.of_owns {w : World} {base g cap : Nat} (h : w.ownsRow base 92 3 (.slice (some ⟨g, 0, none⟩) 1 cap) 1 [.int .i64 0, .int .i64 64, .int .i64 7]) : SpotAt w g ∧ base ≤ g ∧ 1 ≤ cap ∧ cap ≤ maxLen := by
  rcases h.2 with ⟨h0, h00⟩ | ⟨g', cap', cur, hv, hb, hg, hn, hm, hs, ht⟩
  · exact absurd h00 (by decide)
  · obtain ⟨rfl, rfl⟩ : g = g' ∧ cap = cap' := by simpa using hv
    have hx : ∀ j (hj : j < 3) u, [Value.int .i64 0, .int .i64 64, .int .i64 7][j]? = some u → cur[j]? = some u := by
      intro j hj u hu
      rw [← ht] at hu
      rw [List.getElem?_take_of_lt (by omega), Array.getElem?_toList] at hu
      exact hu
    have c := blk_cell hg
    refine ⟨⟨(c 0).trans (hx 0 (by decide) _ rfl), (c 1).trans (hx 1 (by decide) _ rfl), (c 2).trans (hx 2 (by decide) _ rfl)⟩, hb, hn, hm⟩
theorem SpotAt.below {w w' : World} {g B : Nat} (h : SpotAt w g) (hb : Below B w w') (hg : g < B) : SpotAt w' g :=
  ⟨(hb.cell (p := ⟨g, 0, none⟩) hg).trans h.1, (hb.cell (p := ⟨g, 1, none⟩) hg).trans h.2.1, (hb.cell (p := ⟨g, 2, none⟩) hg).trans h.2.2⟩
set_option maxRecDepth 100000 in
set_option maxHeartbeats 4000000 in
theorem idx_c (g cap : Nat) (w : World) (hc1 : 1 ≤ cap) (hg : g < w.heap.size) (h : SpotAt w g) : Calls Tryd.prog 53 #[.slice (some ⟨g, 0, none⟩) 1 cap, .func (.func 33) #[] #[]] w fun e w' => e = .returned (.int .i64 (-1)) ∧ Below w.heap.size w w' := by
  go_enter Tryd.func53, Tryd.ntmps53
  go_wp2
  go_loopw [8] (fun i wr => ∃ k : Nat, k ≤ 1 ∧ i = .int .i64 k ∧ Below w.heap.size w wr) (fun i _ => 1 - (intOf i).toNat)
  case atStart => exact ⟨0, Nat.zero_le _, rfl, Below.refl _ _⟩
  case round =>
    obtain ⟨k, hk, rfl, hB⟩ := hrel
    by_cases hlt : k = 0
    · subst hlt
      obtain ⟨s0, s1, s2⟩ := h.below hB hg
      have HY := Lib.hid hB
      clear hB
      go_wp2_with (go_at_call 33; refine (mem_c _).mono ?_; rintro e w1 ⟨rfl, hb⟩; have HB1 := Lib.hid hb; clear hb)
      go_roundw
      case rel => exact ⟨1, by omega, by simp, HY.out.trans (HB1.out.mono HY.out.size)⟩
      case measure => simp [intOf]
    · obtain rfl : k = 1 := by omega
      go_wp2
      go_ret
      exact ⟨rfl, hB⟩
set_option maxHeartbeats 1000000 in
theorem cont_c (g cap : Nat) (w : World) (hc1 : 1 ≤ cap) (hg : g < w.heap.size) (h : SpotAt w g) : Calls Tryd.prog 34 #[.slice (some ⟨g, 0, none⟩) 1 cap, .func (.func 33) #[] #[]] w fun e w' => e = .returned (.bool false) ∧ Below w.heap.size w w' := by
  go_enter Tryd.func34, Tryd.ntmps34
  go_wp2_with (go_at_call 53; refine (idx_c _ _ _ hc1 hg h).mono ?_; rintro e w1 ⟨rfl, hb⟩)
  go_ret
  exact ⟨rfl, hb⟩
end Go.Proofs.YthfpdlfpbbhjhaaDoor.Mc
namespace Go.Proofs.YthfpdlfpbbhjhaaDoor.Mc
open Go.RowKit Go.Proofs.YthfpdlfpbbhjhaaDoor.PA Go.Proofs.YthfpdlfpbbhjhaaDoorW.PrintWords Go.Proofs.YthfpdlfpbbhjhaaDoorW.PrintLast Go.Proofs.YthfpdlfpbbhjhaaDoorW.PrintMore
set_option linter.unusedVariables false
set_option linter.unusedSimpArgs false
theorem make1 (W : World) : (Instr.makeSlice 25 (.int .i64 1) (.int .i64 1)).run Tryd.prog W = .ok (.slice (some ⟨W.heap.size, 0, none⟩) 1 1) (W.alloc (.cells #[.int .i64 0] 3)) := by kernel_rfl
set_option maxRecDepth 100000 in
set_option maxHeartbeats 4000000 in
theorem Classes_c (w : World) : Calls Tryd.prog 15 #[.agg #[.int .i64 1, .int .i64 7, .int .i64 0, .slice none 0 0, .slice none 0 0, .bool false, .int .i64 0]] w fun e w' => ∃ b, e = .returned (.tuple #[.slice (some ⟨b, 0, none⟩) 1 1, .int .i64 0]) ∧ w.heap.size ≤ b ∧ w'.heap[b]? = some (.cells #[.int .i64 1] 3 (0, 0)) ∧ Below w.heap.size w w' := by
  go_enter Tryd.func15, Tryd.ntmps15
  have z0 := blk_new w (.cells #[.int .i64 1, .int .i64 7, .int .i64 0, .slice none 0 0, .slice none 0 0, .bool false, .int .i64 0] 45)
  have HB0 := Lib.hid (below_alloc (Below.refl w.heap.size w) (.cells #[.int .i64 1, .int .i64 7, .int .i64 0, .slice none 0 0, .slice none 0 0, .bool false, .int .i64 0] 45))
  have c0 := blk_cell z0 0
  have c1 := blk_cell z0 1
  have c2 := blk_cell z0 2
  have c3 := blk_cell z0 3
  have c4 := blk_cell z0 4
  have c5 := blk_cell z0 5
  have c6 := blk_cell z0 6
  have HZ := Lib.hid z0
  clear z0
  have hmk := make1
  go_wp2_with (first
    | (go_at_call 30; refine (Leaves_c _).mono ?_; rintro e w1 ⟨v, rfl, ho, hb⟩; obtain ⟨g, cap, rfl⟩ := ownsRow_succ ho; obtain ⟨hsp, hg1, hg2, hg3⟩ := SpotAt.of_owns ho; clear ho; have hgl : g < w1.heap.size := World.block_lt_of_cell? w1 ⟨g, 0, none⟩ hsp.1; have q0 := (hb.block _ (blk_lt HZ.out)).trans HZ.out; clear c0 c1 c2 c3 c4 c5 c6; have c0 := blk_cell q0 0; have c1 := blk_cell q0 1; have c2 := blk_cell q0 2; have c3 := blk_cell q0 3; have c4 := blk_cell q0 4; have c5 := blk_cell q0 5; have c6 := blk_cell q0 6; have HB1 := Lib.hid (And.intro hb (And.intro q0 hsp)); clear hb q0 hsp)
    | (go_at_call 31; refine (right_c _).mono ?_; rintro e w2 ⟨rfl, hb⟩; have q0 := (hb.block _ (blk_lt HB1.out.2.1)).trans HB1.out.2.1; have hsp := HB1.out.2.2.below hb hgl; have hgl2 : g < w2.heap.size := Nat.lt_of_lt_of_le hgl hb.size; clear c0 c1 c2 c3 c4 c5 c6; have c0 := blk_cell q0 0; have c1 := blk_cell q0 1; have c2 := blk_cell q0 2; have c3 := blk_cell q0 3; have c4 := blk_cell q0 4; have c5 := blk_cell q0 5; have c6 := blk_cell q0 6; have HB2 := Lib.hid (And.intro hb (And.intro q0 hsp)); clear hb q0 hsp)
    | (go_at_call 32; refine (tysize_c _).mono ?_; rintro e w3 ⟨rfl, hb⟩; have hsp := HB2.out.2.2.below hb hgl2; have hgl3 : g < w3.heap.size := Nat.lt_of_lt_of_le hgl2 hb.size; clear c0 c1 c2 c3 c4 c5 c6; have HB3 := Lib.hid (And.intro hb hsp); clear hb hsp)
    | (go_at_call 34; refine (cont_c g cap _ hg2 hgl3 HB3.out.2).mono ?_; rintro e w4 ⟨rfl, hb⟩; have hsp := HB3.out.2.below hb hgl3; have hgl4 : g < w4.heap.size := Nat.lt_of_lt_of_le hgl3 hb.size; have HB4 := Lib.hid (And.intro hb hsp); clear hb hsp))
  have s1 : w.heap.size ≤ w4.heap.size := by have := HB0.out.size; have := HB1.out.1.size; have := HB2.out.1.size; have := HB3.out.1.size; have := HB4.out.1.size; simp at *; omega
  have HBB : Below w.heap.size w w4 := by
    have a1 := HB0.out.size
    have a2 := HB1.out.1.size
    have a3 := HB2.out.1.size
    have a4 := HB3.out.1.size
    exact HB0.out.trans ((HB1.out.1.mono a1).trans ((HB2.out.1.mono (by omega)).trans ((HB3.out.1.mono (by omega)).trans (HB4.out.1.mono (by omega)))))
  have hsp4 := HB4.out.2
  obtain ⟨b, hb⟩ : ∃ b, w4.heap.size = b := ⟨_, rfl⟩
  have z0 := blk_new w4 (.cells #[.int .i64 0] 3)
  have hsp := hsp4.below (below_alloc (Below.refl w4.heap.size w4) (.cells #[.int .i64 0] 3)) hgl4
  have HB5 := HBB.trans ((below_alloc (Below.refl w4.heap.size w4) (.cells #[.int .i64 0] 3)).mono s1)
  obtain ⟨W, hW⟩ : ∃ W, w4.alloc (.cells #[.int .i64 0] 3) = W := ⟨_, rfl⟩
  rw [hW] at z0 hsp HB5 ⊢
  have hWs : W.heap.size = b + 1 := by rw [← hW, ← hb]; simp
  rw [hb] at z0 hgl4 s1 ⊢
  clear hb hW HB0 HB1 HB2 HB3 HB4 hsp4 HBB HZ
  go_loopw [53] (fun i wr => ∃ k : Nat, k ≤ 1 ∧ i = .int .i64 k ∧ Below w.heap.size w wr ∧ wr.heap[b]? = some (.cells #[.int .i64 k] 3 (0, 0)) ∧ SpotAt wr g) (fun i _ => 1 - (intOf i).toNat)
  case atStart => exact ⟨0, Nat.zero_le _, rfl, HB5, z0, hsp⟩
  case round =>
    obtain ⟨k, hk, rfl, hB, hz, hsq⟩ := hrel
    by_cases hlt : k = 0
    · subst hlt
      obtain ⟨s0, s1', s2⟩ := hsq
      have HY := Lib.hid (And.intro hB (And.intro hz (And.intro s0 (And.intro s1' s2))))
      have hbl := blk_lt hz
      have n0 := blk_new wr (.cells #[.int .i64 0, .int .i64 64, .int .i64 7] 92)
      have e0 := blk_cell n0 0
      have e1 := blk_cell n0 1
      clear hB hz
      go_wp2
      have hsp := (show SpotAt wr g from ⟨s0, s1', s2⟩).below (below_alloc (Below.refl wr.heap.size wr) (.cells #[.int .i64 0, .int .i64 64, .int .i64 7] 92)) (World.block_lt_of_cell? wr _ s0)
      have hz := blk_al HY.out.2.1 (.cells #[.int .i64 0, .int .i64 64, .int .i64 7] 92)
      have hB := HY.out.1.trans ((below_alloc (Below.refl wr.heap.size wr) (.cells #[.int .i64 0, .int .i64 64, .int .i64 7] 92)).mono HY.out.1.size)
      have hgb : g < b := hgl4
      obtain ⟨c, hc⟩ : ∃ c, wr.heap.size = c := ⟨_, rfl⟩
      rw [hc] at n0 hbl e0 e1 ⊢
      go_loopw [13] (fun i wq => ∃ j : Nat, j ≤ 1 ∧ i = .int .i64 j ∧ Below w.heap.size w wq ∧ wq.heap[b]? = some (.cells #[.int .i64 j] 3 (0, 0)) ∧ SpotAt wq g ∧ wq.heap[c]? = some (.cells #[.int .i64 0, .int .i64 64, .int .i64 7] 92 (0, 0))) (fun i _ => 1 - (intOf i).toNat)
      case atStart => exact ⟨0, Nat.zero_le _, rfl, hB, hz, hsp, n0⟩
      case round =>
        obtain ⟨j, hj, rfl, hB', hz', hsp', hn'⟩ := hrel
        clear e0 e1
        have e0 := blk_cell hn' 0
        have e1 := blk_cell hn' 1
        by_cases hj0 : j = 0
        · subst hj0
          have y0 := blk_cell hz' 0
          have f0 : wr.frozen? ⟨b, 0, none⟩ = false := by simp [World.frozen?, hz']
          have HQ := Lib.hid (And.intro hB' (And.intro hz' (And.intro hsp' hn')))
          clear hB' hz' hsp' hn'
          go_wp2
          go_roundw
          case rel =>
            have hst : Below b wr (wr.setCell ⟨b, 0, none⟩ (.int .i64 1)) := (Below.refl b wr).setCell (p := ⟨b, 0, none⟩) (Nat.le_refl _) _
            exact ⟨1, by omega, by simp, HQ.out.1.trans (hst.mono s1), by have := blk_put HQ.out.2.1 0 (.int .i64 1) rfl; simpa using this, HQ.out.2.2.1.below hst hgb, (Below.heap_setCell wr ⟨b, 0, none⟩ _ _ (by show c ≠ b; omega)).trans HQ.out.2.2.2⟩
          case measure => simp [intOf]
        · obtain rfl : j = 1 := by omega
          have HQ := Lib.hid (And.intro hB' (And.intro hz' (And.intro hsp' hn')))
          clear hB' hz' hsp' hn'
          go_wp2
          go_roundw
          case rel => exact ⟨1, by omega, by simp, HQ.out.1, by simpa using HQ.out.2.1, HQ.out.2.2.1⟩
          case measure => simp [intOf]
    · obtain rfl : k = 1 := by omega
      go_wp2
      refine bodyPost_ret (results_tmp2 rfl _ _ _) rfl ?_
      exact ⟨b, rfl, s1, by simpa using hz, hB⟩
end Go.Proofs.YthfpdlfpbbhjhaaDoor.Mc
