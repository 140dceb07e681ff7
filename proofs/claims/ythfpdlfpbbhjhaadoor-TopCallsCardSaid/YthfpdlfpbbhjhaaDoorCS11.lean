import Derived.Test.YthfpdlfpbbhjhaaDoorCS8
import Derived.Lib.BufferWrite
import Derived.Deep.AppendLies
namespace Go.Proofs.YthfpdlfpbbhjhaaDoor.Mc
open Go.RowKit Go.Proofs.YthfpdlfpbbhjhaaDoor.PA Go.Proofs.YthfpdlfpbbhjhaaDoorW.PrintWords Go.Proofs.YthfpdlfpbbhjhaaDoorW.PrintLast Go.Proofs.YthfpdlfpbbhjhaaDoorW.PrintMore
set_option linter.unusedVariables false
set_option linter.unusedSimpArgs false
attribute [local go_sem] Oper.semAt_some
def LongsAt (W : World) (A n : Nat) : Prop := ∀ i, i < n → W.cell? ⟨A, i * 7, none⟩ = some (.int .i64 1) ∧ W.cell? ⟨A, i * 7 + 1, none⟩ = some (.int .i64 7) ∧ W.cell? ⟨A, i * 7 + 2, none⟩ = some (.int .i64 0) ∧ W.cell? ⟨A, i * 7 + 3, none⟩ = some (.slice none 0 0) ∧ W.cell? ⟨A, i * 7 + 4, none⟩ = some (.slice none 0 0) ∧ W.cell? ⟨A, i * 7 + 5, none⟩ = some (.bool false) ∧ W.cell? ⟨A, i * 7 + 6, none⟩ = some (.int .i64 0)
theorem cell_al {W : World} {p : Addr} {v : Value} (h : W.cell? p = some v) (o : Obj) : (W.alloc o).cell? p = some v := ((below_alloc (Below.refl W.heap.size W) o).cell (World.block_lt_of_cell? W _ h)).trans h
def HandSt (base : Nat) (W : World) (H : Nat) (reg off : Int) (av : Value) (n : Nat) (cs : List Value) : Prop :=
  ∃ lv, W.heap[H]? = some (.cells #[lv, .int .i64 reg, .int .i64 off, av] 70 (0, 0)) ∧ W.ownsRow base 48 4 lv n cs
theorem row_below {W W' : World} {base e size n : Nat} {v : Value} {xs : List Value} (h : W.ownsRow base e size v n xs) (hb : Below W.heap.size W W') : W'.ownsRow base e size v n xs := h.kept (grown_of_below hb none) (Classical.em _)
structure OSt (w0 W : World) (base B H : Nat) (i : Int) (lv : Value) (reg off : Int) (av : Value) (k : Nat) (cs : List Value) : Prop where
  p : Boxed W B 68 (.pointer (some ⟨H, 0, none⟩))
  i : Boxed W (B + 1) 3 (.int .i64 i)
  t : W.heap[B + 2]? = some (.cells #[.int .i64 1, .int .i64 7, .int .i64 0, .slice none 0 0, .slice none 0 0, .bool false, .int .i64 0] 45 (0, 0))
  h : W.heap[H]? = some (.cells #[lv, .int .i64 reg, .int .i64 off, av] 70 (0, 0))
  row : W.ownsRow base 48 4 lv k cs
  b : Below base w0 W
  s : base ≤ W.heap.size
theorem OSt.below {w0 W W' : World} {base B H : Nat} {i : Int} {lv : Value} {reg off : Int} {av : Value} {k : Nat} {cs : List Value} (h : OSt w0 W base B H i lv reg off av k cs) (hb : Below W.heap.size W W') : OSt w0 W' base B H i lv reg off av k cs :=
  ⟨(hb.block _ (blk_lt h.p)).trans h.p, (hb.block _ (blk_lt h.i)).trans h.i, (hb.block _ (blk_lt h.t)).trans h.t, (hb.block _ (blk_lt h.h)).trans h.h, row_below h.row hb, h.b.trans (hb.mono h.s), Nat.le_trans h.s hb.size⟩
theorem frz_al {W : World} {H : Nat} (h : H < W.heap.size) (o : Obj) (j : Nat) : (W.alloc o).drew.frozen? ⟨H, j, none⟩ = W.frozen? ⟨H, j, none⟩ := (below_drew1 (below_alloc (Below.refl W.heap.size W) o)).frozen (p := ⟨H, j, none⟩) h
theorem inf48 : ∃ i, Tryd.prog.info? 48 = some i ∧ i.zero = some (.agg #[.int .i64 0, .int .i64 0, .int .i64 0, .int .i64 0]) ∧ i.size = 4 ∧ i.bytes = 32 := inf_of (by kernel_rfl)
theorem row_ne {W : World} {H : Nat} {cs : Array Value} {t e : TypeId} {fz : Nat × Nat} (h : W.heap[H]? = some (.cells cs t fz)) (hte : t ≠ e) {base size k : Nat} {v : Value} {xs : List Value} (hr : W.ownsRow base e size v k xs) : v.ownBlock ≠ some H := by
  rcases hr.2 with ⟨rfl, _⟩ | ⟨g, cap, cur, rfl, _, hgb, _⟩
  · simp [Value.ownBlock]
  · intro e'
    obtain rfl : g = H := by simpa [Value.ownBlock] using e'
    rw [h] at hgb
    simp at hgb
    exact hte hgb.2.1
theorem row_cells {W : World} {base e size k : Nat} {v : Value} {xs : List Value} (hr : W.ownsRow base e size v k xs) : ∀ r, v.ownBlock = some r → base ≤ r ∧ ∃ o : Obj, W.heap[r]? = some o ∧ o.isCells = true := by
  intro r e'
  rcases hr.2 with ⟨rfl, _⟩ | ⟨g, cap, cur, rfl, hb, hgb, _⟩
  · simp [Value.ownBlock] at e'
  · obtain rfl : g = r := by simpa [Value.ownBlock] using e'
    exact ⟨hb, _, hgb, rfl⟩
theorem row_own {W W' : World} {row : Option Nat} {base e size k : Nat} {v : Value} {xs : List Value} (hr : W.ownsRow base e size v k xs) (hg : W.grownBy W' row) (hrow : ∀ r, row = some r → ∃ o : Obj, W.heap[r]? = some o ∧ o.isCells = false) : W'.ownsRow base e size v k xs := by
  refine hr.kept hg ?_
  cases hv : v.ownBlock with
  | none => exact .inl rfl
  | some r =>
    refine .inr fun e' => ?_
    obtain ⟨o, ho, hc⟩ := hrow r e'.symm
    obtain ⟨_, o', ho', hc'⟩ := row_cells hr r hv
    rw [ho] at ho'; cases ho'; rw [hc] at hc'; cases hc'
theorem blk_own {W W' : World} {row : Option Nat} {k : Nat} {cs : Array Value} {t : TypeId} {fz : Nat × Nat} (h : W.heap[k]? = some (.cells cs t fz)) (hg : W.grownBy W' row) (hrow : ∀ r, row = some r → ∃ o : Obj, W.heap[r]? = some o ∧ o.isCells = false) : W'.heap[k]? = some (.cells cs t fz) :=
  (hg.block k (blk_lt h) (fun e' => by obtain ⟨o, ho, hc⟩ := hrow k e'.symm; rw [h] at ho; cases ho; cases hc)).trans h
theorem OSt.own {w0 W W' : World} {row : Option Nat} {base B H : Nat} {i : Int} {lv : Value} {reg off : Int} {av : Value} {k : Nat} {cs : List Value} (h : OSt w0 W base B H i lv reg off av k cs) (hg : W.grownBy W' row) (hrow : ∀ r, row = some r → base ≤ r ∧ ∃ o : Obj, W.heap[r]? = some o ∧ o.isCells = false) : OSt w0 W' base B H i lv reg off av k cs :=
  have hr := fun r e => (hrow r e).2
  ⟨blk_own h.p hg hr, blk_own h.i hg hr, blk_own h.t hg hr, blk_own h.h hg hr, row_own h.row hg hr, h.b.grown hg h.s (fun k e => by exact (hrow k e).1), Nat.le_trans h.s hg.size⟩
theorem keeps_grown {W w1 : World} {row : Option Nat} (hg : W.grownBy w1 row) (hrow : ∀ r, row = some r → ∃ o : Obj, W.heap[r]? = some o ∧ o.isCells = true) : KeepsOthers W w1 :=
  ⟨hg.size, fun k o hk ho => (hg.block k (blk_lt hk) (fun e' => by obtain ⟨o', ho', hc⟩ := hrow k e'.symm; rw [hk] at ho'; cases ho'; rw [ho] at hc; cases hc)).trans hk⟩
structure HSt (w0 W : World) (base H : Nat) (reg off : Int) (av : Value) (k : Nat) (cs : List Value) : Prop where
  h : HandSt base W H reg off av k cs
  b : Below base w0 W
  s : base ≤ W.heap.size
theorem HSt.own {w0 W W' : World} {row : Option Nat} {base H : Nat} {reg off : Int} {av : Value} {k : Nat} {cs : List Value} (h : HSt w0 W base H reg off av k cs) (hg : W.grownBy W' row) (hrow : ∀ r, row = some r → base ≤ r ∧ ∃ o : Obj, W.heap[r]? = some o ∧ o.isCells = false) : HSt w0 W' base H reg off av k cs := by
  obtain ⟨⟨lv, h1, h2⟩, h3, h4⟩ := h
  exact ⟨⟨lv, blk_own h1 hg (fun r e => (hrow r e).2), row_own h2 hg (fun r e => (hrow r e).2)⟩, h3.grown hg h4 (fun k e => (hrow k e).1), Nat.le_trans h4 hg.size⟩
theorem HSt.of_append {w0 W w1 : World} {base B H : Nat} {i : Int} {lv : Value} {reg off : Int} {av : Value} {k : Nat} {cs : List Value} (h : OSt w0 W base B H i lv reg off av k cs) (hH : base ≤ H) {g cap : Nat} {new : List Value} {o : Obj}
    (hown : w1.ownsRow base 48 4 (.slice (some ⟨g, 0, none⟩) (k + 1) cap) (k + 1) (cs ++ new)) (hg : (W.alloc o).drew.grownBy w1 lv.ownBlock) (j : Nat) (hj : j = 1 ∨ j = 2) (v : Int) (reg' off' : Int) (hv : (#[.slice (some ⟨g, 0, none⟩) (k + 1) cap, .int .i64 reg, .int .i64 off, av] : Array Value).setIfInBounds j (.int .i64 v) = #[.slice (some ⟨g, 0, none⟩) (k + 1) cap, .int .i64 reg', .int .i64 off', av]) :
    KeepsOthers W ((w1.setCell ⟨H, 0, none⟩ (.slice (some ⟨g, 0, none⟩) (k + 1) cap)).setCell ⟨H, j, none⟩ (.int .i64 v)) ∧ HSt w0 ((w1.setCell ⟨H, 0, none⟩ (.slice (some ⟨g, 0, none⟩) (k + 1) cap)).setCell ⟨H, j, none⟩ (.int .i64 v)) base H reg' off' av (k + 1) (cs ++ new) := by
  have hb1 : Below W.heap.size W (W.alloc o).drew := below_drew1 (below_alloc (Below.refl _ _) _)
  have h2 := h.below hb1
  have hne := row_ne h2.h (by decide) h2.row
  have hk : w1.heap[H]? = _ := (hg.block H (blk_lt h2.h) (Ne.symm hne)).trans h2.h
  have hs := hg.size
  have hs0 := h2.s
  have b1 : Below base w0 w1 := h2.b.grown hg h2.s (fun r e => (row_cells h2.row r e).1)
  have n1 : (.slice (some ⟨g, 0, none⟩) (k + 1) cap : Value).ownBlock ≠ some H := row_ne hk (by decide) hown
  refine ⟨((keeps_grown (grown_of_below hb1 none) (fun r e => by cases e)).trans (keeps_grown hg (fun r e => (row_cells h2.row r e).2))).trans ((KeepsOthers.setCell _ _ _).trans (KeepsOthers.setCell _ _ _)), ⟨⟨.slice (some ⟨g, 0, none⟩) (k + 1) cap, ?_, ?_⟩, ?_, ?_⟩⟩
  · exact blk_put (cs := #[.slice (some ⟨g, 0, none⟩) (k + 1) cap, .int .i64 reg, .int .i64 off, av]) (blk_put hk 0 _ rfl) j _ hv
  · exact (hown.kept (Lib.grownBy_setCell _ H 0 _) (.inr n1)).kept (Lib.grownBy_setCell _ H j _) (.inr n1)
  · exact (b1.setCell (p := ⟨H, 0, none⟩) hH _).setCell (p := ⟨H, j, none⟩) hH _
  · simp; omega
set_option maxRecDepth 100000 in
set_option maxHeartbeats 4000000 in
theorem over_reg (base H A n c i : Nat) (hi : i < n) (hn : n ≤ 8) (hc : n ≤ c) (w : World) (hA : LongsAt w A n) (lv : Value) (k : Nat) (cs : List Value) (reg off : Int) (hr0 : 0 ≤ reg) (hr6 : reg ≤ 5)
    (hk : k ≤ 100) (hb : base ≤ w.heap.size) (hH : base ≤ H) (hh : w.heap[H]? = some (.cells #[lv, .int .i64 reg, .int .i64 off, .slice (some ⟨A, 0, none⟩) n c] 70 (0, 0))) (hrow : w.ownsRow base 48 4 lv k cs) :
    Calls Tryd.prog 17 #[.pointer (some ⟨H, 0, none⟩), .int .i64 i] w fun e w' => (∃ v, e = .returned v) ∧ HandSt base w' H (reg + 1) off (.slice (some ⟨A, 0, none⟩) n c) (k + 1) (cs ++ [.int .i64 i, .int .i64 0, .int .i64 reg, .int .i64 0]) ∧ Below base w w' := by
  refine (callsIn_wide (n := 6)).1 ?_
  refine callsIn_of_wp_marks Tryd.func17 rfl trivial ?_ rfl
  simp only [Tryd.ntmps17, List.size_toArray, List.length_cons, List.length_nil, Nat.reduceAdd, Nat.reduceSub, Array.replicate_succ, Array.replicate_zero, List.push_toArray, List.append_toArray, List.nil_append, List.cons_append]
  obtain ⟨W0, hW0⟩ : ∃ W0, (w.alloc (.cells #[.pointer (some ⟨H, 0, none⟩)] 68)).alloc (.cells #[.int .i64 i] 3) = W0 := ⟨_, rfl⟩
  have hB0 : Below w.heap.size w W0 := by rw [← hW0]; exact ((Below.refl _ w).alloc (Nat.le_refl _) _).alloc (by simp) _
  have hs0 : W0.heap.size = w.heap.size + 2 := by rw [← hW0]; simp
  have b0 : Boxed W0 w.heap.size 68 (.pointer (some ⟨H, 0, none⟩)) := by rw [← hW0]; exact blk_al (blk_new w _) _
  have b1 : Boxed W0 (w.heap.size + 1) 3 (.int .i64 i) := by rw [← hW0]; exact blk_new1 w _ _
  have q := (hB0.block H (blk_lt hh)).trans hh
  have hrow0 : W0.ownsRow base 48 4 lv k cs := by rw [← hW0]; exact (hrow.alloc _).alloc _
  have hA0 : LongsAt W0 A n := fun j hj => by
    obtain ⟨a0, a1, a2, a3, a4, a5, a6⟩ := hA j hj
    have hl := World.block_lt_of_cell? w _ a0
    exact ⟨(hB0.cell hl).trans a0, (hB0.cell (p := ⟨A, j * 7 + 1, none⟩) hl).trans a1, (hB0.cell (p := ⟨A, j * 7 + 2, none⟩) hl).trans a2, (hB0.cell (p := ⟨A, j * 7 + 3, none⟩) hl).trans a3, (hB0.cell (p := ⟨A, j * 7 + 4, none⟩) hl).trans a4, (hB0.cell (p := ⟨A, j * 7 + 5, none⟩) hl).trans a5, (hB0.cell (p := ⟨A, j * 7 + 6, none⟩) hl).trans a6⟩
  have c0 := b0.cell
  have c1 := b1.cell
  have c2 : W0.cell? ⟨H, 0, none⟩ = some lv := blk_cell q 0
  have c3 : W0.cell? ⟨H, 1, none⟩ = some (.int .i64 reg) := blk_cell q 1
  have c4 : W0.cell? ⟨H, 3, none⟩ = some (.slice (some ⟨A, 0, none⟩) n c) := blk_cell q 3
  obtain ⟨a0, a1, a2, a3, a4, a5, a6⟩ := hA0 i hi
  have hHl : H < W0.heap.size := blk_lt q
  have hAl : A < W0.heap.size := World.block_lt_of_cell? W0 _ a0
  have hwl : w.heap.size < W0.heap.size := by omega
  have hwl1 : w.heap.size + 1 < W0.heap.size := by omega
  have d0 := cell_al a0 (.cells #[.int .i64 0, .int .i64 0, .int .i64 0, .slice none 0 0, .slice none 0 0, .bool false, .int .i64 0] 45)
  have d1 := cell_al a1 (.cells #[.int .i64 0, .int .i64 0, .int .i64 0, .slice none 0 0, .slice none 0 0, .bool false, .int .i64 0] 45)
  have d2 := cell_al a2 (.cells #[.int .i64 0, .int .i64 0, .int .i64 0, .slice none 0 0, .slice none 0 0, .bool false, .int .i64 0] 45)
  have d3 := cell_al a3 (.cells #[.int .i64 0, .int .i64 0, .int .i64 0, .slice none 0 0, .slice none 0 0, .bool false, .int .i64 0] 45)
  have d4 := cell_al a4 (.cells #[.int .i64 0, .int .i64 0, .int .i64 0, .slice none 0 0, .slice none 0 0, .bool false, .int .i64 0] 45)
  have d5 := cell_al a5 (.cells #[.int .i64 0, .int .i64 0, .int .i64 0, .slice none 0 0, .slice none 0 0, .bool false, .int .i64 0] 45)
  have d6 := cell_al a6 (.cells #[.int .i64 0, .int .i64 0, .int .i64 0, .slice none 0 0, .slice none 0 0, .bool false, .int .i64 0] 45)
  have d7 := cell_al c0 (.cells #[.int .i64 0, .int .i64 0, .int .i64 0, .slice none 0 0, .slice none 0 0, .bool false, .int .i64 0] 45)
  have d8 := cell_al c1 (.cells #[.int .i64 0, .int .i64 0, .int .i64 0, .slice none 0 0, .slice none 0 0, .bool false, .int .i64 0] 45)
  have d9 := cell_al c4 (.cells #[.int .i64 0, .int .i64 0, .int .i64 0, .slice none 0 0, .slice none 0 0, .bool false, .int .i64 0] 45)
  have HQ := Lib.hid (And.intro q (And.intro hrow0 (And.intro hB0 (And.intro hA0 (And.intro b0 b1)))))
  have HH := Lib.hid (And.intro hh hrow)
  clear hh hrow hA hA0 hB0 q hrow0 b0 b1
  gi_wp2
  refine wpIn_wide.2 ?_
  go_region
  have hS1 : OSt w ((W0.alloc (.cells #[.int .i64 1, .int .i64 7, .int .i64 0, .slice none 0 0, .slice none 0 0, .bool false, .int .i64 0] 45)).drew) base w.heap.size H i lv reg off (.slice (some ⟨A, 0, none⟩) n c) k cs := by
    have hb1 : Below W0.heap.size W0 ((W0.alloc (.cells #[.int .i64 1, .int .i64 7, .int .i64 0, .slice none 0 0, .slice none 0 0, .bool false, .int .i64 0] 45)).drew) := below_drew1 (below_alloc (Below.refl _ _) _)
    refine ⟨(hb1.block _ (blk_lt HQ.out.2.2.2.2.1)).trans HQ.out.2.2.2.2.1, (hb1.block _ (blk_lt HQ.out.2.2.2.2.2)).trans HQ.out.2.2.2.2.2, ?_, (hb1.block _ hHl).trans HQ.out.1, row_below HQ.out.2.1 hb1, (HQ.out.2.2.1.mono hb).trans (hb1.mono (by omega)), by simp; omega⟩
    rw [← hs0]; exact blk_new W0 _
  obtain ⟨W1, hW1⟩ : ∃ W1, (W0.alloc (.cells #[.int .i64 1, .int .i64 7, .int .i64 0, .slice none 0 0, .slice none 0 0, .bool false, .int .i64 0] 45)).drew = W1 := ⟨_, rfl⟩
  rw [hW1] at hS1 ⊢
  clear hW1 HQ HH hW0 hHl hAl hwl hwl1 hs0 c0 c1 c2 c3 c4 a0 a1 a2 a3 a4 a5 a6 d0 d1 d2 d3 d4 d5 d6 d7 d8 d9
  obtain ⟨B, hBw⟩ : ∃ B, w.heap.size = B := ⟨_, rfl⟩
  rw [hBw] at hS1 hb ⊢
  have HBw := Lib.hid hBw
  have e0 := blk_cell hS1.t 0
  have e1 := blk_cell hS1.t 1
  have e2 := blk_cell hS1.t 2
  have e3 := blk_cell hS1.t 3
  have e4 := blk_cell hS1.t 4
  have e5 := blk_cell hS1.t 5
  have e6 := blk_cell hS1.t 6
  have HS := Lib.hid hS1
  clear hS1 hBw
  gi_wp2_with (first
    | (refine ⟨trivial, ?_⟩; gi_at_call 15; refine (callsIn_wide.2 (Classes_c _)).mono ?_; rintro e w2 ⟨b, rfl, hbl, hbb, hb2⟩; have HS2 := Lib.hid (HS.out.below hb2); clear e0 e1 e2 e3 e4 e5 e6; have c0 := HS2.out.p.cell; have c2 : w2.cell? ⟨H, 1, none⟩ = some (.int .i64 reg) := blk_cell HS2.out.h 1; have c3 : w2.cell? ⟨b, 0, none⟩ = some (.int .i64 1) := blk_cell hbb 0; have HG := Lib.hid (And.intro hbl hbb); clear HS hbl hbb hb2)
    | (refine ⟨trivial, ?_⟩; gi_at_call 38; refine (callsIn_wide.2 (fits_c _ H b reg hr0 (by omega) true (by simp; omega) c2 c3)).mono ?_; rintro e w3 ⟨rfl, hb3⟩; have HS3 := Lib.hid (HS2.out.below hb3); clear c0 c2; have c0 := HS3.out.p.cell; have c2 : w3.cell? ⟨H, 1, none⟩ = some (.int .i64 reg) := blk_cell HS3.out.h 1; have hbb3 := (hb3.block _ (blk_lt HG.out.2)).trans HG.out.2; clear c3; have c3 : w3.cell? ⟨b, 0, none⟩ = some (.int .i64 1) := blk_cell hbb3 0; clear hb3 hbb3)
    | (refine ⟨trivial, ?_⟩; gi_at_call 39; refine (eights_in _ _ _ _).mono ?_; rintro e w4 ⟨rfl, hw4⟩))
  subst hw4
  have hb4 : Below w3.heap.size w3 ((w3.alloc (.cells #[.pointer (some ⟨H, 0, none⟩)] 68)).alloc (.cells #[.slice (some ⟨b, 0, none⟩) 1 1] 25)) := below_alloc (below_alloc (Below.refl _ _) _) _
  have hS4 := HS3.out.below hb4
  have y1 : ((w3.alloc (.cells #[.pointer (some ⟨H, 0, none⟩)] 68)).alloc (.cells #[.slice (some ⟨b, 0, none⟩) 1 1] 25)).heap[w3.heap.size]? = some (.cells #[.pointer (some ⟨H, 0, none⟩)] 68 (0, 0)) := blk_al (blk_new w3 _) _
  have y2 : ((w3.alloc (.cells #[.pointer (some ⟨H, 0, none⟩)] 68)).alloc (.cells #[.slice (some ⟨b, 0, none⟩) 1 1] 25)).heap[w3.heap.size + 1]? = some (.cells #[.slice (some ⟨b, 0, none⟩) 1 1] 25 (0, 0)) := blk_new1 w3 _ _
  have r2 := (hb4.cell (World.block_lt_of_cell? w3 _ c3)).trans c3
  obtain ⟨g3, hg3⟩ : ∃ g3, w3.heap.size = g3 := ⟨_, rfl⟩
  obtain ⟨W2, hW2⟩ : ∃ W2, ((w3.alloc (.cells #[.pointer (some ⟨H, 0, none⟩)] 68)).alloc (.cells #[.slice (some ⟨b, 0, none⟩) 1 1] 25)) = W2 := ⟨_, rfl⟩
  rw [hW2] at hS4 y1 y2 r2 ⊢
  rw [hg3] at y1 y2 ⊢
  have r1 : W2.cell? ⟨H, 1, none⟩ = some (.int .i64 reg) := blk_cell hS4.h 1
  have HA := Lib.hid HBw.out
  clear hW2 hg3 hb4 c0 c2 c3 HS3 HG HBw
  refine wpIn_rangeFunc_ownH (F := Fence.wide) (n := 6) rfl (by decide) (gf := 54) (lb := #[.pointer (some ⟨g3, 0, none⟩), .pointer (some ⟨g3 + 1, 0, none⟩)]) rfl trivial (enters_of Tryd.func54 (by kernel_rfl) rfl)
    (eights1 5 (by decide) W2 g3 (g3 + 1) H b reg hr0 (by omega) true (by simp; omega) y1 y2 r1 r2) (fun _ _ => trivial) (fun _ _ _ _ _ _ _ _ => trivial) (Below.refl _ _) (fun _ => rfl)
    (fun pre W => (pre = [] ∧ OSt w W base B H i lv reg off (.slice (some ⟨A, 0, none⟩) n c) k cs) ∨ (pre ≠ [] ∧ HSt w W base H (reg + 1) off (.slice (some ⟨A, 0, none⟩) n c) (k + 1) (cs ++ [.int .i64 i, .int .i64 0, .int .i64 reg, .int .i64 0])))
    (fun c pre W => False)
    (fun s W W' row hs hg hr => hs.imp (fun h => ⟨h.1, h.2.own hg (fun r e => ⟨Nat.le_trans hS4.s (hr r e).1, (hr r e).2⟩)⟩) (fun h => ⟨h.1, h.2.own hg (fun r e => ⟨Nat.le_trans hS4.s (hr r e).1, (hr r e).2⟩)⟩))
    (fun c s W W' row hs hg hr => hs)
    (.inl ⟨rfl, hS4⟩)
    (fun x a' W => a' = { tmps := #[.pointer (some ⟨H, 0, none⟩), .int .i64 i, .pointer (some ⟨B, 0, none⟩), .pointer (some ⟨B + 1, 0, none⟩), .pointer (some ⟨B + 2, 0, none⟩), .slice (some ⟨b, 0, none⟩) 1 1, .int .i64 0, .int .i64 0, undef, undef, undef, undef, .pointer (some ⟨H, 0, none⟩), .pointer (some ⟨H, 0, none⟩), .pointer (some ⟨H, 3, none⟩), .slice (some ⟨A, 0, none⟩) n c, .int .i64 i, .pointer (some ⟨A, i * 7, none⟩), .agg #[.int .i64 1, .int .i64 7, .int .i64 0, .slice none 0 0, .slice none 0 0, .bool false, .int .i64 0], .tuple #[.slice (some ⟨b, 0, none⟩) 1 1, .int .i64 0], .agg #[.int .i64 1, .int .i64 7, .int .i64 0, .slice none 0 0, .slice none 0 0, .bool false, .int .i64 0], .tuple #[.slice (some ⟨b, 0, none⟩) 1 1, .int .i64 0], .slice (some ⟨b, 0, none⟩) 1 1, .int .i64 0, .pointer (some ⟨H, 0, none⟩), .slice (some ⟨b, 0, none⟩) 1 1, .bool true, .pointer (some ⟨H, 0, none⟩), .slice (some ⟨b, 0, none⟩) 1 1, .func (.func 54) #[] #[.pointer (some ⟨g3, 0, none⟩), .pointer (some ⟨g3 + 1, 0, none⟩)], .int .i64 0, .bool true, undef, undef, undef, undef, undef, undef, undef, undef, undef, undef, undef, undef, undef, undef, undef, undef, undef, undef, undef, undef, undef, undef, undef, undef, undef, undef, undef, undef, undef, undef, undef, undef, undef, undef, undef, undef, undef, undef, undef, undef, undef, undef, undef, undef, undef, undef, undef, undef, undef, undef, undef, undef, undef, undef, undef, undef, undef, undef, undef, undef, undef, undef, undef, undef, undef, undef, undef, undef, undef], defers := [] })
    (fun x a' s W W' row hs hg hr => hs) ?assign ?body ?done (fun D c pre W _ _ h _ => h.elim)
  case assign =>
    rintro l pre x W K hI hK
    gi_wp2
    exact hK _ _ (KeepsFrom.refl _ _) trivial hI rfl
  case body =>
    rintro l pre x a' W hl hlo hI rfl hlen
    obtain rfl : pre = [] := List.eq_nil_of_length_eq_zero (by omega)
    have hI' : OSt w W base B H i lv reg off (.slice (some ⟨A, 0, none⟩) n c) k cs := by
      rcases hI with h | h
      · exact h.2
      · exact absurd rfl h.1
    clear hI hlo hS4 y1 y2 r1 r2
    have HI := Lib.hid hI'
    have c0 := hI'.p.cell
    have c1 := hI'.i.cell
    have c2 : W.cell? ⟨H, 0, none⟩ = some lv := blk_cell hI'.h 0
    have c3 : W.cell? ⟨H, 1, none⟩ = some (.int .i64 reg) := blk_cell hI'.h 1
    have hHl : H < W.heap.size := blk_lt hI'.h
    have hBl : B < W.heap.size := blk_lt hI'.p
    have hBl1 : B + 1 < W.heap.size := blk_lt hI'.i
    have hbs := hI'.s
    have hneH := row_ne hI'.h (by decide) hI'.row
    have hneB := row_ne hI'.p (by decide) hI'.row
    have hneB1 := row_ne hI'.i (by decide) hI'.row
    have hfz : W.frozen? ⟨H, 0, none⟩ = false := by simp [World.frozen?, hI'.h]
    have hfz1 : W.frozen? ⟨H, 1, none⟩ = false := by simp [World.frozen?, hI'.h]
    obtain ⟨i0, hi0, hz0, hz1, hz2⟩ := inf48
    clear hI'
    gi_wp2
    refine startIn_ (n := 17) (S := fun w' => w'.cell? ⟨B, 0, none⟩ = some (.pointer (some ⟨H, 0, none⟩)) ∧ w'.cell? ⟨B + 1, 0, none⟩ = some (.int .i64 i) ∧ w'.cell? ⟨H, 0, none⟩ = some lv ∧ w'.cell? ⟨H, 1, none⟩ = some (.int .i64 reg)) (ds := [16]) #[false, false, false, false, false, false, false, false, false, false, false, false, false, false, false, false, false] (fun hlo => by obtain ⟨_, _, h⟩ := hlo; exact h) (by kernel_rfl) (by kernel_rfl) rfl rfl ⟨c0, c1, c2, c3⟩ (fun hHeld => ?_)
    refine pure_ (i := 6) (N := some 38) (v := ?_) (a' := ?_) #[false, false, false, false, false, false, true, false, false, false, false, false, false, false, false, false, false] rfl rfl (by kernel_rfl) (fun _ _ _ h => h) (Or.inl ⟨by rfl, ?_⟩) ?_ ?_
    rotate_left
    · intro w'
      go_simp
      with_reducible rfl
    rotate_left
    · simp only [Act.put, List.setIfInBounds_toArray, List.set_cons_zero, List.set_cons_succ, i64_w, i32_w]
      rfl
    refine take_ (i := 0) (N := some 32) (v := ?_) (a' := ?_) #[true, false, false, false, false, false, true, false, false, false, false, false, false, false, false, false, false] rfl rfl (by kernel_rfl) (fun _ _ _ h => h) (Or.inl ⟨by rfl, ?_⟩) hHeld ?_ ?_
    rotate_left
    · rintro w' ⟨s0, s1, s2, s3⟩
      go_simp
      with_reducible rfl
    rotate_left
    · simp only [Act.put, List.setIfInBounds_toArray, List.set_cons_zero, List.set_cons_succ, i64_w, i32_w]
      rfl
    refine take_ (i := 1) (N := some 33) (v := ?_) (a' := ?_) #[true, true, false, false, false, false, true, false, false, false, false, false, false, false, false, false, false] rfl rfl (by kernel_rfl) (fun _ _ _ h => h) (Or.inl ⟨by rfl, ?_⟩) hHeld ?_ ?_
    rotate_left
    · rintro w' ⟨s0, s1, s2, s3⟩
      go_simp
      with_reducible rfl
    rotate_left
    · simp only [Act.put, List.setIfInBounds_toArray, List.set_cons_zero, List.set_cons_succ, i64_w, i32_w]
      rfl
    refine pure_ (i := 2) (N := some 34) (v := ?_) (a' := ?_) #[true, true, true, false, false, false, true, false, false, false, false, false, false, false, false, false, false] rfl rfl (by kernel_rfl) (fun _ _ _ h => h) (Or.inl ⟨by rfl, ?_⟩) ?_ ?_
    rotate_left
    · intro w'
      go_simp
      with_reducible rfl
    rotate_left
    · simp only [Act.put, List.setIfInBounds_toArray, List.set_cons_zero, List.set_cons_succ, i64_w, i32_w]
      rfl
    refine pure_ (i := 3) (N := some 35) (v := ?_) (a' := ?_) #[true, true, true, true, false, false, true, false, false, false, false, false, false, false, false, false, false] rfl rfl (by kernel_rfl) (fun _ _ _ h => h) (Or.inl ⟨by rfl, ?_⟩) ?_ ?_
    rotate_left
    · intro w'
      go_simp
      with_reducible rfl
    rotate_left
    · simp only [Act.put, List.setIfInBounds_toArray, List.set_cons_zero, List.set_cons_succ, i64_w, i32_w]
      rfl
    refine take_ (i := 4) (N := some 36) (v := ?_) (a' := ?_) #[true, true, true, true, true, false, true, false, false, false, false, false, false, false, false, false, false] rfl rfl (by kernel_rfl) (fun _ _ _ h => h) (Or.inl ⟨by rfl, ?_⟩) hHeld ?_ ?_
    rotate_left
    · rintro w' ⟨s0, s1, s2, s3⟩
      go_simp
      with_reducible rfl
    rotate_left
    · simp only [Act.put, List.setIfInBounds_toArray, List.set_cons_zero, List.set_cons_succ, i64_w, i32_w]
      rfl
    refine take_ (i := 5) (N := some 37) (v := ?_) (a' := ?_) #[true, true, true, true, true, true, true, false, false, false, false, false, false, false, false, false, false] rfl rfl (by kernel_rfl) (fun _ _ _ h => h) (Or.inl ⟨by rfl, ?_⟩) hHeld ?_ ?_
    rotate_left
    · rintro w' ⟨s0, s1, s2, s3⟩
      go_simp
      with_reducible rfl
    rotate_left
    · simp only [Act.put, List.setIfInBounds_toArray, List.set_cons_zero, List.set_cons_succ, i64_w, i32_w]
      rfl
    refine take_ (i := 7) (N := some 39) (v := ?_) (a' := ?_) #[true, true, true, true, true, true, true, true, false, false, false, false, false, false, false, false, false] rfl rfl (by kernel_rfl) (fun _ _ _ h => h) (Or.inl ⟨by rfl, ?_⟩) hHeld ?_ ?_
    rotate_left
    · rintro w' ⟨s0, s1, s2, s3⟩
      go_simp
      with_reducible rfl
    rotate_left
    · simp only [Act.put, List.setIfInBounds_toArray, List.set_cons_zero, List.set_cons_succ, i64_w, i32_w]
      rfl
    refine pure_ (i := 8) (N := some 40) (v := ?_) (a' := ?_) #[true, true, true, true, true, true, true, true, true, false, false, false, false, false, false, false, false] rfl rfl (by kernel_rfl) (fun _ _ _ h => h) (Or.inl ⟨by rfl, ?_⟩) ?_ ?_
    rotate_left
    · intro w'
      go_simp
      with_reducible rfl
    rotate_left
    · simp only [Act.put, List.setIfInBounds_toArray, List.set_cons_zero, List.set_cons_succ, i64_w, i32_w]
      rfl
    refine pure_ (i := 9) (N := some 41) (v := ?_) (a' := ?_) #[true, true, true, true, true, true, true, true, true, true, false, false, false, false, false, false, false] rfl rfl (by kernel_rfl) (fun _ _ _ h => h) (Or.inl ⟨by rfl, ?_⟩) ?_ ?_
    rotate_left
    · intro w'
      go_simp
      with_reducible rfl
    rotate_left
    · simp only [Act.put, List.setIfInBounds_toArray, List.set_cons_zero, List.set_cons_succ, i64_w, i32_w]
      rfl
    refine take_ (i := 10) (N := some 42) (v := ?_) (a' := ?_) #[true, true, true, true, true, true, true, true, true, true, true, false, false, false, false, false, false] rfl rfl (by kernel_rfl) (fun _ _ _ h => h) (Or.inl ⟨by rfl, ?_⟩) hHeld ?_ ?_
    rotate_left
    · rintro w' ⟨s0, s1, s2, s3⟩
      go_simp
      with_reducible rfl
    rotate_left
    · simp only [Act.put, List.setIfInBounds_toArray, List.set_cons_zero, List.set_cons_succ, i64_w, i32_w]
      rfl
    refine pure_ (i := 11) (N := some 43) (v := ?_) (a' := ?_) #[true, true, true, true, true, true, true, true, true, true, true, true, false, false, false, false, false] rfl rfl (by kernel_rfl) (fun _ _ _ h => h) (Or.inl ⟨by rfl, ?_⟩) ?_ ?_
    rotate_left
    · intro w'
      go_simp
      with_reducible rfl
    rotate_left
    · simp only [Act.put, List.setIfInBounds_toArray, List.set_cons_zero, List.set_cons_succ, i64_w, i32_w]
      rfl
    refine one_ (i := 12) (N := some 44) #[true, true, true, true, true, true, true, true, true, true, true, true, true, false, false, false, false] rfl rfl (by kernel_rfl) (by decide) (fun K hK => ?_)
    refine value_ (w1 := ?_) (v := ?_) (by rfl) rfl ?_ ?_
    rotate_left 2
    · go_simp
      constructor
      · rfl
      · rfl
    refine hK.out _ _ ⟨(cell_al c0 _), (cell_al c1 _), (cell_al c2 _), (cell_al c3 _)⟩ (fun hHeld => ?_)
    clear hK K
    refine norm_ (a' := ?_) ?_ ?_
    rotate_left
    · show Act.put _ (some 44) _ = _
      simp only [Act.put, List.setIfInBounds_toArray, List.set_cons_zero, List.set_cons_succ, i64_w, i32_w]
      rfl
    refine one_ (i := 13) (N := some 45) #[true, true, true, true, true, true, true, true, true, true, true, true, true, true, false, false, false] rfl rfl (by kernel_rfl) (by decide) (fun K hK => ?_)
    refine step_append_lies _ (by rfl) _ _ _ (by rfl) base 48 i0 _ 4 32 Tryd.underlying38 hi0 hz0 hz1 hz2 rfl (by omega) _ _ _ (by rfl) ((HI.out.row.alloc _).drew) ⟨W.heap.size, 0, none⟩ 1 1 [.int .i64 i, .int .i64 0, .int .i64 reg, .int .i64 0] (by rfl) (by rfl) (World.news_of_block (cs := #[.int .i64 i, .int .i64 0, .int .i64 reg, .int .i64 0]) (t := 48) (fr := (0, 0)) (heap_alloc_new W _)) (by simp [Value.oneCell']) (by omega) (by simp [maxLen]; omega) (by omega) (by simp; omega) (W.heap.size + 1) (by simp) ?_
    intro gg cap w1 hown1 hgrow hat hlt
    have hw0 : w1.cell? ⟨H, 0, none⟩ = some lv := ((hgrow.cell_far _ (by simp; omega) (Ne.symm hneH)).trans (cell_al c2 _))
    have hwf : w1.frozen? ⟨H, 0, none⟩ = false := (hgrow.frozen_far _ (by simp; omega) (Ne.symm hneH)).trans ((frz_al hHl _ _).trans hfz)
    have hw1 : w1.cell? ⟨H, 1, none⟩ = some (.int .i64 reg) := ((hgrow.cell_far _ (by simp; omega) (Ne.symm hneH)).trans (cell_al c3 _))
    have hwf1 : w1.frozen? ⟨H, 1, none⟩ = false := (hgrow.frozen_far _ (by simp; omega) (Ne.symm hneH)).trans ((frz_al hHl _ _).trans hfz1)
    have hwb : w1.cell? ⟨B, 0, none⟩ = some (.pointer (some ⟨H, 0, none⟩)) := ((hgrow.cell_far _ (by simp; omega) (Ne.symm hneB)).trans (cell_al c0 _))
    refine hK.out _ _ ⟨hwb, ((hgrow.cell_far _ (by simp; omega) (Ne.symm hneB1)).trans (cell_al c1 _)), hw0, hw1⟩ (fun hHeld => ?_)
    clear hK K
    refine norm_ (a' := ?_) ?_ ?_
    rotate_left
    · show Act.put _ (some 45) _ = _
      simp only [Act.put, List.setIfInBounds_toArray, List.set_cons_zero, List.set_cons_succ, i64_w, i32_w]
      rfl
    refine pure_ (i := 14) (N := some 46) (v := ?_) (a' := ?_) #[true, true, true, true, true, true, true, true, true, true, true, true, true, true, true, false, false] rfl rfl (by kernel_rfl) (fun _ _ _ h => h) (Or.inl ⟨by rfl, ?_⟩) ?_ ?_
    rotate_left
    · intro w'
      go_simp
      with_reducible rfl
    rotate_left
    · simp only [Act.put, List.setIfInBounds_toArray, List.set_cons_zero, List.set_cons_succ, i64_w, i32_w]
      rfl
    refine pure_ (i := 15) (N := some 47) (v := ?_) (a' := ?_) #[true, true, true, true, true, true, true, true, true, true, true, true, true, true, true, true, false] rfl rfl (by kernel_rfl) (fun _ _ _ h => h) (Or.inl ⟨by rfl, ?_⟩) ?_ ?_
    rotate_left
    · intro w'
      go_simp
      with_reducible rfl
    rotate_left
    · simp only [Act.put, List.setIfInBounds_toArray, List.set_cons_zero, List.set_cons_succ, i64_w, i32_w]
      rfl
    refine last_ (i := 16) (N := none) #[true, true, true, true, true, true, true, true, true, true, true, true, true, true, true, true, true] rfl rfl (by kernel_rfl) (by decide) (fun K hK => ?_)
    refine skip_ (w1 := ?_) (by rfl) rfl ?_ ?_
    rotate_left
    · go_simp
      rfl
    refine hK.out _ _ ?_
    clear hK K
    refine done_ (by kernel_rfl) ?_

    have hkX := HSt.of_append HI.out hH hown1 hgrow 1 (.inl rfl) (reg + 1) (reg + 1) off rfl
    have hBH : B ≠ H := fun e => by have h1 := HI.out.p; have h2 := HI.out.h; subst e; rw [show W.heap[B]? = _ from h1] at h2; cases h2
    obtain ⟨X, hX⟩ : ∃ X, w1.setCell ⟨H, 0, none⟩ (.slice (some ⟨gg, 0, none⟩) (k + 1) cap) = X := ⟨_, rfl⟩
    have hw1' : w1.heap[H]? = _ := (hgrow.block H (by simp; omega) (Ne.symm hneH)).trans (blk_al HI.out.h _)
    have hXH : X.heap[H]? = some (.cells #[.slice (some ⟨gg, 0, none⟩) (k + 1) cap, .int .i64 reg, .int .i64 off, .slice (some ⟨A, 0, none⟩) n c] 70 (0, 0)) := by rw [← hX]; exact blk_put hw1' 0 _ rfl
    have x0 : X.cell? ⟨B, 0, none⟩ = some (.pointer (some ⟨H, 0, none⟩)) := by
      rw [← hX]; exact (World.cell?_setCell_other w1 ⟨H, 0, none⟩ ⟨B, 0, none⟩ _ (fun e => hBH (congrArg Addr.block e).symm)).trans hwb
    have x1 : X.cell? ⟨H, 1, none⟩ = some (.int .i64 reg) := blk_cell hXH 1
    have x2 : X.frozen? ⟨H, 1, none⟩ = false := by simp [World.frozen?, hXH]
    rw [hX] at hkX ⊢
    have HK := Lib.hid hkX
    clear hkX hX hXH hw1' hwb hw0 hw1 hwf hwf1 hown1 hgrow c0 c1 c2 c3 hfz hfz1 hi0 hz0 hz1 hz2
    gi_wp2
    exact ⟨HK.out.1.from _, trivial, .inr ⟨by simp, HK.out.2⟩⟩
  case done =>
    rintro D xs W hD rfl hI hK
    have hI' : HSt w W base H (reg + 1) off (.slice (some ⟨A, 0, none⟩) n c) (k + 1) (cs ++ [.int .i64 i, .int .i64 0, .int .i64 reg, .int .i64 0]) := by
      rcases hI with h | h
      · cases h.1
      · exact h.2
    clear hI y1 y2 r1 r2
    have HH := Lib.hid (And.intro hI' (And.intro hK hD))
    have HS4 := Lib.hid hS4.s
    clear hI' hK hS4
    gi_wp2
    show bodyPostM _ _ _ _ _ Exit.ret _ _
    refine ⟨by simp, .inl ⟨_, _, rfl, run_takeDeferred HH.out.2.1, ?_⟩⟩
    refine ⟨_, results_none rfl _ _ _, ⟨_, rfl⟩, ?_⟩
    have := HH.out.1.own (grownBy_putObj' W D (.deferred none)) (fun r e => by cases e; exact ⟨Nat.le_trans HS4.out HH.out.2.2, _, HH.out.2.1, rfl⟩)
    exact ⟨this.h, this.b⟩
end Go.Proofs.YthfpdlfpbbhjhaaDoor.Mc
