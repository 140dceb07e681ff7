import Derived.Test.YthfpdlfpbbhjhaaDoorCS11
namespace Go.Proofs.YthfpdlfpbbhjhaaDoor.Mc
open Go.RowKit Go.Proofs.YthfpdlfpbbhjhaaDoor.PA Go.Proofs.YthfpdlfpbbhjhaaDoorW.PrintWords Go.Proofs.YthfpdlfpbbhjhaaDoorW.PrintLast Go.Proofs.YthfpdlfpbbhjhaaDoorW.PrintMore
set_option linter.unusedVariables false
set_option linter.unusedSimpArgs false
theorem drewN_cell {W : World} {p : Addr} {v : Value} (h : W.cell? p = some v) (m : Nat) : (W.drewN m).cell? p = some v := h
theorem OSt.same2 {w0 W : World} {base B H : Nat} {i : Int} {lv : Value} {reg off : Int} {av : Value} {k : Nat} {cs : List Value} (h : OSt w0 W base B H i lv reg off av k cs) (hH : base ≤ H) : OSt w0 (W.setCell ⟨H, 2, none⟩ (.int .i64 off)) base B H i lv reg off av k cs := by
  have ne : ∀ {b : Nat} {cs : Array Value} {t : TypeId}, W.heap[b]? = some (.cells cs t (0, 0)) → t ≠ 70 → b ≠ H := fun hb ht e => by
    subst e; rw [h.h] at hb; injection hb with hb; injection hb with _ hb _; exact ht hb.symm
  exact ⟨(Below.heap_setCell _ ⟨H, 2, none⟩ _ _ (ne h.p (by decide))).trans h.p, (Below.heap_setCell _ ⟨H, 2, none⟩ _ _ (ne h.i (by decide))).trans h.i, (Below.heap_setCell _ ⟨H, 2, none⟩ _ _ (ne h.t (by decide))).trans h.t, blk_put h.h 2 _ rfl, h.row.kept (Lib.grownBy_setCell _ H 2 _) (.inr (row_ne h.h (by decide) h.row)), h.b.setCell (p := ⟨H, 2, none⟩) hH _, by simpa using h.s⟩
set_option maxRecDepth 100000 in
set_option maxHeartbeats 4000000 in
theorem over_stk (base H A n c i : Nat) (hi : i < n) (hn : n ≤ 8) (hc : n ≤ c) (w : World) (hA : LongsAt w A n) (lv : Value) (k : Nat) (cs : List Value) (off : Int) (ho0 : 0 ≤ off) (ho1 : off ≤ 100) (hu : class_up.f off 8 = some off) (hk : k ≤ 100)
    (hb : base ≤ w.heap.size) (hH : base ≤ H) (hh : w.heap[H]? = some (.cells #[lv, .int .i64 6, .int .i64 off, .slice (some ⟨A, 0, none⟩) n c] 70 (0, 0))) (hrow : w.ownsRow base 48 4 lv k cs) :
    Calls Tryd.prog 17 #[.pointer (some ⟨H, 0, none⟩), .int .i64 i] w fun e w' => (∃ v, e = .returned v) ∧ HandSt base w' H 6 (off + 8) (.slice (some ⟨A, 0, none⟩) n c) (k + 1) (cs ++ [.int .i64 i, .int .i64 0, .int .i64 (-1), .int .i64 off]) ∧ Below base w w' := by
  have HU := Lib.hid hu
  clear hu
  go_enter Tryd.func17, Tryd.ntmps17
  obtain ⟨W0, hW0⟩ : ∃ W0, (w.alloc (.cells #[.pointer (some ⟨H, 0, none⟩)] 68)).alloc (.cells #[.int .i64 i] 3) = W0 := ⟨_, rfl⟩
  have hB0 : Below w.heap.size w W0 := by rw [← hW0]; exact ((Below.refl _ w).alloc (Nat.le_refl _) _).alloc (by simp) _
  have hs0 : W0.heap.size = w.heap.size + 2 := by rw [← hW0]; simp
  have b0 : Boxed W0 w.heap.size 68 (.pointer (some ⟨H, 0, none⟩)) := by rw [← hW0]; exact blk_al (blk_new w _) _
  have b1 : Boxed W0 (w.heap.size + 1) 3 (.int .i64 i) := by rw [← hW0]; exact blk_new1 w _ _
  have q := (hB0.block H (blk_lt hh)).trans hh
  have hrow0 : W0.ownsRow base 48 4 lv k cs := by rw [← hW0]; exact (hrow.alloc _).alloc _
  have hA0 : LongsAt W0 A n := fun j hj => by
    obtain ⟨a0, a1, a2, a3, a4, a5, a6⟩ := hA j hj
    have hl := World.block_lt_of_cell? w _ a0
    exact ⟨(hB0.cell hl).trans a0, (hB0.cell (p := ⟨A, j * 7 + 1, none⟩) hl).trans a1, (hB0.cell (p := ⟨A, j * 7 + 2, none⟩) hl).trans a2, (hB0.cell (p := ⟨A, j * 7 + 3, none⟩) hl).trans a3, (hB0.cell (p := ⟨A, j * 7 + 4, none⟩) hl).trans a4, (hB0.cell (p := ⟨A, j * 7 + 5, none⟩) hl).trans a5, (hB0.cell (p := ⟨A, j * 7 + 6, none⟩) hl).trans a6⟩
  have c0 := b0.cell
  have c1 := b1.cell
  have c2 : W0.cell? ⟨H, 0, none⟩ = some lv := blk_cell q 0
  have c3 : W0.cell? ⟨H, 1, none⟩ = some (.int .i64 6) := blk_cell q 1
  have c4 : W0.cell? ⟨H, 3, none⟩ = some (.slice (some ⟨A, 0, none⟩) n c) := blk_cell q 3
  obtain ⟨a0, a1, a2, a3, a4, a5, a6⟩ := hA0 i hi
  have hHl : H < W0.heap.size := blk_lt q
  have hAl : A < W0.heap.size := World.block_lt_of_cell? W0 _ a0
  have hwl : w.heap.size < W0.heap.size := by omega
  have hwl1 : w.heap.size + 1 < W0.heap.size := by omega
  have d0 := cell_al a0 (.cells #[.int .i64 0, .int .i64 0, .int .i64 0, .slice none 0 0, .slice none 0 0, .bool false, .int .i64 0] 45)
  have d1 := cell_al a1 (.cells #[.int .i64 0, .int .i64 0, .int .i64 0, .slice none 0 0, .slice none 0 0, .bool false, .int .i64 0] 45)
  have d2 := cell_al a2 (.cells #[.int .i64 0, .int .i64 0, .int .i64 0, .slice none 0 0, .slice none 0 0, .bool false, .int .i64 0] 45)
  have d3 := cell_al a3 (.cells #[.int .i64 0, .int .i64 0, .int .i64 0, .slice none 0 0, .slice none 0 0, .bool false, .int .i64 0] 45)
  have d4 := cell_al a4 (.cells #[.int .i64 0, .int .i64 0, .int .i64 0, .slice none 0 0, .slice none 0 0, .bool false, .int .i64 0] 45)
  have d5 := cell_al a5 (.cells #[.int .i64 0, .int .i64 0, .int .i64 0, .slice none 0 0, .slice none 0 0, .bool false, .int .i64 0] 45)
  have d6 := cell_al a6 (.cells #[.int .i64 0, .int .i64 0, .int .i64 0, .slice none 0 0, .slice none 0 0, .bool false, .int .i64 0] 45)
  have d7 := cell_al c0 (.cells #[.int .i64 0, .int .i64 0, .int .i64 0, .slice none 0 0, .slice none 0 0, .bool false, .int .i64 0] 45)
  have d8 := cell_al c1 (.cells #[.int .i64 0, .int .i64 0, .int .i64 0, .slice none 0 0, .slice none 0 0, .bool false, .int .i64 0] 45)
  have d9 := cell_al c4 (.cells #[.int .i64 0, .int .i64 0, .int .i64 0, .slice none 0 0, .slice none 0 0, .bool false, .int .i64 0] 45)
  have HQ := Lib.hid (And.intro q (And.intro hrow0 (And.intro hB0 (And.intro hA0 (And.intro b0 b1)))))
  have HH := Lib.hid (And.intro hh hrow)
  clear hh hrow hA hA0 hB0 q hrow0 b0 b1
  go_wp2
  go_region
  have hS1 : OSt w ((W0.alloc (.cells #[.int .i64 1, .int .i64 7, .int .i64 0, .slice none 0 0, .slice none 0 0, .bool false, .int .i64 0] 45)).drew) base w.heap.size H i lv 6 off (.slice (some ⟨A, 0, none⟩) n c) k cs := by
    have hb1 : Below W0.heap.size W0 ((W0.alloc (.cells #[.int .i64 1, .int .i64 7, .int .i64 0, .slice none 0 0, .slice none 0 0, .bool false, .int .i64 0] 45)).drew) := below_drew1 (below_alloc (Below.refl _ _) _)
    refine ⟨(hb1.block _ (blk_lt HQ.out.2.2.2.2.1)).trans HQ.out.2.2.2.2.1, (hb1.block _ (blk_lt HQ.out.2.2.2.2.2)).trans HQ.out.2.2.2.2.2, ?_, (hb1.block _ hHl).trans HQ.out.1, row_below HQ.out.2.1 hb1, (HQ.out.2.2.1.mono hb).trans (hb1.mono (by omega)), by simp; omega⟩
    rw [← hs0]; exact blk_new W0 _
  obtain ⟨W1, hW1⟩ : ∃ W1, (W0.alloc (.cells #[.int .i64 1, .int .i64 7, .int .i64 0, .slice none 0 0, .slice none 0 0, .bool false, .int .i64 0] 45)).drew = W1 := ⟨_, rfl⟩
  rw [hW1] at hS1 ⊢
  clear hW1 HQ HH hW0 hHl hAl hwl hwl1 hs0 c0 c1 c2 c3 c4 a0 a1 a2 a3 a4 a5 a6 d0 d1 d2 d3 d4 d5 d6 d7 d8 d9
  obtain ⟨B, hBw⟩ : ∃ B, w.heap.size = B := ⟨_, rfl⟩
  rw [hBw] at hS1 hb ⊢
  have HBw := Lib.hid hBw
  have e0 := blk_cell hS1.t 0
  have e1 := blk_cell hS1.t 1
  have e2 := blk_cell hS1.t 2
  have e3 := blk_cell hS1.t 3
  have e4 := blk_cell hS1.t 4
  have e5 := blk_cell hS1.t 5
  have e6 := blk_cell hS1.t 6
  have HS := Lib.hid hS1
  clear hS1 hBw
  go_wp2_with (first
    | (go_at_call 15; refine (Classes_c _).mono ?_; rintro e w2 ⟨b, rfl, hbl, hbb, hb2⟩; have HS2 := Lib.hid (HS.out.below hb2); clear e0 e1 e2 e3 e4 e5 e6; have c0 := HS2.out.p.cell; have c2 : w2.cell? ⟨H, 1, none⟩ = some (.int .i64 6) := blk_cell HS2.out.h 1; have c3 : w2.cell? ⟨b, 0, none⟩ = some (.int .i64 1) := blk_cell hbb 0; clear HS hbl hbb hb2)
    | (go_at_call 38; refine (fits_c _ H b 6 (by decide) (by decide) false (by decide) c2 c3).mono ?_; rintro e w3 ⟨rfl, hb3⟩; have HS3 := Lib.hid (HS2.out.below hb3); clear c0 c2 c3 hb3; have e0 := blk_cell HS3.out.t 0; have e1 := blk_cell HS3.out.t 1; have e2 := blk_cell HS3.out.t 2; have e3 := blk_cell HS3.out.t 3; have e4 := blk_cell HS3.out.t 4; have e5 := blk_cell HS3.out.t 5; have e6 := blk_cell HS3.out.t 6)
    | (go_at_call 32; refine (tysize_c _).mono ?_; rintro e w4 ⟨rfl, hb4⟩; have HS4 := Lib.hid (HS3.out.below hb4); clear e0 e1 e2 e3 e4 e5 e6 hb4))
  have c0 := HS4.out.p.cell
  have c3 : w4.cell? ⟨H, 2, none⟩ = some (.int .i64 off) := blk_cell HS4.out.h 2
  have f3 : w4.frozen? ⟨H, 2, none⟩ = false := by simp [World.frozen?, HS4.out.h]
  refine start_ (n := 11) (S := fun w' => w'.cell? ⟨B, 0, none⟩ = some (.pointer (some ⟨H, 0, none⟩)) ∧ w'.cell? ⟨H, 2, none⟩ = some (.int .i64 off)) (ds := [10]) #[false, false, false, false, false, false, false, false, false, false, false] (by kernel_rfl) rfl rfl ⟨c0, c3⟩ (fun hHeld => ?_)
  refine pure_ (i := 5) (N := some 66) (v := ?_) (a' := ?_) #[false, false, false, false, false, true, false, false, false, false, false] rfl rfl (by kernel_rfl) (fun _ _ _ h => h) (Or.inl ⟨by rfl, ?_⟩) ?_ ?_
  rotate_left
  · intro w'
    go_simp
    with_reducible rfl
  rotate_left
  · simp only [Act.put, List.setIfInBounds_toArray, List.set_cons_zero, List.set_cons_succ, i64_w, i32_w]
    rfl
  refine pure_ (i := 6) (N := some 67) (v := ?_) (a' := ?_) #[false, false, false, false, false, true, true, false, false, false, false] rfl rfl (by kernel_rfl) (fun _ _ _ h => h) (Or.inl ⟨by rfl, ?_⟩) ?_ ?_
  rotate_left
  · intro w'
    go_simp
    with_reducible rfl
  rotate_left
  · simp only [Act.put, List.setIfInBounds_toArray, List.set_cons_zero, List.set_cons_succ, i64_w, i32_w]
    rfl
  refine take_ (i := 0) (N := some 61) (v := ?_) (a' := ?_) #[true, false, false, false, false, true, true, false, false, false, false] rfl rfl (by kernel_rfl) (fun _ _ _ h => h) (Or.inl ⟨by rfl, ?_⟩) hHeld ?_ ?_
  rotate_left
  · rintro w' ⟨s0, s1⟩
    go_simp
    with_reducible rfl
  rotate_left
  · simp only [Act.put, List.setIfInBounds_toArray, List.set_cons_zero, List.set_cons_succ, i64_w, i32_w]
    rfl
  refine take_ (i := 1) (N := some 62) (v := ?_) (a' := ?_) #[true, true, false, false, false, true, true, false, false, false, false] rfl rfl (by kernel_rfl) (fun _ _ _ h => h) (Or.inl ⟨by rfl, ?_⟩) hHeld ?_ ?_
  rotate_left
  · rintro w' ⟨s0, s1⟩
    go_simp
    with_reducible rfl
  rotate_left
  · simp only [Act.put, List.setIfInBounds_toArray, List.set_cons_zero, List.set_cons_succ, i64_w, i32_w]
    rfl
  refine pure_ (i := 2) (N := some 63) (v := ?_) (a' := ?_) #[true, true, true, false, false, true, true, false, false, false, false] rfl rfl (by kernel_rfl) (fun _ _ _ h => h) (Or.inl ⟨by rfl, ?_⟩) ?_ ?_
  rotate_left
  · intro w'
    go_simp
    with_reducible rfl
  rotate_left
  · simp only [Act.put, List.setIfInBounds_toArray, List.set_cons_zero, List.set_cons_succ, i64_w, i32_w]
    rfl
  refine pure_ (i := 3) (N := some 64) (v := ?_) (a' := ?_) #[true, true, true, true, false, true, true, false, false, false, false] rfl rfl (by kernel_rfl) (fun _ _ _ h => h) (Or.inl ⟨by rfl, ?_⟩) ?_ ?_
  rotate_left
  · intro w'
    go_simp
    with_reducible rfl
  rotate_left
  · simp only [Act.put, List.setIfInBounds_toArray, List.set_cons_zero, List.set_cons_succ, i64_w, i32_w]
    rfl
  refine take_ (i := 4) (N := some 65) (v := ?_) (a' := ?_) #[true, true, true, true, true, true, true, false, false, false, false] rfl rfl (by kernel_rfl) (fun _ _ _ h => h) (Or.inl ⟨by rfl, ?_⟩) hHeld ?_ ?_
  rotate_left
  · rintro w' ⟨s0, s1⟩
    go_simp
    with_reducible rfl
  rotate_left
  · simp only [Act.put, List.setIfInBounds_toArray, List.set_cons_zero, List.set_cons_succ, i64_w, i32_w]
    rfl
  refine one_ (i := 7) (N := some 68) #[true, true, true, true, true, true, true, true, false, false, false] rfl rfl (by kernel_rfl) (by decide) (fun K hK => ?_)
  refine goes_ Tryd.func18 (by kernel_rfl) rfl #[.int .i64 off, .int .i64 8] (by rfl) rfl rfl (by simp only [List.map_toArray, List.map_cons, List.map_nil]; rfl) ?_
  with_reducible refine (class_up.calls off 8 off _ HU.out).mono ?_
  rintro e w3 ⟨rfl, hw3⟩
  refine ⟨_, rfl, ?_⟩
  obtain ⟨m3, hm3⟩ := hw3
  subst hm3
  refine hK.out _ _ ⟨(drewN_cell c0 m3), (drewN_cell c3 m3)⟩ (fun hHeld => ?_)
  clear hK K
  refine norm_ (a' := ?_) ?_ ?_
  rotate_left
  · show Act.put _ (some 68) _ = _
    simp only [Act.put, List.setIfInBounds_toArray, List.set_cons_zero, List.set_cons_succ, i64_w, i32_w]
    rfl
  refine pure_ (i := 8) (N := some 69) (v := ?_) (a' := ?_) #[true, true, true, true, true, true, true, true, true, false, false] rfl rfl (by kernel_rfl) (fun _ _ _ h => h) (Or.inl ⟨by rfl, ?_⟩) ?_ ?_
  rotate_left
  · intro w'
    go_simp
    with_reducible rfl
  rotate_left
  · simp only [Act.put, List.setIfInBounds_toArray, List.set_cons_zero, List.set_cons_succ, i64_w, i32_w]
    rfl
  refine pure_ (i := 9) (N := some 70) (v := ?_) (a' := ?_) #[true, true, true, true, true, true, true, true, true, true, false] rfl rfl (by kernel_rfl) (fun _ _ _ h => h) (Or.inl ⟨by rfl, ?_⟩) ?_ ?_
  rotate_left
  · intro w'
    go_simp
    with_reducible rfl
  rotate_left
  · simp only [Act.put, List.setIfInBounds_toArray, List.set_cons_zero, List.set_cons_succ, i64_w, i32_w]
    rfl
  refine last_ (i := 10) (N := none) #[true, true, true, true, true, true, true, true, true, true, true] rfl rfl (by kernel_rfl) (by decide) (fun K hK => ?_)
  refine skip_ (w1 := ?_) (by rfl) rfl ?_ ?_
  rotate_left
  · go_simp
    rfl
  refine hK.out _ _ ?_
  clear hK K
  refine done_ (by kernel_rfl) ?_

  have hS5 : OSt w ((w4.drewN (1 + m3)).setCell ⟨H, 2, none⟩ (.int .i64 off)) base B H i lv 6 off (.slice (some ⟨A, 0, none⟩) n c) k cs := (HS4.out.below (pw_below_drewN (Below.refl _ _) (1 + m3))).same2 hH
  obtain ⟨w5, hw5⟩ : ∃ w5, (w4.drewN (1 + m3)).setCell ⟨H, 2, none⟩ (.int .i64 off) = w5 := ⟨_, rfl⟩
  rw [hw5] at hS5 ⊢
  have HS5 := Lib.hid hS5
  clear hw5 hS5 c0 c3 f3 HS4
  go_wp2_with (go_at_call 18; refine (class_up.calls 8 8 8 _ (by decide +kernel)).mono ?_; rintro e w6 ⟨rfl, ⟨m6, rfl⟩⟩)
  have hS6 := HS5.out.below (pw_below_drewN (Below.refl _ _) m6)
  obtain ⟨w6, hw6⟩ : ∃ w6, w5.drewN m6 = w6 := ⟨_, rfl⟩
  rw [hw6] at hS6 ⊢
  clear hw6 HS5
  go_loopw [74] (fun j W => (j = .int .i64 0 ∧ OSt w W base B H i lv 6 off (.slice (some ⟨A, 0, none⟩) n c) k cs) ∨ (j = .int .i64 1 ∧ HSt w W base H 6 (off + 8) (.slice (some ⟨A, 0, none⟩) n c) (k + 1) (cs ++ [.int .i64 i, .int .i64 0, .int .i64 (-1), .int .i64 off]))) (fun j _ => 1 - (intOf j).toNat)
  case atStart => exact .inl ⟨rfl, hS6⟩
  case round =>
    obtain ⟨rfl, hI'⟩ | ⟨rfl, hI'⟩ := hrel
    · obtain ⟨W, hW⟩ : ∃ W, wr = W := ⟨_, rfl⟩
      subst hW
      have HI := Lib.hid hI'
      have c0 := hI'.p.cell
      have c1 := hI'.i.cell
      have c2 : wr.cell? ⟨H, 0, none⟩ = some lv := blk_cell hI'.h 0
      have c3 : wr.cell? ⟨H, 2, none⟩ = some (.int .i64 off) := blk_cell hI'.h 2
      have hHl : H < wr.heap.size := blk_lt hI'.h
      have hBl : B < wr.heap.size := blk_lt hI'.p
      have hBl1 : B + 1 < wr.heap.size := blk_lt hI'.i
      have hbs := hI'.s
      have hneH := row_ne hI'.h (by decide) hI'.row
      have hneB := row_ne hI'.p (by decide) hI'.row
      have hneB1 := row_ne hI'.i (by decide) hI'.row
      have hfz : wr.frozen? ⟨H, 0, none⟩ = false := by simp [World.frozen?, hI'.h]
      have hfz1 : wr.frozen? ⟨H, 2, none⟩ = false := by simp [World.frozen?, hI'.h]
      obtain ⟨i0, hi0, hz0, hz1, hz2⟩ := inf48
      clear hI' hS6
      go_wp2
      refine start_ (n := 17) (S := fun w' => w'.cell? ⟨B, 0, none⟩ = some (.pointer (some ⟨H, 0, none⟩)) ∧ w'.cell? ⟨B + 1, 0, none⟩ = some (.int .i64 i) ∧ w'.cell? ⟨H, 0, none⟩ = some lv ∧ w'.cell? ⟨H, 2, none⟩ = some (.int .i64 off)) (ds := [16]) #[false, false, false, false, false, false, false, false, false, false, false, false, false, false, false, false, false] (by kernel_rfl) rfl rfl ⟨c0, c1, c2, c3⟩ (fun hHeld => ?_)
      refine pure_ (i := 6) (N := some 83) (v := ?_) (a' := ?_) #[false, false, false, false, false, false, true, false, false, false, false, false, false, false, false, false, false] rfl rfl (by kernel_rfl) (fun _ _ _ h => h) (Or.inl ⟨by rfl, ?_⟩) ?_ ?_
      rotate_left
      · intro w'
        go_simp
        with_reducible rfl
      rotate_left
      · simp only [Act.put, List.setIfInBounds_toArray, List.set_cons_zero, List.set_cons_succ, i64_w, i32_w]
        rfl
      refine take_ (i := 0) (N := some 77) (v := ?_) (a' := ?_) #[true, false, false, false, false, false, true, false, false, false, false, false, false, false, false, false, false] rfl rfl (by kernel_rfl) (fun _ _ _ h => h) (Or.inl ⟨by rfl, ?_⟩) hHeld ?_ ?_
      rotate_left
      · rintro w' ⟨s0, s1, s2, s3⟩
        go_simp
        with_reducible rfl
      rotate_left
      · simp only [Act.put, List.setIfInBounds_toArray, List.set_cons_zero, List.set_cons_succ, i64_w, i32_w]
        rfl
      refine take_ (i := 1) (N := some 78) (v := ?_) (a' := ?_) #[true, true, false, false, false, false, true, false, false, false, false, false, false, false, false, false, false] rfl rfl (by kernel_rfl) (fun _ _ _ h => h) (Or.inl ⟨by rfl, ?_⟩) hHeld ?_ ?_
      rotate_left
      · rintro w' ⟨s0, s1, s2, s3⟩
        go_simp
        with_reducible rfl
      rotate_left
      · simp only [Act.put, List.setIfInBounds_toArray, List.set_cons_zero, List.set_cons_succ, i64_w, i32_w]
        rfl
      refine pure_ (i := 2) (N := some 79) (v := ?_) (a' := ?_) #[true, true, true, false, false, false, true, false, false, false, false, false, false, false, false, false, false] rfl rfl (by kernel_rfl) (fun _ _ _ h => h) (Or.inl ⟨by rfl, ?_⟩) ?_ ?_
      rotate_left
      · intro w'
        go_simp
        with_reducible rfl
      rotate_left
      · simp only [Act.put, List.setIfInBounds_toArray, List.set_cons_zero, List.set_cons_succ, i64_w, i32_w]
        rfl
      refine pure_ (i := 3) (N := some 80) (v := ?_) (a' := ?_) #[true, true, true, true, false, false, true, false, false, false, false, false, false, false, false, false, false] rfl rfl (by kernel_rfl) (fun _ _ _ h => h) (Or.inl ⟨by rfl, ?_⟩) ?_ ?_
      rotate_left
      · intro w'
        go_simp
        with_reducible rfl
      rotate_left
      · simp only [Act.put, List.setIfInBounds_toArray, List.set_cons_zero, List.set_cons_succ, i64_w, i32_w]
        rfl
      refine take_ (i := 4) (N := some 81) (v := ?_) (a' := ?_) #[true, true, true, true, true, false, true, false, false, false, false, false, false, false, false, false, false] rfl rfl (by kernel_rfl) (fun _ _ _ h => h) (Or.inl ⟨by rfl, ?_⟩) hHeld ?_ ?_
      rotate_left
      · rintro w' ⟨s0, s1, s2, s3⟩
        go_simp
        with_reducible rfl
      rotate_left
      · simp only [Act.put, List.setIfInBounds_toArray, List.set_cons_zero, List.set_cons_succ, i64_w, i32_w]
        rfl
      refine take_ (i := 5) (N := some 82) (v := ?_) (a' := ?_) #[true, true, true, true, true, true, true, false, false, false, false, false, false, false, false, false, false] rfl rfl (by kernel_rfl) (fun _ _ _ h => h) (Or.inl ⟨by rfl, ?_⟩) hHeld ?_ ?_
      rotate_left
      · rintro w' ⟨s0, s1, s2, s3⟩
        go_simp
        with_reducible rfl
      rotate_left
      · simp only [Act.put, List.setIfInBounds_toArray, List.set_cons_zero, List.set_cons_succ, i64_w, i32_w]
        rfl
      refine take_ (i := 7) (N := some 84) (v := ?_) (a' := ?_) #[true, true, true, true, true, true, true, true, false, false, false, false, false, false, false, false, false] rfl rfl (by kernel_rfl) (fun _ _ _ h => h) (Or.inl ⟨by rfl, ?_⟩) hHeld ?_ ?_
      rotate_left
      · rintro w' ⟨s0, s1, s2, s3⟩
        go_simp
        with_reducible rfl
      rotate_left
      · simp only [Act.put, List.setIfInBounds_toArray, List.set_cons_zero, List.set_cons_succ, i64_w, i32_w]
        rfl
      refine pure_ (i := 8) (N := some 85) (v := ?_) (a' := ?_) #[true, true, true, true, true, true, true, true, true, false, false, false, false, false, false, false, false] rfl rfl (by kernel_rfl) (fun _ _ _ h => h) (Or.inl ⟨by rfl, ?_⟩) ?_ ?_
      rotate_left
      · intro w'
        go_simp
        with_reducible rfl
      rotate_left
      · simp only [Act.put, List.setIfInBounds_toArray, List.set_cons_zero, List.set_cons_succ, i64_w, i32_w]
        rfl
      refine pure_ (i := 9) (N := some 86) (v := ?_) (a' := ?_) #[true, true, true, true, true, true, true, true, true, true, false, false, false, false, false, false, false] rfl rfl (by kernel_rfl) (fun _ _ _ h => h) (Or.inl ⟨by rfl, ?_⟩) ?_ ?_
      rotate_left
      · intro w'
        go_simp
        with_reducible rfl
      rotate_left
      · simp only [Act.put, List.setIfInBounds_toArray, List.set_cons_zero, List.set_cons_succ, i64_w, i32_w]
        rfl
      refine take_ (i := 10) (N := some 87) (v := ?_) (a' := ?_) #[true, true, true, true, true, true, true, true, true, true, true, false, false, false, false, false, false] rfl rfl (by kernel_rfl) (fun _ _ _ h => h) (Or.inl ⟨by rfl, ?_⟩) hHeld ?_ ?_
      rotate_left
      · rintro w' ⟨s0, s1, s2, s3⟩
        go_simp
        with_reducible rfl
      rotate_left
      · simp only [Act.put, List.setIfInBounds_toArray, List.set_cons_zero, List.set_cons_succ, i64_w, i32_w]
        rfl
      refine pure_ (i := 11) (N := some 88) (v := ?_) (a' := ?_) #[true, true, true, true, true, true, true, true, true, true, true, true, false, false, false, false, false] rfl rfl (by kernel_rfl) (fun _ _ _ h => h) (Or.inl ⟨by rfl, ?_⟩) ?_ ?_
      rotate_left
      · intro w'
        go_simp
        with_reducible rfl
      rotate_left
      · simp only [Act.put, List.setIfInBounds_toArray, List.set_cons_zero, List.set_cons_succ, i64_w, i32_w]
        rfl
      refine one_ (i := 12) (N := some 89) #[true, true, true, true, true, true, true, true, true, true, true, true, true, false, false, false, false] rfl rfl (by kernel_rfl) (by decide) (fun K hK => ?_)
      refine value_ (w1 := ?_) (v := ?_) (by rfl) rfl ?_ ?_
      rotate_left 2
      · go_simp
        constructor
        · rfl
        · rfl
      refine hK.out _ _ ⟨(cell_al c0 _), (cell_al c1 _), (cell_al c2 _), (cell_al c3 _)⟩ (fun hHeld => ?_)
      clear hK K
      refine norm_ (a' := ?_) ?_ ?_
      rotate_left
      · show Act.put _ (some 89) _ = _
        simp only [Act.put, List.setIfInBounds_toArray, List.set_cons_zero, List.set_cons_succ, i64_w, i32_w]
        rfl
      refine one_ (i := 13) (N := some 90) #[true, true, true, true, true, true, true, true, true, true, true, true, true, true, false, false, false] rfl rfl (by kernel_rfl) (by decide) (fun K hK => ?_)
      refine step_append_lies _ (by rfl) _ _ _ (by rfl) base 48 i0 _ 4 32 Tryd.underlying38 hi0 hz0 hz1 hz2 rfl (by omega) _ _ _ (by rfl) ((HI.out.row.alloc _).drew) ⟨wr.heap.size, 0, none⟩ 1 1 [.int .i64 i, .int .i64 0, .int .i64 (-1), .int .i64 off] (by rfl) (by rfl) (World.news_of_block (cs := #[.int .i64 i, .int .i64 0, .int .i64 (-1), .int .i64 off]) (t := 48) (fr := (0, 0)) (heap_alloc_new wr _)) (by simp [Value.oneCell']) (by omega) (by simp [maxLen]; omega) (by omega) (by simp; omega) (wr.heap.size + 1) (by simp) ?_
      intro gg cap w1 hown1 hgrow hat hlt
      have hw0 : w1.cell? ⟨H, 0, none⟩ = some lv := ((hgrow.cell_far _ (by simp; omega) (Ne.symm hneH)).trans (cell_al c2 _))
      have hwf : w1.frozen? ⟨H, 0, none⟩ = false := (hgrow.frozen_far _ (by simp; omega) (Ne.symm hneH)).trans ((frz_al hHl _ _).trans hfz)
      have hw1 : w1.cell? ⟨H, 2, none⟩ = some (.int .i64 off) := ((hgrow.cell_far _ (by simp; omega) (Ne.symm hneH)).trans (cell_al c3 _))
      have hwf1 : w1.frozen? ⟨H, 2, none⟩ = false := (hgrow.frozen_far _ (by simp; omega) (Ne.symm hneH)).trans ((frz_al hHl _ _).trans hfz1)
      have hwb : w1.cell? ⟨B, 0, none⟩ = some (.pointer (some ⟨H, 0, none⟩)) := ((hgrow.cell_far _ (by simp; omega) (Ne.symm hneB)).trans (cell_al c0 _))
      refine hK.out _ _ ⟨hwb, ((hgrow.cell_far _ (by simp; omega) (Ne.symm hneB1)).trans (cell_al c1 _)), hw0, hw1⟩ (fun hHeld => ?_)
      clear hK K
      refine norm_ (a' := ?_) ?_ ?_
      rotate_left
      · show Act.put _ (some 90) _ = _
        simp only [Act.put, List.setIfInBounds_toArray, List.set_cons_zero, List.set_cons_succ, i64_w, i32_w]
        rfl
      refine pure_ (i := 14) (N := some 91) (v := ?_) (a' := ?_) #[true, true, true, true, true, true, true, true, true, true, true, true, true, true, true, false, false] rfl rfl (by kernel_rfl) (fun _ _ _ h => h) (Or.inl ⟨by rfl, ?_⟩) ?_ ?_
      rotate_left
      · intro w'
        go_simp
        with_reducible rfl
      rotate_left
      · simp only [Act.put, List.setIfInBounds_toArray, List.set_cons_zero, List.set_cons_succ, i64_w, i32_w]
        rfl
      refine pure_ (i := 15) (N := some 92) (v := ?_) (a' := ?_) #[true, true, true, true, true, true, true, true, true, true, true, true, true, true, true, true, false] rfl rfl (by kernel_rfl) (fun _ _ _ h => h) (Or.inl ⟨by rfl, ?_⟩) ?_ ?_
      rotate_left
      · intro w'
        go_simp
        with_reducible rfl
      rotate_left
      · simp only [Act.put, List.setIfInBounds_toArray, List.set_cons_zero, List.set_cons_succ, i64_w, i32_w]
        rfl
      refine last_ (i := 16) (N := none) #[true, true, true, true, true, true, true, true, true, true, true, true, true, true, true, true, true] rfl rfl (by kernel_rfl) (by decide) (fun K hK => ?_)
      refine skip_ (w1 := ?_) (by rfl) rfl ?_ ?_
      rotate_left
      · go_simp
        rfl
      refine hK.out _ _ ?_
      clear hK K
      refine done_ (by kernel_rfl) ?_

      have hkX := HSt.of_append HI.out hH hown1 hgrow 2 (.inr rfl) (off + 8) 6 (off + 8) rfl
      have hBH : B ≠ H := fun e => by have h1 := HI.out.p; have h2 := HI.out.h; subst e; rw [show wr.heap[B]? = _ from h1] at h2; cases h2
      obtain ⟨X, hX⟩ : ∃ X, w1.setCell ⟨H, 0, none⟩ (.slice (some ⟨gg, 0, none⟩) (k + 1) cap) = X := ⟨_, rfl⟩
      have hw1' : w1.heap[H]? = _ := (hgrow.block H (by simp; omega) (Ne.symm hneH)).trans (blk_al HI.out.h _)
      have hXH : X.heap[H]? = some (.cells #[.slice (some ⟨gg, 0, none⟩) (k + 1) cap, .int .i64 6, .int .i64 off, .slice (some ⟨A, 0, none⟩) n c] 70 (0, 0)) := by rw [← hX]; exact blk_put hw1' 0 _ rfl
      have x0 : X.cell? ⟨B, 0, none⟩ = some (.pointer (some ⟨H, 0, none⟩)) := by
        rw [← hX]; exact (World.cell?_setCell_other w1 ⟨H, 0, none⟩ ⟨B, 0, none⟩ _ (fun e => hBH (congrArg Addr.block e).symm)).trans hwb
      have x1 : X.cell? ⟨H, 2, none⟩ = some (.int .i64 off) := blk_cell hXH 2
      have x2 : X.frozen? ⟨H, 2, none⟩ = false := by simp [World.frozen?, hXH]
      rw [hX] at hkX ⊢
      have HK := Lib.hid hkX
      clear hkX hX hXH hw1' hwb hw0 hw1 hwf hwf1 hown1 hgrow c0 c1 c2 c3 hfz hfz1 hi0 hz0 hz1 hz2
      go_wp2
      go_roundw
      case rel => exact .inr ⟨rfl, HK.out.2⟩
      case measure => simp [intOf]
    · have HI := Lib.hid hI'
      clear hI' hS6
      go_wp2
      refine bodyPost_end (results_none rfl _ _ _) rfl ?_
      exact ⟨⟨_, rfl⟩, HI.out.h, HI.out.b⟩
end Go.Proofs.YthfpdlfpbbhjhaaDoor.Mc
namespace Go.Proofs.YthfpdlfpbbhjhaaDoor.Mc
open Go.RowKit Go.Proofs.YthfpdlfpbbhjhaaDoor.PA Go.Proofs.YthfpdlfpbbhjhaaDoorW.PrintWords Go.Proofs.YthfpdlfpbbhjhaaDoorW.PrintLast Go.Proofs.YthfpdlfpbbhjhaaDoorW.PrintMore
set_option linter.unusedVariables false
set_option linter.unusedSimpArgs false
def regAt (k : Nat) : Int := if k < 6 then k else 6
def offAt (k : Nat) : Int := if k < 6 then 0 else 8 * ((k : Int) - 6)
def locOf (k : Nat) : List Value := [.int .i64 k, .int .i64 0, .int .i64 (if k < 6 then (k : Int) else -1), .int .i64 (offAt k)]
def locs : Nat → List Value
  | 0 => []
  | k + 1 => locs k ++ locOf k
theorem LongsAt.below {B : Nat} {w w' : World} {A n : Nat} (h : LongsAt w A n) (hb : Below B w w') (hA : A < B) : LongsAt w' A n := fun j hj => by
  obtain ⟨a0, a1, a2, a3, a4, a5, a6⟩ := h j hj
  exact ⟨(hb.cell (p := ⟨A, j * 7, none⟩) hA).trans a0, (hb.cell (p := ⟨A, j * 7 + 1, none⟩) hA).trans a1, (hb.cell (p := ⟨A, j * 7 + 2, none⟩) hA).trans a2, (hb.cell (p := ⟨A, j * 7 + 3, none⟩) hA).trans a3, (hb.cell (p := ⟨A, j * 7 + 4, none⟩) hA).trans a4, (hb.cell (p := ⟨A, j * 7 + 5, none⟩) hA).trans a5, (hb.cell (p := ⟨A, j * 7 + 6, none⟩) hA).trans a6⟩
theorem over_any (base H A n c k : Nat) (hk : k < n) (hn : n ≤ 8) (hc : n ≤ c) (w0 w : World) (hA : LongsAt w A n) (hH : base ≤ H) (hs : HSt w0 w base H (regAt k) (offAt k) (.slice (some ⟨A, 0, none⟩) n c) k (locs k)) :
    Calls Tryd.prog 17 #[.pointer (some ⟨H, 0, none⟩), .int .i64 k] w fun e w' => (∃ v, e = .returned v) ∧ HSt w0 w' base H (regAt (k + 1)) (offAt (k + 1)) (.slice (some ⟨A, 0, none⟩) n c) (k + 1) (locs (k + 1)) := by
  obtain ⟨⟨lv, h1, h2⟩, h3, h4⟩ := hs
  by_cases h6 : k < 6
  · refine (over_reg base H A n c k hk hn hc w hA lv k (locs k) (regAt k) (offAt k) (by unfold regAt; split <;> omega) (by unfold regAt; rw [if_pos h6]; omega) (by omega) h4 hH h1 h2).mono ?_
    rintro e w' ⟨hv, hh, hb⟩
    refine ⟨hv, ⟨?_, h3.trans hb, Nat.le_trans h4 hb.size⟩⟩
    have e1 : regAt (k + 1) = regAt k + 1 := by unfold regAt; rw [if_pos h6]; split <;> omega
    have e2 : offAt (k + 1) = offAt k := by unfold offAt; rw [if_pos h6]; split <;> omega
    have e3 : locs (k + 1) = locs k ++ [.int .i64 k, .int .i64 0, .int .i64 (regAt k), .int .i64 0] := by
      show locs k ++ locOf k = _
      simp only [locOf, regAt, offAt, if_pos h6]
    rw [e1, e2, e3]; exact hh
  · have e0 : regAt k = 6 := by unfold regAt; rw [if_neg h6]
    rw [e0] at h1
    have hu : class_up.f (offAt k) 8 = some (offAt k) := by
      rcases (show k = 6 ∨ k = 7 by omega) with rfl | rfl <;> decide +kernel
    refine (over_stk base H A n c k hk hn hc w hA lv k (locs k) (offAt k) (by unfold offAt; rw [if_neg h6]; omega) (by unfold offAt; rw [if_neg h6]; omega) hu (by omega) h4 hH h1 h2).mono ?_
    rintro e w' ⟨hv, hh, hb⟩
    refine ⟨hv, ⟨?_, h3.trans hb, Nat.le_trans h4 hb.size⟩⟩
    have e1 : regAt (k + 1) = 6 := by unfold regAt; rw [if_neg (by omega)]
    have e2 : offAt (k + 1) = offAt k + 8 := by unfold offAt; rw [if_neg h6, if_neg (by omega)]; omega
    have e3 : locs (k + 1) = locs k ++ [.int .i64 k, .int .i64 0, .int .i64 (-1), .int .i64 (offAt k)] := by
      show locs k ++ locOf k = _
      unfold locOf
      rw [if_neg h6]
    rw [e1, e2, e3]; exact hh
theorem HSt.below {w0 W W' : World} {base H : Nat} {reg off : Int} {av : Value} {k : Nat} {cs : List Value} (h : HSt w0 W base H reg off av k cs) (hb : Below W.heap.size W W') : HSt w0 W' base H reg off av k cs := by
  obtain ⟨⟨lv, h1, h2⟩, h3, h4⟩ := h
  exact ⟨⟨lv, (hb.block _ (blk_lt h1)).trans h1, row_below h2 hb⟩, h3.trans (hb.mono h4), Nat.le_trans h4 hb.size⟩
theorem up_off (k : Nat) (hk : k ≤ 8) : ∃ r, class_up.f (offAt k) 16 = some r := by
  unfold class_up.f
  rw [if_neg (by decide)]
  exact ⟨_, rfl⟩
theorem up_c (a b r : Int) (w : World) (h : class_up.f a b = some r) : Calls Tryd.prog 18 #[.int .i64 a, .int .i64 b] w fun e w' => e = .returned (.int .i64 r) ∧ ∃ n, w' = w.drewN n :=
  (class_up.calls a b r w h).mono fun e w' h => by obtain ⟨h, ⟨n, h2⟩⟩ := h; exact ⟨h, n, h2⟩
def PassPost (w : World) (n : Nat) (e : Ending) (w' : World) : Prop := ∃ v o, e = .returned (.tuple #[v, .int .i64 o, .int .i64 0]) ∧ w'.ownsRow w.heap.size 48 4 v n (locs n) ∧ Below w.heap.size w w'
set_option maxRecDepth 100000 in
set_option maxHeartbeats 8000000 in
theorem pass_c (A n c : Nat) (hn : n ≤ 8) (hn1 : 1 ≤ n) (hc : n ≤ c) (w : World) (hA : LongsAt w A n) :
    Calls Tryd.prog 7 #[.slice (some ⟨A, 0, none⟩) n c, .agg #[.int .i64 1, .int .i64 7, .int .i64 0, .slice none 0 0, .slice none 0 0, .bool false, .int .i64 0]] w (PassPost w n) := by
  have hAl : A < w.heap.size := World.block_lt_of_cell? w _ (hA 0 (by omega)).1
  obtain ⟨W0, hW0⟩ : ∃ W0, w.alloc (.cells #[.int .i64 1, .int .i64 7, .int .i64 0, .slice none 0 0, .slice none 0 0, .bool false, .int .i64 0] 45) = W0 := ⟨_, rfl⟩
  have hB0 : Below w.heap.size w W0 := by rw [← hW0]; exact below_alloc (Below.refl _ _) _
  have hz : W0.heap[w.heap.size]? = some (.cells #[.int .i64 1, .int .i64 7, .int .i64 0, .slice none 0 0, .slice none 0 0, .bool false, .int .i64 0] 45 (0, 0)) := by rw [← hW0]; exact blk_new w _
  have HZ := Lib.hid (And.intro hB0 (And.intro hz hA))
  clear hB0 hz hA
  go_enter Tryd.func7, Tryd.ntmps7
  go_wp2
  go_loopw [20] (fun i W => ∃ k : Nat, k ≤ n ∧ i = .int .i64 k ∧ Below W0.heap.size W0 W) (fun i _ => n - (intOf i).toNat)
  case atStart => exact ⟨0, Nat.zero_le _, rfl, Below.refl _ _⟩
  case round =>
    clear hW0
    obtain ⟨k, hk, rfl, hB⟩ := hrel
    have hBs := hB.size
    have hBs0 := HZ.out.1.size
    have HB := Lib.hid hB
    clear hB
    by_cases hlt : k < n
    · have hA' := (HZ.out.2.2.below HZ.out.1 hAl).below HB.out (Nat.lt_of_lt_of_le hAl hBs0)
      obtain ⟨a0, a1, a2, a3, a4, a5, a6⟩ := hA' k hlt
      have y := blk_new wr (.cells #[.int .i64 1, .int .i64 7, .int .i64 0, .slice none 0 0, .slice none 0 0, .bool false, .int .i64 0] 45)
      have e0 := blk_cell y 0
      have e1 := blk_cell y 1
      have e2 := blk_cell y 2
      have e3 := blk_cell y 3
      have e4 := blk_cell y 4
      have e5 := blk_cell y 5
      have e6 := blk_cell y 6
      clear y hA'
      go_wp2_with (go_at_call 15; refine (Classes_c _).mono ?_; rintro e w2 ⟨b, rfl, hbl, hbb, hb2⟩; have HB2 := Lib.hid (HB.out.trans (((Below.refl W0.heap.size wr).alloc hBs (.cells #[.int .i64 1, .int .i64 7, .int .i64 0, .slice none 0 0, .slice none 0 0, .bool false, .int .i64 0] 45)).trans (hb2.mono (by simp; omega)))); clear a0 a1 a2 a3 a4 a5 a6 e0 e1 e2 e3 e4 e5 e6 hbl hbb hb2)
      go_roundw
      case rel => exact ⟨k + 1, by omega, by go_num, HB2.out⟩
      case measure => simp [intOf]; omega
    · have hz := (HB.out.block _ (blk_lt HZ.out.2.1)).trans HZ.out.2.1
      have hwl : w.heap.size < wr.heap.size := blk_lt hz
      have hA1 := (HZ.out.2.2.below HZ.out.1 hAl).below HB.out (Nat.lt_of_lt_of_le hAl hBs0)
      have hBw : Below w.heap.size w wr := HZ.out.1.trans (HB.out.mono hBs0)
      obtain ⟨W1, hW1⟩ : ∃ W1, wr.alloc (.cells #[.slice none 0 0, .int .i64 0, .int .i64 0, .slice (some ⟨A, 0, none⟩) n c] 70) = W1 := ⟨_, rfl⟩
      have hb1 : Below wr.heap.size wr W1 := by rw [← hW1]; exact below_alloc (Below.refl _ _) _
      have hs0 : HSt w W1 w.heap.size wr.heap.size (regAt 0) (offAt 0) (.slice (some ⟨A, 0, none⟩) n c) 0 (locs 0) := ⟨⟨.slice none 0 0, by rw [← hW1]; exact blk_new wr _, World.ownsRow_nil _ _ _ _⟩, hBw.trans (hb1.mono (by omega)), by have := hb1.size; omega⟩
      have hz1 := (hb1.block _ (blk_lt hz)).trans hz
      have hA2 := hA1.below hb1 (Nat.lt_of_lt_of_le hAl (by omega))
      obtain ⟨H, hH⟩ : ∃ H, wr.heap.size = H := ⟨_, rfl⟩
      have hwH : w.heap.size ≤ H := by omega
      have e0 := blk_cell hz1 0
      have e1 := blk_cell hz1 1
      have e2 := blk_cell hz1 2
      have e3 := blk_cell hz1 3
      have e4 := blk_cell hz1 4
      have e5 := blk_cell hz1 5
      have e6 := blk_cell hz1 6
      rw [hH] at hs0
      have HS := Lib.hid (And.intro hs0 (And.intro hz1 hA2))
      clear hs0 hz1 hA2 hz hA1 hBw hb1
      go_wp2_with (first
        | (go_at_call 16; refine (same_c _).mono ?_; rintro e w2 ⟨rfl, hb2⟩; have HS2 := Lib.hid (And.intro (HS.out.1.below hb2) (And.intro ((hb2.block _ (blk_lt HS.out.2.1)).trans HS.out.2.1) True.intro)); clear e0 e1 e2 e3 e4 e5 e6 hb2; have e0 := blk_cell HS2.out.2.1 0; have e1 := blk_cell HS2.out.2.1 1; have e2 := blk_cell HS2.out.2.1 2; have e3 := blk_cell HS2.out.2.1 3; have e4 := blk_cell HS2.out.2.1 4; have e5 := blk_cell HS2.out.2.1 5; have e6 := blk_cell HS2.out.2.1 6)
        | (go_at_call 15; refine (Classes_c _).mono ?_; rintro e w3 ⟨b, rfl, hbl, hbb, hb2⟩; have HS3 := Lib.hid (HS2.out.1.below hb2); clear e0 e1 e2 e3 e4 e5 e6 hb2 hbl; have e0 := blk_cell hbb 0; clear hbb))
      have hs3 := HS3.out
      clear HS HS2 HS3 e0 hW1
      go_loopw [67] (fun i W => ∃ k : Nat, k ≤ n ∧ i = .int .i64 k ∧ HSt w W w.heap.size H (regAt k) (offAt k) (.slice (some ⟨A, 0, none⟩) n c) k (locs k)) (fun i _ => n - (intOf i).toNat)
      case atStart => exact ⟨0, Nat.zero_le _, rfl, hs3⟩
      case round =>
        clear hs3
        obtain ⟨j, hj, rfl, hs⟩ := hrel
        have hAj := HZ.out.2.2.below hs.b hAl
        have HSJ := Lib.hid (And.intro hs hAj)
        by_cases hlt2 : j < n
        · clear hs hAj
          go_wp2_with (go_at_call 17; refine (over_any w.heap.size H A n c j hlt2 hn hc w _ HSJ.out.2 hwH HSJ.out.1).mono ?_; rintro e w4 ⟨⟨v, rfl⟩, hs'⟩; have HS4 := Lib.hid hs'; clear hs')
          go_roundw
          case rel => exact ⟨j + 1, by omega, by go_num, HS4.out⟩
          case measure => simp [intOf]; omega
        · obtain rfl : j = n := by omega
          obtain ⟨⟨lv, h1, h2⟩, h3, h4⟩ := hs
          have c0 : World.cell? _ ⟨H, 0, none⟩ = some lv := blk_cell h1 0
          have c2 : World.cell? _ ⟨H, 2, none⟩ = some (.int .i64 (offAt j)) := blk_cell h1 2
          have HE := Lib.hid (And.intro h2 h3)
          obtain ⟨r, hr⟩ := up_off j hn
          have HR := Lib.hid hr
          clear hr h1 h2 h3 h4 hAj
          go_wp2
          go_quiet ((go_at_call 18; exact Calls.quiet_of (up_c _ 16 r _ HR.out)))
          go_wp2
          refine bodyPost_ret (results_tmp3 rfl _ _ _) rfl ?_
          exact ⟨lv, r, rfl, HE.out.1, pw_below_drewN HE.out.2 _⟩
end Go.Proofs.YthfpdlfpbbhjhaaDoor.Mc
namespace Go.Proofs.YthfpdlfpbbhjhaaDoor.Mc
open Go.RowKit Go.Proofs.YthfpdlfpbbhjhaaDoor.PA Go.Proofs.YthfpdlfpbbhjhaaDoorW.PrintWords Go.Proofs.YthfpdlfpbbhjhaaDoorW.PrintLast Go.Proofs.YthfpdlfpbbhjhaaDoorW.PrintMore
set_option linter.unusedVariables false
set_option linter.unusedSimpArgs false
def LL : List Value := [.int .i64 1, .int .i64 7, .int .i64 0, .slice none 0 0, .slice none 0 0, .bool false, .int .i64 0]
def longsL : Nat → List Value
  | 0 => []
  | k + 1 => longsL k ++ LL
theorem longsL_len : ∀ n, (longsL n).length = n * 7
  | 0 => rfl
  | n + 1 => by rw [longsL, List.length_append, longsL_len n, show LL.length = 7 from rfl]; omega
theorem longsL_get : ∀ (n i j : Nat), i < n → j < 7 → (longsL n)[i * 7 + j]? = LL[j]?
  | 0, _, _, h, _ => absurd h (Nat.not_lt_zero _)
  | n + 1, i, j, h, hj => by
    rw [longsL]
    by_cases hi : i < n
    · rw [List.getElem?_append_left (by rw [longsL_len]; omega)]; exact longsL_get n i j hi hj
    · obtain rfl : i = n := by omega
      rw [List.getElem?_append_right (by rw [longsL_len]; omega), longsL_len, Nat.add_sub_cancel_left]
theorem inf45 : ∃ i, Tryd.prog.info? 45 = some i ∧ i.zero = some (.agg #[.int .i64 0, .int .i64 0, .int .i64 0, .slice none 0 0, .slice none 0 0, .bool false, .int .i64 0]) ∧ i.size = 7 ∧ i.bytes = 88 := inf_of (by kernel_rfl)
theorem LongsAt.of_owns {w : World} {base g n cap : Nat} (h : w.ownsRow base 45 7 (.slice (some ⟨g, 0, none⟩) n cap) n (longsL n)) : LongsAt w g n := fun i hi => by
  have k := fun j (hj : j < 7) => (h.cellAt (i * 7 + j) (by omega)).trans (longsL_get n i j hi hj)
  exact ⟨k 0 (by omega), k 1 (by omega), k 2 (by omega), k 3 (by omega), k 4 (by omega), k 5 (by omega), k 6 (by omega)⟩
theorem row_form {w : World} {base e size n : Nat} {v : Value} {xs : List Value} (h : w.ownsRow base e size v n xs) (hn : 1 ≤ n) : ∃ g cap, v = .slice (some ⟨g, 0, none⟩) n cap ∧ n ≤ cap ∧ base ≤ g := by
  rcases h.2 with ⟨_, h0⟩ | ⟨g, cap, cur, hv, hb, hg, hnc, hm, _⟩
  · omega
  · exact ⟨g, cap, hv, hnc, hb⟩
def LongsPost (w : World) (n : Nat) (e : Ending) (w' : World) : Prop := ∃ v, e = .returned v ∧ w'.ownsRow w.heap.size 45 7 v n (longsL n) ∧ Below w.heap.size w w'
set_option maxRecDepth 100000 in
set_option maxHeartbeats 4000000 in
theorem longs_c (n : Nat) (hn : n ≤ 8) (w : World) : Calls Tryd.prog 8 #[.int .i64 n] w (LongsPost w n) := by
  obtain ⟨i0, hi0, hz0, hz1, hz2⟩ := inf45
  have HI := Lib.hid (And.intro hi0 (And.intro hz0 (And.intro hz1 hz2)))
  clear hi0 hz0 hz1 hz2
  go_enter Tryd.func8, Tryd.ntmps8
  go_wp2
  go_loopw [4, 3] (fun i v W => ∃ k : Nat, k ≤ n ∧ i = .int .i64 k ∧ W.ownsRow w.heap.size 45 7 v k (longsL k) ∧ Below w.heap.size w W) (fun i _ _ => n - (intOf i).toNat)
  case atStart => exact ⟨0, Nat.zero_le _, rfl, World.ownsRow_nil _ _ _ _, Below.refl _ _⟩
  case round =>
    obtain ⟨k, hk, rfl, hr, hB⟩ := hrel
    have HH := Lib.hid (And.intro hr hB)
    have hBs := hB.size
    clear hr hB
    by_cases hlt : k < n
    · have q1 : ∀ u ∈ LL, u.oneCell' = true := by simp [Value.oneCell', LL]
      have q2 : k + 1 ≤ maxLen := by unfold maxLen; omega
      have q3 : (k + 1) * 88 ≤ 140737488355328 := by omega
      have q4 : w.heap.size ≤ (wr.alloc (.cells #[.int .i64 1, .int .i64 7, .int .i64 0, .slice none 0 0, .slice none 0 0, .bool false, .int .i64 0] 45)).heap.size := by simp; omega
      have Q := Lib.hid (And.intro q1 (And.intro q2 (And.intro q3 q4)))
      clear q1 q2 q3 q4
      go_wp2_with (at_builtin; (refine wpList_append_own _ rfl _ _ 41 rfl w.heap.size 45 i0 (.agg #[.int .i64 0, .int .i64 0, .int .i64 0, .slice none 0 0, .slice none 0 0, .bool false, .int .i64 0]) 7 88 Tryd.underlying41 HI.out.1 HI.out.2.1 HI.out.2.2.1 HI.out.2.2.2 rfl (by decide) _ _ _ rfl (HH.out.1.alloc _) ⟨wr.heap.size, 0, none⟩ 1 1 LL rfl rfl (World.news_of_block (cs := #[.int .i64 1, .int .i64 7, .int .i64 0, .slice none 0 0, .slice none 0 0, .bool false, .int .i64 0]) (t := 45) (fr := (0, 0)) (heap_alloc_new wr _)) Q.out.1 Q.out.2.1 Q.out.2.2.1 Q.out.2.2.2 ?_; intro v' w1 hown' hgrow _; have hb1 : Below w.heap.size w w1 := HH.out.2.trans (((Below.refl w.heap.size wr).alloc hBs (.cells #[.int .i64 1, .int .i64 7, .int .i64 0, .slice none 0 0, .slice none 0 0, .bool false, .int .i64 0] 45)).grown hgrow Q.out.2.2.2 (fun r e => (row_cells HH.out.1 r e).1)); have HN := Lib.hid (And.intro hown' hb1); clear hb1; clear hown' hgrow))
      go_roundw
      case rel => exact ⟨k + 1, by omega, by go_num, HN.out.1, HN.out.2⟩
      case measure => simp [intOf]; omega
    · obtain rfl : k = n := by omega
      go_wp2
      go_ret
      exact ⟨_, rfl, HH.out.1, HH.out.2⟩
end Go.Proofs.YthfpdlfpbbhjhaaDoor.Mc
