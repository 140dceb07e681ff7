import Derived.Test.YthfpdlfpbbhjhaaDoorMG4
import Derived.Scope
namespace Go.Proofs.YthfpdlfpbbhjhaaDoor.Mc
open Go.RowKit Go.Proofs.YthfpdlfpbbhjhaaDoor.PA Go.Proofs.YthfpdlfpbbhjhaaDoor.Pure Go.Proofs.MapFun Go.Proofs.YthfpdlfpbbhjhaaDoorW.PrintWords Go.Proofs.YthfpdlfpbbhjhaaDoorW.PrintLast Go.Proofs.YthfpdlfpbbhjhaaDoorW.PrintMore
set_option linter.unusedVariables false
set_option linter.unusedSimpArgs false
def St.stp (L : Int) (s : St) (x : S50) : Bool × St :=
  let t := St.flagged { s with pc := s.pc + 1 } x.f0
  if x.f0 = 11 then (false, { t with fl := some (t.reg x.f1.toNat, t.reg x.f2.toNat) })
  else if x.f0 = 12 then (false, if ((t.setR x.f1.toNat 0).holds x.f6).1 then ((t.setR x.f1.toNat 0).holds x.f6).2.setR x.f1.toNat 1 else ((t.setR x.f1.toNat 0).holds x.f6).2)
  else if x.f0 = 9 then (false, t.divides x.f2.toNat x.f5)
  else if x.f0 = 17 then t.returns L
  else (false, t.reckons x)
def regB (x : S50) : Prop := 0 ≤ x.f1 ∧ x.f1 < 16 ∧ 0 ≤ x.f2 ∧ x.f2 < 16
def cells35 (y : S50) : Array Value := #[.int .i64 y.f0, .int .i64 y.f1, .int .i64 y.f2, .int .i64 y.f3, .int .i64 y.f4, .bool y.f5, .int .i64 y.f6, .string y.f7]
structure XAt (w : World) (X : Nat) (y : S50) : Prop where
  c : w.heap[X]? = some (.cells (cells35 y) 50 (0, 0))
theorem XAt.f {w : World} {X : Nat} {y : S50} (h : XAt w X y) (i : Nat) {v : Value} (hv : (cells35 y)[i]? = some v) : w.cell? ⟨X, i, none⟩ = some v := cell_at h.c i hv
theorem XAt.fr {Z : Ct} {w w' : World} {X : Nat} {y : S50} (h : XAt w X y) (hf : Fr Z w w') (h1 : X ≠ Z.b) (h2 : X ≠ Z.bm) : XAt w' X y := ⟨(hf.block X h1 h2 (Array.getElem?_eq_some_iff.1 h.c).1).trans h.c⟩
theorem St.Wf.pc {s : St} (h : s.Wf) (n : Int) : St.Wf { s with pc := n } := ⟨h.r, h.m, h.f⟩
theorem St.Wf.flagged {s : St} (h : s.Wf) (k : Int) : (s.flagged k).Wf := by
  unfold St.flagged
  split
  · exact h
  · exact ⟨h.r, h.m, fun a b e => by cases e⟩
theorem step_pre (Z : Ct) (O : Z.Ok) (s : St) (w : World) (y : S50) (h : Mac Z w s) :
    Mac Z (((w.setCell ⟨Z.b, 20, none⟩ (.int .i64 (s.pc + 1))).alloc (.cells (cells35 y) 50)).drew) { s with pc := s.pc + 1 } ∧ XAt (((w.setCell ⟨Z.b, 20, none⟩ (.int .i64 (s.pc + 1))).alloc (.cells (cells35 y) 50)).drew) w.heap.size y := by
  have h1 := h.setPc O (s.pc + 1)
  refine ⟨(h1.step O ((Below.refl _ _).alloc (Nat.le_refl _) _)).drew O, ⟨?_⟩⟩
  show ((w.setCell ⟨Z.b, 20, none⟩ (.int .i64 (s.pc + 1))).heap.push (.cells (cells35 y) 50))[w.heap.size]? = _
  have e : w.heap.size = (w.setCell ⟨Z.b, 20, none⟩ (.int .i64 (s.pc + 1))).heap.size := by simp
  rw [e, Array.getElem?_push_size]
theorem Mac.setFl_new {Z : Ct} (O : Z.Ok) {w : World} {s : St} (h : Mac Z w s) (a c : Int) :
    Mac Z (((w.setCell ⟨Z.b, 21, none⟩ (.pointer (some ⟨w.heap.size, 0, none⟩))).alloc (.cells #[.int .i64 a, .int .i64 c] 108)).drew) { s with fl := some (a, c) } := by
  rw [← World.setCell_alloc_past _ _ _ _ h.lt]
  have hb := h.below
  have h1 := h.lt
  have h2 := h.ltm
  obtain ⟨fv, sv, evv, h3⟩ := h.step O ((Below.refl _ _).alloc (Nat.le_refl _) (.cells #[.int .i64 a, .int .i64 c] 108))
  refine Mac.drew O (h3.setFl O (some (a, c)) _ ⟨w.heap.size, rfl, hb.size, by omega, by omega, ?_⟩).mac
  show (w.heap.push (.cells #[.int .i64 a, .int .i64 c] 108))[w.heap.size]? = _
  rw [Array.getElem?_push_size]
set_option maxRecDepth 100000 in
set_option maxHeartbeats 4000000 in
theorem step_cmp (Z : Ct) (O : Z.Ok) (s : St) (w : World) (h : Mac Z w s) (t : St) (htw : t.Wf) (h0 : 0 ≤ s.pc) (hp : s.pc < Z.l.length) (k : Int) (i j : Nat) (n wd : Int) (sg : Bool) (op : Int) (nm : ByteArray) (hy : Z.l.getD s.pc.toNat z50 = ⟨k, i, j, n, wd, sg, op, nm⟩) (hi : i < 16) (hj : j < 16) (ht : St.flagged { s with pc := s.pc + 1 } k = t) (hk : k = 11) :
    Calls Tryd.prog 26 #[.pointer (some ⟨Z.b, 0, none⟩)] w fun e w' => (e = .returned (.bool false)) ∧ Mac Z w' { t with fl := some (t.reg i, t.reg j) } := by
  subst hk
  have HP := Lib.hid (step_pre Z O s w ⟨11, i, j, n, wd, sg, op, nm⟩ h)
  have hB := h.below
  have hl := O.l.2.1
  have hlc := O.lc
  have cL := h.cL
  have cP := h.cP
  have fP := h.fz 20
  obtain ⟨ad, hA, x0, x1, x2, x3, x4, x5, x6, x7⟩ := at_T50 O.l s.pc h0 hp
  rw [hA] at cL
  have kx : ∀ {p : Addr} {v : Value}, Z.w0.cell? p = some v → w.cell? p = some v := fun {p v} h => (hB.cell (World.block_lt_of_cell? Z.w0 _ h)).trans h
  have hrd : rd_T50 Z.l s.pc = Z.l.getD s.pc.toNat z50 := rfl
  rw [hrd, hy] at x0 x1 x2 x3 x4 x5 x6 x7
  have y0 := kx x0
  have z0 := cell_alloc y0 (.cells #[.int .i64 0, .int .i64 0, .int .i64 0, .int .i64 0, .int .i64 0, .bool false, .int .i64 0, .string { data := #[] }] 50)
  have y1 := kx x1
  have z1 := cell_alloc y1 (.cells #[.int .i64 0, .int .i64 0, .int .i64 0, .int .i64 0, .int .i64 0, .bool false, .int .i64 0, .string { data := #[] }] 50)
  have y2 := kx x2
  have z2 := cell_alloc y2 (.cells #[.int .i64 0, .int .i64 0, .int .i64 0, .int .i64 0, .int .i64 0, .bool false, .int .i64 0, .string { data := #[] }] 50)
  have y3 := kx x3
  have z3 := cell_alloc y3 (.cells #[.int .i64 0, .int .i64 0, .int .i64 0, .int .i64 0, .int .i64 0, .bool false, .int .i64 0, .string { data := #[] }] 50)
  have y4 := kx x4
  have z4 := cell_alloc y4 (.cells #[.int .i64 0, .int .i64 0, .int .i64 0, .int .i64 0, .int .i64 0, .bool false, .int .i64 0, .string { data := #[] }] 50)
  have y5 := kx x5
  have z5 := cell_alloc y5 (.cells #[.int .i64 0, .int .i64 0, .int .i64 0, .int .i64 0, .int .i64 0, .bool false, .int .i64 0, .string { data := #[] }] 50)
  have y6 := kx x6
  have z6 := cell_alloc y6 (.cells #[.int .i64 0, .int .i64 0, .int .i64 0, .int .i64 0, .int .i64 0, .bool false, .int .i64 0, .string { data := #[] }] 50)
  have y7 := kx x7
  have z7 := cell_alloc y7 (.cells #[.int .i64 0, .int .i64 0, .int .i64 0, .int .i64 0, .int .i64 0, .bool false, .int .i64 0, .string { data := #[] }] 50)
  have hcl := h.lt
  have hclm := h.ltm
  clear x0 x1 x2 x3 x4 x5 x6 x7 h hy kx hrd hA hB
  go_enter Tryd.func26, Tryd.ntmps26
  go_wp2
  go_region
  clear y0 y1 y2 y3 y4 y5 y6 y7 z0 z1 z2 z3 z4 z5 z6 z7 cL
  go_wp2_with (go_at_call 45; refine (flagged_calls Z O { s with pc := s.pc + 1 } 11 _ HP.out.1).mono ?_; rintro e w1 ⟨⟨u, rfl⟩, hM, hF⟩; have hX := HP.out.2.fr hF (by omega) (by omega); have q0 := hX.f 0 (v := .int .i64 11) rfl; have q1 := hX.f 1 (v := .int .i64 i) rfl; have q2 := hX.f 2 (v := .int .i64 j) rfl; have q3 := hX.f 3 (v := .int .i64 n) rfl; have q4 := hX.f 4 (v := .int .i64 wd) rfl; have q5 := hX.f 5 (v := .bool sg) rfl; have q6 := hX.f 6 (v := .int .i64 op) rfl; have q7 := hX.f 7 (v := .string nm) rfl; have hbw := hM.lt; have hbm := hM.ltm; have hxw := (Array.getElem?_eq_some_iff.1 hX.c).1; have HX := Lib.hid hX; (rw [ht] at hM); clear hF hX; have HM := Lib.hid (hM.setFl_new O (t.reg i) (t.reg j)); obtain ⟨fv, sv, evv, hM⟩ := hM; have r1 := hM.reg i hi; have r2 := hM.reg j hj; have c21 := hM.cF; have f21 := hM.fz 21; clear hM)
  go_region
  go_wp2
  go_ret
  exact ⟨rfl, HM.out⟩
set_option maxRecDepth 100000 in
set_option maxHeartbeats 4000000 in
theorem step_div (Z : Ct) (O : Z.Ok) (s : St) (w : World) (h : Mac Z w s) (t : St) (htw : t.Wf) (h0 : 0 ≤ s.pc) (hp : s.pc < Z.l.length) (k : Int) (i j : Nat) (n wd : Int) (sg : Bool) (op : Int) (nm : ByteArray) (hy : Z.l.getD s.pc.toNat z50 = ⟨k, i, j, n, wd, sg, op, nm⟩) (hi : i < 16) (hj : j < 16) (ht : St.flagged { s with pc := s.pc + 1 } k = t) (hk : k = 9) :
    Calls Tryd.prog 26 #[.pointer (some ⟨Z.b, 0, none⟩)] w fun e w' => (e = .returned (.bool false)) ∧ Mac Z w' (t.divides j sg) := by
  subst hk
  have HP := Lib.hid (step_pre Z O s w ⟨9, i, j, n, wd, sg, op, nm⟩ h)
  have hB := h.below
  have hl := O.l.2.1
  have hlc := O.lc
  have cL := h.cL
  have cP := h.cP
  have fP := h.fz 20
  obtain ⟨ad, hA, x0, x1, x2, x3, x4, x5, x6, x7⟩ := at_T50 O.l s.pc h0 hp
  rw [hA] at cL
  have kx : ∀ {p : Addr} {v : Value}, Z.w0.cell? p = some v → w.cell? p = some v := fun {p v} h => (hB.cell (World.block_lt_of_cell? Z.w0 _ h)).trans h
  have hrd : rd_T50 Z.l s.pc = Z.l.getD s.pc.toNat z50 := rfl
  rw [hrd, hy] at x0 x1 x2 x3 x4 x5 x6 x7
  have y0 := kx x0
  have z0 := cell_alloc y0 (.cells #[.int .i64 0, .int .i64 0, .int .i64 0, .int .i64 0, .int .i64 0, .bool false, .int .i64 0, .string { data := #[] }] 50)
  have y1 := kx x1
  have z1 := cell_alloc y1 (.cells #[.int .i64 0, .int .i64 0, .int .i64 0, .int .i64 0, .int .i64 0, .bool false, .int .i64 0, .string { data := #[] }] 50)
  have y2 := kx x2
  have z2 := cell_alloc y2 (.cells #[.int .i64 0, .int .i64 0, .int .i64 0, .int .i64 0, .int .i64 0, .bool false, .int .i64 0, .string { data := #[] }] 50)
  have y3 := kx x3
  have z3 := cell_alloc y3 (.cells #[.int .i64 0, .int .i64 0, .int .i64 0, .int .i64 0, .int .i64 0, .bool false, .int .i64 0, .string { data := #[] }] 50)
  have y4 := kx x4
  have z4 := cell_alloc y4 (.cells #[.int .i64 0, .int .i64 0, .int .i64 0, .int .i64 0, .int .i64 0, .bool false, .int .i64 0, .string { data := #[] }] 50)
  have y5 := kx x5
  have z5 := cell_alloc y5 (.cells #[.int .i64 0, .int .i64 0, .int .i64 0, .int .i64 0, .int .i64 0, .bool false, .int .i64 0, .string { data := #[] }] 50)
  have y6 := kx x6
  have z6 := cell_alloc y6 (.cells #[.int .i64 0, .int .i64 0, .int .i64 0, .int .i64 0, .int .i64 0, .bool false, .int .i64 0, .string { data := #[] }] 50)
  have y7 := kx x7
  have z7 := cell_alloc y7 (.cells #[.int .i64 0, .int .i64 0, .int .i64 0, .int .i64 0, .int .i64 0, .bool false, .int .i64 0, .string { data := #[] }] 50)
  have hcl := h.lt
  have hclm := h.ltm
  clear x0 x1 x2 x3 x4 x5 x6 x7 h hy kx hrd hA hB
  go_enter Tryd.func26, Tryd.ntmps26
  go_wp2
  go_region
  clear y0 y1 y2 y3 y4 y5 y6 y7 z0 z1 z2 z3 z4 z5 z6 z7 cL
  go_wp2_with (first
    | (go_at_call 45; refine (flagged_calls Z O { s with pc := s.pc + 1 } 9 _ HP.out.1).mono ?_; rintro e w1 ⟨⟨u, rfl⟩, hM, hF⟩; have hX := HP.out.2.fr hF (by omega) (by omega); have q0 := hX.f 0 (v := .int .i64 9) rfl; have q1 := hX.f 1 (v := .int .i64 i) rfl; have q2 := hX.f 2 (v := .int .i64 j) rfl; have q3 := hX.f 3 (v := .int .i64 n) rfl; have q4 := hX.f 4 (v := .int .i64 wd) rfl; have q5 := hX.f 5 (v := .bool sg) rfl; have q6 := hX.f 6 (v := .int .i64 op) rfl; have q7 := hX.f 7 (v := .string nm) rfl; have hbw := hM.lt; have hbm := hM.ltm; have hxw := (Array.getElem?_eq_some_iff.1 hX.c).1; have HX := Lib.hid hX; (rw [ht] at hM); clear hF hX; have HM := Lib.hid hM; clear hM)
    | (go_at_call 47; refine (divides_calls Z O t ⟨9, i, j, n, wd, sg, op, nm⟩ _ HM.out htw (by simp) (by simp; omega)).mono ?_; rintro e w2 ⟨⟨u2, rfl⟩, hM2⟩; have HM2 := Lib.hid hM2; clear hM2))
  go_ret
  exact ⟨rfl, HM2.out⟩
set_option maxRecDepth 100000 in
set_option maxHeartbeats 4000000 in
theorem step_ret (Z : Ct) (O : Z.Ok) (s : St) (w : World) (h : Mac Z w s) (t : St) (htw : t.Wf) (h0 : 0 ≤ s.pc) (hp : s.pc < Z.l.length) (k : Int) (i j : Nat) (n wd : Int) (sg : Bool) (op : Int) (nm : ByteArray) (hy : Z.l.getD s.pc.toNat z50 = ⟨k, i, j, n, wd, sg, op, nm⟩) (hi : i < 16) (hj : j < 16) (ht : St.flagged { s with pc := s.pc + 1 } k = t) (hk : k = 17) :
    Calls Tryd.prog 26 #[.pointer (some ⟨Z.b, 0, none⟩)] w fun e w' => e = .returned (.bool (t.returns Z.l.length).1) ∧ Mac Z w' (t.returns Z.l.length).2 := by
  subst hk
  have HP := Lib.hid (step_pre Z O s w ⟨17, i, j, n, wd, sg, op, nm⟩ h)
  have hB := h.below
  have hl := O.l.2.1
  have hlc := O.lc
  have cL := h.cL
  have cP := h.cP
  have fP := h.fz 20
  obtain ⟨ad, hA, x0, x1, x2, x3, x4, x5, x6, x7⟩ := at_T50 O.l s.pc h0 hp
  rw [hA] at cL
  have kx : ∀ {p : Addr} {v : Value}, Z.w0.cell? p = some v → w.cell? p = some v := fun {p v} h => (hB.cell (World.block_lt_of_cell? Z.w0 _ h)).trans h
  have hrd : rd_T50 Z.l s.pc = Z.l.getD s.pc.toNat z50 := rfl
  rw [hrd, hy] at x0 x1 x2 x3 x4 x5 x6 x7
  have y0 := kx x0
  have z0 := cell_alloc y0 (.cells #[.int .i64 0, .int .i64 0, .int .i64 0, .int .i64 0, .int .i64 0, .bool false, .int .i64 0, .string { data := #[] }] 50)
  have y1 := kx x1
  have z1 := cell_alloc y1 (.cells #[.int .i64 0, .int .i64 0, .int .i64 0, .int .i64 0, .int .i64 0, .bool false, .int .i64 0, .string { data := #[] }] 50)
  have y2 := kx x2
  have z2 := cell_alloc y2 (.cells #[.int .i64 0, .int .i64 0, .int .i64 0, .int .i64 0, .int .i64 0, .bool false, .int .i64 0, .string { data := #[] }] 50)
  have y3 := kx x3
  have z3 := cell_alloc y3 (.cells #[.int .i64 0, .int .i64 0, .int .i64 0, .int .i64 0, .int .i64 0, .bool false, .int .i64 0, .string { data := #[] }] 50)
  have y4 := kx x4
  have z4 := cell_alloc y4 (.cells #[.int .i64 0, .int .i64 0, .int .i64 0, .int .i64 0, .int .i64 0, .bool false, .int .i64 0, .string { data := #[] }] 50)
  have y5 := kx x5
  have z5 := cell_alloc y5 (.cells #[.int .i64 0, .int .i64 0, .int .i64 0, .int .i64 0, .int .i64 0, .bool false, .int .i64 0, .string { data := #[] }] 50)
  have y6 := kx x6
  have z6 := cell_alloc y6 (.cells #[.int .i64 0, .int .i64 0, .int .i64 0, .int .i64 0, .int .i64 0, .bool false, .int .i64 0, .string { data := #[] }] 50)
  have y7 := kx x7
  have z7 := cell_alloc y7 (.cells #[.int .i64 0, .int .i64 0, .int .i64 0, .int .i64 0, .int .i64 0, .bool false, .int .i64 0, .string { data := #[] }] 50)
  have hcl := h.lt
  have hclm := h.ltm
  clear x0 x1 x2 x3 x4 x5 x6 x7 h hy kx hrd hA hB
  go_enter Tryd.func26, Tryd.ntmps26
  go_wp2
  go_region
  clear y0 y1 y2 y3 y4 y5 y6 y7 z0 z1 z2 z3 z4 z5 z6 z7 cL
  go_wp2_with (first
    | (go_at_call 45; refine (flagged_calls Z O { s with pc := s.pc + 1 } 17 _ HP.out.1).mono ?_; rintro e w1 ⟨⟨u, rfl⟩, hM, hF⟩; have hX := HP.out.2.fr hF (by omega) (by omega); have q0 := hX.f 0 (v := .int .i64 17) rfl; have q1 := hX.f 1 (v := .int .i64 i) rfl; have q2 := hX.f 2 (v := .int .i64 j) rfl; have q3 := hX.f 3 (v := .int .i64 n) rfl; have q4 := hX.f 4 (v := .int .i64 wd) rfl; have q5 := hX.f 5 (v := .bool sg) rfl; have q6 := hX.f 6 (v := .int .i64 op) rfl; have q7 := hX.f 7 (v := .string nm) rfl; have hbw := hM.lt; have hbm := hM.ltm; have hxw := (Array.getElem?_eq_some_iff.1 hX.c).1; have HX := Lib.hid hX; (rw [ht] at hM); clear hF hX; have HM := Lib.hid hM; clear hM)
    | (go_at_call 49; refine (returns_calls Z O t _ HM.out (htw.r 4).2).mono ?_; rintro e w2 ⟨rfl, hM2⟩; have HM2 := Lib.hid hM2; clear hM2))
  go_ret
  exact ⟨rfl, HM2.out⟩
set_option maxRecDepth 100000 in
set_option maxHeartbeats 4000000 in
theorem step_reck (Z : Ct) (O : Z.Ok) (s : St) (w : World) (h : Mac Z w s) (t : St) (htw : t.Wf) (h0 : 0 ≤ s.pc) (hp : s.pc < Z.l.length) (k : Int) (i j : Nat) (n wd : Int) (sg : Bool) (op : Int) (nm : ByteArray) (hy : Z.l.getD s.pc.toNat z50 = ⟨k, i, j, n, wd, sg, op, nm⟩) (hi : i < 16) (hj : j < 16) (ht : St.flagged { s with pc := s.pc + 1 } k = t) (hk : ¬ k = 11 ∧ ¬ k = 12 ∧ ¬ k = 14 ∧ ¬ k = 13 ∧ ¬ k = 9 ∧ ¬ k = 16 ∧ ¬ k = 17) :
    Calls Tryd.prog 26 #[.pointer (some ⟨Z.b, 0, none⟩)] w fun e w' => e = .returned (.bool false) ∧ Mac Z w' (t.reckons ⟨k, i, j, n, wd, sg, op, nm⟩) := by
  obtain ⟨k1, k2, k3, k4, k5, k6, k7⟩ := hk
  have HP := Lib.hid (step_pre Z O s w ⟨k, i, j, n, wd, sg, op, nm⟩ h)
  have hB := h.below
  have hl := O.l.2.1
  have hlc := O.lc
  have cL := h.cL
  have cP := h.cP
  have fP := h.fz 20
  obtain ⟨ad, hA, x0, x1, x2, x3, x4, x5, x6, x7⟩ := at_T50 O.l s.pc h0 hp
  rw [hA] at cL
  have kx : ∀ {p : Addr} {v : Value}, Z.w0.cell? p = some v → w.cell? p = some v := fun {p v} h => (hB.cell (World.block_lt_of_cell? Z.w0 _ h)).trans h
  have hrd : rd_T50 Z.l s.pc = Z.l.getD s.pc.toNat z50 := rfl
  rw [hrd, hy] at x0 x1 x2 x3 x4 x5 x6 x7
  have y0 := kx x0
  have z0 := cell_alloc y0 (.cells #[.int .i64 0, .int .i64 0, .int .i64 0, .int .i64 0, .int .i64 0, .bool false, .int .i64 0, .string { data := #[] }] 50)
  have y1 := kx x1
  have z1 := cell_alloc y1 (.cells #[.int .i64 0, .int .i64 0, .int .i64 0, .int .i64 0, .int .i64 0, .bool false, .int .i64 0, .string { data := #[] }] 50)
  have y2 := kx x2
  have z2 := cell_alloc y2 (.cells #[.int .i64 0, .int .i64 0, .int .i64 0, .int .i64 0, .int .i64 0, .bool false, .int .i64 0, .string { data := #[] }] 50)
  have y3 := kx x3
  have z3 := cell_alloc y3 (.cells #[.int .i64 0, .int .i64 0, .int .i64 0, .int .i64 0, .int .i64 0, .bool false, .int .i64 0, .string { data := #[] }] 50)
  have y4 := kx x4
  have z4 := cell_alloc y4 (.cells #[.int .i64 0, .int .i64 0, .int .i64 0, .int .i64 0, .int .i64 0, .bool false, .int .i64 0, .string { data := #[] }] 50)
  have y5 := kx x5
  have z5 := cell_alloc y5 (.cells #[.int .i64 0, .int .i64 0, .int .i64 0, .int .i64 0, .int .i64 0, .bool false, .int .i64 0, .string { data := #[] }] 50)
  have y6 := kx x6
  have z6 := cell_alloc y6 (.cells #[.int .i64 0, .int .i64 0, .int .i64 0, .int .i64 0, .int .i64 0, .bool false, .int .i64 0, .string { data := #[] }] 50)
  have y7 := kx x7
  have z7 := cell_alloc y7 (.cells #[.int .i64 0, .int .i64 0, .int .i64 0, .int .i64 0, .int .i64 0, .bool false, .int .i64 0, .string { data := #[] }] 50)
  have hcl := h.lt
  have hclm := h.ltm
  clear x0 x1 x2 x3 x4 x5 x6 x7 h hy kx hrd hA hB
  go_enter Tryd.func26, Tryd.ntmps26
  go_wp2
  go_region
  clear y0 y1 y2 y3 y4 y5 y6 y7 z0 z1 z2 z3 z4 z5 z6 z7 cL
  go_wp2_with (first
    | (go_at_call 45; refine (flagged_calls Z O { s with pc := s.pc + 1 } k _ HP.out.1).mono ?_; rintro e w1 ⟨⟨u, rfl⟩, hM, hF⟩; have hX := HP.out.2.fr hF (by omega) (by omega); have q0 := hX.f 0 (v := .int .i64 k) rfl; have q1 := hX.f 1 (v := .int .i64 i) rfl; have q2 := hX.f 2 (v := .int .i64 j) rfl; have q3 := hX.f 3 (v := .int .i64 n) rfl; have q4 := hX.f 4 (v := .int .i64 wd) rfl; have q5 := hX.f 5 (v := .bool sg) rfl; have q6 := hX.f 6 (v := .int .i64 op) rfl; have q7 := hX.f 7 (v := .string nm) rfl; have hbw := hM.lt; have hbm := hM.ltm; have hxw := (Array.getElem?_eq_some_iff.1 hX.c).1; have HX := Lib.hid hX; (rw [ht] at hM); clear hF hX; have HM := Lib.hid hM; clear hM)
    | (go_at_call 50; refine (reckons_calls Z O t ⟨k, i, j, n, wd, sg, op, nm⟩ _ HM.out htw (by simp) (by simp; omega) (by simp) (by simp; omega)).mono ?_; rintro e w2 ⟨⟨u2, rfl⟩, hM2⟩; have HM2 := Lib.hid hM2; clear hM2))
  go_ret
  exact ⟨rfl, HM2.out⟩
set_option maxRecDepth 100000 in
set_option maxHeartbeats 4000000 in
theorem step_set_true (Z : Ct) (O : Z.Ok) (s : St) (w : World) (h : Mac Z w s) (t : St) (htw : t.Wf) (h0 : 0 ≤ s.pc) (hp : s.pc < Z.l.length) (k : Int) (i j : Nat) (n wd : Int) (sg : Bool) (op : Int) (nm : ByteArray) (hy : Z.l.getD s.pc.toNat z50 = ⟨k, i, j, n, wd, sg, op, nm⟩) (hi : i < 16) (hj : j < 16) (ht : St.flagged { s with pc := s.pc + 1 } k = t) (s4 : St) (hh : (t.setR i 0).holds op = (true, s4)) (hk : k = 12) :
    Calls Tryd.prog 26 #[.pointer (some ⟨Z.b, 0, none⟩)] w fun e w' => e = .returned (.bool false) ∧ Mac Z w' (s4.setR i 1) := by
  subst hk
  have HH := Lib.hid hh
  clear hh
  have HP := Lib.hid (step_pre Z O s w ⟨12, i, j, n, wd, sg, op, nm⟩ h)
  have hB := h.below
  have hl := O.l.2.1
  have hlc := O.lc
  have cL := h.cL
  have cP := h.cP
  have fP := h.fz 20
  obtain ⟨ad, hA, x0, x1, x2, x3, x4, x5, x6, x7⟩ := at_T50 O.l s.pc h0 hp
  rw [hA] at cL
  have kx : ∀ {p : Addr} {v : Value}, Z.w0.cell? p = some v → w.cell? p = some v := fun {p v} h => (hB.cell (World.block_lt_of_cell? Z.w0 _ h)).trans h
  have hrd : rd_T50 Z.l s.pc = Z.l.getD s.pc.toNat z50 := rfl
  rw [hrd, hy] at x0 x1 x2 x3 x4 x5 x6 x7
  have y0 := kx x0
  have z0 := cell_alloc y0 (.cells #[.int .i64 0, .int .i64 0, .int .i64 0, .int .i64 0, .int .i64 0, .bool false, .int .i64 0, .string { data := #[] }] 50)
  have y1 := kx x1
  have z1 := cell_alloc y1 (.cells #[.int .i64 0, .int .i64 0, .int .i64 0, .int .i64 0, .int .i64 0, .bool false, .int .i64 0, .string { data := #[] }] 50)
  have y2 := kx x2
  have z2 := cell_alloc y2 (.cells #[.int .i64 0, .int .i64 0, .int .i64 0, .int .i64 0, .int .i64 0, .bool false, .int .i64 0, .string { data := #[] }] 50)
  have y3 := kx x3
  have z3 := cell_alloc y3 (.cells #[.int .i64 0, .int .i64 0, .int .i64 0, .int .i64 0, .int .i64 0, .bool false, .int .i64 0, .string { data := #[] }] 50)
  have y4 := kx x4
  have z4 := cell_alloc y4 (.cells #[.int .i64 0, .int .i64 0, .int .i64 0, .int .i64 0, .int .i64 0, .bool false, .int .i64 0, .string { data := #[] }] 50)
  have y5 := kx x5
  have z5 := cell_alloc y5 (.cells #[.int .i64 0, .int .i64 0, .int .i64 0, .int .i64 0, .int .i64 0, .bool false, .int .i64 0, .string { data := #[] }] 50)
  have y6 := kx x6
  have z6 := cell_alloc y6 (.cells #[.int .i64 0, .int .i64 0, .int .i64 0, .int .i64 0, .int .i64 0, .bool false, .int .i64 0, .string { data := #[] }] 50)
  have y7 := kx x7
  have z7 := cell_alloc y7 (.cells #[.int .i64 0, .int .i64 0, .int .i64 0, .int .i64 0, .int .i64 0, .bool false, .int .i64 0, .string { data := #[] }] 50)
  have hcl := h.lt
  have hclm := h.ltm
  clear x0 x1 x2 x3 x4 x5 x6 x7 h hy kx hrd hA hB
  go_enter Tryd.func26, Tryd.ntmps26
  go_wp2
  go_region
  clear y0 y1 y2 y3 y4 y5 y6 y7 z0 z1 z2 z3 z4 z5 z6 z7 cL
  go_wp2_with (go_at_call 45; refine (flagged_calls Z O { s with pc := s.pc + 1 } 12 _ HP.out.1).mono ?_; rintro e w1 ⟨⟨u, rfl⟩, hM, hF⟩; have hX := HP.out.2.fr hF (by omega) (by omega); have q0 := hX.f 0 (v := .int .i64 12) rfl; have q1 := hX.f 1 (v := .int .i64 i) rfl; have q2 := hX.f 2 (v := .int .i64 j) rfl; have q3 := hX.f 3 (v := .int .i64 n) rfl; have q4 := hX.f 4 (v := .int .i64 wd) rfl; have q5 := hX.f 5 (v := .bool sg) rfl; have q6 := hX.f 6 (v := .int .i64 op) rfl; have q7 := hX.f 7 (v := .string nm) rfl; have hbw := hM.lt; have hbm := hM.ltm; have hxw := (Array.getElem?_eq_some_iff.1 hX.c).1; have HX := Lib.hid hX; (rw [ht] at hM); clear hF hX; have HS := Lib.hid (hM.setR O i hi 0); obtain ⟨fv, sv, evv, hM⟩ := hM; have r1 := hM.reg i hi; have f1 := hM.fz (3 + i); clear hM)
  go_region
  clear r1 f1
  go_wp2_with (go_at_call 46; refine (holds_calls Z O (t.setR i 0) op _ (HS.out.drew O)).mono ?_; rw [HH.out]; rintro e w2 ⟨rfl, hM2, hF⟩; have hX2 := HX.out.fr (((Fr.refl Z w1).set (3 + i) (.int .i64 0)).drew.trans hF) (by omega) (by omega); have q1 := hX2.f 1 (v := .int .i64 i) rfl; have c1 := hM2.reg i hi; have f1 := hM2.fz (3 + i); have HM2 := Lib.hid ((hM2.setR O i hi 1).drew O); clear hM2 hF hX2)
  go_region
  go_wp2
  go_ret
  exact ⟨rfl, HM2.out⟩
set_option maxRecDepth 100000 in
set_option maxHeartbeats 4000000 in
theorem step_set_false (Z : Ct) (O : Z.Ok) (s : St) (w : World) (h : Mac Z w s) (t : St) (htw : t.Wf) (h0 : 0 ≤ s.pc) (hp : s.pc < Z.l.length) (k : Int) (i j : Nat) (n wd : Int) (sg : Bool) (op : Int) (nm : ByteArray) (hy : Z.l.getD s.pc.toNat z50 = ⟨k, i, j, n, wd, sg, op, nm⟩) (hi : i < 16) (hj : j < 16) (ht : St.flagged { s with pc := s.pc + 1 } k = t) (s4 : St) (hh : (t.setR i 0).holds op = (false, s4)) (hk : k = 12) :
    Calls Tryd.prog 26 #[.pointer (some ⟨Z.b, 0, none⟩)] w fun e w' => e = .returned (.bool false) ∧ Mac Z w' s4 := by
  subst hk
  have HH := Lib.hid hh
  clear hh
  have HP := Lib.hid (step_pre Z O s w ⟨12, i, j, n, wd, sg, op, nm⟩ h)
  have hB := h.below
  have hl := O.l.2.1
  have hlc := O.lc
  have cL := h.cL
  have cP := h.cP
  have fP := h.fz 20
  obtain ⟨ad, hA, x0, x1, x2, x3, x4, x5, x6, x7⟩ := at_T50 O.l s.pc h0 hp
  rw [hA] at cL
  have kx : ∀ {p : Addr} {v : Value}, Z.w0.cell? p = some v → w.cell? p = some v := fun {p v} h => (hB.cell (World.block_lt_of_cell? Z.w0 _ h)).trans h
  have hrd : rd_T50 Z.l s.pc = Z.l.getD s.pc.toNat z50 := rfl
  rw [hrd, hy] at x0 x1 x2 x3 x4 x5 x6 x7
  have y0 := kx x0
  have z0 := cell_alloc y0 (.cells #[.int .i64 0, .int .i64 0, .int .i64 0, .int .i64 0, .int .i64 0, .bool false, .int .i64 0, .string { data := #[] }] 50)
  have y1 := kx x1
  have z1 := cell_alloc y1 (.cells #[.int .i64 0, .int .i64 0, .int .i64 0, .int .i64 0, .int .i64 0, .bool false, .int .i64 0, .string { data := #[] }] 50)
  have y2 := kx x2
  have z2 := cell_alloc y2 (.cells #[.int .i64 0, .int .i64 0, .int .i64 0, .int .i64 0, .int .i64 0, .bool false, .int .i64 0, .string { data := #[] }] 50)
  have y3 := kx x3
  have z3 := cell_alloc y3 (.cells #[.int .i64 0, .int .i64 0, .int .i64 0, .int .i64 0, .int .i64 0, .bool false, .int .i64 0, .string { data := #[] }] 50)
  have y4 := kx x4
  have z4 := cell_alloc y4 (.cells #[.int .i64 0, .int .i64 0, .int .i64 0, .int .i64 0, .int .i64 0, .bool false, .int .i64 0, .string { data := #[] }] 50)
  have y5 := kx x5
  have z5 := cell_alloc y5 (.cells #[.int .i64 0, .int .i64 0, .int .i64 0, .int .i64 0, .int .i64 0, .bool false, .int .i64 0, .string { data := #[] }] 50)
  have y6 := kx x6
  have z6 := cell_alloc y6 (.cells #[.int .i64 0, .int .i64 0, .int .i64 0, .int .i64 0, .int .i64 0, .bool false, .int .i64 0, .string { data := #[] }] 50)
  have y7 := kx x7
  have z7 := cell_alloc y7 (.cells #[.int .i64 0, .int .i64 0, .int .i64 0, .int .i64 0, .int .i64 0, .bool false, .int .i64 0, .string { data := #[] }] 50)
  have hcl := h.lt
  have hclm := h.ltm
  clear x0 x1 x2 x3 x4 x5 x6 x7 h hy kx hrd hA hB
  go_enter Tryd.func26, Tryd.ntmps26
  go_wp2
  go_region
  clear y0 y1 y2 y3 y4 y5 y6 y7 z0 z1 z2 z3 z4 z5 z6 z7 cL
  go_wp2_with (go_at_call 45; refine (flagged_calls Z O { s with pc := s.pc + 1 } 12 _ HP.out.1).mono ?_; rintro e w1 ⟨⟨u, rfl⟩, hM, hF⟩; have hX := HP.out.2.fr hF (by omega) (by omega); have q0 := hX.f 0 (v := .int .i64 12) rfl; have q1 := hX.f 1 (v := .int .i64 i) rfl; have q2 := hX.f 2 (v := .int .i64 j) rfl; have q3 := hX.f 3 (v := .int .i64 n) rfl; have q4 := hX.f 4 (v := .int .i64 wd) rfl; have q5 := hX.f 5 (v := .bool sg) rfl; have q6 := hX.f 6 (v := .int .i64 op) rfl; have q7 := hX.f 7 (v := .string nm) rfl; have hbw := hM.lt; have hbm := hM.ltm; have hxw := (Array.getElem?_eq_some_iff.1 hX.c).1; have HX := Lib.hid hX; (rw [ht] at hM); clear hF hX; have HS := Lib.hid (hM.setR O i hi 0); obtain ⟨fv, sv, evv, hM⟩ := hM; have r1 := hM.reg i hi; have f1 := hM.fz (3 + i); clear hM)
  go_region
  clear r1 f1
  go_wp2_with (go_at_call 46; refine (holds_calls Z O (t.setR i 0) op _ (HS.out.drew O)).mono ?_; rw [HH.out]; rintro e w2 ⟨rfl, hM2, hF⟩; have HM2 := Lib.hid hM2; clear hM2 hF)
  go_ret
  exact ⟨rfl, HM2.out⟩
end Go.Proofs.YthfpdlfpbbhjhaaDoor.Mc
namespace Go.Proofs.YthfpdlfpbbhjhaaDoor.Mc
open Go.RowKit Go.Proofs.YthfpdlfpbbhjhaaDoor.PA Go.Proofs.YthfpdlfpbbhjhaaDoor.Pure Go.Proofs.MapFun Go.Proofs.YthfpdlfpbbhjhaaDoorW.PrintWords Go.Proofs.YthfpdlfpbbhjhaaDoorW.PrintLast Go.Proofs.YthfpdlfpbbhjhaaDoorW.PrintMore
set_option linter.unusedVariables false
set_option linter.unusedSimpArgs false
theorem wf_ite {c : Prop} [Decidable c] {a b : St} (ha : a.Wf) (hb : b.Wf) : (if c then a else b).Wf := by split <;> assumption
theorem w64_in (x : Int) : In64 (wrap64 x) := w64 x
theorem in0 : In64 0 := by unfold In64; omega
theorem St.Wf.setR {s : St} (h : s.Wf) (i : Nat) {v : Int} (hv : In64 v) : (s.setR i v).Wf := by
  refine ⟨fun k => ?_, h.m, h.f⟩
  have := h.r k
  simp only [St.reg, St.setR, List.getD_eq_getElem?_getD, List.getElem?_set] at this ⊢
  split
  · split
    · exact hv
    · exact in0
  · exact this
theorem St.Wf.setM {s : St} (h : s.Wf) (i : Nat) {v : Int} (hv : In64 v) : St.Wf { s with mem := s.mem.set i v } := by
  refine ⟨h.r, fun k => ?_, h.f⟩
  have := h.m k
  simp only [List.getD_eq_getElem?_getD, List.getElem?_set] at this ⊢
  split
  · split
    · exact hv
    · exact in0
  · exact this
theorem St.Wf.err {s : St} (h : s.Wf) (n : Int) : St.Wf { s with e := n } := ⟨h.r, h.m, h.f⟩
theorem St.Wf.store {s : St} (h : s.Wf) (a : Int) {v : Int} (hv : In64 v) : (s.store a v).Wf := by
  unfold St.store; split
  · exact h.setM _ hv
  · exact h.err _
theorem St.Wf.load {s : St} (h : s.Wf) (a : Int) : (s.load a).2.Wf ∧ In64 (s.load a).1 := by
  unfold St.load; split
  · exact ⟨h, h.m _⟩
  · exact ⟨h.err _, in0⟩
theorem St.Wf.push {s : St} (h : s.Wf) {v : Int} (hv : In64 v) : (s.push v).Wf := by
  unfold St.push; exact (h.setR 4 (w64_in _)).store _ hv
theorem St.Wf.pop {s : St} (h : s.Wf) : s.pop.2.Wf ∧ In64 s.pop.1 := by
  unfold St.pop; exact ⟨(h.load _).1.setR 4 (w64_in _), (h.load _).2⟩
theorem St.Wf.divides {s : St} (h : s.Wf) (j : Nat) (sg : Bool) : (s.divides j sg).Wf := by
  unfold St.divides; split
  · exact h.err _
  · exact (h.setR 0 (wv_in _ _ _ _)).setR 2 (wv_in _ _ _ _)
theorem St.Wf.reckons {s : St} (h : s.Wf) (x : S50) (hx : In64 x.f3) : (s.reckons x).Wf := by
  unfold St.reckons
  have hq : In64 (s.reg 0 / 9223372036854775808) := by have := h.r 0; unfold In64 at *; omega
  exact wf_ite (h.setR _ hx) <| wf_ite (h.setR _ (h.r _)) <| wf_ite (h.setR _ (w64_in _)) <| wf_ite (h.setR _ (wv_in _ _ _ _)) <| wf_ite (h.setR _ (wv_in _ _ _ _)) <| wf_ite (h.setR _ (wv_in _ _ _ _)) <|
    wf_ite (h.setR _ (toP_in _ _)) <| wf_ite (h.setR _ hq) <| wf_ite ((h.load _).1.setR _ (h.load _).2) <| wf_ite (h.store _ (h.r _)) <| wf_ite (h.push (h.r _)) <| wf_ite (h.pop.1.setR _ h.pop.2) h
theorem St.Wf.holds {s : St} (h : s.Wf) (op : Int) : (s.holds op).2.Wf := by
  unfold St.holds; split
  · exact h.err _
  · exact h
theorem St.Wf.returns {s : St} (h : s.Wf) (L : Int) : (s.returns L).2.Wf := by
  unfold St.returns
  repeat' split
  · exact h.pop.1
  · exact h.pop.1
  · exact h.pop.1.err _
  · exact h.pop.1.pc _
theorem St.Wf.stp {s : St} (h : s.Wf) (L : Int) (x : S50) (hx : In64 x.f3) : (s.stp L x).2.Wf := by
  have h1 := (h.pc (s.pc + 1)).flagged x.f0
  unfold St.stp
  dsimp only
  split
  · exact ⟨h1.r, h1.m, fun a b e => by cases e; exact ⟨h1.r _, h1.r _⟩⟩
  split
  · dsimp only; split
    · exact ((h1.setR _ in0).holds _).setR _ (by unfold In64; omega)
    · exact (h1.setR _ in0).holds _
  split
  · exact h1.divides _ _
  split
  · exact h1.returns _
  · exact h1.reckons _ hx
theorem step_calls (Z : Ct) (O : Z.Ok) (s : St) (w : World) (h : Mac Z w s) (hw : s.Wf) (h0 : 0 ≤ s.pc) (hp : s.pc < Z.l.length) (x : S50) (hy : Z.l.getD s.pc.toNat z50 = x) (hr : regB x)
    (hn : x.f0 ≠ 13 ∧ x.f0 ≠ 14 ∧ x.f0 ≠ 16) :
    Calls Tryd.prog 26 #[.pointer (some ⟨Z.b, 0, none⟩)] w fun e w' => e = .returned (.bool (s.stp Z.l.length x).1) ∧ Mac Z w' (s.stp Z.l.length x).2 := by
  obtain ⟨k, d, sr, n, wd, sg, op, nm⟩ := x
  obtain ⟨r1, r2, r3, r4⟩ := hr
  simp only at r1 r2 r3 r4 hn
  obtain ⟨i, rfl⟩ : ∃ i : Nat, d = i := ⟨d.toNat, by omega⟩
  obtain ⟨j, rfl⟩ : ∃ j : Nat, sr = j := ⟨sr.toNat, by omega⟩
  have ht := (hw.pc (s.pc + 1)).flagged k
  unfold St.stp
  simp only [Int.toNat_natCast]
  by_cases k1 : k = 11
  · subst k1; rw [if_pos rfl]; exact step_cmp Z O s w h _ ht h0 hp 11 i j n wd sg op nm hy (by omega) (by omega) rfl rfl
  rw [if_neg k1]
  by_cases k2 : k = 12
  · subst k2; rw [if_pos rfl]
    obtain ⟨⟨b, s4⟩, hh⟩ : ∃ p, ((St.flagged { s with pc := s.pc + 1 } 12).setR i 0).holds op = p := ⟨_, rfl⟩
    cases b with
    | true =>
      have := step_set_true Z O s w h _ ht h0 hp 12 i j n wd sg op nm hy (by omega) (by omega) rfl s4 hh rfl
      rw [hh]; simpa using this
    | false =>
      have := step_set_false Z O s w h _ ht h0 hp 12 i j n wd sg op nm hy (by omega) (by omega) rfl s4 hh rfl
      rw [hh]; simpa using this
  rw [if_neg k2]
  by_cases k3 : k = 9
  · subst k3; rw [if_pos rfl]; exact step_div Z O s w h _ ht h0 hp 9 i j n wd sg op nm hy (by omega) (by omega) rfl rfl
  rw [if_neg k3]
  by_cases k4 : k = 17
  · subst k4; rw [if_pos rfl]; exact step_ret Z O s w h _ ht h0 hp 17 i j n wd sg op nm hy (by omega) (by omega) rfl rfl
  rw [if_neg k4]
  exact step_reck Z O s w h _ ht h0 hp k i j n wd sg op nm hy (by omega) (by omega) rfl ⟨k1, k2, hn.2.1, hn.1, k3, hn.2.2, k4⟩
end Go.Proofs.YthfpdlfpbbhjhaaDoor.Mc
namespace Go.Proofs.YthfpdlfpbbhjhaaDoor.Mc
open Go.RowKit Go.Proofs.YthfpdlfpbbhjhaaDoor.PA Go.Proofs.YthfpdlfpbbhjhaaDoor.Pure Go.Proofs.MapFun Go.Proofs.YthfpdlfpbbhjhaaDoorW.PrintWords Go.Proofs.YthfpdlfpbbhjhaaDoorW.PrintLast Go.Proofs.YthfpdlfpbbhjhaaDoorW.PrintMore
set_option linter.unusedVariables false
set_option linter.unusedSimpArgs false
def goesP (l : List S50) : Nat → St → St
  | 0, s => { s with e := 150 }
  | n + 1, s =>
    if (l.length : Int) ≤ s.pc then { s with e := 193 }
    else if (s.stp l.length (l.getD s.pc.toNat z50)).1 then (s.stp l.length (l.getD s.pc.toNat z50)).2
    else if (s.stp l.length (l.getD s.pc.toNat z50)).2.e ≠ 0 then (s.stp l.length (l.getD s.pc.toNat z50)).2
    else goesP l n (s.stp l.length (l.getD s.pc.toNat z50)).2
theorem goesP_succ (l : List S50) (n : Nat) (s : St) : goesP l (n + 1) s = if (l.length : Int) ≤ s.pc then { s with e := 193 }
    else if (s.stp l.length (l.getD s.pc.toNat z50)).1 then (s.stp l.length (l.getD s.pc.toNat z50)).2
    else if (s.stp l.length (l.getD s.pc.toNat z50)).2.e ≠ 0 then (s.stp l.length (l.getD s.pc.toNat z50)).2
    else goesP l n (s.stp l.length (l.getD s.pc.toNat z50)).2 := rfl
theorem St.store_pc (s : St) (a v : Int) : (s.store a v).pc = s.pc := by unfold St.store; split <;> rfl
theorem St.load_pc (s : St) (a : Int) : (s.load a).2.pc = s.pc := by unfold St.load; split <;> rfl
theorem St.flagged_pc (s : St) (k : Int) : (s.flagged k).pc = s.pc := by unfold St.flagged; split <;> rfl
theorem St.holds_pc (s : St) (k : Int) : (s.holds k).2.pc = s.pc := by unfold St.holds; split <;> rfl
theorem St.setR_pc (s : St) (i : Nat) (v : Int) : (s.setR i v).pc = s.pc := rfl
theorem St.push_pc (s : St) (v : Int) : (s.push v).pc = s.pc := by unfold St.push; rw [St.store_pc]; rfl
theorem St.pop_pc (s : St) : s.pop.2.pc = s.pc := by unfold St.pop; simp only [St.setR_pc, St.load_pc]
theorem St.divides_pc (s : St) (j : Nat) (sg : Bool) : (s.divides j sg).pc = s.pc := by unfold St.divides; split <;> rfl
theorem St.reckons_pc (s : St) (x : S50) : (s.reckons x).pc = s.pc := by
  unfold St.reckons
  simp only [apply_ite St.pc, St.setR_pc, St.load_pc, St.store_pc, St.push_pc, St.pop_pc, ite_self]
theorem St.stp_pc (s : St) (L : Int) (x : S50) (h : 0 ≤ s.pc) : 0 ≤ (s.stp L x).2.pc := by
  have h1 : 0 ≤ (St.flagged { s with pc := s.pc + 1 } x.f0).pc := by rw [St.flagged_pc]; show 0 ≤ s.pc + 1; omega
  unfold St.stp
  dsimp only
  split
  · exact h1
  split
  · dsimp only; split <;> simp only [St.setR_pc, St.holds_pc] <;> exact h1
  split
  · simp only [St.divides_pc]; exact h1
  split
  · unfold St.returns
    repeat' split
    all_goals first | (simp only [St.pop_pc]; exact h1) | (dsimp only; omega)
  · simp only [St.reckons_pc]; exact h1
def plainB (x : S50) : Prop := regB x ∧ In64 x.f3 ∧ x.f0 ≠ 13 ∧ x.f0 ≠ 14 ∧ x.f0 ≠ 16
set_option maxRecDepth 100000 in
set_option maxHeartbeats 4000000 in
theorem goes_calls (Z : Ct) (O : Z.Ok) (s : St) (w : World) (h : Mac Z w s) (hw : s.Wf) (h0 : 0 ≤ s.pc) (N : Nat) (hN : N ≤ 1000000) (hL : Z.l.length ≤ 40000) (hall : ∀ x ∈ Z.l, plainB x) :
    Calls Tryd.prog 12 #[.pointer (some ⟨Z.b, 0, none⟩), .int .i64 N] w fun e w' => (∃ u, e = .returned u) ∧ Mac Z w' (goesP Z.l N s) := by
  have HI := Lib.hid (And.intro h (And.intro hw (And.intro h0 hall)))
  have hlc := O.lc
  clear h hw h0 hall
  go_enter Tryd.func12, Tryd.ntmps12
  go_wp2
  refine wp_scope_straight ?_
  refine wp_seq (wp_label ?_)
  go_wp2
  go_loopw [1] (fun i wr => ∃ (n : Nat) (s1 : St), n ≤ N ∧ i = .int .i64 n ∧ Mac Z wr s1 ∧ s1.Wf ∧ 0 ≤ s1.pc ∧ goesP Z.l n s1 = goesP Z.l N s) (fun i _ => (intOf i).toNat)
  case atStart => exact ⟨N, s, Nat.le_refl _, rfl, HI.out.1, HI.out.2.1, HI.out.2.2.1, rfl⟩
  case round =>
    obtain ⟨n, s1, hn, rfl, hM, hW, hpc, hg⟩ := hrel
    cases n with
    | zero =>
      have cE := hM.cE
      have fE := hM.fz 24
      have HM := Lib.hid (hM.setE O 150)
      have HG := Lib.hid hg
      clear hM hg
      go_wp2
      unfold Exit.noGoto; go_end0
      exact ⟨⟨_, rfl⟩, HG.out ▸ HM.out⟩
    | succ n =>
      have cE := hM.cE
      have cP := hM.cP
      have cL := hM.cL
      have fE := hM.fz 24
      by_cases hp : (Z.l.length : Int) ≤ s1.pc
      · have hg1 : { s1 with e := 193 } = goesP Z.l N s := by rw [← hg, goesP_succ, if_pos hp]
        have HM := Lib.hid (And.intro hg1 ((hM.drew O).setE O 193))
        clear hM hg hg1
        go_wp2
        go_region
        go_wp2
        unfold Exit.noGoto; go_end0
        exact ⟨⟨_, rfl⟩, HM.out.1 ▸ HM.out.2⟩
      · have hp' : s1.pc < (Z.l.length : Int) := by omega
        obtain ⟨x, hx⟩ : ∃ x, Z.l.getD s1.pc.toNat z50 = x := ⟨_, rfl⟩
        have hxm : x ∈ Z.l := by rw [← hx, getD_get Z.l s1.pc.toNat (by omega)]; exact List.getElem_mem _
        have hpl := HI.out.2.2.2 x hxm
        have hw2 := hW.stp Z.l.length x hpl.2.1
        have hp2 := s1.stp_pc Z.l.length x hpc
        have hcall := step_calls Z O s1 _ (hM.drew O) hW hpc hp' x hx hpl.1 hpl.2.2
        rw [goesP_succ, if_neg hp, hx] at hg
        obtain ⟨⟨b, s2⟩, hs⟩ : ∃ p, s1.stp Z.l.length x = p := ⟨_, rfl⟩
        rw [hs] at hcall hg hw2 hp2
        dsimp only at hcall hg hw2 hp2
        have HC := Lib.hid hcall
        clear hcall hs hpl hxm hx
        cases b with
        | true =>
          rw [if_pos rfl] at hg
          have HG := Lib.hid hg
          clear hg hM
          go_wp2
          go_region
          go_wp2_with (go_at_call 26; refine HC.out.mono ?_; rintro e w2 ⟨rfl, hM2⟩; have HM2 := Lib.hid hM2; clear hM2)
          unfold Exit.noGoto; go_end0
          exact ⟨⟨_, rfl⟩, HG.out ▸ HM2.out⟩
        | false =>
          rw [if_neg (by simp)] at hg
          by_cases he : s2.e = 0
          · rw [if_neg (by simp [he])] at hg
            have HG := Lib.hid hg
            have HW := Lib.hid (And.intro hw2 hp2)
            clear hg hM hw2 hp2
            go_wp2
            go_region
            go_wp2_with (go_at_call 26; refine HC.out.mono ?_; rintro e w2 ⟨rfl, hM2⟩; have cE2 := hM2.cE; (rw [he] at cE2); have HM2 := Lib.hid hM2; clear hM2)
            go_roundw
            case rel => exact ⟨n, s2, by omega, by simp, HM2.out, HW.out.1, HW.out.2, HG.out⟩
            case measure => simp [intOf]
          · rw [if_pos he] at hg
            have HG := Lib.hid hg
            clear hg hM
            go_wp2
            go_region
            go_wp2_with (go_at_call 26; refine HC.out.mono ?_; rintro e w2 ⟨rfl, hM2⟩; have cE2 := hM2.cE; have HM2 := Lib.hid hM2; clear hM2)
            unfold Exit.noGoto; go_end0
            exact ⟨⟨_, rfl⟩, HG.out ▸ HM2.out⟩
end Go.Proofs.YthfpdlfpbbhjhaaDoor.Mc
namespace Go.Proofs.YthfpdlfpbbhjhaaDoor.Mc
open Go.RowKit Go.Proofs.YthfpdlfpbbhjhaaDoor.PA Go.Proofs.YthfpdlfpbbhjhaaDoor.Pure Go.Proofs.MapFun Go.Proofs.YthfpdlfpbbhjhaaDoorW.PrintWords Go.Proofs.YthfpdlfpbbhjhaaDoorW.PrintLast Go.Proofs.YthfpdlfpbbhjhaaDoorW.PrintMore
set_option linter.unusedVariables false
set_option linter.unusedSimpArgs false
def keptOk (s : St) : Prop := s.reg 3 = 1 ∧ s.reg 5 = 2 ∧ s.reg 12 = 3 ∧ s.reg 13 = 4 ∧ s.reg 14 = 5 ∧ s.reg 15 = 6
def nowv : Nat → Array Value
  | 0 => #[.int .i64 0, .int .i64 0, .int .i64 0, .int .i64 0, .int .i64 0, .int .i64 0]
  | 1 => #[.int .i64 1, .int .i64 0, .int .i64 0, .int .i64 0, .int .i64 0, .int .i64 0]
  | 2 => #[.int .i64 1, .int .i64 2, .int .i64 0, .int .i64 0, .int .i64 0, .int .i64 0]
  | 3 => #[.int .i64 1, .int .i64 2, .int .i64 3, .int .i64 0, .int .i64 0, .int .i64 0]
  | 4 => #[.int .i64 1, .int .i64 2, .int .i64 3, .int .i64 4, .int .i64 0, .int .i64 0]
  | 5 => #[.int .i64 1, .int .i64 2, .int .i64 3, .int .i64 4, .int .i64 5, .int .i64 0]
  | _ => #[.int .i64 1, .int .i64 2, .int .i64 3, .int .i64 4, .int .i64 5, .int .i64 6]
theorem nowv_next (k : Nat) (h : k < 6) : (nowv k).setIfInBounds k (.int .i64 ((k : Int) + 1)) = nowv (k + 1) := by
  rcases (show k = 0 ∨ k = 1 ∨ k = 2 ∨ k = 3 ∨ k = 4 ∨ k = 5 by omega) with rfl | rfl | rfl | rfl | rfl | rfl <;> rfl
theorem nowv_get (k : Nat) (h : k < 6) : (nowv k)[k]? = some (.int .i64 0) := by
  rcases (show k = 0 ∨ k = 1 ∨ k = 2 ∨ k = 3 ∨ k = 4 ∨ k = 5 by omega) with rfl | rfl | rfl | rfl | rfl | rfl <;> rfl
def keptN (k : Nat) : Nat := [3, 5, 12, 13, 14, 15].getD k 0
theorem keptN_lt (k : Nat) (h : k < 6) : keptN k < 16 := by
  rcases (show k = 0 ∨ k = 1 ∨ k = 2 ∨ k = 3 ∨ k = 4 ∨ k = 5 by omega) with rfl | rfl | rfl | rfl | rfl | rfl <;> decide
theorem keptOk.reg {s : St} (h : keptOk s) (k : Nat) (hk : k < 6) : s.reg (keptN k) = (k : Int) + 1 := by
  obtain ⟨h1, h2, h3, h4, h5, h6⟩ := h
  rcases (show k = 0 ∨ k = 1 ∨ k = 2 ∨ k = 3 ∨ k = 4 ∨ k = 5 by omega) with rfl | rfl | rfl | rfl | rfl | rfl
  · exact h1
  · exact h2
  · exact h3
  · exact h4
  · exact h5
  · exact h6
set_option maxRecDepth 100000 in
theorem index_kept (k : Nat) (h : k < 6) (W : World) : (Instr.index 46 (.agg #[.int .i64 3, .int .i64 5, .int .i64 12, .int .i64 13, .int .i64 14, .int .i64 15]) (.int .i64 k)).run Tryd.prog W = .ok (.int .i64 (keptN k)) W := by
  rcases (show k = 0 ∨ k = 1 ∨ k = 2 ∨ k = 3 ∨ k = 4 ∨ k = 5 by omega) with rfl | rfl | rfl | rfl | rfl | rfl <;> first | rfl | (go_simp; done) | (go_simp; rfl)
set_option maxRecDepth 100000 in
theorem eq90 (W : World) : (Op.equalIn 10000 81 (.agg #[.int .i64 1, .int .i64 2, .int .i64 3, .int .i64 4, .int .i64 5, .int .i64 6]) (.agg #[.int .i64 1, .int .i64 2, .int .i64 3, .int .i64 4, .int .i64 5, .int .i64 6])).run Tryd.prog W = .ok true W := by
  first | kernel_rfl | rfl | (go_simp; done)
set_option maxRecDepth 100000 in
set_option maxHeartbeats 4000000 in
theorem keeps_calls (Z : Ct) (O : Z.Ok) (s : St) (w : World) (h : Mac Z w s) (hT : Tab w) (hk : keptOk s) (top : Int) (ht : s.reg 4 = top) :
    Calls Tryd.prog 13 #[.pointer (some ⟨Z.b, 0, none⟩), .int .i64 top] w fun e w' => e = .returned (.bool true) ∧ Below w.heap.size w w' := by
  have hl := h.lt
  have hsz := hT.size
  have t0 := hT.k 0 (by omega)
  have t1 := hT.k 1 (by omega)
  have t2 := hT.k 2 (by omega)
  have t3 := hT.k 3 (by omega)
  have t4 := hT.k 4 (by omega)
  have t5 := hT.k 5 (by omega)
  simp only [keptL, List.getD_cons_zero, List.getD_cons_succ] at t0 t1 t2 t3 t4 t5
  have z0 := cell_alloc t0 (.cells #[.int .i64 0, .int .i64 0, .int .i64 0, .int .i64 0, .int .i64 0, .int .i64 0] 81)
  have z1 := cell_alloc t1 (.cells #[.int .i64 0, .int .i64 0, .int .i64 0, .int .i64 0, .int .i64 0, .int .i64 0] 81)
  have z2 := cell_alloc t2 (.cells #[.int .i64 0, .int .i64 0, .int .i64 0, .int .i64 0, .int .i64 0, .int .i64 0] 81)
  have z3 := cell_alloc t3 (.cells #[.int .i64 0, .int .i64 0, .int .i64 0, .int .i64 0, .int .i64 0, .int .i64 0] 81)
  have z4 := cell_alloc t4 (.cells #[.int .i64 0, .int .i64 0, .int .i64 0, .int .i64 0, .int .i64 0, .int .i64 0] 81)
  have z5 := cell_alloc t5 (.cells #[.int .i64 0, .int .i64 0, .int .i64 0, .int .i64 0, .int .i64 0, .int .i64 0] 81)
  have HK := Lib.hid (And.intro h (And.intro hk ht))
  clear h hk ht hT
  go_enter Tryd.func13, Tryd.ntmps13
  go_wp2
  go_loopw [9] (fun i wr => ∃ k : Nat, k ≤ 6 ∧ i = .int .i64 k ∧ wr.heap[w.heap.size]? = some (.cells (nowv k) 81 (0, 0)) ∧ Below w.heap.size w wr) (fun i _ => 6 - (intOf i).toNat)
  case atStart =>
    refine ⟨0, Nat.zero_le _, rfl, ?_, (Below.refl _ _).alloc (Nat.le_refl _) _⟩
    show (w.heap.push _)[w.heap.size]? = _
    rw [Array.getElem?_push_size]
    rfl
  case round =>
    obtain ⟨k, hk, rfl, hX, hB⟩ := hrel
    have HX := Lib.hid (And.intro hX hB)
    have hM := HK.out.1.step O hB
    by_cases hlt : k < 6
    · have hlt' : (k : Int) < 6 := by omega
      have hix := index_kept k hlt
      have hkl := keptN_lt k hlt
      have cR := hM.reg (keptN k) hkl
      rw [HK.out.2.1.reg k hlt] at cR
      have c := cell_at hX k (nowv_get k hlt)
      have f := fz_at hX k
      have hX2 := Lib.hid (heap_same (i := k) (v := .int .i64 ((k : Int) + 1)) hX)
      clear hX hM hB
      go_wp2
      go_roundw
      case rel => exact ⟨k + 1, by omega, by simp, by rw [hX2.out, nowv_next k hlt], HX.out.2.setCell (Nat.le_refl _) _⟩
      case measure => simp [intOf]; omega
    · obtain rfl : k = 6 := by omega
      have x0 := cell_at hX 0 (v := .int .i64 1) rfl
      have x1 := cell_at hX 1 (v := .int .i64 2) rfl
      have x2 := cell_at hX 2 (v := .int .i64 3) rfl
      have x3 := cell_at hX 3 (v := .int .i64 4) rfl
      have x4 := cell_at hX 4 (v := .int .i64 5) rfl
      have x5 := cell_at hX 5 (v := .int .i64 6) rfl
      have heq := eq90
      have c4 := hM.reg 4 (by omega)
      rw [HK.out.2.2] at c4
      clear hX hM hB
      go_wp2
      go_ret
      exact ⟨rfl, HX.out.2⟩
end Go.Proofs.YthfpdlfpbbhjhaaDoor.Mc
