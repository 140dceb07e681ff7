import Derived.Test.YthfpdlfpbbhjhaaDoorMK2
namespace Go.Proofs.YthfpdlfpbbhjhaaDoor.Mc
open Go.RowKit Go.Proofs.YthfpdlfpbbhjhaaDoor.PA Go.Proofs.YthfpdlfpbbhjhaaDoor.Pure Go.Proofs.MapFun Go.Proofs.YthfpdlfpbbhjhaaDoorW.PrintWords Go.Proofs.YthfpdlfpbbhjhaaDoorW.PrintLast Go.Proofs.YthfpdlfpbbhjhaaDoorW.PrintMore
set_option linter.unusedVariables false
set_option linter.unusedSimpArgs false
theorem info2 : (Tryd.prog.info? 2).map (fun i => (i.zero, i.size, i.bytes)) = some (some (.int .i64 0), 1, 8) := by kernel_rfl
theorem make24 (stack : Int) (h0 : 16 ≤ stack) (h1 : stack ≤ 65536) (W : World) : (Instr.makeSlice 22 (.int .i64 (stack / 8)) (.int .i64 (stack / 8))).run Tryd.prog W = .ok (.slice (some ⟨W.heap.size, 0, none⟩) (stack / 8).toNat (stack / 8).toNat) (W.alloc (.cells (madeCells (Value.int .i64 0).cells (stack / 8).toNat) 2)) := by
  have h2 := info2
  cases hi : Tryd.prog.info? 2 with
  | none => rw [hi] at h2; simp at h2
  | some i =>
    rw [hi] at h2
    simp only [Option.map_some, Option.some.injEq, Prod.mk.injEq] at h2
    have := run_makeSlice (P := Tryd.prog) W 22 2 i (.int .i64 0) Tryd.underlying22 hi h2.1 .i64 .i64 (stack / 8) (stack / 8) (by omega) (Int.le_refl _) (by rw [h2.2.1]; omega) (by rw [h2.2.2]; omega) (by omega)
    rw [h2.2.1, Nat.mul_one] at this
    exact this
theorem run_fin {Z : Ct} {w w1 w5 : World} (hs1 : w1.heap.size = w.heap.size + 1) (ba : Below w.heap.size w w1) (e1 : Z.w0 = w1) (hb5 : Below w1.heap.size w1 w5) (hbl : w5.heap[w.heap.size]? = some (.cells #[.int .i64 0, .int .i64 0, .slice none 0 0] 34 (0, 0)))
    (e v : Int) (Av : Option Addr) (cv : Nat) (ev : List S133) (hev : EvOk Z w5 (.slice Av ev.length cv) ev) :
    (((w5.setCell ⟨w.heap.size, 0, none⟩ (.int .i64 e)).setCell ⟨w.heap.size, 1, none⟩ (.int .i64 v)).setCell ⟨w.heap.size, 2, none⟩ (.slice Av ev.length cv)).heap[w.heap.size]? = some (.cells #[.int .i64 e, .int .i64 v, .slice Av ev.length cv] 34 (0, 0)) ∧
    Kd.N k133 133 (((w5.setCell ⟨w.heap.size, 0, none⟩ (.int .i64 e)).setCell ⟨w.heap.size, 1, none⟩ (.int .i64 v)).setCell ⟨w.heap.size, 2, none⟩ (.slice Av ev.length cv)) w.heap.size (fun k_ => w.heap.size ≤ k_) (.slice Av ev.length cv) ev ∧
    Below w.heap.size w (((w5.setCell ⟨w.heap.size, 0, none⟩ (.int .i64 e)).setCell ⟨w.heap.size, 1, none⟩ (.int .i64 v)).setCell ⟨w.heap.size, 2, none⟩ (.slice Av ev.length cv)) := by
  unfold EvOk at hev
  rw [e1] at hev
  have h1 := Kd.R_lower (Kd.R_mono (Kd.R_bound hev) (ok' := fun k => w1.heap.size ≤ k) (fun k hk => hk.2.1)) (base' := w.heap.size) (by omega)
  refine ⟨by rw [heap_same (heap_same (heap_same hbl))]; rfl, ?_, ?_⟩
  · refine Kd.R_N (Kd.R_mono (Kd.R_far (p := ⟨w.heap.size, 2, none⟩) (Kd.R_far (p := ⟨w.heap.size, 1, none⟩) (Kd.R_far (p := ⟨w.heap.size, 0, none⟩) h1 ?_ _) ?_ _) ?_ _) ?_)
    · intro k hk; show k ≠ w.heap.size; omega
    · intro k hk; show k ≠ w.heap.size; omega
    · intro k hk; show k ≠ w.heap.size; omega
    · intro k hk; omega
  · have hb := ba.trans (hb5.mono ba.size)
    exact ((hb.setCell (p := ⟨w.heap.size, 0, none⟩) (Nat.le_refl _) _).setCell (p := ⟨w.heap.size, 1, none⟩) (Nat.le_refl _) _).setCell (p := ⟨w.heap.size, 2, none⟩) (Nat.le_refl _) _
set_option maxRecDepth 100000 in
set_option maxHeartbeats 8000000 in
theorem runG_calls (A0 : Option Addr) (c0 : Nat) (l0 : List S50) (A1 : Option Addr) (c1 : Nat) (c : S28) (a2 : ByteArray) (A3 : Option Addr) (c3 : Nat) (args : List Int) (A4 : Option Addr) (c4 : Nat) (a5 a6 : Int) (p : Nat) (w : World)
    (hr0 : Kd.C k50 w A0 l0.length l0) (hc0 : l0.length ≤ c0) (hr1 : Kd.C k28 w A1 1 [c]) (hc1 : 1 ≤ c1) (hr3 : Kd.C (Kd.int .i64) w A3 args.length args) (hc3 : args.length ≤ c3) (hr4 : Kd.C (Kd.int .i64) w A4 0 []) (hT : Tab w)
    (h : RunOk l0 [c] a2 args [] a5 a6 p) :
    Calls Tryd.prog 6 #[.slice A0 l0.length c0, .slice A1 1 c1, .string a2, .slice A3 args.length c3, .slice A4 0 c4, .int .i64 a5, .int .i64 a6] w fun e w' =>
      ∃ v2_ : Value, e = .returned (.agg #[.int .i64 (endP l0 args a5 a6 p).e, .int .i64 (if (endP l0 args a5 a6 p).e = 0 then toP ((endP l0 args a5 a6 p).reg 0) 7 else 0), v2_]) ∧ Kd.N k133 133 w' w.heap.size (fun k_ => (w.heap.size ≤ k_)) v2_ (endP l0 args a5 a6 p).ev ∧ Below w.heap.size w w' := by
  have ba : Below w.heap.size w (w.alloc (.cells #[.int .i64 0, .int .i64 0, .slice none 0 0] 34)) := (Below.refl _ _).alloc (Nat.le_refl _) _
  obtain ⟨w1, hw1⟩ : ∃ w1, w.alloc (.cells #[.int .i64 0, .int .i64 0, .slice none 0 0] 34) = w1 := ⟨_, rfl⟩
  have hres := alloc_at w #[.int .i64 0, .int .i64 0, .slice none 0 0] 34
  have hs1 : w1.heap.size = w.heap.size + 1 := by rw [← hw1]; show (w.heap.push _).size = _; simp
  rw [hw1] at ba hres
  have hr0 := Kd.C_below hr0 ba
  have hr1 := Kd.C_below hr1 ba
  have hr3 := Kd.C_below hr3 ba
  have hr4 := Kd.C_below hr4 ba
  have hT := hT.below ba
  have HR := Lib.hid ((right_calls A0 c0 l0 A1 c1 [c] w1 hr0 hc0 (fun x hx => (h.plain x hx).2) (by have := h.len; omega) hr1 hc1 h.names hT h.kindsU (labels_form (by have := h.right; unfold rightP at this; simp only [Bool.and_eq_true] at this; exact this.1.1.1))).mono (fun e w' (hp : RightPost l0 [c] w1 e w') => (show e = .returned (.tuple #[.map (some w1.heap.size), .bool true]) ∧ Below w1.heap.size w1 w' ∧ ∃ n, MapF Tryd.prog 9 Lit.string w' w1.heap.size n (labF l0 l0.length) by
    obtain ⟨hb, ⟨_, he, hm⟩ | ⟨hno, _⟩⟩ := hp
    · exact ⟨he, hb, hm⟩
    · rw [h.right] at hno; cases hno)))
  have HH := Lib.hid (And.intro h (And.intro ba (And.intro hres (And.intro hr0 (And.intro hr1 (And.intro hr3 (And.intro hr4 hT)))))))
  obtain ⟨ad, A2, c2, A5, c5, rfl, x0, x1, x2, x3, x4, x5, k1, k2, k3, k4⟩ := at_T28 hr1 0 (by omega) (by omega)
  have hrd : rd_T28 [c] 0 = c := rfl
  rw [hrd] at x0 x1 x2 x3 x4 x5 k1 k2
  have hk := h.kinds
  have hd : [c].getD 0 z28 = c := rfl
  rw [hd] at hk
  rw [hk] at x2 k1 k2
  simp only [List.length_replicate] at x2 k1 k2
  have hret := h.ret
  rw [hd] at hret
  rw [hret] at x1
  have e0 : ad.add 0 = ad := by cases ad; rfl
  simp only [Int.toNat_zero, Nat.zero_mul, e0] at x0 x1 x2 x3 x4 x5
  clear e0
  have hnm := h.nsize
  have hst0 := h.stack0
  have hst1 := h.stack1
  have hst6 := h.stack16
  have hs0 := h.steps0
  have hs9 := h.steps1
  have hmk := make24 a6 hst0 hst1
  have K2 := Lib.hid (And.intro k1 k2)
  have HS1 := Lib.hid hs1
  obtain ⟨N, rfl⟩ : ∃ N : Nat, a5 = N := ⟨a5.toNat, by omega⟩
  clear hs1 h ba hres hr0 hr1 hr3 hr4 hT k1 k2 k3 k4 hrd hk hd hret
  obtain ⟨t, ht⟩ : ∃ t, endP l0 args N a6 p = t := ⟨_, rfl⟩
  rw [ht]
  have HTT := Lib.hid ht
  clear ht
  by_cases he : t.e = 0
  · rw [if_pos he]
    have hkk := HH.out.1.kept
    rw [HTT.out] at hkk
    have HKK := Lib.hid (hkk he)
    have HE := Lib.hid he
    have HIN := Lib.hid (show In64 (t.reg 0) from by rw [← HTT.out]; exact (goesP_wf (fun x hx => (HH.out.1.plain x hx).1) _ _ (beginsG_wf (st0_wf a6 p) _ HH.out.1.ain a6 (by omega)) (by rw [beginsG_pc]; show (0 : Int) ≤ (p : Int); omega)).r 0)
    clear he hkk
    go_enter Tryd.func6, Tryd.ntmps6
    go_wp2_with (first
      | (go_at_call 9; (try rw [hw1]); refine HR.out.mono ?_; rintro e w2 ⟨rfl, hb, n, hM⟩; have H2 := Lib.hid (And.intro hb hM); clear hb hM)
      | (go_at_call 10; refine (find_calls (some ad) c1 [c] a2 _ (Kd.C_below HH.out.2.2.2.2.1 H2.out.1) hc1).mono ?_; (rw [HH.out.1.find]); rintro e w3 ⟨rfl, hb3⟩; have hM3 := H2.out.2.block (hb3.block _ H2.out.2.lt); have hb13 := H2.out.1.trans (hb3.mono H2.out.1.size);
          have hlk := hM3.look_ok law9 Tryd.underlying51 (zero54 _) (Go.WideMaps.keyOf_string_mk (s := a2) Tryd.underlying9 (by unfold maxLen; omega)); (rw [show labF l0 l0.length a2.data.toList = some (.int .i64 (p : Int)) from by unfold labF; rw [HH.out.1.lab]; rfl] at hlk); dsimp only [Option.getD, Option.isSome] at hlk;
          have kx : ∀ {q : Addr} {v : Value}, w1.cell? q = some v → w3.cell? q = some v := fun {q v} h => (hb13.cell (World.block_lt_of_cell? w1 _ h)).trans h;
          have y0 := kx x0; have y1 := kx x1; have y2 := kx x2; have y3 := kx x3; have y4 := kx x4; have y5 := kx x5;
          obtain ⟨Z, OZ, e1, e2, e3, hm⟩ := mac_made w1 w3 hb13 A0 c0 l0 HH.out.2.2.2.1 hc0 (some ad) c1 [c] HH.out.2.2.2.2.1 hc1 A4 c4 HH.out.2.2.2.2.2.2.1 n hM3 a6 hst0 hst1 p;
          simp only [Value.cells, mkCells, List.length_cons, List.length_nil, Nat.zero_add, Nat.reduceAdd] at hm;
          obtain ⟨W, hW⟩ : ∃ W, W = _ := ⟨_, rfl⟩;
          have bW : Below w3.heap.size w3 W := (by rw [hW]; exact ((Below.refl _ _).alloc (Nat.le_refl _) (.cells (madeCells #[.int .i64 0] (a6 / 8).toNat) 2)).alloc (by show w3.heap.size ≤ (w3.heap.push _).size; simp) (.cells #[.slice A0 l0.length c0, .map (some w1.heap.size), .slice (some ad) 1 c1, .int .i64 0, .int .i64 0, .int .i64 0, .int .i64 0, .int .i64 0, .int .i64 0, .int .i64 0, .int .i64 0, .int .i64 0, .int .i64 0, .int .i64 0, .int .i64 0, .int .i64 0, .int .i64 0, .int .i64 0, .int .i64 0, .slice (some ⟨w3.heap.size, 0, none⟩) (a6 / 8).toNat (a6 / 8).toNat, .int .i64 p, .pointer none, .slice A4 0 c4, .slice none 0 0, .int .i64 0] 60));
          have kz : ∀ {q : Addr} {v : Value}, w3.cell? q = some v → W.cell? q = some v := fun {q v} h => (bW.cell (World.block_lt_of_cell? w3 _ h)).trans h;
          have z0 := kz y0; have z1 := kz y1; have z2 := kz y2; have z3 := kz y3; have z4 := kz y4; have z5 := kz y5; (rw [hW] at z0 z1 z2 z3 z4 z5);
          have HB := Lib.hid (beginsG_calls Z OZ (st0 a6 p) _ hm (by rw [e1]; exact HH.out.2.2.2.2.2.2.2) args HH.out.1.few A3 c3 (by rw [e1]; exact HH.out.2.2.2.2.2.1) hc3 A2 c2 (by rw [e1]; exact K2.out.2) K2.out.1 c.f0 7 c.f4 c.f3 (.slice A5 c.f5.length c5) a6 (by omega) hst1 HH.out.1.beg HH.out.1.ain);
          have HZ := Lib.hid (And.intro OZ (And.intro e1 (And.intro e2 e3))); clear hm bW kz hM3 hb3 hb13 kx OZ e1 e2 e3 hW)
      | (go_at_call 11; have hB0 := HB.out; (rw [HZ.out.2.2.1] at hB0); refine hB0.mono ?_; rintro e w4 ⟨rfl, hM4⟩; have c7 := hM4.reg 4 (by omega); (rw [HZ.out.2.2.1] at c7); (simp only [Nat.reduceAdd] at c7); have H4 := Lib.hid hM4; clear hM4 hB0)
      | (go_at_call 12; have hG := goes_calls Z HZ.out.1 _ w4 H4.out (beginsG_wf (st0_wf a6 p) _ HH.out.1.ain a6 (by omega)) (by rw [beginsG_pc]; show (0 : Int) ≤ (p : Int); omega) N (by omega) (by rw [HZ.out.2.2.2]; exact HH.out.1.len) (by rw [HZ.out.2.2.2]; exact fun x hx => (HH.out.1.plain x hx).1); (rw [HZ.out.2.2.1, HZ.out.2.2.2, ← endP_nat, HTT.out] at hG); refine hG.mono ?_; rintro e w5 ⟨⟨u, rfl⟩, hM5⟩; have hb5 := hM5.below; (rw [HZ.out.2.1] at hb5); have cE := hM5.cE; (rw [HZ.out.2.2.1] at cE); (rw [HE.out] at cE); have H5 := Lib.hid hM5; clear hM5 hb5)
      | (go_at_call 13; have hK := keeps_calls Z HZ.out.1 t w5 H5.out (HH.out.2.2.2.2.2.2.2.to (by have := H5.out.below; rw [HZ.out.2.1] at this; exact this) HH.out.2.2.2.2.2.2.2.size) HKK.out.1 _ HKK.out.2; (rw [HZ.out.2.2.1] at hK); refine hK.mono ?_; rintro e w6 ⟨rfl, hb6⟩; have hM6 := H5.out.step HZ.out.1 hb6; have hb5 := hM6.below; (rw [HZ.out.2.1] at hb5); have cE6 := hM6.cE; have cR6 := hM6.reg 0 (by omega); (rw [HZ.out.2.2.1] at cE6 cR6); (rw [HE.out] at cE6); (simp only [Nat.add_zero] at cR6); obtain ⟨fv, sv, evv, hV⟩ := hM6; have cV := hV.cEv; (rw [HZ.out.2.2.1] at cV); have hev := hV.ev; obtain ⟨Av, cv, rfl, _, _⟩ := Kd.R_reads hev; have hbl := hb5.block w.heap.size (by rw [HS1.out]; omega); (rw [HH.out.2.2.1] at hbl); have q7 := (hb5.cell (World.block_lt_of_cell? w1 _ x1)).trans x1; have g0 := cell_at hbl 0 (v := .int .i64 0) rfl; have g1 := cell_at hbl 1 (v := .int .i64 0) rfl; have g2 := cell_at hbl 2 (v := .slice none 0 0) rfl; have gf := fun i => fz_at hbl i; have gf0 := gf 0; have gf1 := gf 1; have gf2 := gf 2; have H6 := Lib.hid (And.intro hev (And.intro hb5 hbl)); clear hev hb5 hbl hV gf hK hb6))
    refine start_ (n := 15) (S := fun w' => w'.cell? ⟨w3.heap.size + 1, 3, none⟩ = some (.int .i64 (t.reg 0)) ∧ w'.cell? ⟨ad.block, ad.off + 1, none⟩ = some (.int .i64 7)) (ds := [10]) #[false, false, false, false, false, false, false, false, false, false, false, false, false, false, false] (by kernel_rfl) rfl rfl ⟨cR6, q7⟩ (fun hHeld => ?_)
    refine pure_ (i := 0) (N := some 129) (v := ?_) (a' := ?_) #[true, false, false, false, false, false, false, false, false, false, false, false, false, false, false] rfl rfl (by kernel_rfl) (fun _ _ _ h => h) (Or.inl ⟨by rfl, ?_⟩) ?_ ?_
    rotate_left
    · intro w'
      go_simp
      with_reducible rfl
    rotate_left
    · simp only [Act.put, List.setIfInBounds_toArray, List.set_cons_zero, List.set_cons_succ, i64_w, i32_w]
      rfl
    refine pure_ (i := 1) (N := some 130) (v := ?_) (a' := ?_) #[true, true, false, false, false, false, false, false, false, false, false, false, false, false, false] rfl rfl (by kernel_rfl) (fun _ _ _ h => h) (Or.inl ⟨by rfl, ?_⟩) ?_ ?_
    rotate_left
    · intro w'
      go_simp
      with_reducible rfl
    rotate_left
    · simp only [Act.put, List.setIfInBounds_toArray, List.set_cons_zero, List.set_cons_succ, i64_w, i32_w]
      rfl
    refine pure_ (i := 2) (N := some 131) (v := ?_) (a' := ?_) #[true, true, true, false, false, false, false, false, false, false, false, false, false, false, false] rfl rfl (by kernel_rfl) (fun _ _ _ h => h) (Or.inl ⟨by rfl, ?_⟩) ?_ ?_
    rotate_left
    · intro w'
      go_simp
      with_reducible rfl
    rotate_left
    · simp only [Act.put, List.setIfInBounds_toArray, List.set_cons_zero, List.set_cons_succ, i64_w, i32_w]
      rfl
    refine pure_ (i := 3) (N := some 132) (v := ?_) (a' := ?_) #[true, true, true, true, false, false, false, false, false, false, false, false, false, false, false] rfl rfl (by kernel_rfl) (fun _ _ _ h => h) (Or.inl ⟨by rfl, ?_⟩) ?_ ?_
    rotate_left
    · intro w'
      go_simp
      with_reducible rfl
    rotate_left
    · simp only [Act.put, List.setIfInBounds_toArray, List.set_cons_zero, List.set_cons_succ, i64_w, i32_w]
      rfl
    refine pure_ (i := 5) (N := some 134) (v := ?_) (a' := ?_) #[true, true, true, true, false, true, false, false, false, false, false, false, false, false, false] rfl rfl (by kernel_rfl) (fun _ _ _ h => h) (Or.inl ⟨by rfl, ?_⟩) ?_ ?_
    rotate_left
    · intro w'
      go_simp
      with_reducible rfl
    rotate_left
    · simp only [Act.put, List.setIfInBounds_toArray, List.set_cons_zero, List.set_cons_succ, i64_w, i32_w]
      rfl
    refine pure_ (i := 6) (N := some 135) (v := ?_) (a' := ?_) #[true, true, true, true, false, true, true, false, false, false, false, false, false, false, false] rfl rfl (by kernel_rfl) (fun _ _ _ h => h) (Or.inl ⟨by rfl, ?_⟩) ?_ ?_
    rotate_left
    · intro w'
      go_simp
      with_reducible rfl
    rotate_left
    · simp only [Act.put, List.setIfInBounds_toArray, List.set_cons_zero, List.set_cons_succ, i64_w, i32_w]
      rfl
    refine pure_ (i := 7) (N := some 136) (v := ?_) (a' := ?_) #[true, true, true, true, false, true, true, true, false, false, false, false, false, false, false] rfl rfl (by kernel_rfl) (fun _ _ _ h => h) (Or.inl ⟨by rfl, ?_⟩) ?_ ?_
    rotate_left
    · intro w'
      go_simp
      with_reducible rfl
    rotate_left
    · simp only [Act.put, List.setIfInBounds_toArray, List.set_cons_zero, List.set_cons_succ, i64_w, i32_w]
      rfl
    refine pure_ (i := 8) (N := some 137) (v := ?_) (a' := ?_) #[true, true, true, true, false, true, true, true, true, false, false, false, false, false, false] rfl rfl (by kernel_rfl) (fun _ _ _ h => h) (Or.inl ⟨by rfl, ?_⟩) ?_ ?_
    rotate_left
    · intro w'
      go_simp
      with_reducible rfl
    rotate_left
    · simp only [Act.put, List.setIfInBounds_toArray, List.set_cons_zero, List.set_cons_succ, i64_w, i32_w]
      rfl
    refine take_ (i := 4) (N := some 133) (v := ?_) (a' := ?_) #[true, true, true, true, true, true, true, true, true, false, false, false, false, false, false] rfl rfl (by kernel_rfl) (fun _ _ _ h => h) (Or.inl ⟨by rfl, ?_⟩) hHeld ?_ ?_
    rotate_left
    · rintro w' ⟨s0, s1⟩
      go_simp
      with_reducible rfl
    rotate_left
    · simp only [Act.put, List.setIfInBounds_toArray, List.set_cons_zero, List.set_cons_succ, i64_w, i32_w]
      rfl
    refine take_ (i := 9) (N := some 138) (v := ?_) (a' := ?_) #[true, true, true, true, true, true, true, true, true, true, false, false, false, false, false] rfl rfl (by kernel_rfl) (fun _ _ _ h => h) (Or.inl ⟨by rfl, ?_⟩) hHeld ?_ ?_
    rotate_left
    · rintro w' ⟨s0, s1⟩
      go_simp
      with_reducible rfl
    rotate_left
    · simp only [Act.put, List.setIfInBounds_toArray, List.set_cons_zero, List.set_cons_succ, i64_w, i32_w]
      rfl
    refine last_ (i := 10) (N := some 139) #[true, true, true, true, true, true, true, true, true, true, true, false, false, false, false] rfl rfl (by kernel_rfl) (by decide) (fun K hK => ?_)
    refine goes_ Tryd.func14 (by kernel_rfl) rfl #[.int .i64 (t.reg 0), .int .i64 7] (by rfl) rfl rfl (by simp only [List.map_toArray, List.map_cons, List.map_nil]; rfl) ?_
    with_reducible refine (to_c (t.reg 0) 7 _ HIN.out).mono ?_
    rintro e w7 ⟨u7, rfl, n7, rfl⟩
    refine ⟨_, rfl, ?_⟩
    refine hK.out _ _ ?_
    clear hK K
    refine norm_ (a' := ?_) ?_ ?_
    rotate_left
    · show Act.put _ (some 139) _ = _
      simp only [Act.put, List.setIfInBounds_toArray, List.set_cons_zero, List.set_cons_succ, i64_w, i32_w]
      rfl
    refine pure_ (i := 11) (N := some 128) (v := ?_) (a' := ?_) #[true, true, true, true, true, true, true, true, true, true, true, true, false, false, false] rfl rfl (by kernel_rfl) (fun _ _ _ h => h) (Or.inl ⟨by rfl, ?_⟩) ?_ ?_
    rotate_left
    · intro w'
      go_simp
      with_reducible rfl
    rotate_left
    · simp only [Act.put, List.setIfInBounds_toArray, List.set_cons_zero, List.set_cons_succ, i64_w, i32_w]
      rfl
    refine pure_ (i := 12) (N := some 140) (v := ?_) (a' := ?_) #[true, true, true, true, true, true, true, true, true, true, true, true, true, false, false] rfl rfl (by kernel_rfl) (fun _ _ _ h => h) (Or.inl ⟨by rfl, ?_⟩) ?_ ?_
    rotate_left
    · intro w'
      go_simp
      with_reducible rfl
    rotate_left
    · simp only [Act.put, List.setIfInBounds_toArray, List.set_cons_zero, List.set_cons_succ, i64_w, i32_w]
      rfl
    refine pure_ (i := 13) (N := some 141) (v := ?_) (a' := ?_) #[true, true, true, true, true, true, true, true, true, true, true, true, true, true, false] rfl rfl (by kernel_rfl) (fun _ _ _ h => h) (Or.inl ⟨by rfl, ?_⟩) ?_ ?_
    rotate_left
    · intro w'
      go_simp
      with_reducible rfl
    rotate_left
    · simp only [Act.put, List.setIfInBounds_toArray, List.set_cons_zero, List.set_cons_succ, i64_w, i32_w]
      rfl
    refine pure_ (i := 14) (N := some 22) (v := ?_) (a' := ?_) #[true, true, true, true, true, true, true, true, true, true, true, true, true, true, true] rfl rfl (by kernel_rfl) (fun _ _ _ h => h) (Or.inl ⟨by rfl, ?_⟩) ?_ ?_
    rotate_left
    · intro w'
      go_simp
      with_reducible rfl
    rotate_left
    · simp only [Act.put, List.setIfInBounds_toArray, List.set_cons_zero, List.set_cons_succ, i64_w, i32_w]
      rfl
    refine done_ (by kernel_rfl) ?_
    go_wp2
    go_region
    go_wp2
    have hf := run_fin HS1.out HH.out.2.1 HZ.out.2.1 (w5 := w6.drewN (1 + n7 + 1)) (pw_below_drewN H6.out.2.1 _) H6.out.2.2 0 (toP (t.reg 0) 7) Av cv t.ev (Kd.R_drewN H6.out.1 _)
    rw [HE.out]
    refine bodyPost_ret (results_cell_row rfl _ _ w.heap.size 34 #[.int .i64 0, .int .i64 (toP (t.reg 0) 7), .slice Av t.ev.length cv] (0, 0) _ rfl hf.1 Tryd.underlying34 rfl (by kernel_rfl)) rfl ?_
    exact ⟨_, rfl, hf.2.1, hf.2.2⟩
  · rw [if_neg he]
    go_enter Tryd.func6, Tryd.ntmps6
    go_wp2_with (first
      | (go_at_call 9; (try rw [hw1]); refine HR.out.mono ?_; rintro e w2 ⟨rfl, hb, n, hM⟩; have H2 := Lib.hid (And.intro hb hM); clear hb hM)
      | (go_at_call 10; refine (find_calls (some ad) c1 [c] a2 _ (Kd.C_below HH.out.2.2.2.2.1 H2.out.1) hc1).mono ?_; (rw [HH.out.1.find]); rintro e w3 ⟨rfl, hb3⟩; have hM3 := H2.out.2.block (hb3.block _ H2.out.2.lt); have hb13 := H2.out.1.trans (hb3.mono H2.out.1.size);
          have hlk := hM3.look_ok law9 Tryd.underlying51 (zero54 _) (Go.WideMaps.keyOf_string_mk (s := a2) Tryd.underlying9 (by unfold maxLen; omega)); (rw [show labF l0 l0.length a2.data.toList = some (.int .i64 (p : Int)) from by unfold labF; rw [HH.out.1.lab]; rfl] at hlk); dsimp only [Option.getD, Option.isSome] at hlk;
          have kx : ∀ {q : Addr} {v : Value}, w1.cell? q = some v → w3.cell? q = some v := fun {q v} h => (hb13.cell (World.block_lt_of_cell? w1 _ h)).trans h;
          have y0 := kx x0; have y1 := kx x1; have y2 := kx x2; have y3 := kx x3; have y4 := kx x4; have y5 := kx x5;
          obtain ⟨Z, OZ, e1, e2, e3, hm⟩ := mac_made w1 w3 hb13 A0 c0 l0 HH.out.2.2.2.1 hc0 (some ad) c1 [c] HH.out.2.2.2.2.1 hc1 A4 c4 HH.out.2.2.2.2.2.2.1 n hM3 a6 hst0 hst1 p;
          simp only [Value.cells, mkCells, List.length_cons, List.length_nil, Nat.zero_add, Nat.reduceAdd] at hm;
          obtain ⟨W, hW⟩ : ∃ W, W = _ := ⟨_, rfl⟩;
          have bW : Below w3.heap.size w3 W := (by rw [hW]; exact ((Below.refl _ _).alloc (Nat.le_refl _) (.cells (madeCells #[.int .i64 0] (a6 / 8).toNat) 2)).alloc (by show w3.heap.size ≤ (w3.heap.push _).size; simp) (.cells #[.slice A0 l0.length c0, .map (some w1.heap.size), .slice (some ad) 1 c1, .int .i64 0, .int .i64 0, .int .i64 0, .int .i64 0, .int .i64 0, .int .i64 0, .int .i64 0, .int .i64 0, .int .i64 0, .int .i64 0, .int .i64 0, .int .i64 0, .int .i64 0, .int .i64 0, .int .i64 0, .int .i64 0, .slice (some ⟨w3.heap.size, 0, none⟩) (a6 / 8).toNat (a6 / 8).toNat, .int .i64 p, .pointer none, .slice A4 0 c4, .slice none 0 0, .int .i64 0] 60));
          have kz : ∀ {q : Addr} {v : Value}, w3.cell? q = some v → W.cell? q = some v := fun {q v} h => (bW.cell (World.block_lt_of_cell? w3 _ h)).trans h;
          have z0 := kz y0; have z1 := kz y1; have z2 := kz y2; have z3 := kz y3; have z4 := kz y4; have z5 := kz y5; (rw [hW] at z0 z1 z2 z3 z4 z5);
          have HB := Lib.hid (beginsG_calls Z OZ (st0 a6 p) _ hm (by rw [e1]; exact HH.out.2.2.2.2.2.2.2) args HH.out.1.few A3 c3 (by rw [e1]; exact HH.out.2.2.2.2.2.1) hc3 A2 c2 (by rw [e1]; exact K2.out.2) K2.out.1 c.f0 7 c.f4 c.f3 (.slice A5 c.f5.length c5) a6 (by omega) hst1 HH.out.1.beg HH.out.1.ain);
          have HZ := Lib.hid (And.intro OZ (And.intro e1 (And.intro e2 e3))); clear hm bW kz hM3 hb3 hb13 kx OZ e1 e2 e3 hW)
      | (go_at_call 11; have hB0 := HB.out; (rw [HZ.out.2.2.1] at hB0); refine hB0.mono ?_; rintro e w4 ⟨rfl, hM4⟩; have c7 := hM4.reg 4 (by omega); (rw [HZ.out.2.2.1] at c7); (simp only [Nat.reduceAdd] at c7); have H4 := Lib.hid hM4; clear hM4 hB0)
      | (go_at_call 12; have hG := goes_calls Z HZ.out.1 _ w4 H4.out (beginsG_wf (st0_wf a6 p) _ HH.out.1.ain a6 (by omega)) (by rw [beginsG_pc]; show (0 : Int) ≤ (p : Int); omega) N (by omega) (by rw [HZ.out.2.2.2]; exact HH.out.1.len) (by rw [HZ.out.2.2.2]; exact fun x hx => (HH.out.1.plain x hx).1); (rw [HZ.out.2.2.1, HZ.out.2.2.2, ← endP_nat, HTT.out] at hG); refine hG.mono ?_; rintro e w5 ⟨⟨u, rfl⟩, hM5⟩; have hb5 := hM5.below; (rw [HZ.out.2.1] at hb5); have cE := hM5.cE; (rw [HZ.out.2.2.1] at cE); have fE := hM5.fz 24; obtain ⟨fv, sv, evv, hV⟩ := hM5; have cV := hV.cEv; (rw [HZ.out.2.2.1] at cV fE); have hev := hV.ev; obtain ⟨Av, cv, rfl, _, _⟩ := Kd.R_reads hev; have hbl := hb5.block w.heap.size (by rw [HS1.out]; omega); (rw [HH.out.2.2.1] at hbl); have g0 := cell_at hbl 0 (v := .int .i64 0) rfl; have g1 := cell_at hbl 1 (v := .int .i64 0) rfl; have g2 := cell_at hbl 2 (v := .slice none 0 0) rfl; have gf := fun i => fz_at hbl i; have gf0 := gf 0; have gf1 := gf 1; have gf2 := gf 2; have H5 := Lib.hid (And.intro hev (And.intro hb5 hbl)); clear hev hb5 hbl hV gf))
    go_region
    go_wp2
    have hf := run_fin HS1.out HH.out.2.1 HZ.out.2.1 H5.out.2.1 H5.out.2.2 t.e 0 Av cv t.ev H5.out.1
    refine bodyPost_ret (results_cell_row rfl _ _ w.heap.size 34 #[.int .i64 t.e, .int .i64 0, .slice Av t.ev.length cv] (0, 0) _ rfl hf.1 Tryd.underlying34 rfl (by kernel_rfl)) rfl ?_
    exact ⟨_, rfl, Kd.N_drew hf.2.1, below_drew1 hf.2.2⟩
end Go.Proofs.YthfpdlfpbbhjhaaDoor.Mc
namespace Go.Proofs.YthfpdlfpbbhjhaaDoor.Mc
open Go.RowKit Go.Proofs.YthfpdlfpbbhjhaaDoor.PA Go.Proofs.YthfpdlfpbbhjhaaDoor.Pure Go.Proofs.MapFun Go.Proofs.YthfpdlfpbbhjhaaDoorW.PrintWords Go.Proofs.YthfpdlfpbbhjhaaDoorW.PrintLast Go.Proofs.YthfpdlfpbbhjhaaDoorW.PrintMore
set_option linter.unusedVariables false
theorem mach_Run.calls (A0 : Option Addr) (c0 : Nat) (l0 : List S50) (A1 : Option Addr) (c1 : Nat) (l1 : List S28) (a2 : ByteArray) (A3 : Option Addr) (c3 : Nat) (l3 : List Int) (A4 : Option Addr) (c4 : Nat) (l4 : List Int) (a5 a6 : Int) (r1 r2 : Int) (r3 : List S133) (w : World)
    (hr0 : Kd.C k50 w A0 l0.length l0) (hc0 : l0.length ≤ c0) (hr1 : Kd.C k28 w A1 l1.length l1) (hc1 : l1.length ≤ c1) (hr3 : Kd.C (Kd.int .i64) w A3 l3.length l3) (hc3 : l3.length ≤ c3) (hr4 : Kd.C (Kd.int .i64) w A4 l4.length l4) (hc4 : l4.length ≤ c4)
    (h : mach_Run.f l0 l1 a2 l3 l4 a5 a6 = some (r1, r2, r3)) (hT : Tab w) :
    Calls Tryd.prog 6 #[.slice A0 l0.length c0, .slice A1 l1.length c1, .string a2, .slice A3 l3.length c3, .slice A4 l4.length c4, .int .i64 a5, .int .i64 a6] w fun e w' => ∃ v2_ : Value, e = .returned (.agg #[.int .i64 r1, .int .i64 r2, v2_]) ∧ Kd.N k133 133 w' w.heap.size (fun k_ => (w.heap.size ≤ k_)) v2_ r3 ∧ Below w.heap.size w w' := by
  obtain ⟨p, hp, rfl, rfl, rfl⟩ := mach_Run.back h
  obtain rfl := hp.noscr
  obtain ⟨c, rfl⟩ : ∃ c, l1 = [c] := by
    match l1, hp.one with
    | [c], _ => exact ⟨c, rfl⟩
  exact runG_calls A0 c0 l0 A1 c1 c a2 A3 c3 l3 A4 c4 a5 a6 p w hr0 hc0 hr1 hc1 hr3 hc3 hr4 hT hp
end Go.Proofs.YthfpdlfpbbhjhaaDoor.Mc
namespace Go.Proofs.YthfpdlfpbbhjhaaDoor.Mc
open Go.RowKit Go.Proofs.YthfpdlfpbbhjhaaDoor.PA Go.Proofs.YthfpdlfpbbhjhaaDoor.Pure Go.Proofs.MapFun Go.Proofs.YthfpdlfpbbhjhaaDoorW.PrintWords Go.Proofs.YthfpdlfpbbhjhaaDoorW.PrintLast Go.Proofs.YthfpdlfpbbhjhaaDoorW.PrintMore
set_option linter.unusedVariables false
theorem flat_at (n : Nat) : ∀ (css : List (List Value)), (∀ c ∈ css, c.length = n) → ∀ (j i : Nat) (c : List Value), css[j]? = some c → i < n → css.flatten[j * n + i]? = c[i]?
  | [], _, j, i, c, h, _ => by simp at h
  | c0 :: css, hl, 0, i, c, h, hi => by
    simp only [List.getElem?_cons_zero, Option.some.injEq] at h
    subst h
    have := hl c0 (List.mem_cons_self ..)
    rw [List.flatten_cons, Nat.zero_mul, Nat.zero_add, List.getElem?_append_left (by omega)]
  | c0 :: css, hl, j + 1, i, c, h, hi => by
    rw [List.getElem?_cons_succ] at h
    have h0 := hl c0 (List.mem_cons_self ..)
    have ih := flat_at n css (fun c hc => hl c (List.mem_cons_of_mem _ hc)) j i c h hi
    rw [List.flatten_cons, List.getElem?_append_right (by rw [h0, Nat.add_mul]; omega), h0]
    rw [show (j + 1) * n + i - n = j * n + i by rw [Nat.add_mul]; omega]
    exact ih
theorem lit_C {α : Type} (d : Kd α) (W : World) (t : TypeId) (xs : List α) (css : List (List Value)) (hlen : css.length = xs.length) (hsz : ∀ c ∈ css, c.length = d.sz) (hmax : xs.length ≤ maxLen) (cs : Array Value) (hcs : cs = css.flatten.toArray)
    (hK : ∀ (j : Nat) (x : α) (c : List Value), xs[j]? = some x → css[j]? = some c → d.K (W.alloc (.cells cs t)) x c) : Kd.C d (W.alloc (.cells cs t)) (some ⟨W.heap.size, 0, none⟩) xs.length xs := by
  refine ⟨rfl, hmax, fun _ => ⟨_, rfl, fun j p hj => ?_⟩⟩
  have hj' : j < css.length := by rw [hlen]; exact (List.getElem?_eq_some_iff.1 hj).1
  refine ⟨css[j], hsz _ (List.getElem_mem _), hK j p _ hj (List.getElem?_eq_getElem hj'), fun i u hu => ?_⟩
  have hi : i < d.sz := by have := (List.getElem?_eq_some_iff.1 hu).1; rw [hsz _ (List.getElem_mem _)] at this; exact this
  have := flat_at d.sz css hsz j i _ (List.getElem?_eq_getElem hj') hi
  have hb := alloc_at W cs t
  have hc : cs[j * d.sz + i]? = some u := by rw [hcs, List.getElem?_toArray, this]; exact hu
  have e : (⟨W.heap.size, 0, none⟩ : Addr).add (j * d.sz + i) = ⟨W.heap.size, j * d.sz + i, none⟩ := by
    generalize j * d.sz + i = n
    unfold Addr.add
    by_cases h : n = 0
    · simp [h]
    · simp [h]
  rw [e]
  exact cell_at hb (j * d.sz + i) hc
end Go.Proofs.YthfpdlfpbbhjhaaDoor.Mc
namespace Go.Proofs.YthfpdlfpbbhjhaaDoor.Mc
open Go.RowKit Go.Proofs.YthfpdlfpbbhjhaaDoor.PA Go.Proofs.YthfpdlfpbbhjhaaDoor.Pure Go.Proofs.MapFun Go.Proofs.YthfpdlfpbbhjhaaDoorW.PrintWords Go.Proofs.YthfpdlfpbbhjhaaDoorW.PrintLast Go.Proofs.YthfpdlfpbbhjhaaDoorW.PrintMore
set_option linter.unusedVariables false
def nmF : ByteArray := ⟨#[102]⟩
def iLab : S50 := ⟨15, 0, 0, 0, 0, false, 0, ⟨#[102]⟩⟩
def iRet : S50 := ⟨17, 0, 0, 0, 0, false, 0, ⟨#[]⟩⟩
def iMov (d s : Int) : S50 := ⟨2, d, s, 0, 0, false, 0, ⟨#[]⟩⟩
def iTwo (d s op : Int) : S50 := ⟨5, d, s, 0, 0, false, op, ⟨#[]⟩⟩
def hd2 : S28 := ⟨⟨#[102]⟩, 7, [7, 7], false, 0, []⟩
def l4 : List S50 := [iLab, iMov 0 7, iTwo 0 6 1, iRet]
def l3 : List S50 := [iLab, iMov 0 7, iTwo 0 6 1]
theorem t1 : rightP l4 [hd2] = true := by decide +kernel
theorem t2 : labAt l4 l4.length nmF.data.toList = some 0 := by decide +kernel
theorem t3 : findP [hd2] nmF = 0 := by decide +kernel
theorem t4 : (endP l4 [2, 3] 10 64 0).e = 0 := by decide +kernel
theorem t5 : (endP l4 [2, 3] 10 64 0).reg 0 = 5 := by decide +kernel
theorem t7 : (beginsG (st0 64 0) [2, 3] 64).e = 0 := by decide +kernel
instance (s : St) : Decidable (keptOk s) := by unfold keptOk; infer_instance
end Go.Proofs.YthfpdlfpbbhjhaaDoor.Mc
namespace Go.Proofs.YthfpdlfpbbhjhaaDoor.Mc
open Go.RowKit Go.Proofs.YthfpdlfpbbhjhaaDoor.PA Go.Proofs.YthfpdlfpbbhjhaaDoor.Pure Go.Proofs.MapFun Go.Proofs.YthfpdlfpbbhjhaaDoorW.PrintWords Go.Proofs.YthfpdlfpbbhjhaaDoorW.PrintLast Go.Proofs.YthfpdlfpbbhjhaaDoorW.PrintMore
set_option linter.unusedVariables false
set_option linter.unusedSimpArgs false
def c35l (x : S50) : List Value := [.int .i64 x.f0, .int .i64 x.f1, .int .i64 x.f2, .int .i64 x.f3, .int .i64 x.f4, .bool x.f5, .int .i64 x.f6, .string x.f7]
theorem lit35 (W : World) (xs : List S50) (hmax : xs.length ≤ maxLen) (cs : Array Value) (hcs : cs = (xs.map c35l).flatten.toArray) : Kd.C k50 (W.alloc (.cells cs 50)) (some ⟨W.heap.size, 0, none⟩) xs.length xs := by
  refine lit_C k50 W 50 xs (xs.map c35l) (by simp) (fun c hc => ?_) hmax cs hcs (fun j x c hx hc => ?_)
  · obtain ⟨x, _, rfl⟩ := List.mem_map.1 hc; rfl
  · rw [List.getElem?_map, hx] at hc
    obtain rfl := Option.some.inj hc
    exact k50_mk _ x
theorem lit40 (W : World) (c : S28) (cs : List Value) (hsz : cs.length = 6) (hK : Kd.K k28 (W.alloc (.cells cs.toArray 28)) c cs) : Kd.C k28 (W.alloc (.cells cs.toArray 28)) (some ⟨W.heap.size, 0, none⟩) 1 [c] := by
  refine lit_C k28 W 28 [c] [cs] rfl (fun c hc => ?_) (by simp [maxLen]) _ (by simp) (fun j x c' hx hc => ?_)
  · obtain rfl := List.mem_singleton.1 hc; exact hsz
  · match j, hx, hc with
    | 0, hx, hc =>
      obtain rfl := Option.some.inj hx
      obtain rfl := Option.some.inj hc
      exact hK
theorem regB_all {l : List S50} (h : l.all (fun x => decide (0 ≤ x.f1 ∧ x.f1 < 16 ∧ 0 ≤ x.f2 ∧ x.f2 < 16 ∧ -9223372036854775808 ≤ x.f3 ∧ x.f3 ≤ 9223372036854775807 ∧ x.f0 ≠ 13 ∧ x.f0 ≠ 14 ∧ x.f0 ≠ 16 ∧ x.f7.size ≤ 140737488351232)) = true) : ∀ x ∈ l, plainB x ∧ x.f7.size ≤ 140737488351232 := by
  intro x hx
  have := List.all_eq_true.1 h x hx
  simp only [decide_eq_true_eq] at this
  obtain ⟨h1, h2, h3, h4, h5, h6, h7, h8, h9, h10⟩ := this
  exact ⟨⟨⟨h1, h2, h3, h4⟩, ⟨h5, h6⟩, h7, h8, h9⟩, h10⟩
instance (x : S50) : Decidable (kindU x) := by unfold kindU; infer_instance
theorem C_none {α : Type} (d : Kd α) (w : World) : Kd.C d w none 0 [] := ⟨rfl, by decide, fun h => absurd h (by decide)⟩
end Go.Proofs.YthfpdlfpbbhjhaaDoor.Mc
namespace Go.Proofs.YthfpdlfpbbhjhaaDoor.Mc
open Go.RowKit Go.Proofs.YthfpdlfpbbhjhaaDoor.PA Go.Proofs.YthfpdlfpbbhjhaaDoor.Pure Go.Proofs.MapFun Go.Proofs.YthfpdlfpbbhjhaaDoorW.PrintWords Go.Proofs.YthfpdlfpbbhjhaaDoorW.PrintLast Go.Proofs.YthfpdlfpbbhjhaaDoorW.PrintMore
set_option linter.unusedVariables false
set_option linter.unusedSimpArgs false
def obs (s : St) : List Int := if s.e = 0 then [0, s.reg 0, s.reg 3, s.reg 5, s.reg 12, s.reg 13, s.reg 14, s.reg 15, s.reg 4] else [s.e]
theorem obs_ok {s : St} {v q : Int} (h : obs s = [0, v, 1, 2, 3, 4, 5, 6, q]) : s.e = 0 ∧ s.reg 0 = v ∧ keptOk s ∧ s.reg 4 = q := by
  unfold obs at h
  split at h
  · simp only [List.cons.injEq, true_and, and_true] at h
    obtain ⟨h0, h1, h2, h3, h4, h5, h6, h7⟩ := h
    exact ⟨by assumption, h0, ⟨h1, h2, h3, h4, h5, h6⟩, h7⟩
  · simp at h
def iLoad (d s n : Int) : S50 := ⟨3, d, s, n, 0, false, 0, ⟨#[]⟩⟩
def hdN (n : Nat) : S28 := ⟨⟨#[102]⟩, 7, List.replicate n 7, false, 0, []⟩
def lT (i : Nat) : List S50 := [iLab, if i < 6 then iMov 0 (givenN i) else iLoad 0 4 (8 + 8 * ((i : Int) - 6)), iRet]
def plainQ (x : S50) : Bool := decide (0 ≤ x.f1 ∧ x.f1 < 16 ∧ 0 ≤ x.f2 ∧ x.f2 < 16 ∧ -9223372036854775808 ≤ x.f3 ∧ x.f3 ≤ 9223372036854775807 ∧ x.f0 ≠ 13 ∧ x.f0 ≠ 14 ∧ x.f0 ≠ 16 ∧ x.f7.size ≤ 140737488351232)
def goodT (n i : Nat) : Bool := rightP (lT i) [hdN n] && (lT i).all plainQ && (lT i).all (fun x => decide (kindU x)) && (labAt (lT i) (lT i).length nmF.data.toList == some 0) && (findP [hdN n] nmF == 0)
theorem lT_good : ∀ n < 9, ∀ i < n, goodT n i = true := by decide +kernel
theorem toP7 {v : Int} (h : In64 v) : toP v 7 = v := by
  unfold In64 at h
  show conv 7 v = v
  show (v + 9223372036854775808) % 18446744073709551616 - 9223372036854775808 = v
  omega
theorem begT1 (a : Int) : (beginsG (st0 256 ((0 : Nat) : Int)) [a] 256).e = 0 ∧ (beginsG (st0 256 ((0 : Nat) : Int)) [a] 256).reg 4 = 248 := ⟨by kernel_rfl, by kernel_rfl⟩
theorem obsT1 (a : Int) : ∀ i, i < 1 → obs (endP (lT i) [a] 10 256 ((0 : Nat) : Int)) = [0, ([a] : List Int).getD i 0, 1, 2, 3, 4, 5, 6, 256]
  | 0, _ => by kernel_rfl
  | i + 1, h => absurd h (by omega)
theorem begT2 (a b : Int) : (beginsG (st0 256 ((0 : Nat) : Int)) [a, b] 256).e = 0 ∧ (beginsG (st0 256 ((0 : Nat) : Int)) [a, b] 256).reg 4 = 248 := ⟨by kernel_rfl, by kernel_rfl⟩
theorem obsT2 (a b : Int) : ∀ i, i < 2 → obs (endP (lT i) [a, b] 10 256 ((0 : Nat) : Int)) = [0, ([a, b] : List Int).getD i 0, 1, 2, 3, 4, 5, 6, 256]
  | 0, _ => by kernel_rfl
  | 1, _ => by kernel_rfl
  | i + 2, h => absurd h (by omega)
theorem begT3 (a b c : Int) : (beginsG (st0 256 ((0 : Nat) : Int)) [a, b, c] 256).e = 0 ∧ (beginsG (st0 256 ((0 : Nat) : Int)) [a, b, c] 256).reg 4 = 248 := ⟨by kernel_rfl, by kernel_rfl⟩
theorem obsT3 (a b c : Int) : ∀ i, i < 3 → obs (endP (lT i) [a, b, c] 10 256 ((0 : Nat) : Int)) = [0, ([a, b, c] : List Int).getD i 0, 1, 2, 3, 4, 5, 6, 256]
  | 0, _ => by kernel_rfl
  | 1, _ => by kernel_rfl
  | 2, _ => by kernel_rfl
  | i + 3, h => absurd h (by omega)
theorem begT4 (a b c d : Int) : (beginsG (st0 256 ((0 : Nat) : Int)) [a, b, c, d] 256).e = 0 ∧ (beginsG (st0 256 ((0 : Nat) : Int)) [a, b, c, d] 256).reg 4 = 248 := ⟨by kernel_rfl, by kernel_rfl⟩
theorem obsT4 (a b c d : Int) : ∀ i, i < 4 → obs (endP (lT i) [a, b, c, d] 10 256 ((0 : Nat) : Int)) = [0, ([a, b, c, d] : List Int).getD i 0, 1, 2, 3, 4, 5, 6, 256]
  | 0, _ => by kernel_rfl
  | 1, _ => by kernel_rfl
  | 2, _ => by kernel_rfl
  | 3, _ => by kernel_rfl
  | i + 4, h => absurd h (by omega)
theorem begT5 (a b c d e : Int) : (beginsG (st0 256 ((0 : Nat) : Int)) [a, b, c, d, e] 256).e = 0 ∧ (beginsG (st0 256 ((0 : Nat) : Int)) [a, b, c, d, e] 256).reg 4 = 248 := ⟨by kernel_rfl, by kernel_rfl⟩
theorem obsT5 (a b c d e : Int) : ∀ i, i < 5 → obs (endP (lT i) [a, b, c, d, e] 10 256 ((0 : Nat) : Int)) = [0, ([a, b, c, d, e] : List Int).getD i 0, 1, 2, 3, 4, 5, 6, 256]
  | 0, _ => by kernel_rfl
  | 1, _ => by kernel_rfl
  | 2, _ => by kernel_rfl
  | 3, _ => by kernel_rfl
  | 4, _ => by kernel_rfl
  | i + 5, h => absurd h (by omega)
theorem begT6 (a b c d e f : Int) : (beginsG (st0 256 ((0 : Nat) : Int)) [a, b, c, d, e, f] 256).e = 0 ∧ (beginsG (st0 256 ((0 : Nat) : Int)) [a, b, c, d, e, f] 256).reg 4 = 248 := ⟨by kernel_rfl, by kernel_rfl⟩
theorem obsT6 (a b c d e f : Int) : ∀ i, i < 6 → obs (endP (lT i) [a, b, c, d, e, f] 10 256 ((0 : Nat) : Int)) = [0, ([a, b, c, d, e, f] : List Int).getD i 0, 1, 2, 3, 4, 5, 6, 256]
  | 0, _ => by kernel_rfl
  | 1, _ => by kernel_rfl
  | 2, _ => by kernel_rfl
  | 3, _ => by kernel_rfl
  | 4, _ => by kernel_rfl
  | 5, _ => by kernel_rfl
  | i + 6, h => absurd h (by omega)
theorem begT7 (a b c d e f g : Int) : (beginsG (st0 256 ((0 : Nat) : Int)) [a, b, c, d, e, f, g] 256).e = 0 ∧ (beginsG (st0 256 ((0 : Nat) : Int)) [a, b, c, d, e, f, g] 256).reg 4 = 232 := ⟨by kernel_rfl, by kernel_rfl⟩
theorem obsT7 (a b c d e f g : Int) : ∀ i, i < 7 → obs (endP (lT i) [a, b, c, d, e, f, g] 10 256 ((0 : Nat) : Int)) = [0, ([a, b, c, d, e, f, g] : List Int).getD i 0, 1, 2, 3, 4, 5, 6, 240]
  | 0, _ => by kernel_rfl
  | 1, _ => by kernel_rfl
  | 2, _ => by kernel_rfl
  | 3, _ => by kernel_rfl
  | 4, _ => by kernel_rfl
  | 5, _ => by kernel_rfl
  | 6, _ => by kernel_rfl
  | i + 7, h => absurd h (by omega)
theorem begT8 (a b c d e f g h : Int) : (beginsG (st0 256 ((0 : Nat) : Int)) [a, b, c, d, e, f, g, h] 256).e = 0 ∧ (beginsG (st0 256 ((0 : Nat) : Int)) [a, b, c, d, e, f, g, h] 256).reg 4 = 232 := ⟨by kernel_rfl, by kernel_rfl⟩
theorem obsT8 (a b c d e f g h : Int) : ∀ i, i < 8 → obs (endP (lT i) [a, b, c, d, e, f, g, h] 10 256 ((0 : Nat) : Int)) = [0, ([a, b, c, d, e, f, g, h] : List Int).getD i 0, 1, 2, 3, 4, 5, 6, 240]
  | 0, _ => by kernel_rfl
  | 1, _ => by kernel_rfl
  | 2, _ => by kernel_rfl
  | 3, _ => by kernel_rfl
  | 4, _ => by kernel_rfl
  | 5, _ => by kernel_rfl
  | 6, _ => by kernel_rfl
  | 7, _ => by kernel_rfl
  | i + 8, h => absurd h (by omega)
theorem runT {n : Nat} (xs : List Int) (hl : xs.length = n) (hn : n < 9) (i : Nat) (hi : i < n) (hx : ∀ k, In64 (xs.getD k 0)) (q : Int) (hbeg : (beginsG (st0 256 ((0 : Nat) : Int)) xs 256).e = 0 ∧ (beginsG (st0 256 ((0 : Nat) : Int)) xs 256).reg 4 = q) (ho : obs (endP (lT i) xs 10 256 ((0 : Nat) : Int)) = [0, xs.getD i 0, 1, 2, 3, 4, 5, 6, wrap64 (q + 8)]) :
    ∃ ev, mach_Run.f (lT i) [hdN n] ⟨#[102]⟩ xs [] 10 256 = some (0, xs.getD i 0, ev) := by
  have hg := lT_good n hn i hi
  simp only [goodT, Bool.and_eq_true, beq_iff_eq, List.all_eq_true (p := fun x => decide (kindU x)), decide_eq_true_eq] at hg
  obtain ⟨⟨⟨⟨g1, g2⟩, g3⟩, g4⟩, g5⟩ := hg
  obtain ⟨o1, o2, o3, o4⟩ := obs_ok ho
  have hR : RunOk (lT i) [hdN n] ⟨#[102]⟩ xs [] 10 256 0 := {
    right := g1
    plain := regB_all g2
    kindsU := g3
    len := by show 3 ≤ 40000; decide
    names := by intro c hc; obtain rfl := List.mem_singleton.1 hc; show 1 ≤ 140737488351232; decide
    one := rfl
    find := g5
    lab := g4
    nsize := by decide
    few := by omega
    kinds := by rw [hl]; rfl
    ain := hx
    ret := rfl
    noscr := rfl
    steps0 := by decide
    steps1 := by decide
    stack0 := by decide
    stack1 := by decide
    stack16 := by decide
    beg := hbeg.1
    kept := fun _ => ⟨o3, by rw [o4, hbeg.2]⟩ }
  refine ⟨(endP (lT i) xs 10 256 ((0 : Nat) : Int)).ev, ?_⟩
  rw [mach_Run.eq hR, o1, if_pos rfl, o2, toP7 (hx i)]
theorem topT (xs : List Int) (h1 : xs.length ≤ 8) (i : Nat) (hi : i < xs.length) (hx : ∀ k, In64 (xs.getD k 0)) : ∃ ev, mach_Run.f (lT i) [hdN xs.length] ⟨#[102]⟩ xs [] 10 256 = some (0, xs.getD i 0, ev) := by
  match xs, h1, hi, hx with
  | [a], h1, hi, hx => exact runT (n := 1) [a] rfl (by decide) i hi hx 248 (begT1 a) (by rw [obsT1 a i hi, show wrap64 (248 + 8) = 256 by decide +kernel])
  | [a, b], h1, hi, hx => exact runT (n := 2) [a, b] rfl (by decide) i hi hx 248 (begT2 a b) (by rw [obsT2 a b i hi, show wrap64 (248 + 8) = 256 by decide +kernel])
  | [a, b, c], h1, hi, hx => exact runT (n := 3) [a, b, c] rfl (by decide) i hi hx 248 (begT3 a b c) (by rw [obsT3 a b c i hi, show wrap64 (248 + 8) = 256 by decide +kernel])
  | [a, b, c, d], h1, hi, hx => exact runT (n := 4) [a, b, c, d] rfl (by decide) i hi hx 248 (begT4 a b c d) (by rw [obsT4 a b c d i hi, show wrap64 (248 + 8) = 256 by decide +kernel])
  | [a, b, c, d, e], h1, hi, hx => exact runT (n := 5) [a, b, c, d, e] rfl (by decide) i hi hx 248 (begT5 a b c d e) (by rw [obsT5 a b c d e i hi, show wrap64 (248 + 8) = 256 by decide +kernel])
  | [a, b, c, d, e, f], h1, hi, hx => exact runT (n := 6) [a, b, c, d, e, f] rfl (by decide) i hi hx 248 (begT6 a b c d e f) (by rw [obsT6 a b c d e f i hi, show wrap64 (248 + 8) = 256 by decide +kernel])
  | [a, b, c, d, e, f, g], h1, hi, hx => exact runT (n := 7) [a, b, c, d, e, f, g] rfl (by decide) i hi hx 232 (begT7 a b c d e f g) (by rw [obsT7 a b c d e f g i hi, show wrap64 (232 + 8) = 240 by decide +kernel])
  | [a, b, c, d, e, f, g, h], h1, hi, hx => exact runT (n := 8) [a, b, c, d, e, f, g, h] rfl (by decide) i hi hx 232 (begT8 a b c d e f g h) (by rw [obsT8 a b c d e f g h i hi, show wrap64 (232 + 8) = 240 by decide +kernel])
  | [], h1, hi, hx => exact absurd hi (by simp)
  | _ :: _ :: _ :: _ :: _ :: _ :: _ :: _ :: _ :: _, h1, hi, hx => exact absurd h1 (by simp)
end Go.Proofs.YthfpdlfpbbhjhaaDoor.Mc
