import Derived.Test.YtgdkkcdmflopjaaDoorMK2
namespace Go.Proofs.YtgdkkcdmflopjaaDoor.Mc
open Go.RowKit Go.Proofs.YtgdkkcdmflopjaaDoor.PA Go.Proofs.YtgdkkcdmflopjaaDoor.Pure Go.Proofs.MapFun Go.Proofs.YtgdkkcdmflopjaaDoorW.PrintWords Go.Proofs.YtgdkkcdmflopjaaDoorW.PrintLast Go.Proofs.YtgdkkcdmflopjaaDoorW.PrintMore
set_option linter.unusedVariables false
set_option linter.unusedSimpArgs false
theorem make24 (stack : Int) (h0 : 16 ≤ stack) (h1 : stack ≤ 65536) (W : World) : (Instr.makeSlice 24 (.int .i64 (stack / 8)) (.int .i64 (stack / 8))).run Tryd.prog W = .ok (.slice (some ⟨W.heap.size, 0, none⟩) (stack / 8).toNat (stack / 8).toNat) (W.alloc (.cells (madeCells (Value.int .i64 0).cells (stack / 8).toNat) 2)) := by
  have h2 := info2
  cases hi : Tryd.prog.info? 2 with
  | none => rw [hi] at h2; simp at h2
  | some i =>
    rw [hi] at h2
    simp only [Option.map_some, Option.some.injEq, Prod.mk.injEq] at h2
    have := run_makeSlice (P := Tryd.prog) W 24 2 i (.int .i64 0) Tryd.underlying24 hi h2.1 .i64 .i64 (stack / 8) (stack / 8) (by omega) (Int.le_refl _) (by rw [h2.2.1]; omega) (by rw [h2.2.2]; omega) (by omega)
    rw [h2.2.1, Nat.mul_one] at this
    exact this
theorem run_fin {Z : Ct} {w w1 w5 : World} (hs1 : w1.heap.size = w.heap.size + 1) (ba : Below w.heap.size w w1) (e1 : Z.w0 = w1) (hb5 : Below w1.heap.size w1 w5) (hbl : w5.heap[w.heap.size]? = some (.cells #[.int .i64 0, .int .i64 0, .slice none 0 0] 29 (0, 0)))
    (e v : Int) (Av : Option Addr) (cv : Nat) (ev : List S69) (hev : EvOk Z w5 (.slice Av ev.length cv) ev) :
    (((w5.setCell ⟨w.heap.size, 0, none⟩ (.int .i64 e)).setCell ⟨w.heap.size, 1, none⟩ (.int .i64 v)).setCell ⟨w.heap.size, 2, none⟩ (.slice Av ev.length cv)).heap[w.heap.size]? = some (.cells #[.int .i64 e, .int .i64 v, .slice Av ev.length cv] 29 (0, 0)) ∧
    Kd.N k69 69 (((w5.setCell ⟨w.heap.size, 0, none⟩ (.int .i64 e)).setCell ⟨w.heap.size, 1, none⟩ (.int .i64 v)).setCell ⟨w.heap.size, 2, none⟩ (.slice Av ev.length cv)) w.heap.size (fun k_ => w.heap.size ≤ k_) (.slice Av ev.length cv) ev ∧
    Below w.heap.size w (((w5.setCell ⟨w.heap.size, 0, none⟩ (.int .i64 e)).setCell ⟨w.heap.size, 1, none⟩ (.int .i64 v)).setCell ⟨w.heap.size, 2, none⟩ (.slice Av ev.length cv)) := by
  unfold EvOk at hev
  rw [e1] at hev
  have h1 := Kd.R_lower (Kd.R_mono (Kd.R_bound hev) (ok' := fun k => w1.heap.size ≤ k) (fun k hk => hk.2.1)) (base' := w.heap.size) (by omega)
  refine ⟨by rw [heap_same (heap_same (heap_same hbl))]; rfl, ?_, ?_⟩
  · refine Kd.R_N (Kd.R_mono (Kd.R_far (p := ⟨w.heap.size, 2, none⟩) (Kd.R_far (p := ⟨w.heap.size, 1, none⟩) (Kd.R_far (p := ⟨w.heap.size, 0, none⟩) h1 ?_ _) ?_ _) ?_ _) ?_)
    · intro k hk; show k ≠ w.heap.size; omega
    · intro k hk; show k ≠ w.heap.size; omega
    · intro k hk; show k ≠ w.heap.size; omega
    · intro k hk; omega
  · have hb := ba.trans (hb5.mono ba.size)
    exact ((hb.setCell (p := ⟨w.heap.size, 0, none⟩) (Nat.le_refl _) _).setCell (p := ⟨w.heap.size, 1, none⟩) (Nat.le_refl _) _).setCell (p := ⟨w.heap.size, 2, none⟩) (Nat.le_refl _) _
set_option maxRecDepth 100000 in
set_option maxHeartbeats 8000000 in
theorem run2_calls (A0 : Option Addr) (c0 : Nat) (l0 : List S35) (A1 : Option Addr) (c1 : Nat) (c : S40) (a2 : ByteArray) (A3 : Option Addr) (c3 : Nat) (a b : Int) (A4 : Option Addr) (c4 : Nat) (a5 a6 : Int) (p : Nat) (w : World)
    (hr0 : Kd.C k35 w A0 l0.length l0) (hc0 : l0.length ≤ c0) (hr1 : Kd.C k40 w A1 1 [c]) (hc1 : 1 ≤ c1) (hr3 : Kd.C (Kd.int .i64) w A3 2 [a, b]) (hc3 : 2 ≤ c3) (hr4 : Kd.C (Kd.int .i64) w A4 0 []) (hT : Tab w)
    (h : RunOk l0 [c] a2 [a, b] [] a5 a6 p) :
    Calls Tryd.prog 9 #[.slice A0 l0.length c0, .slice A1 1 c1, .string a2, .slice A3 2 c3, .slice A4 0 c4, .int .i64 a5, .int .i64 a6] w fun e w' =>
      ∃ v2_ : Value, e = .returned (.agg #[.int .i64 (endP l0 [a, b] a5 a6 p).e, .int .i64 (if (endP l0 [a, b] a5 a6 p).e = 0 then toP ((endP l0 [a, b] a5 a6 p).reg 0) 7 else 0), v2_]) ∧ Kd.N k69 69 w' w.heap.size (fun k_ => (w.heap.size ≤ k_)) v2_ (endP l0 [a, b] a5 a6 p).ev ∧ Below w.heap.size w w' := by
  have ba : Below w.heap.size w (w.alloc (.cells #[.int .i64 0, .int .i64 0, .slice none 0 0] 29)) := (Below.refl _ _).alloc (Nat.le_refl _) _
  obtain ⟨w1, hw1⟩ : ∃ w1, w.alloc (.cells #[.int .i64 0, .int .i64 0, .slice none 0 0] 29) = w1 := ⟨_, rfl⟩
  have hres := alloc_at w #[.int .i64 0, .int .i64 0, .slice none 0 0] 29
  have hs1 : w1.heap.size = w.heap.size + 1 := by rw [← hw1]; show (w.heap.push _).size = _; simp
  rw [hw1] at ba hres
  have hr0 := Kd.C_below hr0 ba
  have hr1 := Kd.C_below hr1 ba
  have hr3 := Kd.C_below hr3 ba
  have hr4 := Kd.C_below hr4 ba
  have hT := hT.below ba
  have HR := Lib.hid ((right_calls A0 c0 l0 A1 c1 [c] w1 hr0 hc0 (fun x hx => (h.plain x hx).2) (by have := h.len; omega) hr1 hc1 h.names hT h.kindsU).mono (fun e w' (hp : RightPost l0 [c] w1 e w') => (show e = .returned (.tuple #[.map (some w1.heap.size), .bool true]) ∧ Below w1.heap.size w1 w' ∧ ∃ n, MapF Tryd.prog 9 Lit.string w' w1.heap.size n (labF l0 l0.length) by
    obtain ⟨hb, ⟨_, he, hm⟩ | ⟨hno, _⟩⟩ := hp
    · exact ⟨he, hb, hm⟩
    · rw [h.right] at hno; cases hno)))
  have HH := Lib.hid (And.intro h (And.intro ba (And.intro hres (And.intro hr0 (And.intro hr1 (And.intro hr3 (And.intro hr4 hT)))))))
  obtain ⟨ad, A2, c2, A5, c5, rfl, x0, x1, x2, x3, x4, x5, k1, k2, k3, k4⟩ := at_T40 hr1 0 (by omega) (by omega)
  have hrd : rd_T40 [c] 0 = c := rfl
  rw [hrd] at x0 x1 x2 x3 x4 x5 k1 k2
  have hk := h.kinds
  have hd : [c].getD 0 z40 = c := rfl
  rw [hd] at hk
  simp only [List.length_cons, List.length_nil, Nat.zero_add, Nat.reduceAdd] at hk
  rw [hk] at x2 k1 k2
  simp only [List.length_replicate] at x2 k1 k2
  have hret := h.ret
  rw [hd] at hret
  rw [hret] at x1
  have e0 : ad.add 0 = ad := by cases ad; rfl
  simp only [Int.toNat_zero, Nat.zero_mul, e0] at x0 x1 x2 x3 x4 x5
  clear e0
  have hnm := h.nsize
  have hst0 := h.stack0
  have hst1 := h.stack1
  have hst6 := h.stack16
  have hs0 := h.steps0
  have hs9 := h.steps1
  have hmk := make24 a6 hst0 hst1
  have K2 := Lib.hid (And.intro k1 k2)
  have HS1 := Lib.hid hs1
  obtain ⟨N, rfl⟩ : ∃ N : Nat, a5 = N := ⟨a5.toNat, by omega⟩
  clear hs1 h ba hres hr0 hr1 hr3 hr4 hT k1 k2 k3 k4 hrd hk hd hret
  obtain ⟨t, ht⟩ : ∃ t, endP l0 [a, b] N a6 p = t := ⟨_, rfl⟩
  rw [ht]
  have HTT := Lib.hid ht
  clear ht
  by_cases he : t.e = 0
  · rw [if_pos he]
    have hkk := HH.out.1.kept
    rw [HTT.out] at hkk
    have HKK := Lib.hid (hkk he)
    have HE := Lib.hid he
    have HIN := Lib.hid (show In64 (t.reg 0) from by rw [← HTT.out]; exact (goesP_wf (fun x hx => (HH.out.1.plain x hx).1) _ _ (beginsP_wf (st0_wf a6 p) _ HH.out.1.ain a6 (by unfold In64; omega)) (by rw [beginsP_pc]; show (0 : Int) ≤ (p : Int); omega)).r 0)
    clear he hkk
    go_enter Tryd.func9, Tryd.ntmps9
    go_wp2_with (first
      | (go_at_call 19; (try rw [hw1]); refine HR.out.mono ?_; rintro e w2 ⟨rfl, hb, n, hM⟩; have H2 := Lib.hid (And.intro hb hM); clear hb hM)
      | (go_at_call 20; refine (find_calls (some ad) c1 [c] a2 _ (Kd.C_below HH.out.2.2.2.2.1 H2.out.1) hc1).mono ?_; (rw [HH.out.1.find]); rintro e w3 ⟨rfl, hb3⟩; have hM3 := H2.out.2.block (hb3.block _ H2.out.2.lt); have hb13 := H2.out.1.trans (hb3.mono H2.out.1.size);
          have hlk := hM3.look_ok law9 Tryd.underlying54 (zero54 _) (Go.WideMaps.keyOf_string_mk (s := a2) Tryd.underlying9 (by unfold maxLen; omega)); (rw [show labF l0 l0.length a2.data.toList = some (.int .i64 (p : Int)) from by unfold labF; rw [HH.out.1.lab]; rfl] at hlk); dsimp only [Option.getD, Option.isSome] at hlk;
          have kx : ∀ {q : Addr} {v : Value}, w1.cell? q = some v → w3.cell? q = some v := fun {q v} h => (hb13.cell (World.block_lt_of_cell? w1 _ h)).trans h;
          have y0 := kx x0; have y1 := kx x1; have y2 := kx x2; have y3 := kx x3; have y4 := kx x4; have y5 := kx x5;
          obtain ⟨Z, OZ, e1, e2, e3, hm⟩ := mac_made w1 w3 hb13 A0 c0 l0 HH.out.2.2.2.1 hc0 (some ad) c1 [c] HH.out.2.2.2.2.1 hc1 A4 c4 HH.out.2.2.2.2.2.2.1 n hM3 a6 hst0 hst1 p;
          simp only [Value.cells, mkCells, List.length_cons, List.length_nil, Nat.zero_add, Nat.reduceAdd] at hm;
          obtain ⟨W, hW⟩ : ∃ W, W = _ := ⟨_, rfl⟩;
          have bW : Below w3.heap.size w3 W := (by rw [hW]; exact ((Below.refl _ _).alloc (Nat.le_refl _) (.cells (madeCells #[.int .i64 0] (a6 / 8).toNat) 2)).alloc (by show w3.heap.size ≤ (w3.heap.push _).size; simp) (.cells #[.slice A0 l0.length c0, .map (some w1.heap.size), .slice (some ad) 1 c1, .int .i64 0, .int .i64 0, .int .i64 0, .int .i64 0, .int .i64 0, .int .i64 0, .int .i64 0, .int .i64 0, .int .i64 0, .int .i64 0, .int .i64 0, .int .i64 0, .int .i64 0, .int .i64 0, .int .i64 0, .int .i64 0, .slice (some ⟨w3.heap.size, 0, none⟩) (a6 / 8).toNat (a6 / 8).toNat, .int .i64 p, .pointer none, .slice A4 0 c4, .slice none 0 0, .int .i64 0] 63));
          have kz : ∀ {q : Addr} {v : Value}, w3.cell? q = some v → W.cell? q = some v := fun {q v} h => (bW.cell (World.block_lt_of_cell? w3 _ h)).trans h;
          have z0 := kz y0; have z1 := kz y1; have z2 := kz y2; have z3 := kz y3; have z4 := kz y4; have z5 := kz y5; (rw [hW] at z0 z1 z2 z3 z4 z5);
          have HB := Lib.hid (begins2_calls Z OZ (st0 a6 p) _ hm (by rw [e1]; exact HH.out.2.2.2.2.2.2.2) a b A3 c3 (by rw [e1]; exact HH.out.2.2.2.2.2.1) hc3 A2 c2 (by rw [e1]; exact K2.out.2) K2.out.1 c.f0 7 c.f4 c.f3 (.slice A5 c.f5.length c5) a6 (by omega) hst1 HH.out.1.beg HH.out.1.ain);
          have HZ := Lib.hid (And.intro OZ (And.intro e1 (And.intro e2 e3))); clear hm bW kz hM3 hb3 hb13 kx OZ e1 e2 e3 hW)
      | (go_at_call 21; have hB0 := HB.out; (rw [HZ.out.2.2.1] at hB0); refine hB0.mono ?_; rintro e w4 ⟨rfl, hM4⟩; have c7 := hM4.reg 4 (by omega); (rw [HZ.out.2.2.1] at c7); (simp only [Nat.reduceAdd] at c7); have H4 := Lib.hid hM4; clear hM4 hB0)
      | (go_at_call 22; have hG := goes_calls Z HZ.out.1 _ w4 H4.out (beginsP_wf (st0_wf a6 p) _ HH.out.1.ain a6 (by unfold In64; omega)) (by rw [beginsP_pc]; show (0 : Int) ≤ (p : Int); omega) N (by omega) (by rw [HZ.out.2.2.2]; exact HH.out.1.len) (by rw [HZ.out.2.2.2]; exact fun x hx => (HH.out.1.plain x hx).1); (rw [HZ.out.2.2.1, HZ.out.2.2.2, ← endP_nat, HTT.out] at hG); refine hG.mono ?_; rintro e w5 ⟨⟨u, rfl⟩, hM5⟩; have hb5 := hM5.below; (rw [HZ.out.2.1] at hb5); have cE := hM5.cE; (rw [HZ.out.2.2.1] at cE); (rw [HE.out] at cE); have H5 := Lib.hid hM5; clear hM5 hb5)
      | (go_at_call 23; have hK := keeps_calls Z HZ.out.1 t w5 H5.out (HH.out.2.2.2.2.2.2.2.to (by have := H5.out.below; rw [HZ.out.2.1] at this; exact this) HH.out.2.2.2.2.2.2.2.size) HKK.out.1 _ HKK.out.2; (rw [HZ.out.2.2.1] at hK); refine hK.mono ?_; rintro e w6 ⟨rfl, hb6⟩; have hM6 := H5.out.step HZ.out.1 hb6; have hb5 := hM6.below; (rw [HZ.out.2.1] at hb5); have cE6 := hM6.cE; have cR6 := hM6.reg 0 (by omega); (rw [HZ.out.2.2.1] at cE6 cR6); (rw [HE.out] at cE6); (simp only [Nat.add_zero] at cR6); obtain ⟨fv, sv, evv, hV⟩ := hM6; have cV := hV.cEv; (rw [HZ.out.2.2.1] at cV); have hev := hV.ev; obtain ⟨Av, cv, rfl, _, _⟩ := Kd.R_reads hev; have hbl := hb5.block w.heap.size (by rw [HS1.out]; omega); (rw [HH.out.2.2.1] at hbl); have q7 := (hb5.cell (World.block_lt_of_cell? w1 _ x1)).trans x1; have g0 := cell_at hbl 0 (v := .int .i64 0) rfl; have g1 := cell_at hbl 1 (v := .int .i64 0) rfl; have g2 := cell_at hbl 2 (v := .slice none 0 0) rfl; have gf := fun i => fz_at hbl i; have gf0 := gf 0; have gf1 := gf 1; have gf2 := gf 2; have H6 := Lib.hid (And.intro hev (And.intro hb5 hbl)); clear hev hb5 hbl hV gf hK hb6))
    refine start_ (n := 15) (S := fun w' => w'.cell? ⟨w3.heap.size + 1, 3, none⟩ = some (.int .i64 (t.reg 0)) ∧ w'.cell? ⟨ad.block, ad.off + 1, none⟩ = some (.int .i64 7)) (ds := [10]) #[false, false, false, false, false, false, false, false, false, false, false, false, false, false, false] (by kernel_rfl) rfl rfl ⟨cR6, q7⟩ (fun hHeld => ?_)
    refine pure_ (i := 0) (N := some 129) (v := ?_) (a' := ?_) #[true, false, false, false, false, false, false, false, false, false, false, false, false, false, false] rfl rfl (by kernel_rfl) (fun _ _ _ h => h) (Or.inl ⟨by rfl, ?_⟩) ?_ ?_
    rotate_left
    · intro w'
      go_simp
      with_reducible rfl
    rotate_left
    · simp only [Act.put, List.setIfInBounds_toArray, List.set_cons_zero, List.set_cons_succ, i64_w, i32_w]
      rfl
    refine pure_ (i := 1) (N := some 130) (v := ?_) (a' := ?_) #[true, true, false, false, false, false, false, false, false, false, false, false, false, false, false] rfl rfl (by kernel_rfl) (fun _ _ _ h => h) (Or.inl ⟨by rfl, ?_⟩) ?_ ?_
    rotate_left
    · intro w'
      go_simp
      with_reducible rfl
    rotate_left
    · simp only [Act.put, List.setIfInBounds_toArray, List.set_cons_zero, List.set_cons_succ, i64_w, i32_w]
      rfl
    refine pure_ (i := 2) (N := some 131) (v := ?_) (a' := ?_) #[true, true, true, false, false, false, false, false, false, false, false, false, false, false, false] rfl rfl (by kernel_rfl) (fun _ _ _ h => h) (Or.inl ⟨by rfl, ?_⟩) ?_ ?_
    rotate_left
    · intro w'
      go_simp
      with_reducible rfl
    rotate_left
    · simp only [Act.put, List.setIfInBounds_toArray, List.set_cons_zero, List.set_cons_succ, i64_w, i32_w]
      rfl
    refine pure_ (i := 3) (N := some 132) (v := ?_) (a' := ?_) #[true, true, true, true, false, false, false, false, false, false, false, false, false, false, false] rfl rfl (by kernel_rfl) (fun _ _ _ h => h) (Or.inl ⟨by rfl, ?_⟩) ?_ ?_
    rotate_left
    · intro w'
      go_simp
      with_reducible rfl
    rotate_left
    · simp only [Act.put, List.setIfInBounds_toArray, List.set_cons_zero, List.set_cons_succ, i64_w, i32_w]
      rfl
    refine pure_ (i := 5) (N := some 134) (v := ?_) (a' := ?_) #[true, true, true, true, false, true, false, false, false, false, false, false, false, false, false] rfl rfl (by kernel_rfl) (fun _ _ _ h => h) (Or.inl ⟨by rfl, ?_⟩) ?_ ?_
    rotate_left
    · intro w'
      go_simp
      with_reducible rfl
    rotate_left
    · simp only [Act.put, List.setIfInBounds_toArray, List.set_cons_zero, List.set_cons_succ, i64_w, i32_w]
      rfl
    refine pure_ (i := 6) (N := some 135) (v := ?_) (a' := ?_) #[true, true, true, true, false, true, true, false, false, false, false, false, false, false, false] rfl rfl (by kernel_rfl) (fun _ _ _ h => h) (Or.inl ⟨by rfl, ?_⟩) ?_ ?_
    rotate_left
    · intro w'
      go_simp
      with_reducible rfl
    rotate_left
    · simp only [Act.put, List.setIfInBounds_toArray, List.set_cons_zero, List.set_cons_succ, i64_w, i32_w]
      rfl
    refine pure_ (i := 7) (N := some 136) (v := ?_) (a' := ?_) #[true, true, true, true, false, true, true, true, false, false, false, false, false, false, false] rfl rfl (by kernel_rfl) (fun _ _ _ h => h) (Or.inl ⟨by rfl, ?_⟩) ?_ ?_
    rotate_left
    · intro w'
      go_simp
      with_reducible rfl
    rotate_left
    · simp only [Act.put, List.setIfInBounds_toArray, List.set_cons_zero, List.set_cons_succ, i64_w, i32_w]
      rfl
    refine pure_ (i := 8) (N := some 137) (v := ?_) (a' := ?_) #[true, true, true, true, false, true, true, true, true, false, false, false, false, false, false] rfl rfl (by kernel_rfl) (fun _ _ _ h => h) (Or.inl ⟨by rfl, ?_⟩) ?_ ?_
    rotate_left
    · intro w'
      go_simp
      with_reducible rfl
    rotate_left
    · simp only [Act.put, List.setIfInBounds_toArray, List.set_cons_zero, List.set_cons_succ, i64_w, i32_w]
      rfl
    refine take_ (i := 4) (N := some 133) (v := ?_) (a' := ?_) #[true, true, true, true, true, true, true, true, true, false, false, false, false, false, false] rfl rfl (by kernel_rfl) (fun _ _ _ h => h) (Or.inl ⟨by rfl, ?_⟩) hHeld ?_ ?_
    rotate_left
    · rintro w' ⟨s0, s1⟩
      go_simp
      with_reducible rfl
    rotate_left
    · simp only [Act.put, List.setIfInBounds_toArray, List.set_cons_zero, List.set_cons_succ, i64_w, i32_w]
      rfl
    refine take_ (i := 9) (N := some 138) (v := ?_) (a' := ?_) #[true, true, true, true, true, true, true, true, true, true, false, false, false, false, false] rfl rfl (by kernel_rfl) (fun _ _ _ h => h) (Or.inl ⟨by rfl, ?_⟩) hHeld ?_ ?_
    rotate_left
    · rintro w' ⟨s0, s1⟩
      go_simp
      with_reducible rfl
    rotate_left
    · simp only [Act.put, List.setIfInBounds_toArray, List.set_cons_zero, List.set_cons_succ, i64_w, i32_w]
      rfl
    refine last_ (i := 10) (N := some 139) #[true, true, true, true, true, true, true, true, true, true, true, false, false, false, false] rfl rfl (by kernel_rfl) (by decide) (fun K hK => ?_)
    refine goes_ Tryd.func24 (by kernel_rfl) rfl #[.int .i64 (t.reg 0), .int .i64 7] (by rfl) rfl rfl (by simp only [List.map_toArray, List.map_cons, List.map_nil]; rfl) ?_
    with_reducible refine (to_c (t.reg 0) 7 _ HIN.out).mono ?_
    rintro e w7 ⟨u7, rfl, n7, rfl⟩
    refine ⟨_, rfl, ?_⟩
    refine hK.out _ _ ?_
    clear hK K
    refine norm_ (a' := ?_) ?_ ?_
    rotate_left
    · show Act.put _ (some 139) _ = _
      simp only [Act.put, List.setIfInBounds_toArray, List.set_cons_zero, List.set_cons_succ, i64_w, i32_w]
      rfl
    refine pure_ (i := 11) (N := some 128) (v := ?_) (a' := ?_) #[true, true, true, true, true, true, true, true, true, true, true, true, false, false, false] rfl rfl (by kernel_rfl) (fun _ _ _ h => h) (Or.inl ⟨by rfl, ?_⟩) ?_ ?_
    rotate_left
    · intro w'
      go_simp
      with_reducible rfl
    rotate_left
    · simp only [Act.put, List.setIfInBounds_toArray, List.set_cons_zero, List.set_cons_succ, i64_w, i32_w]
      rfl
    refine pure_ (i := 12) (N := some 140) (v := ?_) (a' := ?_) #[true, true, true, true, true, true, true, true, true, true, true, true, true, false, false] rfl rfl (by kernel_rfl) (fun _ _ _ h => h) (Or.inl ⟨by rfl, ?_⟩) ?_ ?_
    rotate_left
    · intro w'
      go_simp
      with_reducible rfl
    rotate_left
    · simp only [Act.put, List.setIfInBounds_toArray, List.set_cons_zero, List.set_cons_succ, i64_w, i32_w]
      rfl
    refine pure_ (i := 13) (N := some 141) (v := ?_) (a' := ?_) #[true, true, true, true, true, true, true, true, true, true, true, true, true, true, false] rfl rfl (by kernel_rfl) (fun _ _ _ h => h) (Or.inl ⟨by rfl, ?_⟩) ?_ ?_
    rotate_left
    · intro w'
      go_simp
      with_reducible rfl
    rotate_left
    · simp only [Act.put, List.setIfInBounds_toArray, List.set_cons_zero, List.set_cons_succ, i64_w, i32_w]
      rfl
    refine pure_ (i := 14) (N := some 22) (v := ?_) (a' := ?_) #[true, true, true, true, true, true, true, true, true, true, true, true, true, true, true] rfl rfl (by kernel_rfl) (fun _ _ _ h => h) (Or.inl ⟨by rfl, ?_⟩) ?_ ?_
    rotate_left
    · intro w'
      go_simp
      with_reducible rfl
    rotate_left
    · simp only [Act.put, List.setIfInBounds_toArray, List.set_cons_zero, List.set_cons_succ, i64_w, i32_w]
      rfl
    refine done_ (by kernel_rfl) ?_
    go_wp2
    go_region
    go_wp2
    have hf := run_fin HS1.out HH.out.2.1 HZ.out.2.1 (w5 := w6.drewN (1 + n7 + 1)) (pw_below_drewN H6.out.2.1 _) H6.out.2.2 0 (toP (t.reg 0) 7) Av cv t.ev (Kd.R_drewN H6.out.1 _)
    rw [HE.out]
    refine bodyPost_ret (results_cell_row rfl _ _ w.heap.size 29 #[.int .i64 0, .int .i64 (toP (t.reg 0) 7), .slice Av t.ev.length cv] (0, 0) _ rfl hf.1 Tryd.underlying29 rfl (by kernel_rfl)) rfl ?_
    exact ⟨_, rfl, hf.2.1, hf.2.2⟩
  · rw [if_neg he]
    go_enter Tryd.func9, Tryd.ntmps9
    go_wp2_with (first
      | (go_at_call 19; (try rw [hw1]); refine HR.out.mono ?_; rintro e w2 ⟨rfl, hb, n, hM⟩; have H2 := Lib.hid (And.intro hb hM); clear hb hM)
      | (go_at_call 20; refine (find_calls (some ad) c1 [c] a2 _ (Kd.C_below HH.out.2.2.2.2.1 H2.out.1) hc1).mono ?_; (rw [HH.out.1.find]); rintro e w3 ⟨rfl, hb3⟩; have hM3 := H2.out.2.block (hb3.block _ H2.out.2.lt); have hb13 := H2.out.1.trans (hb3.mono H2.out.1.size);
          have hlk := hM3.look_ok law9 Tryd.underlying54 (zero54 _) (Go.WideMaps.keyOf_string_mk (s := a2) Tryd.underlying9 (by unfold maxLen; omega)); (rw [show labF l0 l0.length a2.data.toList = some (.int .i64 (p : Int)) from by unfold labF; rw [HH.out.1.lab]; rfl] at hlk); dsimp only [Option.getD, Option.isSome] at hlk;
          have kx : ∀ {q : Addr} {v : Value}, w1.cell? q = some v → w3.cell? q = some v := fun {q v} h => (hb13.cell (World.block_lt_of_cell? w1 _ h)).trans h;
          have y0 := kx x0; have y1 := kx x1; have y2 := kx x2; have y3 := kx x3; have y4 := kx x4; have y5 := kx x5;
          obtain ⟨Z, OZ, e1, e2, e3, hm⟩ := mac_made w1 w3 hb13 A0 c0 l0 HH.out.2.2.2.1 hc0 (some ad) c1 [c] HH.out.2.2.2.2.1 hc1 A4 c4 HH.out.2.2.2.2.2.2.1 n hM3 a6 hst0 hst1 p;
          simp only [Value.cells, mkCells, List.length_cons, List.length_nil, Nat.zero_add, Nat.reduceAdd] at hm;
          obtain ⟨W, hW⟩ : ∃ W, W = _ := ⟨_, rfl⟩;
          have bW : Below w3.heap.size w3 W := (by rw [hW]; exact ((Below.refl _ _).alloc (Nat.le_refl _) (.cells (madeCells #[.int .i64 0] (a6 / 8).toNat) 2)).alloc (by show w3.heap.size ≤ (w3.heap.push _).size; simp) (.cells #[.slice A0 l0.length c0, .map (some w1.heap.size), .slice (some ad) 1 c1, .int .i64 0, .int .i64 0, .int .i64 0, .int .i64 0, .int .i64 0, .int .i64 0, .int .i64 0, .int .i64 0, .int .i64 0, .int .i64 0, .int .i64 0, .int .i64 0, .int .i64 0, .int .i64 0, .int .i64 0, .int .i64 0, .slice (some ⟨w3.heap.size, 0, none⟩) (a6 / 8).toNat (a6 / 8).toNat, .int .i64 p, .pointer none, .slice A4 0 c4, .slice none 0 0, .int .i64 0] 63));
          have kz : ∀ {q : Addr} {v : Value}, w3.cell? q = some v → W.cell? q = some v := fun {q v} h => (bW.cell (World.block_lt_of_cell? w3 _ h)).trans h;
          have z0 := kz y0; have z1 := kz y1; have z2 := kz y2; have z3 := kz y3; have z4 := kz y4; have z5 := kz y5; (rw [hW] at z0 z1 z2 z3 z4 z5);
          have HB := Lib.hid (begins2_calls Z OZ (st0 a6 p) _ hm (by rw [e1]; exact HH.out.2.2.2.2.2.2.2) a b A3 c3 (by rw [e1]; exact HH.out.2.2.2.2.2.1) hc3 A2 c2 (by rw [e1]; exact K2.out.2) K2.out.1 c.f0 7 c.f4 c.f3 (.slice A5 c.f5.length c5) a6 (by omega) hst1 HH.out.1.beg HH.out.1.ain);
          have HZ := Lib.hid (And.intro OZ (And.intro e1 (And.intro e2 e3))); clear hm bW kz hM3 hb3 hb13 kx OZ e1 e2 e3 hW)
      | (go_at_call 21; have hB0 := HB.out; (rw [HZ.out.2.2.1] at hB0); refine hB0.mono ?_; rintro e w4 ⟨rfl, hM4⟩; have c7 := hM4.reg 4 (by omega); (rw [HZ.out.2.2.1] at c7); (simp only [Nat.reduceAdd] at c7); have H4 := Lib.hid hM4; clear hM4 hB0)
      | (go_at_call 22; have hG := goes_calls Z HZ.out.1 _ w4 H4.out (beginsP_wf (st0_wf a6 p) _ HH.out.1.ain a6 (by unfold In64; omega)) (by rw [beginsP_pc]; show (0 : Int) ≤ (p : Int); omega) N (by omega) (by rw [HZ.out.2.2.2]; exact HH.out.1.len) (by rw [HZ.out.2.2.2]; exact fun x hx => (HH.out.1.plain x hx).1); (rw [HZ.out.2.2.1, HZ.out.2.2.2, ← endP_nat, HTT.out] at hG); refine hG.mono ?_; rintro e w5 ⟨⟨u, rfl⟩, hM5⟩; have hb5 := hM5.below; (rw [HZ.out.2.1] at hb5); have cE := hM5.cE; (rw [HZ.out.2.2.1] at cE); have fE := hM5.fz 24; obtain ⟨fv, sv, evv, hV⟩ := hM5; have cV := hV.cEv; (rw [HZ.out.2.2.1] at cV fE); have hev := hV.ev; obtain ⟨Av, cv, rfl, _, _⟩ := Kd.R_reads hev; have hbl := hb5.block w.heap.size (by rw [HS1.out]; omega); (rw [HH.out.2.2.1] at hbl); have g0 := cell_at hbl 0 (v := .int .i64 0) rfl; have g1 := cell_at hbl 1 (v := .int .i64 0) rfl; have g2 := cell_at hbl 2 (v := .slice none 0 0) rfl; have gf := fun i => fz_at hbl i; have gf0 := gf 0; have gf1 := gf 1; have gf2 := gf 2; have H5 := Lib.hid (And.intro hev (And.intro hb5 hbl)); clear hev hb5 hbl hV gf))
    go_region
    go_wp2
    have hf := run_fin HS1.out HH.out.2.1 HZ.out.2.1 H5.out.2.1 H5.out.2.2 t.e 0 Av cv t.ev H5.out.1
    refine bodyPost_ret (results_cell_row rfl _ _ w.heap.size 29 #[.int .i64 t.e, .int .i64 0, .slice Av t.ev.length cv] (0, 0) _ rfl hf.1 Tryd.underlying29 rfl (by kernel_rfl)) rfl ?_
    exact ⟨_, rfl, Kd.N_drew hf.2.1, below_drew1 hf.2.2⟩
set_option maxRecDepth 100000 in
set_option maxHeartbeats 8000000 in
theorem run0_calls (A0 : Option Addr) (c0 : Nat) (l0 : List S35) (A1 : Option Addr) (c1 : Nat) (c : S40) (a2 : ByteArray) (A3 : Option Addr) (c3 : Nat) (A4 : Option Addr) (c4 : Nat) (a5 a6 : Int) (p : Nat) (w : World)
    (hr0 : Kd.C k35 w A0 l0.length l0) (hc0 : l0.length ≤ c0) (hr1 : Kd.C k40 w A1 1 [c]) (hc1 : 1 ≤ c1) (hr3 : Kd.C (Kd.int .i64) w A3 0 ([] : List Int)) (hc3 : 0 ≤ c3) (hr4 : Kd.C (Kd.int .i64) w A4 0 []) (hT : Tab w)
    (h : RunOk l0 [c] a2 ([] : List Int) [] a5 a6 p) :
    Calls Tryd.prog 9 #[.slice A0 l0.length c0, .slice A1 1 c1, .string a2, .slice A3 0 c3, .slice A4 0 c4, .int .i64 a5, .int .i64 a6] w fun e w' =>
      ∃ v2_ : Value, e = .returned (.agg #[.int .i64 (endP l0 ([] : List Int) a5 a6 p).e, .int .i64 (if (endP l0 ([] : List Int) a5 a6 p).e = 0 then toP ((endP l0 ([] : List Int) a5 a6 p).reg 0) 7 else 0), v2_]) ∧ Kd.N k69 69 w' w.heap.size (fun k_ => (w.heap.size ≤ k_)) v2_ (endP l0 ([] : List Int) a5 a6 p).ev ∧ Below w.heap.size w w' := by
  have ba : Below w.heap.size w (w.alloc (.cells #[.int .i64 0, .int .i64 0, .slice none 0 0] 29)) := (Below.refl _ _).alloc (Nat.le_refl _) _
  obtain ⟨w1, hw1⟩ : ∃ w1, w.alloc (.cells #[.int .i64 0, .int .i64 0, .slice none 0 0] 29) = w1 := ⟨_, rfl⟩
  have hres := alloc_at w #[.int .i64 0, .int .i64 0, .slice none 0 0] 29
  have hs1 : w1.heap.size = w.heap.size + 1 := by rw [← hw1]; show (w.heap.push _).size = _; simp
  rw [hw1] at ba hres
  have hr0 := Kd.C_below hr0 ba
  have hr1 := Kd.C_below hr1 ba
  have hr3 := Kd.C_below hr3 ba
  have hr4 := Kd.C_below hr4 ba
  have hT := hT.below ba
  have HR := Lib.hid ((right_calls A0 c0 l0 A1 c1 [c] w1 hr0 hc0 (fun x hx => (h.plain x hx).2) (by have := h.len; omega) hr1 hc1 h.names hT h.kindsU).mono (fun e w' (hp : RightPost l0 [c] w1 e w') => (show e = .returned (.tuple #[.map (some w1.heap.size), .bool true]) ∧ Below w1.heap.size w1 w' ∧ ∃ n, MapF Tryd.prog 9 Lit.string w' w1.heap.size n (labF l0 l0.length) by
    obtain ⟨hb, ⟨_, he, hm⟩ | ⟨hno, _⟩⟩ := hp
    · exact ⟨he, hb, hm⟩
    · rw [h.right] at hno; cases hno)))
  have HH := Lib.hid (And.intro h (And.intro ba (And.intro hres (And.intro hr0 (And.intro hr1 (And.intro hr3 (And.intro hr4 hT)))))))
  obtain ⟨ad, A2, c2, A5, c5, rfl, x0, x1, x2, x3, x4, x5, k1, k2, k3, k4⟩ := at_T40 hr1 0 (by omega) (by omega)
  have hrd : rd_T40 [c] 0 = c := rfl
  rw [hrd] at x0 x1 x2 x3 x4 x5 k1 k2
  have hk := h.kinds
  have hd : [c].getD 0 z40 = c := rfl
  rw [hd] at hk
  simp only [List.length_cons, List.length_nil, Nat.zero_add, Nat.reduceAdd] at hk
  rw [hk] at x2 k1 k2
  simp only [List.length_replicate] at x2 k1 k2
  have hret := h.ret
  rw [hd] at hret
  rw [hret] at x1
  have e0 : ad.add 0 = ad := by cases ad; rfl
  simp only [Int.toNat_zero, Nat.zero_mul, e0] at x0 x1 x2 x3 x4 x5
  clear e0
  have hnm := h.nsize
  have hst0 := h.stack0
  have hst1 := h.stack1
  have hst6 := h.stack16
  have hs0 := h.steps0
  have hs9 := h.steps1
  have hmk := make24 a6 hst0 hst1
  have K2 := Lib.hid (And.intro k1 k2)
  have HS1 := Lib.hid hs1
  obtain ⟨N, rfl⟩ : ∃ N : Nat, a5 = N := ⟨a5.toNat, by omega⟩
  clear hs1 h ba hres hr0 hr1 hr3 hr4 hT k1 k2 k3 k4 hrd hk hd hret
  obtain ⟨t, ht⟩ : ∃ t, endP l0 ([] : List Int) N a6 p = t := ⟨_, rfl⟩
  rw [ht]
  have HTT := Lib.hid ht
  clear ht
  by_cases he : t.e = 0
  · rw [if_pos he]
    have hkk := HH.out.1.kept
    rw [HTT.out] at hkk
    have HKK := Lib.hid (hkk he)
    have HE := Lib.hid he
    have HIN := Lib.hid (show In64 (t.reg 0) from by rw [← HTT.out]; exact (goesP_wf (fun x hx => (HH.out.1.plain x hx).1) _ _ (beginsP_wf (st0_wf a6 p) _ HH.out.1.ain a6 (by unfold In64; omega)) (by rw [beginsP_pc]; show (0 : Int) ≤ (p : Int); omega)).r 0)
    clear he hkk
    go_enter Tryd.func9, Tryd.ntmps9
    go_wp2_with (first
      | (go_at_call 19; (try rw [hw1]); refine HR.out.mono ?_; rintro e w2 ⟨rfl, hb, n, hM⟩; have H2 := Lib.hid (And.intro hb hM); clear hb hM)
      | (go_at_call 20; refine (find_calls (some ad) c1 [c] a2 _ (Kd.C_below HH.out.2.2.2.2.1 H2.out.1) hc1).mono ?_; (rw [HH.out.1.find]); rintro e w3 ⟨rfl, hb3⟩; have hM3 := H2.out.2.block (hb3.block _ H2.out.2.lt); have hb13 := H2.out.1.trans (hb3.mono H2.out.1.size);
          have hlk := hM3.look_ok law9 Tryd.underlying54 (zero54 _) (Go.WideMaps.keyOf_string_mk (s := a2) Tryd.underlying9 (by unfold maxLen; omega)); (rw [show labF l0 l0.length a2.data.toList = some (.int .i64 (p : Int)) from by unfold labF; rw [HH.out.1.lab]; rfl] at hlk); dsimp only [Option.getD, Option.isSome] at hlk;
          have kx : ∀ {q : Addr} {v : Value}, w1.cell? q = some v → w3.cell? q = some v := fun {q v} h => (hb13.cell (World.block_lt_of_cell? w1 _ h)).trans h;
          have y0 := kx x0; have y1 := kx x1; have y2 := kx x2; have y3 := kx x3; have y4 := kx x4; have y5 := kx x5;
          obtain ⟨Z, OZ, e1, e2, e3, hm⟩ := mac_made w1 w3 hb13 A0 c0 l0 HH.out.2.2.2.1 hc0 (some ad) c1 [c] HH.out.2.2.2.2.1 hc1 A4 c4 HH.out.2.2.2.2.2.2.1 n hM3 a6 hst0 hst1 p;
          simp only [Value.cells, mkCells, List.length_cons, List.length_nil, Nat.zero_add, Nat.reduceAdd] at hm;
          obtain ⟨W, hW⟩ : ∃ W, W = _ := ⟨_, rfl⟩;
          have bW : Below w3.heap.size w3 W := (by rw [hW]; exact ((Below.refl _ _).alloc (Nat.le_refl _) (.cells (madeCells #[.int .i64 0] (a6 / 8).toNat) 2)).alloc (by show w3.heap.size ≤ (w3.heap.push _).size; simp) (.cells #[.slice A0 l0.length c0, .map (some w1.heap.size), .slice (some ad) 1 c1, .int .i64 0, .int .i64 0, .int .i64 0, .int .i64 0, .int .i64 0, .int .i64 0, .int .i64 0, .int .i64 0, .int .i64 0, .int .i64 0, .int .i64 0, .int .i64 0, .int .i64 0, .int .i64 0, .int .i64 0, .int .i64 0, .slice (some ⟨w3.heap.size, 0, none⟩) (a6 / 8).toNat (a6 / 8).toNat, .int .i64 p, .pointer none, .slice A4 0 c4, .slice none 0 0, .int .i64 0] 63));
          have kz : ∀ {q : Addr} {v : Value}, w3.cell? q = some v → W.cell? q = some v := fun {q v} h => (bW.cell (World.block_lt_of_cell? w3 _ h)).trans h;
          have z0 := kz y0; have z1 := kz y1; have z2 := kz y2; have z3 := kz y3; have z4 := kz y4; have z5 := kz y5; (rw [hW] at z0 z1 z2 z3 z4 z5);
          have HB := Lib.hid (begins0_calls Z OZ (st0 a6 p) _ hm (by rw [e1]; exact HH.out.2.2.2.2.2.2.2) A3 c3 (by rw [e1]; exact HH.out.2.2.2.2.2.1) hc3 A2 c2 (by rw [e1]; exact K2.out.2) K2.out.1 c.f0 7 c.f4 c.f3 (.slice A5 c.f5.length c5) a6 (by omega) hst1 HH.out.1.beg HH.out.1.ain);
          have HZ := Lib.hid (And.intro OZ (And.intro e1 (And.intro e2 e3))); clear hm bW kz hM3 hb3 hb13 kx OZ e1 e2 e3 hW)
      | (go_at_call 21; have hB0 := HB.out; (rw [HZ.out.2.2.1] at hB0); refine hB0.mono ?_; rintro e w4 ⟨rfl, hM4⟩; have c7 := hM4.reg 4 (by omega); (rw [HZ.out.2.2.1] at c7); (simp only [Nat.reduceAdd] at c7); have H4 := Lib.hid hM4; clear hM4 hB0)
      | (go_at_call 22; have hG := goes_calls Z HZ.out.1 _ w4 H4.out (beginsP_wf (st0_wf a6 p) _ HH.out.1.ain a6 (by unfold In64; omega)) (by rw [beginsP_pc]; show (0 : Int) ≤ (p : Int); omega) N (by omega) (by rw [HZ.out.2.2.2]; exact HH.out.1.len) (by rw [HZ.out.2.2.2]; exact fun x hx => (HH.out.1.plain x hx).1); (rw [HZ.out.2.2.1, HZ.out.2.2.2, ← endP_nat, HTT.out] at hG); refine hG.mono ?_; rintro e w5 ⟨⟨u, rfl⟩, hM5⟩; have hb5 := hM5.below; (rw [HZ.out.2.1] at hb5); have cE := hM5.cE; (rw [HZ.out.2.2.1] at cE); (rw [HE.out] at cE); have H5 := Lib.hid hM5; clear hM5 hb5)
      | (go_at_call 23; have hK := keeps_calls Z HZ.out.1 t w5 H5.out (HH.out.2.2.2.2.2.2.2.to (by have := H5.out.below; rw [HZ.out.2.1] at this; exact this) HH.out.2.2.2.2.2.2.2.size) HKK.out.1 _ HKK.out.2; (rw [HZ.out.2.2.1] at hK); refine hK.mono ?_; rintro e w6 ⟨rfl, hb6⟩; have hM6 := H5.out.step HZ.out.1 hb6; have hb5 := hM6.below; (rw [HZ.out.2.1] at hb5); have cE6 := hM6.cE; have cR6 := hM6.reg 0 (by omega); (rw [HZ.out.2.2.1] at cE6 cR6); (rw [HE.out] at cE6); (simp only [Nat.add_zero] at cR6); obtain ⟨fv, sv, evv, hV⟩ := hM6; have cV := hV.cEv; (rw [HZ.out.2.2.1] at cV); have hev := hV.ev; obtain ⟨Av, cv, rfl, _, _⟩ := Kd.R_reads hev; have hbl := hb5.block w.heap.size (by rw [HS1.out]; omega); (rw [HH.out.2.2.1] at hbl); have q7 := (hb5.cell (World.block_lt_of_cell? w1 _ x1)).trans x1; have g0 := cell_at hbl 0 (v := .int .i64 0) rfl; have g1 := cell_at hbl 1 (v := .int .i64 0) rfl; have g2 := cell_at hbl 2 (v := .slice none 0 0) rfl; have gf := fun i => fz_at hbl i; have gf0 := gf 0; have gf1 := gf 1; have gf2 := gf 2; have H6 := Lib.hid (And.intro hev (And.intro hb5 hbl)); clear hev hb5 hbl hV gf hK hb6))
    refine start_ (n := 15) (S := fun w' => w'.cell? ⟨w3.heap.size + 1, 3, none⟩ = some (.int .i64 (t.reg 0)) ∧ w'.cell? ⟨ad.block, ad.off + 1, none⟩ = some (.int .i64 7)) (ds := [10]) #[false, false, false, false, false, false, false, false, false, false, false, false, false, false, false] (by kernel_rfl) rfl rfl ⟨cR6, q7⟩ (fun hHeld => ?_)
    refine pure_ (i := 0) (N := some 129) (v := ?_) (a' := ?_) #[true, false, false, false, false, false, false, false, false, false, false, false, false, false, false] rfl rfl (by kernel_rfl) (fun _ _ _ h => h) (Or.inl ⟨by rfl, ?_⟩) ?_ ?_
    rotate_left
    · intro w'
      go_simp
      with_reducible rfl
    rotate_left
    · simp only [Act.put, List.setIfInBounds_toArray, List.set_cons_zero, List.set_cons_succ, i64_w, i32_w]
      rfl
    refine pure_ (i := 1) (N := some 130) (v := ?_) (a' := ?_) #[true, true, false, false, false, false, false, false, false, false, false, false, false, false, false] rfl rfl (by kernel_rfl) (fun _ _ _ h => h) (Or.inl ⟨by rfl, ?_⟩) ?_ ?_
    rotate_left
    · intro w'
      go_simp
      with_reducible rfl
    rotate_left
    · simp only [Act.put, List.setIfInBounds_toArray, List.set_cons_zero, List.set_cons_succ, i64_w, i32_w]
      rfl
    refine pure_ (i := 2) (N := some 131) (v := ?_) (a' := ?_) #[true, true, true, false, false, false, false, false, false, false, false, false, false, false, false] rfl rfl (by kernel_rfl) (fun _ _ _ h => h) (Or.inl ⟨by rfl, ?_⟩) ?_ ?_
    rotate_left
    · intro w'
      go_simp
      with_reducible rfl
    rotate_left
    · simp only [Act.put, List.setIfInBounds_toArray, List.set_cons_zero, List.set_cons_succ, i64_w, i32_w]
      rfl
    refine pure_ (i := 3) (N := some 132) (v := ?_) (a' := ?_) #[true, true, true, true, false, false, false, false, false, false, false, false, false, false, false] rfl rfl (by kernel_rfl) (fun _ _ _ h => h) (Or.inl ⟨by rfl, ?_⟩) ?_ ?_
    rotate_left
    · intro w'
      go_simp
      with_reducible rfl
    rotate_left
    · simp only [Act.put, List.setIfInBounds_toArray, List.set_cons_zero, List.set_cons_succ, i64_w, i32_w]
      rfl
    refine pure_ (i := 5) (N := some 134) (v := ?_) (a' := ?_) #[true, true, true, true, false, true, false, false, false, false, false, false, false, false, false] rfl rfl (by kernel_rfl) (fun _ _ _ h => h) (Or.inl ⟨by rfl, ?_⟩) ?_ ?_
    rotate_left
    · intro w'
      go_simp
      with_reducible rfl
    rotate_left
    · simp only [Act.put, List.setIfInBounds_toArray, List.set_cons_zero, List.set_cons_succ, i64_w, i32_w]
      rfl
    refine pure_ (i := 6) (N := some 135) (v := ?_) (a' := ?_) #[true, true, true, true, false, true, true, false, false, false, false, false, false, false, false] rfl rfl (by kernel_rfl) (fun _ _ _ h => h) (Or.inl ⟨by rfl, ?_⟩) ?_ ?_
    rotate_left
    · intro w'
      go_simp
      with_reducible rfl
    rotate_left
    · simp only [Act.put, List.setIfInBounds_toArray, List.set_cons_zero, List.set_cons_succ, i64_w, i32_w]
      rfl
    refine pure_ (i := 7) (N := some 136) (v := ?_) (a' := ?_) #[true, true, true, true, false, true, true, true, false, false, false, false, false, false, false] rfl rfl (by kernel_rfl) (fun _ _ _ h => h) (Or.inl ⟨by rfl, ?_⟩) ?_ ?_
    rotate_left
    · intro w'
      go_simp
      with_reducible rfl
    rotate_left
    · simp only [Act.put, List.setIfInBounds_toArray, List.set_cons_zero, List.set_cons_succ, i64_w, i32_w]
      rfl
    refine pure_ (i := 8) (N := some 137) (v := ?_) (a' := ?_) #[true, true, true, true, false, true, true, true, true, false, false, false, false, false, false] rfl rfl (by kernel_rfl) (fun _ _ _ h => h) (Or.inl ⟨by rfl, ?_⟩) ?_ ?_
    rotate_left
    · intro w'
      go_simp
      with_reducible rfl
    rotate_left
    · simp only [Act.put, List.setIfInBounds_toArray, List.set_cons_zero, List.set_cons_succ, i64_w, i32_w]
      rfl
    refine take_ (i := 4) (N := some 133) (v := ?_) (a' := ?_) #[true, true, true, true, true, true, true, true, true, false, false, false, false, false, false] rfl rfl (by kernel_rfl) (fun _ _ _ h => h) (Or.inl ⟨by rfl, ?_⟩) hHeld ?_ ?_
    rotate_left
    · rintro w' ⟨s0, s1⟩
      go_simp
      with_reducible rfl
    rotate_left
    · simp only [Act.put, List.setIfInBounds_toArray, List.set_cons_zero, List.set_cons_succ, i64_w, i32_w]
      rfl
    refine take_ (i := 9) (N := some 138) (v := ?_) (a' := ?_) #[true, true, true, true, true, true, true, true, true, true, false, false, false, false, false] rfl rfl (by kernel_rfl) (fun _ _ _ h => h) (Or.inl ⟨by rfl, ?_⟩) hHeld ?_ ?_
    rotate_left
    · rintro w' ⟨s0, s1⟩
      go_simp
      with_reducible rfl
    rotate_left
    · simp only [Act.put, List.setIfInBounds_toArray, List.set_cons_zero, List.set_cons_succ, i64_w, i32_w]
      rfl
    refine last_ (i := 10) (N := some 139) #[true, true, true, true, true, true, true, true, true, true, true, false, false, false, false] rfl rfl (by kernel_rfl) (by decide) (fun K hK => ?_)
    refine goes_ Tryd.func24 (by kernel_rfl) rfl #[.int .i64 (t.reg 0), .int .i64 7] (by rfl) rfl rfl (by simp only [List.map_toArray, List.map_cons, List.map_nil]; rfl) ?_
    with_reducible refine (to_c (t.reg 0) 7 _ HIN.out).mono ?_
    rintro e w7 ⟨u7, rfl, n7, rfl⟩
    refine ⟨_, rfl, ?_⟩
    refine hK.out _ _ ?_
    clear hK K
    refine norm_ (a' := ?_) ?_ ?_
    rotate_left
    · show Act.put _ (some 139) _ = _
      simp only [Act.put, List.setIfInBounds_toArray, List.set_cons_zero, List.set_cons_succ, i64_w, i32_w]
      rfl
    refine pure_ (i := 11) (N := some 128) (v := ?_) (a' := ?_) #[true, true, true, true, true, true, true, true, true, true, true, true, false, false, false] rfl rfl (by kernel_rfl) (fun _ _ _ h => h) (Or.inl ⟨by rfl, ?_⟩) ?_ ?_
    rotate_left
    · intro w'
      go_simp
      with_reducible rfl
    rotate_left
    · simp only [Act.put, List.setIfInBounds_toArray, List.set_cons_zero, List.set_cons_succ, i64_w, i32_w]
      rfl
    refine pure_ (i := 12) (N := some 140) (v := ?_) (a' := ?_) #[true, true, true, true, true, true, true, true, true, true, true, true, true, false, false] rfl rfl (by kernel_rfl) (fun _ _ _ h => h) (Or.inl ⟨by rfl, ?_⟩) ?_ ?_
    rotate_left
    · intro w'
      go_simp
      with_reducible rfl
    rotate_left
    · simp only [Act.put, List.setIfInBounds_toArray, List.set_cons_zero, List.set_cons_succ, i64_w, i32_w]
      rfl
    refine pure_ (i := 13) (N := some 141) (v := ?_) (a' := ?_) #[true, true, true, true, true, true, true, true, true, true, true, true, true, true, false] rfl rfl (by kernel_rfl) (fun _ _ _ h => h) (Or.inl ⟨by rfl, ?_⟩) ?_ ?_
    rotate_left
    · intro w'
      go_simp
      with_reducible rfl
    rotate_left
    · simp only [Act.put, List.setIfInBounds_toArray, List.set_cons_zero, List.set_cons_succ, i64_w, i32_w]
      rfl
    refine pure_ (i := 14) (N := some 22) (v := ?_) (a' := ?_) #[true, true, true, true, true, true, true, true, true, true, true, true, true, true, true] rfl rfl (by kernel_rfl) (fun _ _ _ h => h) (Or.inl ⟨by rfl, ?_⟩) ?_ ?_
    rotate_left
    · intro w'
      go_simp
      with_reducible rfl
    rotate_left
    · simp only [Act.put, List.setIfInBounds_toArray, List.set_cons_zero, List.set_cons_succ, i64_w, i32_w]
      rfl
    refine done_ (by kernel_rfl) ?_
    go_wp2
    go_region
    go_wp2
    have hf := run_fin HS1.out HH.out.2.1 HZ.out.2.1 (w5 := w6.drewN (1 + n7 + 1)) (pw_below_drewN H6.out.2.1 _) H6.out.2.2 0 (toP (t.reg 0) 7) Av cv t.ev (Kd.R_drewN H6.out.1 _)
    rw [HE.out]
    refine bodyPost_ret (results_cell_row rfl _ _ w.heap.size 29 #[.int .i64 0, .int .i64 (toP (t.reg 0) 7), .slice Av t.ev.length cv] (0, 0) _ rfl hf.1 Tryd.underlying29 rfl (by kernel_rfl)) rfl ?_
    exact ⟨_, rfl, hf.2.1, hf.2.2⟩
  · rw [if_neg he]
    go_enter Tryd.func9, Tryd.ntmps9
    go_wp2_with (first
      | (go_at_call 19; (try rw [hw1]); refine HR.out.mono ?_; rintro e w2 ⟨rfl, hb, n, hM⟩; have H2 := Lib.hid (And.intro hb hM); clear hb hM)
      | (go_at_call 20; refine (find_calls (some ad) c1 [c] a2 _ (Kd.C_below HH.out.2.2.2.2.1 H2.out.1) hc1).mono ?_; (rw [HH.out.1.find]); rintro e w3 ⟨rfl, hb3⟩; have hM3 := H2.out.2.block (hb3.block _ H2.out.2.lt); have hb13 := H2.out.1.trans (hb3.mono H2.out.1.size);
          have hlk := hM3.look_ok law9 Tryd.underlying54 (zero54 _) (Go.WideMaps.keyOf_string_mk (s := a2) Tryd.underlying9 (by unfold maxLen; omega)); (rw [show labF l0 l0.length a2.data.toList = some (.int .i64 (p : Int)) from by unfold labF; rw [HH.out.1.lab]; rfl] at hlk); dsimp only [Option.getD, Option.isSome] at hlk;
          have kx : ∀ {q : Addr} {v : Value}, w1.cell? q = some v → w3.cell? q = some v := fun {q v} h => (hb13.cell (World.block_lt_of_cell? w1 _ h)).trans h;
          have y0 := kx x0; have y1 := kx x1; have y2 := kx x2; have y3 := kx x3; have y4 := kx x4; have y5 := kx x5;
          obtain ⟨Z, OZ, e1, e2, e3, hm⟩ := mac_made w1 w3 hb13 A0 c0 l0 HH.out.2.2.2.1 hc0 (some ad) c1 [c] HH.out.2.2.2.2.1 hc1 A4 c4 HH.out.2.2.2.2.2.2.1 n hM3 a6 hst0 hst1 p;
          simp only [Value.cells, mkCells, List.length_cons, List.length_nil, Nat.zero_add, Nat.reduceAdd] at hm;
          obtain ⟨W, hW⟩ : ∃ W, W = _ := ⟨_, rfl⟩;
          have bW : Below w3.heap.size w3 W := (by rw [hW]; exact ((Below.refl _ _).alloc (Nat.le_refl _) (.cells (madeCells #[.int .i64 0] (a6 / 8).toNat) 2)).alloc (by show w3.heap.size ≤ (w3.heap.push _).size; simp) (.cells #[.slice A0 l0.length c0, .map (some w1.heap.size), .slice (some ad) 1 c1, .int .i64 0, .int .i64 0, .int .i64 0, .int .i64 0, .int .i64 0, .int .i64 0, .int .i64 0, .int .i64 0, .int .i64 0, .int .i64 0, .int .i64 0, .int .i64 0, .int .i64 0, .int .i64 0, .int .i64 0, .int .i64 0, .slice (some ⟨w3.heap.size, 0, none⟩) (a6 / 8).toNat (a6 / 8).toNat, .int .i64 p, .pointer none, .slice A4 0 c4, .slice none 0 0, .int .i64 0] 63));
          have kz : ∀ {q : Addr} {v : Value}, w3.cell? q = some v → W.cell? q = some v := fun {q v} h => (bW.cell (World.block_lt_of_cell? w3 _ h)).trans h;
          have z0 := kz y0; have z1 := kz y1; have z2 := kz y2; have z3 := kz y3; have z4 := kz y4; have z5 := kz y5; (rw [hW] at z0 z1 z2 z3 z4 z5);
          have HB := Lib.hid (begins0_calls Z OZ (st0 a6 p) _ hm (by rw [e1]; exact HH.out.2.2.2.2.2.2.2) A3 c3 (by rw [e1]; exact HH.out.2.2.2.2.2.1) hc3 A2 c2 (by rw [e1]; exact K2.out.2) K2.out.1 c.f0 7 c.f4 c.f3 (.slice A5 c.f5.length c5) a6 (by omega) hst1 HH.out.1.beg HH.out.1.ain);
          have HZ := Lib.hid (And.intro OZ (And.intro e1 (And.intro e2 e3))); clear hm bW kz hM3 hb3 hb13 kx OZ e1 e2 e3 hW)
      | (go_at_call 21; have hB0 := HB.out; (rw [HZ.out.2.2.1] at hB0); refine hB0.mono ?_; rintro e w4 ⟨rfl, hM4⟩; have c7 := hM4.reg 4 (by omega); (rw [HZ.out.2.2.1] at c7); (simp only [Nat.reduceAdd] at c7); have H4 := Lib.hid hM4; clear hM4 hB0)
      | (go_at_call 22; have hG := goes_calls Z HZ.out.1 _ w4 H4.out (beginsP_wf (st0_wf a6 p) _ HH.out.1.ain a6 (by unfold In64; omega)) (by rw [beginsP_pc]; show (0 : Int) ≤ (p : Int); omega) N (by omega) (by rw [HZ.out.2.2.2]; exact HH.out.1.len) (by rw [HZ.out.2.2.2]; exact fun x hx => (HH.out.1.plain x hx).1); (rw [HZ.out.2.2.1, HZ.out.2.2.2, ← endP_nat, HTT.out] at hG); refine hG.mono ?_; rintro e w5 ⟨⟨u, rfl⟩, hM5⟩; have hb5 := hM5.below; (rw [HZ.out.2.1] at hb5); have cE := hM5.cE; (rw [HZ.out.2.2.1] at cE); have fE := hM5.fz 24; obtain ⟨fv, sv, evv, hV⟩ := hM5; have cV := hV.cEv; (rw [HZ.out.2.2.1] at cV fE); have hev := hV.ev; obtain ⟨Av, cv, rfl, _, _⟩ := Kd.R_reads hev; have hbl := hb5.block w.heap.size (by rw [HS1.out]; omega); (rw [HH.out.2.2.1] at hbl); have g0 := cell_at hbl 0 (v := .int .i64 0) rfl; have g1 := cell_at hbl 1 (v := .int .i64 0) rfl; have g2 := cell_at hbl 2 (v := .slice none 0 0) rfl; have gf := fun i => fz_at hbl i; have gf0 := gf 0; have gf1 := gf 1; have gf2 := gf 2; have H5 := Lib.hid (And.intro hev (And.intro hb5 hbl)); clear hev hb5 hbl hV gf))
    go_region
    go_wp2
    have hf := run_fin HS1.out HH.out.2.1 HZ.out.2.1 H5.out.2.1 H5.out.2.2 t.e 0 Av cv t.ev H5.out.1
    refine bodyPost_ret (results_cell_row rfl _ _ w.heap.size 29 #[.int .i64 t.e, .int .i64 0, .slice Av t.ev.length cv] (0, 0) _ rfl hf.1 Tryd.underlying29 rfl (by kernel_rfl)) rfl ?_
    exact ⟨_, rfl, Kd.N_drew hf.2.1, below_drew1 hf.2.2⟩
end Go.Proofs.YtgdkkcdmflopjaaDoor.Mc
