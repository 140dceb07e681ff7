import Derived.Test.YthfpdlfpbbhjhaaDoorMG2
namespace Go.Proofs.YthfpdlfpbbhjhaaDoor.Mc
open Go.RowKit Go.Proofs.YthfpdlfpbbhjhaaDoor.PA Go.Proofs.MapFun Go.Proofs.YthfpdlfpbbhjhaaDoorW.PrintWords Go.Proofs.YthfpdlfpbbhjhaaDoorW.PrintLast Go.Proofs.YthfpdlfpbbhjhaaDoorW.PrintMore
set_option linter.unusedVariables false
set_option linter.unusedSimpArgs false
set_option maxRecDepth 100000 in
set_option maxHeartbeats 4000000 in
theorem form_1 (d sr n wd op : Int) (sg : Bool) (nm : ByteArray) (w : World) (hnm : nm.size ≤ 140737488351232) (hf : (true && (eq35 (⟨1, d, sr, n, wd, sg, op, nm⟩ : S50) (⟨1, d, 0, n, 0, false, 0, e0⟩ : S50) && (!noReg d && !noReg sr))) = true) : Calls Tryd.prog 40 #[.agg #[.int .i64 1, .int .i64 d, .int .i64 sr, .int .i64 n, .int .i64 wd, .bool sg, .int .i64 op, .string nm]] w (FP (true && (eq35 (⟨1, d, sr, n, wd, sg, op, nm⟩ : S50) (⟨1, d, 0, n, 0, false, 0, e0⟩ : S50) && (!noReg d && !noReg sr))) w) := by
  have HF := Lib.hid hf
  clear hf
  go_enter Tryd.func40, Tryd.ntmps40
  go_wp2
  refine start_ (n := 8) (S := fun w' => w'.cell? ⟨w.heap.size, 1, none⟩ = some (.int .i64 d) ∧ w'.cell? ⟨w.heap.size, 3, none⟩ = some (.int .i64 n)) (ds := []) #[false, false, false, false, false, false, false, false] (by kernel_rfl) rfl rfl ⟨(by simp), (by simp)⟩ (fun hHeld => ?_)
  refine pure_ (i := 0) (N := some 12) (v := ?_) (a' := ?_) #[true, false, false, false, false, false, false, false] rfl rfl (by kernel_rfl) (fun _ _ _ h => h) (Or.inl ⟨by rfl, ?_⟩) ?_ ?_
  rotate_left
  · intro w'
    go_simp
    with_reducible rfl
  rotate_left
  · simp only [Act.put, List.setIfInBounds_toArray, List.set_cons_zero, List.set_cons_succ, i64_w, i32_w]
    rfl
  refine pure_ (i := 2) (N := some 14) (v := ?_) (a' := ?_) #[true, false, true, false, false, false, false, false] rfl rfl (by kernel_rfl) (fun _ _ _ h => h) (Or.inl ⟨by rfl, ?_⟩) ?_ ?_
  rotate_left
  · intro w'
    go_simp
    with_reducible rfl
  rotate_left
  · simp only [Act.put, List.setIfInBounds_toArray, List.set_cons_zero, List.set_cons_succ, i64_w, i32_w]
    rfl
  refine take_ (i := 1) (N := some 13) (v := ?_) (a' := ?_) #[true, true, true, false, false, false, false, false] rfl rfl (by kernel_rfl) (fun _ _ _ h => h) (Or.inl ⟨by rfl, ?_⟩) hHeld ?_ ?_
  rotate_left
  · rintro w' ⟨s0, s1⟩
    go_simp
    with_reducible rfl
  rotate_left
  · simp only [Act.put, List.setIfInBounds_toArray, List.set_cons_zero, List.set_cons_succ, i64_w, i32_w]
    rfl
  refine pure_ (i := 4) (N := some 16) (v := ?_) (a' := ?_) #[true, true, true, false, true, false, false, false] rfl rfl (by kernel_rfl) (fun _ _ _ h => h) (Or.inl ⟨by rfl, ?_⟩) ?_ ?_
  rotate_left
  · intro w'
    go_simp
    with_reducible rfl
  rotate_left
  · simp only [Act.put, List.setIfInBounds_toArray, List.set_cons_zero, List.set_cons_succ, i64_w, i32_w]
    rfl
  refine take_ (i := 3) (N := some 15) (v := ?_) (a' := ?_) #[true, true, true, true, true, false, false, false] rfl rfl (by kernel_rfl) (fun _ _ _ h => h) (Or.inl ⟨by rfl, ?_⟩) hHeld ?_ ?_
  rotate_left
  · rintro w' ⟨s0, s1⟩
    go_simp
    with_reducible rfl
  rotate_left
  · simp only [Act.put, List.setIfInBounds_toArray, List.set_cons_zero, List.set_cons_succ, i64_w, i32_w]
    rfl
  refine one_ (i := 5) (N := none) #[true, true, true, true, true, true, false, false] rfl rfl (by kernel_rfl) (by decide) (fun K hK => ?_)
  refine skip_ (w1 := ?_) (by rfl) rfl ?_ ?_
  rotate_left
  · go_simp
    rfl
  refine hK.out _ _ ⟨(by simp), (by simp)⟩ (fun hHeld => ?_)
  clear hK K
  refine pure_ (i := 6) (N := some 17) (v := ?_) (a' := ?_) #[true, true, true, true, true, true, true, false] rfl rfl (by kernel_rfl) (fun _ _ _ h => h) (Or.inl ⟨by rfl, ?_⟩) ?_ ?_
  rotate_left
  · intro w'
    go_simp
    with_reducible rfl
  rotate_left
  · simp only [Act.put, List.setIfInBounds_toArray, List.set_cons_zero, List.set_cons_succ, i64_w, i32_w]
    rfl
  refine one_ (i := 7) (N := none) #[true, true, true, true, true, true, true, true] rfl rfl (by kernel_rfl) (by decide) (fun K hK => ?_)
  refine skip_ (w1 := ?_) (by rfl) rfl ?_ ?_
  rotate_left
  · go_simp
    rfl
  refine hK.out _ _ ⟨(by simp), (by simp)⟩ (fun hHeld => ?_)
  clear hK K
  refine done_ (by kernel_rfl) ?_
  cases hq : eq35 (⟨1, d, sr, n, wd, sg, op, nm⟩ : S50) (⟨1, d, 0, n, 0, false, 0, e0⟩ : S50) with
  | true =>
    have HQ := Lib.hid hq
    have HE : ∀ (dd : Nat) (W : World), (Op.equalIn (dd + 2) 50 (.agg #[.int .i64 1, .int .i64 d, .int .i64 sr, .int .i64 n, .int .i64 wd, .bool sg, .int .i64 op, .string nm]) (.agg #[.int .i64 1, .int .i64 d, .int .i64 0, .int .i64 n, .int .i64 0, .bool false, .int .i64 0, .string ⟨#[]⟩])).run Tryd.prog W = .ok true W := fun dd W => (eqA35 dd W _ _ _ _ _ _ _ _ _ _ _ _ _ _ _ _).trans (congrArg (fun b => Result.ok b W) hq)
    clear hq
    go_wp2_with (go_at_call 56; refine (isReg_calls _ 2 [d, sr] _ (two_ints _ _ _ _ (by first | exact cell_new (by simp) rfl | exact cell_newD (by simp) rfl | exact cell_newN (by simp) rfl) (by first | exact cell_new (by simp) rfl | exact cell_newD (by simp) rfl | exact cell_newN (by simp) rfl)) (by simp)).mono ?_; rintro e w1 ⟨rfl, hb⟩; have HB := Lib.hid hb; clear hb)
    go_ret
    exact ⟨by (try rw [HQ.out]); rfl, by refine below_then (w1 := _) ?_ ?_ HB.out; (repeat (first | exact Below.refl _ _ | exact HB3.out | apply below_alloc | apply below_drew1 | apply pw_below_drewN | (refine Below.setCell ?_ (by simp) _))); (simp; try omega)⟩
  | false =>
    have hf := HF.out
    rw [hq] at hf
    exact absurd hf (by simp)
set_option maxRecDepth 100000 in
set_option maxHeartbeats 4000000 in
theorem form_2 (d sr n wd op : Int) (sg : Bool) (nm : ByteArray) (w : World) (hnm : nm.size ≤ 140737488351232) (hf : (true && (eq35 (⟨2, d, sr, n, wd, sg, op, nm⟩ : S50) (⟨2, d, sr, 0, 0, false, 0, e0⟩ : S50) && (!noReg d && !noReg sr))) = true) : Calls Tryd.prog 40 #[.agg #[.int .i64 2, .int .i64 d, .int .i64 sr, .int .i64 n, .int .i64 wd, .bool sg, .int .i64 op, .string nm]] w (FP (true && (eq35 (⟨2, d, sr, n, wd, sg, op, nm⟩ : S50) (⟨2, d, sr, 0, 0, false, 0, e0⟩ : S50) && (!noReg d && !noReg sr))) w) := by
  have HF := Lib.hid hf
  clear hf
  go_enter Tryd.func40, Tryd.ntmps40
  go_wp2
  refine start_ (n := 8) (S := fun w' => w'.cell? ⟨w.heap.size, 1, none⟩ = some (.int .i64 d) ∧ w'.cell? ⟨w.heap.size, 2, none⟩ = some (.int .i64 sr)) (ds := []) #[false, false, false, false, false, false, false, false] (by kernel_rfl) rfl rfl ⟨(by simp), (by simp)⟩ (fun hHeld => ?_)
  refine pure_ (i := 0) (N := some 32) (v := ?_) (a' := ?_) #[true, false, false, false, false, false, false, false] rfl rfl (by kernel_rfl) (fun _ _ _ h => h) (Or.inl ⟨by rfl, ?_⟩) ?_ ?_
  rotate_left
  · intro w'
    go_simp
    with_reducible rfl
  rotate_left
  · simp only [Act.put, List.setIfInBounds_toArray, List.set_cons_zero, List.set_cons_succ, i64_w, i32_w]
    rfl
  refine pure_ (i := 2) (N := some 34) (v := ?_) (a' := ?_) #[true, false, true, false, false, false, false, false] rfl rfl (by kernel_rfl) (fun _ _ _ h => h) (Or.inl ⟨by rfl, ?_⟩) ?_ ?_
  rotate_left
  · intro w'
    go_simp
    with_reducible rfl
  rotate_left
  · simp only [Act.put, List.setIfInBounds_toArray, List.set_cons_zero, List.set_cons_succ, i64_w, i32_w]
    rfl
  refine take_ (i := 1) (N := some 33) (v := ?_) (a' := ?_) #[true, true, true, false, false, false, false, false] rfl rfl (by kernel_rfl) (fun _ _ _ h => h) (Or.inl ⟨by rfl, ?_⟩) hHeld ?_ ?_
  rotate_left
  · rintro w' ⟨s0, s1⟩
    go_simp
    with_reducible rfl
  rotate_left
  · simp only [Act.put, List.setIfInBounds_toArray, List.set_cons_zero, List.set_cons_succ, i64_w, i32_w]
    rfl
  refine pure_ (i := 4) (N := some 36) (v := ?_) (a' := ?_) #[true, true, true, false, true, false, false, false] rfl rfl (by kernel_rfl) (fun _ _ _ h => h) (Or.inl ⟨by rfl, ?_⟩) ?_ ?_
  rotate_left
  · intro w'
    go_simp
    with_reducible rfl
  rotate_left
  · simp only [Act.put, List.setIfInBounds_toArray, List.set_cons_zero, List.set_cons_succ, i64_w, i32_w]
    rfl
  refine take_ (i := 3) (N := some 35) (v := ?_) (a' := ?_) #[true, true, true, true, true, false, false, false] rfl rfl (by kernel_rfl) (fun _ _ _ h => h) (Or.inl ⟨by rfl, ?_⟩) hHeld ?_ ?_
  rotate_left
  · rintro w' ⟨s0, s1⟩
    go_simp
    with_reducible rfl
  rotate_left
  · simp only [Act.put, List.setIfInBounds_toArray, List.set_cons_zero, List.set_cons_succ, i64_w, i32_w]
    rfl
  refine one_ (i := 5) (N := none) #[true, true, true, true, true, true, false, false] rfl rfl (by kernel_rfl) (by decide) (fun K hK => ?_)
  refine skip_ (w1 := ?_) (by rfl) rfl ?_ ?_
  rotate_left
  · go_simp
    rfl
  refine hK.out _ _ ⟨(by simp), (by simp)⟩ (fun hHeld => ?_)
  clear hK K
  refine pure_ (i := 6) (N := some 37) (v := ?_) (a' := ?_) #[true, true, true, true, true, true, true, false] rfl rfl (by kernel_rfl) (fun _ _ _ h => h) (Or.inl ⟨by rfl, ?_⟩) ?_ ?_
  rotate_left
  · intro w'
    go_simp
    with_reducible rfl
  rotate_left
  · simp only [Act.put, List.setIfInBounds_toArray, List.set_cons_zero, List.set_cons_succ, i64_w, i32_w]
    rfl
  refine one_ (i := 7) (N := none) #[true, true, true, true, true, true, true, true] rfl rfl (by kernel_rfl) (by decide) (fun K hK => ?_)
  refine skip_ (w1 := ?_) (by rfl) rfl ?_ ?_
  rotate_left
  · go_simp
    rfl
  refine hK.out _ _ ⟨(by simp), (by simp)⟩ (fun hHeld => ?_)
  clear hK K
  refine done_ (by kernel_rfl) ?_
  cases hq : eq35 (⟨2, d, sr, n, wd, sg, op, nm⟩ : S50) (⟨2, d, sr, 0, 0, false, 0, e0⟩ : S50) with
  | true =>
    have HQ := Lib.hid hq
    have HE : ∀ (dd : Nat) (W : World), (Op.equalIn (dd + 2) 50 (.agg #[.int .i64 2, .int .i64 d, .int .i64 sr, .int .i64 n, .int .i64 wd, .bool sg, .int .i64 op, .string nm]) (.agg #[.int .i64 2, .int .i64 d, .int .i64 sr, .int .i64 0, .int .i64 0, .bool false, .int .i64 0, .string ⟨#[]⟩])).run Tryd.prog W = .ok true W := fun dd W => (eqA35 dd W _ _ _ _ _ _ _ _ _ _ _ _ _ _ _ _).trans (congrArg (fun b => Result.ok b W) hq)
    clear hq
    go_wp2_with (go_at_call 56; refine (isReg_calls _ 2 [d, sr] _ (two_ints _ _ _ _ (by first | exact cell_new (by simp) rfl | exact cell_newD (by simp) rfl | exact cell_newN (by simp) rfl) (by first | exact cell_new (by simp) rfl | exact cell_newD (by simp) rfl | exact cell_newN (by simp) rfl)) (by simp)).mono ?_; rintro e w1 ⟨rfl, hb⟩; have HB := Lib.hid hb; clear hb)
    go_ret
    exact ⟨by (try rw [HQ.out]); rfl, by refine below_then (w1 := _) ?_ ?_ HB.out; (repeat (first | exact Below.refl _ _ | exact HB3.out | apply below_alloc | apply below_drew1 | apply pw_below_drewN | (refine Below.setCell ?_ (by simp) _))); (simp; try omega)⟩
  | false =>
    have hf := HF.out
    rw [hq] at hf
    exact absurd hf (by simp)
set_option maxRecDepth 100000 in
set_option maxHeartbeats 4000000 in
theorem form_3 (d sr n wd op : Int) (sg : Bool) (nm : ByteArray) (w : World) (hnm : nm.size ≤ 140737488351232) (hf : (smallB n && (eq35 (⟨3, d, sr, n, wd, sg, op, nm⟩ : S50) (⟨3, d, sr, n, 0, false, 0, e0⟩ : S50) && (!noReg d && !noReg sr))) = true) : Calls Tryd.prog 40 #[.agg #[.int .i64 3, .int .i64 d, .int .i64 sr, .int .i64 n, .int .i64 wd, .bool sg, .int .i64 op, .string nm]] w (FP (smallB n && (eq35 (⟨3, d, sr, n, wd, sg, op, nm⟩ : S50) (⟨3, d, sr, n, 0, false, 0, e0⟩ : S50) && (!noReg d && !noReg sr))) w) := by
  have HF := Lib.hid hf
  clear hf
  cases hs : smallB n with
  | true =>
    have HSM := Lib.hid hs
    have HO := HSM
    clear hs
    go_enter Tryd.func40, Tryd.ntmps40
    go_wp2
    refine start_ (n := 16) (S := fun w' => w'.cell? ⟨w.heap.size, 1, none⟩ = some (.int .i64 d) ∧ w'.cell? ⟨w.heap.size, 2, none⟩ = some (.int .i64 sr) ∧ w'.cell? ⟨w.heap.size, 3, none⟩ = some (.int .i64 n)) (ds := []) #[false, false, false, false, false, false, false, false, false, false, false, false, false, false, false, false] (by kernel_rfl) rfl rfl ⟨(by simp), (by simp), (by simp)⟩ (fun hHeld => ?_)
    refine pure_ (i := 0) (N := some 41) (v := ?_) (a' := ?_) #[true, false, false, false, false, false, false, false, false, false, false, false, false, false, false, false] rfl rfl (by kernel_rfl) (fun _ _ _ h => h) (Or.inl ⟨by rfl, ?_⟩) ?_ ?_
    rotate_left
    · intro w'
      go_simp
      with_reducible rfl
    rotate_left
    · simp only [Act.put, List.setIfInBounds_toArray, List.set_cons_zero, List.set_cons_succ, i64_w, i32_w]
      rfl
    refine pure_ (i := 2) (N := some 43) (v := ?_) (a' := ?_) #[true, false, true, false, false, false, false, false, false, false, false, false, false, false, false, false] rfl rfl (by kernel_rfl) (fun _ _ _ h => h) (Or.inl ⟨by rfl, ?_⟩) ?_ ?_
    rotate_left
    · intro w'
      go_simp
      with_reducible rfl
    rotate_left
    · simp only [Act.put, List.setIfInBounds_toArray, List.set_cons_zero, List.set_cons_succ, i64_w, i32_w]
      rfl
    refine pure_ (i := 4) (N := some 45) (v := ?_) (a' := ?_) #[true, false, true, false, true, false, false, false, false, false, false, false, false, false, false, false] rfl rfl (by kernel_rfl) (fun _ _ _ h => h) (Or.inl ⟨by rfl, ?_⟩) ?_ ?_
    rotate_left
    · intro w'
      go_simp
      with_reducible rfl
    rotate_left
    · simp only [Act.put, List.setIfInBounds_toArray, List.set_cons_zero, List.set_cons_succ, i64_w, i32_w]
      rfl
    refine pure_ (i := 6) (N := some 47) (v := ?_) (a' := ?_) #[true, false, true, false, true, false, true, false, false, false, false, false, false, false, false, false] rfl rfl (by kernel_rfl) (fun _ _ _ h => h) (Or.inl ⟨by rfl, ?_⟩) ?_ ?_
    rotate_left
    · intro w'
      go_simp
      with_reducible rfl
    rotate_left
    · simp only [Act.put, List.setIfInBounds_toArray, List.set_cons_zero, List.set_cons_succ, i64_w, i32_w]
      rfl
    refine take_ (i := 1) (N := some 42) (v := ?_) (a' := ?_) #[true, true, true, false, true, false, true, false, false, false, false, false, false, false, false, false] rfl rfl (by kernel_rfl) (fun _ _ _ h => h) (Or.inl ⟨by rfl, ?_⟩) hHeld ?_ ?_
    rotate_left
    · rintro w' ⟨s0, s1, s2⟩
      go_simp
      with_reducible rfl
    rotate_left
    · simp only [Act.put, List.setIfInBounds_toArray, List.set_cons_zero, List.set_cons_succ, i64_w, i32_w]
      rfl
    refine pure_ (i := 9) (N := some 50) (v := ?_) (a' := ?_) #[true, true, true, false, true, false, true, false, false, true, false, false, false, false, false, false] rfl rfl (by kernel_rfl) (fun _ _ _ h => h) (Or.inl ⟨by rfl, ?_⟩) ?_ ?_
    rotate_left
    · intro w'
      go_simp
      with_reducible rfl
    rotate_left
    · simp only [Act.put, List.setIfInBounds_toArray, List.set_cons_zero, List.set_cons_succ, i64_w, i32_w]
      rfl
    refine take_ (i := 3) (N := some 44) (v := ?_) (a' := ?_) #[true, true, true, true, true, false, true, false, false, true, false, false, false, false, false, false] rfl rfl (by kernel_rfl) (fun _ _ _ h => h) (Or.inl ⟨by rfl, ?_⟩) hHeld ?_ ?_
    rotate_left
    · rintro w' ⟨s0, s1, s2⟩
      go_simp
      with_reducible rfl
    rotate_left
    · simp only [Act.put, List.setIfInBounds_toArray, List.set_cons_zero, List.set_cons_succ, i64_w, i32_w]
      rfl
    refine take_ (i := 5) (N := some 46) (v := ?_) (a' := ?_) #[true, true, true, true, true, true, true, false, false, true, false, false, false, false, false, false] rfl rfl (by kernel_rfl) (fun _ _ _ h => h) (Or.inl ⟨by rfl, ?_⟩) hHeld ?_ ?_
    rotate_left
    · rintro w' ⟨s0, s1, s2⟩
      go_simp
      with_reducible rfl
    rotate_left
    · simp only [Act.put, List.setIfInBounds_toArray, List.set_cons_zero, List.set_cons_succ, i64_w, i32_w]
      rfl
    refine take_ (i := 7) (N := some 48) (v := ?_) (a' := ?_) #[true, true, true, true, true, true, true, true, false, true, false, false, false, false, false, false] rfl rfl (by kernel_rfl) (fun _ _ _ h => h) (Or.inl ⟨by rfl, ?_⟩) hHeld ?_ ?_
    rotate_left
    · rintro w' ⟨s0, s1, s2⟩
      go_simp
      with_reducible rfl
    rotate_left
    · simp only [Act.put, List.setIfInBounds_toArray, List.set_cons_zero, List.set_cons_succ, i64_w, i32_w]
      rfl
    refine one_ (i := 8) (N := some 49) #[true, true, true, true, true, true, true, true, true, true, false, false, false, false, false, false] rfl rfl (by kernel_rfl) (by decide) (fun K hK => ?_)
    refine goes_ Tryd.func55 (by kernel_rfl) rfl #[.int .i64 n] (by rfl) rfl rfl (by simp only [List.map_toArray, List.map_cons, List.map_nil]; rfl) ?_
    with_reducible refine (small_c n _).mono ?_
    rw [HSM.out]
    rintro e w3 ⟨rfl, n3, rfl⟩
    refine ⟨_, rfl, ?_⟩
    refine hK.out _ _ ⟨hHeld.1, hHeld.2.1, hHeld.2.2⟩ (fun hHeld => ?_)
    clear hK K
    refine norm_ (a' := ?_) ?_ ?_
    rotate_left
    · show Act.put _ (some 49) _ = _
      simp only [Act.put, List.setIfInBounds_toArray, List.set_cons_zero, List.set_cons_succ, i64_w, i32_w]
      rfl
    refine one_ (i := 10) (N := none) #[true, true, true, true, true, true, true, true, true, true, true, false, false, false, false, false] rfl rfl (by kernel_rfl) (by decide) (fun K hK => ?_)
    refine skip_ (w1 := ?_) (by rfl) rfl ?_ ?_
    rotate_left
    · go_simp
      rfl
    refine hK.out _ _ ⟨(cell_far hHeld.1 (by omega)), (cell_far hHeld.2.1 (by omega)), (cell_far hHeld.2.2 (by omega))⟩ (fun hHeld => ?_)
    clear hK K
    refine pure_ (i := 11) (N := some 51) (v := ?_) (a' := ?_) #[true, true, true, true, true, true, true, true, true, true, true, true, false, false, false, false] rfl rfl (by kernel_rfl) (fun _ _ _ h => h) (Or.inl ⟨by rfl, ?_⟩) ?_ ?_
    rotate_left
    · intro w'
      go_simp
      with_reducible rfl
    rotate_left
    · simp only [Act.put, List.setIfInBounds_toArray, List.set_cons_zero, List.set_cons_succ, i64_w, i32_w]
      rfl
    refine one_ (i := 12) (N := none) #[true, true, true, true, true, true, true, true, true, true, true, true, true, false, false, false] rfl rfl (by kernel_rfl) (by decide) (fun K hK => ?_)
    refine skip_ (w1 := ?_) (by rfl) rfl ?_ ?_
    rotate_left
    · go_simp
      rfl
    refine hK.out _ _ ⟨(cell_far hHeld.1 (by omega)), (cell_far hHeld.2.1 (by omega)), (cell_far hHeld.2.2 (by omega))⟩ (fun hHeld => ?_)
    clear hK K
    refine pure_ (i := 13) (N := some 52) (v := ?_) (a' := ?_) #[true, true, true, true, true, true, true, true, true, true, true, true, true, true, false, false] rfl rfl (by kernel_rfl) (fun _ _ _ h => h) (Or.inl ⟨by rfl, ?_⟩) ?_ ?_
    rotate_left
    · intro w'
      go_simp
      with_reducible rfl
    rotate_left
    · simp only [Act.put, List.setIfInBounds_toArray, List.set_cons_zero, List.set_cons_succ, i64_w, i32_w]
      rfl
    refine one_ (i := 14) (N := none) #[true, true, true, true, true, true, true, true, true, true, true, true, true, true, true, false] rfl rfl (by kernel_rfl) (by decide) (fun K hK => ?_)
    refine skip_ (w1 := ?_) (by rfl) rfl ?_ ?_
    rotate_left
    · go_simp
      rfl
    refine hK.out _ _ ⟨(cell_far hHeld.1 (by omega)), (cell_far hHeld.2.1 (by omega)), (cell_far hHeld.2.2 (by omega))⟩ (fun hHeld => ?_)
    clear hK K
    refine pure_ (i := 15) (N := some 4) (v := ?_) (a' := ?_) #[true, true, true, true, true, true, true, true, true, true, true, true, true, true, true, true] rfl rfl (by kernel_rfl) (fun _ _ _ h => h) (Or.inl ⟨by rfl, ?_⟩) ?_ ?_
    rotate_left
    · intro w'
      go_simp
      with_reducible rfl
    rotate_left
    · simp only [Act.put, List.setIfInBounds_toArray, List.set_cons_zero, List.set_cons_succ, i64_w, i32_w]
      rfl
    refine done_ (by kernel_rfl) ?_
    cases hq : eq35 (⟨3, d, sr, n, wd, sg, op, nm⟩ : S50) (⟨3, d, sr, n, 0, false, 0, e0⟩ : S50) with
    | true =>
      have HQ := Lib.hid hq
      have HE : ∀ (dd : Nat) (W : World), (Op.equalIn (dd + 2) 50 (.agg #[.int .i64 3, .int .i64 d, .int .i64 sr, .int .i64 n, .int .i64 wd, .bool sg, .int .i64 op, .string nm]) (.agg #[.int .i64 3, .int .i64 d, .int .i64 sr, .int .i64 n, .int .i64 0, .bool false, .int .i64 0, .string ⟨#[]⟩])).run Tryd.prog W = .ok true W := fun dd W => (eqA35 dd W _ _ _ _ _ _ _ _ _ _ _ _ _ _ _ _).trans (congrArg (fun b => Result.ok b W) hq)
      clear hq
      go_wp2_with (go_at_call 56; refine (isReg_calls _ 2 [d, sr] _ (two_ints _ _ _ _ (by first | exact cell_new (by simp) rfl | exact cell_newD (by simp) rfl | exact cell_newN (by simp) rfl) (by first | exact cell_new (by simp) rfl | exact cell_newD (by simp) rfl | exact cell_newN (by simp) rfl)) (by simp)).mono ?_; rintro e w1 ⟨rfl, hb⟩; have HB := Lib.hid hb; clear hb)
      go_ret
      exact ⟨by (try rw [HO.out]); (try rw [HQ.out]); rfl, by refine below_then (w1 := _) ?_ ?_ HB.out; (repeat (first | exact Below.refl _ _ | exact HB3.out | apply below_alloc | apply below_drew1 | apply pw_below_drewN | (refine Below.setCell ?_ (by simp) _))); (simp; try omega)⟩
    | false =>
      have hf := HF.out
      rw [hq] at hf
      exact absurd hf (by simp)
  | false =>
    have HSM := Lib.hid hs
    have HO := HSM
    clear hs
    have hf := HF.out
    rw [HO.out] at hf
    exact absurd hf (by simp)
set_option maxRecDepth 100000 in
set_option maxHeartbeats 4000000 in
theorem form_4 (d sr n wd op : Int) (sg : Bool) (nm : ByteArray) (w : World) (hnm : nm.size ≤ 140737488351232) (hf : (smallB n && (eq35 (⟨4, d, sr, n, wd, sg, op, nm⟩ : S50) (⟨4, d, sr, n, 0, false, 0, e0⟩ : S50) && (!noReg d && !noReg sr))) = true) : Calls Tryd.prog 40 #[.agg #[.int .i64 4, .int .i64 d, .int .i64 sr, .int .i64 n, .int .i64 wd, .bool sg, .int .i64 op, .string nm]] w (FP (smallB n && (eq35 (⟨4, d, sr, n, wd, sg, op, nm⟩ : S50) (⟨4, d, sr, n, 0, false, 0, e0⟩ : S50) && (!noReg d && !noReg sr))) w) := by
  have HF := Lib.hid hf
  clear hf
  cases hs : smallB n with
  | true =>
    have HSM := Lib.hid hs
    have HO := HSM
    clear hs
    go_enter Tryd.func40, Tryd.ntmps40
    go_wp2
    refine start_ (n := 16) (S := fun w' => w'.cell? ⟨w.heap.size, 1, none⟩ = some (.int .i64 d) ∧ w'.cell? ⟨w.heap.size, 2, none⟩ = some (.int .i64 sr) ∧ w'.cell? ⟨w.heap.size, 3, none⟩ = some (.int .i64 n)) (ds := []) #[false, false, false, false, false, false, false, false, false, false, false, false, false, false, false, false] (by kernel_rfl) rfl rfl ⟨(by simp), (by simp), (by simp)⟩ (fun hHeld => ?_)
    refine pure_ (i := 0) (N := some 41) (v := ?_) (a' := ?_) #[true, false, false, false, false, false, false, false, false, false, false, false, false, false, false, false] rfl rfl (by kernel_rfl) (fun _ _ _ h => h) (Or.inl ⟨by rfl, ?_⟩) ?_ ?_
    rotate_left
    · intro w'
      go_simp
      with_reducible rfl
    rotate_left
    · simp only [Act.put, List.setIfInBounds_toArray, List.set_cons_zero, List.set_cons_succ, i64_w, i32_w]
      rfl
    refine pure_ (i := 2) (N := some 43) (v := ?_) (a' := ?_) #[true, false, true, false, false, false, false, false, false, false, false, false, false, false, false, false] rfl rfl (by kernel_rfl) (fun _ _ _ h => h) (Or.inl ⟨by rfl, ?_⟩) ?_ ?_
    rotate_left
    · intro w'
      go_simp
      with_reducible rfl
    rotate_left
    · simp only [Act.put, List.setIfInBounds_toArray, List.set_cons_zero, List.set_cons_succ, i64_w, i32_w]
      rfl
    refine pure_ (i := 4) (N := some 45) (v := ?_) (a' := ?_) #[true, false, true, false, true, false, false, false, false, false, false, false, false, false, false, false] rfl rfl (by kernel_rfl) (fun _ _ _ h => h) (Or.inl ⟨by rfl, ?_⟩) ?_ ?_
    rotate_left
    · intro w'
      go_simp
      with_reducible rfl
    rotate_left
    · simp only [Act.put, List.setIfInBounds_toArray, List.set_cons_zero, List.set_cons_succ, i64_w, i32_w]
      rfl
    refine pure_ (i := 6) (N := some 47) (v := ?_) (a' := ?_) #[true, false, true, false, true, false, true, false, false, false, false, false, false, false, false, false] rfl rfl (by kernel_rfl) (fun _ _ _ h => h) (Or.inl ⟨by rfl, ?_⟩) ?_ ?_
    rotate_left
    · intro w'
      go_simp
      with_reducible rfl
    rotate_left
    · simp only [Act.put, List.setIfInBounds_toArray, List.set_cons_zero, List.set_cons_succ, i64_w, i32_w]
      rfl
    refine take_ (i := 1) (N := some 42) (v := ?_) (a' := ?_) #[true, true, true, false, true, false, true, false, false, false, false, false, false, false, false, false] rfl rfl (by kernel_rfl) (fun _ _ _ h => h) (Or.inl ⟨by rfl, ?_⟩) hHeld ?_ ?_
    rotate_left
    · rintro w' ⟨s0, s1, s2⟩
      go_simp
      with_reducible rfl
    rotate_left
    · simp only [Act.put, List.setIfInBounds_toArray, List.set_cons_zero, List.set_cons_succ, i64_w, i32_w]
      rfl
    refine pure_ (i := 9) (N := some 50) (v := ?_) (a' := ?_) #[true, true, true, false, true, false, true, false, false, true, false, false, false, false, false, false] rfl rfl (by kernel_rfl) (fun _ _ _ h => h) (Or.inl ⟨by rfl, ?_⟩) ?_ ?_
    rotate_left
    · intro w'
      go_simp
      with_reducible rfl
    rotate_left
    · simp only [Act.put, List.setIfInBounds_toArray, List.set_cons_zero, List.set_cons_succ, i64_w, i32_w]
      rfl
    refine take_ (i := 3) (N := some 44) (v := ?_) (a' := ?_) #[true, true, true, true, true, false, true, false, false, true, false, false, false, false, false, false] rfl rfl (by kernel_rfl) (fun _ _ _ h => h) (Or.inl ⟨by rfl, ?_⟩) hHeld ?_ ?_
    rotate_left
    · rintro w' ⟨s0, s1, s2⟩
      go_simp
      with_reducible rfl
    rotate_left
    · simp only [Act.put, List.setIfInBounds_toArray, List.set_cons_zero, List.set_cons_succ, i64_w, i32_w]
      rfl
    refine take_ (i := 5) (N := some 46) (v := ?_) (a' := ?_) #[true, true, true, true, true, true, true, false, false, true, false, false, false, false, false, false] rfl rfl (by kernel_rfl) (fun _ _ _ h => h) (Or.inl ⟨by rfl, ?_⟩) hHeld ?_ ?_
    rotate_left
    · rintro w' ⟨s0, s1, s2⟩
      go_simp
      with_reducible rfl
    rotate_left
    · simp only [Act.put, List.setIfInBounds_toArray, List.set_cons_zero, List.set_cons_succ, i64_w, i32_w]
      rfl
    refine take_ (i := 7) (N := some 48) (v := ?_) (a' := ?_) #[true, true, true, true, true, true, true, true, false, true, false, false, false, false, false, false] rfl rfl (by kernel_rfl) (fun _ _ _ h => h) (Or.inl ⟨by rfl, ?_⟩) hHeld ?_ ?_
    rotate_left
    · rintro w' ⟨s0, s1, s2⟩
      go_simp
      with_reducible rfl
    rotate_left
    · simp only [Act.put, List.setIfInBounds_toArray, List.set_cons_zero, List.set_cons_succ, i64_w, i32_w]
      rfl
    refine one_ (i := 8) (N := some 49) #[true, true, true, true, true, true, true, true, true, true, false, false, false, false, false, false] rfl rfl (by kernel_rfl) (by decide) (fun K hK => ?_)
    refine goes_ Tryd.func55 (by kernel_rfl) rfl #[.int .i64 n] (by rfl) rfl rfl (by simp only [List.map_toArray, List.map_cons, List.map_nil]; rfl) ?_
    with_reducible refine (small_c n _).mono ?_
    rw [HSM.out]
    rintro e w3 ⟨rfl, n3, rfl⟩
    refine ⟨_, rfl, ?_⟩
    refine hK.out _ _ ⟨hHeld.1, hHeld.2.1, hHeld.2.2⟩ (fun hHeld => ?_)
    clear hK K
    refine norm_ (a' := ?_) ?_ ?_
    rotate_left
    · show Act.put _ (some 49) _ = _
      simp only [Act.put, List.setIfInBounds_toArray, List.set_cons_zero, List.set_cons_succ, i64_w, i32_w]
      rfl
    refine one_ (i := 10) (N := none) #[true, true, true, true, true, true, true, true, true, true, true, false, false, false, false, false] rfl rfl (by kernel_rfl) (by decide) (fun K hK => ?_)
    refine skip_ (w1 := ?_) (by rfl) rfl ?_ ?_
    rotate_left
    · go_simp
      rfl
    refine hK.out _ _ ⟨(cell_far hHeld.1 (by omega)), (cell_far hHeld.2.1 (by omega)), (cell_far hHeld.2.2 (by omega))⟩ (fun hHeld => ?_)
    clear hK K
    refine pure_ (i := 11) (N := some 51) (v := ?_) (a' := ?_) #[true, true, true, true, true, true, true, true, true, true, true, true, false, false, false, false] rfl rfl (by kernel_rfl) (fun _ _ _ h => h) (Or.inl ⟨by rfl, ?_⟩) ?_ ?_
    rotate_left
    · intro w'
      go_simp
      with_reducible rfl
    rotate_left
    · simp only [Act.put, List.setIfInBounds_toArray, List.set_cons_zero, List.set_cons_succ, i64_w, i32_w]
      rfl
    refine one_ (i := 12) (N := none) #[true, true, true, true, true, true, true, true, true, true, true, true, true, false, false, false] rfl rfl (by kernel_rfl) (by decide) (fun K hK => ?_)
    refine skip_ (w1 := ?_) (by rfl) rfl ?_ ?_
    rotate_left
    · go_simp
      rfl
    refine hK.out _ _ ⟨(cell_far hHeld.1 (by omega)), (cell_far hHeld.2.1 (by omega)), (cell_far hHeld.2.2 (by omega))⟩ (fun hHeld => ?_)
    clear hK K
    refine pure_ (i := 13) (N := some 52) (v := ?_) (a' := ?_) #[true, true, true, true, true, true, true, true, true, true, true, true, true, true, false, false] rfl rfl (by kernel_rfl) (fun _ _ _ h => h) (Or.inl ⟨by rfl, ?_⟩) ?_ ?_
    rotate_left
    · intro w'
      go_simp
      with_reducible rfl
    rotate_left
    · simp only [Act.put, List.setIfInBounds_toArray, List.set_cons_zero, List.set_cons_succ, i64_w, i32_w]
      rfl
    refine one_ (i := 14) (N := none) #[true, true, true, true, true, true, true, true, true, true, true, true, true, true, true, false] rfl rfl (by kernel_rfl) (by decide) (fun K hK => ?_)
    refine skip_ (w1 := ?_) (by rfl) rfl ?_ ?_
    rotate_left
    · go_simp
      rfl
    refine hK.out _ _ ⟨(cell_far hHeld.1 (by omega)), (cell_far hHeld.2.1 (by omega)), (cell_far hHeld.2.2 (by omega))⟩ (fun hHeld => ?_)
    clear hK K
    refine pure_ (i := 15) (N := some 4) (v := ?_) (a' := ?_) #[true, true, true, true, true, true, true, true, true, true, true, true, true, true, true, true] rfl rfl (by kernel_rfl) (fun _ _ _ h => h) (Or.inl ⟨by rfl, ?_⟩) ?_ ?_
    rotate_left
    · intro w'
      go_simp
      with_reducible rfl
    rotate_left
    · simp only [Act.put, List.setIfInBounds_toArray, List.set_cons_zero, List.set_cons_succ, i64_w, i32_w]
      rfl
    refine done_ (by kernel_rfl) ?_
    cases hq : eq35 (⟨4, d, sr, n, wd, sg, op, nm⟩ : S50) (⟨4, d, sr, n, 0, false, 0, e0⟩ : S50) with
    | true =>
      have HQ := Lib.hid hq
      have HE : ∀ (dd : Nat) (W : World), (Op.equalIn (dd + 2) 50 (.agg #[.int .i64 4, .int .i64 d, .int .i64 sr, .int .i64 n, .int .i64 wd, .bool sg, .int .i64 op, .string nm]) (.agg #[.int .i64 4, .int .i64 d, .int .i64 sr, .int .i64 n, .int .i64 0, .bool false, .int .i64 0, .string ⟨#[]⟩])).run Tryd.prog W = .ok true W := fun dd W => (eqA35 dd W _ _ _ _ _ _ _ _ _ _ _ _ _ _ _ _).trans (congrArg (fun b => Result.ok b W) hq)
      clear hq
      go_wp2_with (go_at_call 56; refine (isReg_calls _ 2 [d, sr] _ (two_ints _ _ _ _ (by first | exact cell_new (by simp) rfl | exact cell_newD (by simp) rfl | exact cell_newN (by simp) rfl) (by first | exact cell_new (by simp) rfl | exact cell_newD (by simp) rfl | exact cell_newN (by simp) rfl)) (by simp)).mono ?_; rintro e w1 ⟨rfl, hb⟩; have HB := Lib.hid hb; clear hb)
      go_ret
      exact ⟨by (try rw [HO.out]); (try rw [HQ.out]); rfl, by refine below_then (w1 := _) ?_ ?_ HB.out; (repeat (first | exact Below.refl _ _ | exact HB3.out | apply below_alloc | apply below_drew1 | apply pw_below_drewN | (refine Below.setCell ?_ (by simp) _))); (simp; try omega)⟩
    | false =>
      have hf := HF.out
      rw [hq] at hf
      exact absurd hf (by simp)
  | false =>
    have HSM := Lib.hid hs
    have HO := HSM
    clear hs
    have hf := HF.out
    rw [HO.out] at hf
    exact absurd hf (by simp)
set_option maxRecDepth 100000 in
set_option maxHeartbeats 4000000 in
theorem form_5 (d sr n wd op : Int) (sg : Bool) (nm : ByteArray) (w : World) (hnm : nm.size ≤ 140737488351232) (hf : (decide ((1 ≤ op ∧ op ≤ 3) ∨ (8 ≤ op ∧ op ≤ 10)) && (eq35 (⟨5, d, sr, n, wd, sg, op, nm⟩ : S50) (⟨5, d, sr, 0, 0, false, op, e0⟩ : S50) && (!noReg d && !noReg sr))) = true) : Calls Tryd.prog 40 #[.agg #[.int .i64 5, .int .i64 d, .int .i64 sr, .int .i64 n, .int .i64 wd, .bool sg, .int .i64 op, .string nm]] w (FP (decide ((1 ≤ op ∧ op ≤ 3) ∨ (8 ≤ op ∧ op ≤ 10)) && (eq35 (⟨5, d, sr, n, wd, sg, op, nm⟩ : S50) (⟨5, d, sr, 0, 0, false, op, e0⟩ : S50) && (!noReg d && !noReg sr))) w) := by
  have HF := Lib.hid hf
  clear hf
  rcases (show (1 ≤ op ∧ op ≤ 3) ∨ (8 ≤ op ∧ op ≤ 10) ∨ (op < 1) ∨ (4 ≤ op ∧ op ≤ 7) ∨ (10 < op) by omega) with hc | hc | hc | hc | hc
  · skip
    have HO : Hid ((decide ((1 ≤ op ∧ op ≤ 3) ∨ (8 ≤ op ∧ op ≤ 10))) = true) := Lib.hid (by simp; omega)
    have f1 : 1 ≤ op := by omega
    have h3 : op ≤ 3 := by omega
    clear hc
    go_enter Tryd.func40, Tryd.ntmps40
    go_wp2
    refine start_ (n := 12) (S := fun w' => w'.cell? ⟨w.heap.size, 1, none⟩ = some (.int .i64 d) ∧ w'.cell? ⟨w.heap.size, 2, none⟩ = some (.int .i64 sr) ∧ w'.cell? ⟨w.heap.size, 6, none⟩ = some (.int .i64 op)) (ds := []) #[false, false, false, false, false, false, false, false, false, false, false, false] (by kernel_rfl) rfl rfl ⟨(by simp), (by simp), (by simp)⟩ (fun hHeld => ?_)
    refine pure_ (i := 0) (N := some 55) (v := ?_) (a' := ?_) #[true, false, false, false, false, false, false, false, false, false, false, false] rfl rfl (by kernel_rfl) (fun _ _ _ h => h) (Or.inl ⟨by rfl, ?_⟩) ?_ ?_
    rotate_left
    · intro w'
      go_simp
      with_reducible rfl
    rotate_left
    · simp only [Act.put, List.setIfInBounds_toArray, List.set_cons_zero, List.set_cons_succ, i64_w, i32_w]
      rfl
    refine pure_ (i := 2) (N := some 57) (v := ?_) (a' := ?_) #[true, false, true, false, false, false, false, false, false, false, false, false] rfl rfl (by kernel_rfl) (fun _ _ _ h => h) (Or.inl ⟨by rfl, ?_⟩) ?_ ?_
    rotate_left
    · intro w'
      go_simp
      with_reducible rfl
    rotate_left
    · simp only [Act.put, List.setIfInBounds_toArray, List.set_cons_zero, List.set_cons_succ, i64_w, i32_w]
      rfl
    refine pure_ (i := 4) (N := some 59) (v := ?_) (a' := ?_) #[true, false, true, false, true, false, false, false, false, false, false, false] rfl rfl (by kernel_rfl) (fun _ _ _ h => h) (Or.inl ⟨by rfl, ?_⟩) ?_ ?_
    rotate_left
    · intro w'
      go_simp
      with_reducible rfl
    rotate_left
    · simp only [Act.put, List.setIfInBounds_toArray, List.set_cons_zero, List.set_cons_succ, i64_w, i32_w]
      rfl
    refine take_ (i := 1) (N := some 56) (v := ?_) (a' := ?_) #[true, true, true, false, true, false, false, false, false, false, false, false] rfl rfl (by kernel_rfl) (fun _ _ _ h => h) (Or.inl ⟨by rfl, ?_⟩) hHeld ?_ ?_
    rotate_left
    · rintro w' ⟨s0, s1, s2⟩
      go_simp
      with_reducible rfl
    rotate_left
    · simp only [Act.put, List.setIfInBounds_toArray, List.set_cons_zero, List.set_cons_succ, i64_w, i32_w]
      rfl
    refine pure_ (i := 6) (N := some 61) (v := ?_) (a' := ?_) #[true, true, true, false, true, false, true, false, false, false, false, false] rfl rfl (by kernel_rfl) (fun _ _ _ h => h) (Or.inl ⟨by rfl, ?_⟩) ?_ ?_
    rotate_left
    · intro w'
      go_simp
      with_reducible rfl
    rotate_left
    · simp only [Act.put, List.setIfInBounds_toArray, List.set_cons_zero, List.set_cons_succ, i64_w, i32_w]
      rfl
    refine take_ (i := 3) (N := some 58) (v := ?_) (a' := ?_) #[true, true, true, true, true, false, true, false, false, false, false, false] rfl rfl (by kernel_rfl) (fun _ _ _ h => h) (Or.inl ⟨by rfl, ?_⟩) hHeld ?_ ?_
    rotate_left
    · rintro w' ⟨s0, s1, s2⟩
      go_simp
      with_reducible rfl
    rotate_left
    · simp only [Act.put, List.setIfInBounds_toArray, List.set_cons_zero, List.set_cons_succ, i64_w, i32_w]
      rfl
    refine take_ (i := 5) (N := some 60) (v := ?_) (a' := ?_) #[true, true, true, true, true, true, true, false, false, false, false, false] rfl rfl (by kernel_rfl) (fun _ _ _ h => h) (Or.inl ⟨by rfl, ?_⟩) hHeld ?_ ?_
    rotate_left
    · rintro w' ⟨s0, s1, s2⟩
      go_simp
      with_reducible rfl
    rotate_left
    · simp only [Act.put, List.setIfInBounds_toArray, List.set_cons_zero, List.set_cons_succ, i64_w, i32_w]
      rfl
    refine one_ (i := 7) (N := none) #[true, true, true, true, true, true, true, true, false, false, false, false] rfl rfl (by kernel_rfl) (by decide) (fun K hK => ?_)
    refine skip_ (w1 := ?_) (by rfl) rfl ?_ ?_
    rotate_left
    · go_simp
      rfl
    refine hK.out _ _ ⟨(by simp), (by simp), (by simp)⟩ (fun hHeld => ?_)
    clear hK K
    refine pure_ (i := 8) (N := some 62) (v := ?_) (a' := ?_) #[true, true, true, true, true, true, true, true, true, false, false, false] rfl rfl (by kernel_rfl) (fun _ _ _ h => h) (Or.inl ⟨by rfl, ?_⟩) ?_ ?_
    rotate_left
    · intro w'
      go_simp
      with_reducible rfl
    rotate_left
    · simp only [Act.put, List.setIfInBounds_toArray, List.set_cons_zero, List.set_cons_succ, i64_w, i32_w]
      rfl
    refine one_ (i := 9) (N := none) #[true, true, true, true, true, true, true, true, true, true, false, false] rfl rfl (by kernel_rfl) (by decide) (fun K hK => ?_)
    refine skip_ (w1 := ?_) (by rfl) rfl ?_ ?_
    rotate_left
    · go_simp
      rfl
    refine hK.out _ _ ⟨(by simp), (by simp), (by simp)⟩ (fun hHeld => ?_)
    clear hK K
    refine pure_ (i := 10) (N := some 63) (v := ?_) (a' := ?_) #[true, true, true, true, true, true, true, true, true, true, true, false] rfl rfl (by kernel_rfl) (fun _ _ _ h => h) (Or.inl ⟨by rfl, ?_⟩) ?_ ?_
    rotate_left
    · intro w'
      go_simp
      with_reducible rfl
    rotate_left
    · simp only [Act.put, List.setIfInBounds_toArray, List.set_cons_zero, List.set_cons_succ, i64_w, i32_w]
      rfl
    refine one_ (i := 11) (N := none) #[true, true, true, true, true, true, true, true, true, true, true, true] rfl rfl (by kernel_rfl) (by decide) (fun K hK => ?_)
    refine skip_ (w1 := ?_) (by rfl) rfl ?_ ?_
    rotate_left
    · go_simp
      rfl
    refine hK.out _ _ ⟨(by simp), (by simp), (by simp)⟩ (fun hHeld => ?_)
    clear hK K
    refine done_ (by kernel_rfl) ?_
    cases hq : eq35 (⟨5, d, sr, n, wd, sg, op, nm⟩ : S50) (⟨5, d, sr, 0, 0, false, op, e0⟩ : S50) with
    | true =>
      have HQ := Lib.hid hq
      have HE : ∀ (dd : Nat) (W : World), (Op.equalIn (dd + 2) 50 (.agg #[.int .i64 5, .int .i64 d, .int .i64 sr, .int .i64 n, .int .i64 wd, .bool sg, .int .i64 op, .string nm]) (.agg #[.int .i64 5, .int .i64 d, .int .i64 sr, .int .i64 0, .int .i64 0, .bool false, .int .i64 op, .string ⟨#[]⟩])).run Tryd.prog W = .ok true W := fun dd W => (eqA35 dd W _ _ _ _ _ _ _ _ _ _ _ _ _ _ _ _).trans (congrArg (fun b => Result.ok b W) hq)
      clear hq
      go_wp2_with (go_at_call 56; refine (isReg_calls _ 2 [d, sr] _ (two_ints _ _ _ _ (by first | exact cell_new (by simp) rfl | exact cell_newD (by simp) rfl | exact cell_newN (by simp) rfl) (by first | exact cell_new (by simp) rfl | exact cell_newD (by simp) rfl | exact cell_newN (by simp) rfl)) (by simp)).mono ?_; rintro e w1 ⟨rfl, hb⟩; have HB := Lib.hid hb; clear hb)
      go_ret
      exact ⟨by (try rw [HO.out]); (try rw [HQ.out]); rfl, by refine below_then (w1 := _) ?_ ?_ HB.out; (repeat (first | exact Below.refl _ _ | exact HB3.out | apply below_alloc | apply below_drew1 | apply pw_below_drewN | (refine Below.setCell ?_ (by simp) _))); (simp; try omega)⟩
    | false =>
      have hf := HF.out
      rw [hq] at hf
      exact absurd hf (by simp)
  · skip
    have HO : Hid ((decide ((1 ≤ op ∧ op ≤ 3) ∨ (8 ≤ op ∧ op ≤ 10))) = true) := Lib.hid (by simp; omega)
    have f1 : 1 ≤ op := by omega
    have k3 : decide (op ≤ 3) = false := by simp; omega
    have f8 : 8 ≤ op := by omega
    have h10 : op ≤ 10 := by omega
    clear hc
    go_enter Tryd.func40, Tryd.ntmps40
    go_wp2
    refine start_ (n := 12) (S := fun w' => w'.cell? ⟨w.heap.size, 1, none⟩ = some (.int .i64 d) ∧ w'.cell? ⟨w.heap.size, 2, none⟩ = some (.int .i64 sr) ∧ w'.cell? ⟨w.heap.size, 6, none⟩ = some (.int .i64 op)) (ds := []) #[false, false, false, false, false, false, false, false, false, false, false, false] (by kernel_rfl) rfl rfl ⟨(by simp), (by simp), (by simp)⟩ (fun hHeld => ?_)
    refine pure_ (i := 0) (N := some 55) (v := ?_) (a' := ?_) #[true, false, false, false, false, false, false, false, false, false, false, false] rfl rfl (by kernel_rfl) (fun _ _ _ h => h) (Or.inl ⟨by rfl, ?_⟩) ?_ ?_
    rotate_left
    · intro w'
      go_simp
      with_reducible rfl
    rotate_left
    · simp only [Act.put, List.setIfInBounds_toArray, List.set_cons_zero, List.set_cons_succ, i64_w, i32_w]
      rfl
    refine pure_ (i := 2) (N := some 57) (v := ?_) (a' := ?_) #[true, false, true, false, false, false, false, false, false, false, false, false] rfl rfl (by kernel_rfl) (fun _ _ _ h => h) (Or.inl ⟨by rfl, ?_⟩) ?_ ?_
    rotate_left
    · intro w'
      go_simp
      with_reducible rfl
    rotate_left
    · simp only [Act.put, List.setIfInBounds_toArray, List.set_cons_zero, List.set_cons_succ, i64_w, i32_w]
      rfl
    refine pure_ (i := 4) (N := some 59) (v := ?_) (a' := ?_) #[true, false, true, false, true, false, false, false, false, false, false, false] rfl rfl (by kernel_rfl) (fun _ _ _ h => h) (Or.inl ⟨by rfl, ?_⟩) ?_ ?_
    rotate_left
    · intro w'
      go_simp
      with_reducible rfl
    rotate_left
    · simp only [Act.put, List.setIfInBounds_toArray, List.set_cons_zero, List.set_cons_succ, i64_w, i32_w]
      rfl
    refine take_ (i := 1) (N := some 56) (v := ?_) (a' := ?_) #[true, true, true, false, true, false, false, false, false, false, false, false] rfl rfl (by kernel_rfl) (fun _ _ _ h => h) (Or.inl ⟨by rfl, ?_⟩) hHeld ?_ ?_
    rotate_left
    · rintro w' ⟨s0, s1, s2⟩
      go_simp
      with_reducible rfl
    rotate_left
    · simp only [Act.put, List.setIfInBounds_toArray, List.set_cons_zero, List.set_cons_succ, i64_w, i32_w]
      rfl
    refine pure_ (i := 6) (N := some 61) (v := ?_) (a' := ?_) #[true, true, true, false, true, false, true, false, false, false, false, false] rfl rfl (by kernel_rfl) (fun _ _ _ h => h) (Or.inl ⟨by rfl, ?_⟩) ?_ ?_
    rotate_left
    · intro w'
      go_simp
      with_reducible rfl
    rotate_left
    · simp only [Act.put, List.setIfInBounds_toArray, List.set_cons_zero, List.set_cons_succ, i64_w, i32_w]
      rfl
    refine take_ (i := 3) (N := some 58) (v := ?_) (a' := ?_) #[true, true, true, true, true, false, true, false, false, false, false, false] rfl rfl (by kernel_rfl) (fun _ _ _ h => h) (Or.inl ⟨by rfl, ?_⟩) hHeld ?_ ?_
    rotate_left
    · rintro w' ⟨s0, s1, s2⟩
      go_simp
      with_reducible rfl
    rotate_left
    · simp only [Act.put, List.setIfInBounds_toArray, List.set_cons_zero, List.set_cons_succ, i64_w, i32_w]
      rfl
    refine take_ (i := 5) (N := some 60) (v := ?_) (a' := ?_) #[true, true, true, true, true, true, true, false, false, false, false, false] rfl rfl (by kernel_rfl) (fun _ _ _ h => h) (Or.inl ⟨by rfl, ?_⟩) hHeld ?_ ?_
    rotate_left
    · rintro w' ⟨s0, s1, s2⟩
      go_simp
      with_reducible rfl
    rotate_left
    · simp only [Act.put, List.setIfInBounds_toArray, List.set_cons_zero, List.set_cons_succ, i64_w, i32_w]
      rfl
    refine one_ (i := 7) (N := none) #[true, true, true, true, true, true, true, true, false, false, false, false] rfl rfl (by kernel_rfl) (by decide) (fun K hK => ?_)
    refine skip_ (w1 := ?_) (by rfl) rfl ?_ ?_
    rotate_left
    · go_simp
      rfl
    refine hK.out _ _ ⟨(by simp), (by simp), (by simp)⟩ (fun hHeld => ?_)
    clear hK K
    refine pure_ (i := 8) (N := some 62) (v := ?_) (a' := ?_) #[true, true, true, true, true, true, true, true, true, false, false, false] rfl rfl (by kernel_rfl) (fun _ _ _ h => h) (Or.inl ⟨by rfl, ?_⟩) ?_ ?_
    rotate_left
    · intro w'
      go_simp
      with_reducible rfl
    rotate_left
    · simp only [Act.put, List.setIfInBounds_toArray, List.set_cons_zero, List.set_cons_succ, i64_w, i32_w]
      rfl
    refine one_ (i := 9) (N := none) #[true, true, true, true, true, true, true, true, true, true, false, false] rfl rfl (by kernel_rfl) (by decide) (fun K hK => ?_)
    refine skip_ (w1 := ?_) (by rfl) rfl ?_ ?_
    rotate_left
    · go_simp
      rfl
    refine hK.out _ _ ⟨(by simp), (by simp), (by simp)⟩ (fun hHeld => ?_)
    clear hK K
    refine pure_ (i := 10) (N := some 63) (v := ?_) (a' := ?_) #[true, true, true, true, true, true, true, true, true, true, true, false] rfl rfl (by kernel_rfl) (fun _ _ _ h => h) (Or.inl ⟨by rfl, ?_⟩) ?_ ?_
    rotate_left
    · intro w'
      go_simp
      with_reducible rfl
    rotate_left
    · simp only [Act.put, List.setIfInBounds_toArray, List.set_cons_zero, List.set_cons_succ, i64_w, i32_w]
      rfl
    refine one_ (i := 11) (N := none) #[true, true, true, true, true, true, true, true, true, true, true, true] rfl rfl (by kernel_rfl) (by decide) (fun K hK => ?_)
    refine skip_ (w1 := ?_) (by rfl) rfl ?_ ?_
    rotate_left
    · go_simp
      rfl
    refine hK.out _ _ ⟨(by simp), (by simp), (by simp)⟩ (fun hHeld => ?_)
    clear hK K
    refine done_ (by kernel_rfl) ?_
    cases hq : eq35 (⟨5, d, sr, n, wd, sg, op, nm⟩ : S50) (⟨5, d, sr, 0, 0, false, op, e0⟩ : S50) with
    | true =>
      have HQ := Lib.hid hq
      have HE : ∀ (dd : Nat) (W : World), (Op.equalIn (dd + 2) 50 (.agg #[.int .i64 5, .int .i64 d, .int .i64 sr, .int .i64 n, .int .i64 wd, .bool sg, .int .i64 op, .string nm]) (.agg #[.int .i64 5, .int .i64 d, .int .i64 sr, .int .i64 0, .int .i64 0, .bool false, .int .i64 op, .string ⟨#[]⟩])).run Tryd.prog W = .ok true W := fun dd W => (eqA35 dd W _ _ _ _ _ _ _ _ _ _ _ _ _ _ _ _).trans (congrArg (fun b => Result.ok b W) hq)
      clear hq
      go_wp2_with (go_at_call 56; refine (isReg_calls _ 2 [d, sr] _ (two_ints _ _ _ _ (by first | exact cell_new (by simp) rfl | exact cell_newD (by simp) rfl | exact cell_newN (by simp) rfl) (by first | exact cell_new (by simp) rfl | exact cell_newD (by simp) rfl | exact cell_newN (by simp) rfl)) (by simp)).mono ?_; rintro e w1 ⟨rfl, hb⟩; have HB := Lib.hid hb; clear hb)
      go_ret
      exact ⟨by (try rw [HO.out]); (try rw [HQ.out]); rfl, by refine below_then (w1 := _) ?_ ?_ HB.out; (repeat (first | exact Below.refl _ _ | exact HB3.out | apply below_alloc | apply below_drew1 | apply pw_below_drewN | (refine Below.setCell ?_ (by simp) _))); (simp; try omega)⟩
    | false =>
      have hf := HF.out
      rw [hq] at hf
      exact absurd hf (by simp)
  · skip
    have HO : Hid ((decide ((1 ≤ op ∧ op ≤ 3) ∨ (8 ≤ op ∧ op ≤ 10))) = false) := Lib.hid (by simp; omega)
    have g1 : decide (1 ≤ op) = false := by simp; omega
    have g8 : decide (8 ≤ op) = false := by simp; omega
    clear hc
    have hf := HF.out
    rw [HO.out] at hf
    exact absurd hf (by simp)
  · skip
    have HO : Hid ((decide ((1 ≤ op ∧ op ≤ 3) ∨ (8 ≤ op ∧ op ≤ 10))) = false) := Lib.hid (by simp; omega)
    have f1 : 1 ≤ op := by omega
    have k3 : decide (op ≤ 3) = false := by simp; omega
    have g8 : decide (8 ≤ op) = false := by simp; omega
    clear hc
    have hf := HF.out
    rw [HO.out] at hf
    exact absurd hf (by simp)
  · skip
    have HO : Hid ((decide ((1 ≤ op ∧ op ≤ 3) ∨ (8 ≤ op ∧ op ≤ 10))) = false) := Lib.hid (by simp; omega)
    have f1 : 1 ≤ op := by omega
    have k3 : decide (op ≤ 3) = false := by simp; omega
    have f8 : 8 ≤ op := by omega
    have k10 : decide (op ≤ 10) = false := by simp; omega
    clear hc
    have hf := HF.out
    rw [HO.out] at hf
    exact absurd hf (by simp)
set_option maxRecDepth 100000 in
set_option maxHeartbeats 4000000 in
theorem form_8 (d sr n wd op : Int) (sg : Bool) (nm : ByteArray) (w : World) (hnm : nm.size ≤ 140737488351232) (hf : (true && (eq35 (⟨8, d, sr, n, wd, sg, op, nm⟩ : S50) (⟨8, 0, 0, 0, 0, false, 0, e0⟩ : S50) && (!noReg d && !noReg sr))) = true) : Calls Tryd.prog 40 #[.agg #[.int .i64 8, .int .i64 d, .int .i64 sr, .int .i64 n, .int .i64 wd, .bool sg, .int .i64 op, .string nm]] w (FP (true && (eq35 (⟨8, d, sr, n, wd, sg, op, nm⟩ : S50) (⟨8, 0, 0, 0, 0, false, 0, e0⟩ : S50) && (!noReg d && !noReg sr))) w) := by
  have HF := Lib.hid hf
  clear hf
  go_enter Tryd.func40, Tryd.ntmps40
  cases hq : eq35 (⟨8, d, sr, n, wd, sg, op, nm⟩ : S50) (⟨8, 0, 0, 0, 0, false, 0, e0⟩ : S50) with
  | true =>
    have HQ := Lib.hid hq
    have HE : ∀ (dd : Nat) (W : World), (Op.equalIn (dd + 2) 50 (.agg #[.int .i64 8, .int .i64 d, .int .i64 sr, .int .i64 n, .int .i64 wd, .bool sg, .int .i64 op, .string nm]) (.agg #[.int .i64 8, .int .i64 0, .int .i64 0, .int .i64 0, .int .i64 0, .bool false, .int .i64 0, .string ⟨#[]⟩])).run Tryd.prog W = .ok true W := fun dd W => (eqA35 dd W _ _ _ _ _ _ _ _ _ _ _ _ _ _ _ _).trans (congrArg (fun b => Result.ok b W) hq)
    clear hq
    go_wp2_with (go_at_call 56; refine (isReg_calls _ 2 [d, sr] _ (two_ints _ _ _ _ (by first | exact cell_new (by simp) rfl | exact cell_newD (by simp) rfl | exact cell_newN (by simp) rfl) (by first | exact cell_new (by simp) rfl | exact cell_newD (by simp) rfl | exact cell_newN (by simp) rfl)) (by simp)).mono ?_; rintro e w1 ⟨rfl, hb⟩; have HB := Lib.hid hb; clear hb)
    go_ret
    exact ⟨by (try rw [HQ.out]); rfl, by refine below_then (w1 := _) ?_ ?_ HB.out; (repeat (first | exact Below.refl _ _ | exact HB3.out | apply below_alloc | apply below_drew1 | apply pw_below_drewN | (refine Below.setCell ?_ (by simp) _))); (simp; try omega)⟩
  | false =>
    have hf := HF.out
    rw [hq] at hf
    exact absurd hf (by simp)
set_option maxRecDepth 100000 in
set_option maxHeartbeats 4000000 in
theorem form_9 (d sr n wd op : Int) (sg : Bool) (nm : ByteArray) (w : World) (hnm : nm.size ≤ 140737488351232) (hf : (true && (eq35 (⟨9, d, sr, n, wd, sg, op, nm⟩ : S50) (⟨9, 0, sr, 0, 0, sg, 0, e0⟩ : S50) && (!noReg d && !noReg sr))) = true) : Calls Tryd.prog 40 #[.agg #[.int .i64 9, .int .i64 d, .int .i64 sr, .int .i64 n, .int .i64 wd, .bool sg, .int .i64 op, .string nm]] w (FP (true && (eq35 (⟨9, d, sr, n, wd, sg, op, nm⟩ : S50) (⟨9, 0, sr, 0, 0, sg, 0, e0⟩ : S50) && (!noReg d && !noReg sr))) w) := by
  have HF := Lib.hid hf
  clear hf
  go_enter Tryd.func40, Tryd.ntmps40
  go_wp2
  refine start_ (n := 8) (S := fun w' => w'.cell? ⟨w.heap.size, 2, none⟩ = some (.int .i64 sr) ∧ w'.cell? ⟨w.heap.size, 5, none⟩ = some (.bool sg)) (ds := []) #[false, false, false, false, false, false, false, false] (by kernel_rfl) rfl rfl ⟨(by simp), (by simp)⟩ (fun hHeld => ?_)
  refine pure_ (i := 0) (N := some 119) (v := ?_) (a' := ?_) #[true, false, false, false, false, false, false, false] rfl rfl (by kernel_rfl) (fun _ _ _ h => h) (Or.inl ⟨by rfl, ?_⟩) ?_ ?_
  rotate_left
  · intro w'
    go_simp
    with_reducible rfl
  rotate_left
  · simp only [Act.put, List.setIfInBounds_toArray, List.set_cons_zero, List.set_cons_succ, i64_w, i32_w]
    rfl
  refine pure_ (i := 2) (N := some 121) (v := ?_) (a' := ?_) #[true, false, true, false, false, false, false, false] rfl rfl (by kernel_rfl) (fun _ _ _ h => h) (Or.inl ⟨by rfl, ?_⟩) ?_ ?_
  rotate_left
  · intro w'
    go_simp
    with_reducible rfl
  rotate_left
  · simp only [Act.put, List.setIfInBounds_toArray, List.set_cons_zero, List.set_cons_succ, i64_w, i32_w]
    rfl
  refine take_ (i := 1) (N := some 120) (v := ?_) (a' := ?_) #[true, true, true, false, false, false, false, false] rfl rfl (by kernel_rfl) (fun _ _ _ h => h) (Or.inl ⟨by rfl, ?_⟩) hHeld ?_ ?_
  rotate_left
  · rintro w' ⟨s0, s1⟩
    go_simp
    with_reducible rfl
  rotate_left
  · simp only [Act.put, List.setIfInBounds_toArray, List.set_cons_zero, List.set_cons_succ, i64_w, i32_w]
    rfl
  refine pure_ (i := 4) (N := some 123) (v := ?_) (a' := ?_) #[true, true, true, false, true, false, false, false] rfl rfl (by kernel_rfl) (fun _ _ _ h => h) (Or.inl ⟨by rfl, ?_⟩) ?_ ?_
  rotate_left
  · intro w'
    go_simp
    with_reducible rfl
  rotate_left
  · simp only [Act.put, List.setIfInBounds_toArray, List.set_cons_zero, List.set_cons_succ, i64_w, i32_w]
    rfl
  refine take_ (i := 3) (N := some 122) (v := ?_) (a' := ?_) #[true, true, true, true, true, false, false, false] rfl rfl (by kernel_rfl) (fun _ _ _ h => h) (Or.inl ⟨by rfl, ?_⟩) hHeld ?_ ?_
  rotate_left
  · rintro w' ⟨s0, s1⟩
    go_simp
    with_reducible rfl
  rotate_left
  · simp only [Act.put, List.setIfInBounds_toArray, List.set_cons_zero, List.set_cons_succ, i64_w, i32_w]
    rfl
  refine one_ (i := 5) (N := none) #[true, true, true, true, true, true, false, false] rfl rfl (by kernel_rfl) (by decide) (fun K hK => ?_)
  refine skip_ (w1 := ?_) (by rfl) rfl ?_ ?_
  rotate_left
  · go_simp
    rfl
  refine hK.out _ _ ⟨(by simp), (by simp)⟩ (fun hHeld => ?_)
  clear hK K
  refine pure_ (i := 6) (N := some 124) (v := ?_) (a' := ?_) #[true, true, true, true, true, true, true, false] rfl rfl (by kernel_rfl) (fun _ _ _ h => h) (Or.inl ⟨by rfl, ?_⟩) ?_ ?_
  rotate_left
  · intro w'
    go_simp
    with_reducible rfl
  rotate_left
  · simp only [Act.put, List.setIfInBounds_toArray, List.set_cons_zero, List.set_cons_succ, i64_w, i32_w]
    rfl
  refine one_ (i := 7) (N := none) #[true, true, true, true, true, true, true, true] rfl rfl (by kernel_rfl) (by decide) (fun K hK => ?_)
  refine skip_ (w1 := ?_) (by rfl) rfl ?_ ?_
  rotate_left
  · go_simp
    rfl
  refine hK.out _ _ ⟨(by simp), (by simp)⟩ (fun hHeld => ?_)
  clear hK K
  refine done_ (by kernel_rfl) ?_
  cases hq : eq35 (⟨9, d, sr, n, wd, sg, op, nm⟩ : S50) (⟨9, 0, sr, 0, 0, sg, 0, e0⟩ : S50) with
  | true =>
    have HQ := Lib.hid hq
    have HE : ∀ (dd : Nat) (W : World), (Op.equalIn (dd + 2) 50 (.agg #[.int .i64 9, .int .i64 d, .int .i64 sr, .int .i64 n, .int .i64 wd, .bool sg, .int .i64 op, .string nm]) (.agg #[.int .i64 9, .int .i64 0, .int .i64 sr, .int .i64 0, .int .i64 0, .bool sg, .int .i64 0, .string ⟨#[]⟩])).run Tryd.prog W = .ok true W := fun dd W => (eqA35 dd W _ _ _ _ _ _ _ _ _ _ _ _ _ _ _ _).trans (congrArg (fun b => Result.ok b W) hq)
    clear hq
    go_wp2_with (go_at_call 56; refine (isReg_calls _ 2 [d, sr] _ (two_ints _ _ _ _ (by first | exact cell_new (by simp) rfl | exact cell_newD (by simp) rfl | exact cell_newN (by simp) rfl) (by first | exact cell_new (by simp) rfl | exact cell_newD (by simp) rfl | exact cell_newN (by simp) rfl)) (by simp)).mono ?_; rintro e w1 ⟨rfl, hb⟩; have HB := Lib.hid hb; clear hb)
    go_ret
    exact ⟨by (try rw [HQ.out]); rfl, by refine below_then (w1 := _) ?_ ?_ HB.out; (repeat (first | exact Below.refl _ _ | exact HB3.out | apply below_alloc | apply below_drew1 | apply pw_below_drewN | (refine Below.setCell ?_ (by simp) _))); (simp; try omega)⟩
  | false =>
    have hf := HF.out
    rw [hq] at hf
    exact absurd hf (by simp)
set_option maxRecDepth 100000 in
set_option maxHeartbeats 4000000 in
theorem form_11 (d sr n wd op : Int) (sg : Bool) (nm : ByteArray) (w : World) (hnm : nm.size ≤ 140737488351232) (hf : (true && (eq35 (⟨11, d, sr, n, wd, sg, op, nm⟩ : S50) (⟨11, d, sr, 0, 0, false, 0, e0⟩ : S50) && (!noReg d && !noReg sr))) = true) : Calls Tryd.prog 40 #[.agg #[.int .i64 11, .int .i64 d, .int .i64 sr, .int .i64 n, .int .i64 wd, .bool sg, .int .i64 op, .string nm]] w (FP (true && (eq35 (⟨11, d, sr, n, wd, sg, op, nm⟩ : S50) (⟨11, d, sr, 0, 0, false, 0, e0⟩ : S50) && (!noReg d && !noReg sr))) w) := by
  have HF := Lib.hid hf
  clear hf
  go_enter Tryd.func40, Tryd.ntmps40
  go_wp2
  refine start_ (n := 8) (S := fun w' => w'.cell? ⟨w.heap.size, 1, none⟩ = some (.int .i64 d) ∧ w'.cell? ⟨w.heap.size, 2, none⟩ = some (.int .i64 sr)) (ds := []) #[false, false, false, false, false, false, false, false] (by kernel_rfl) rfl rfl ⟨(by simp), (by simp)⟩ (fun hHeld => ?_)
  refine pure_ (i := 0) (N := some 32) (v := ?_) (a' := ?_) #[true, false, false, false, false, false, false, false] rfl rfl (by kernel_rfl) (fun _ _ _ h => h) (Or.inl ⟨by rfl, ?_⟩) ?_ ?_
  rotate_left
  · intro w'
    go_simp
    with_reducible rfl
  rotate_left
  · simp only [Act.put, List.setIfInBounds_toArray, List.set_cons_zero, List.set_cons_succ, i64_w, i32_w]
    rfl
  refine pure_ (i := 2) (N := some 34) (v := ?_) (a' := ?_) #[true, false, true, false, false, false, false, false] rfl rfl (by kernel_rfl) (fun _ _ _ h => h) (Or.inl ⟨by rfl, ?_⟩) ?_ ?_
  rotate_left
  · intro w'
    go_simp
    with_reducible rfl
  rotate_left
  · simp only [Act.put, List.setIfInBounds_toArray, List.set_cons_zero, List.set_cons_succ, i64_w, i32_w]
    rfl
  refine take_ (i := 1) (N := some 33) (v := ?_) (a' := ?_) #[true, true, true, false, false, false, false, false] rfl rfl (by kernel_rfl) (fun _ _ _ h => h) (Or.inl ⟨by rfl, ?_⟩) hHeld ?_ ?_
  rotate_left
  · rintro w' ⟨s0, s1⟩
    go_simp
    with_reducible rfl
  rotate_left
  · simp only [Act.put, List.setIfInBounds_toArray, List.set_cons_zero, List.set_cons_succ, i64_w, i32_w]
    rfl
  refine pure_ (i := 4) (N := some 36) (v := ?_) (a' := ?_) #[true, true, true, false, true, false, false, false] rfl rfl (by kernel_rfl) (fun _ _ _ h => h) (Or.inl ⟨by rfl, ?_⟩) ?_ ?_
  rotate_left
  · intro w'
    go_simp
    with_reducible rfl
  rotate_left
  · simp only [Act.put, List.setIfInBounds_toArray, List.set_cons_zero, List.set_cons_succ, i64_w, i32_w]
    rfl
  refine take_ (i := 3) (N := some 35) (v := ?_) (a' := ?_) #[true, true, true, true, true, false, false, false] rfl rfl (by kernel_rfl) (fun _ _ _ h => h) (Or.inl ⟨by rfl, ?_⟩) hHeld ?_ ?_
  rotate_left
  · rintro w' ⟨s0, s1⟩
    go_simp
    with_reducible rfl
  rotate_left
  · simp only [Act.put, List.setIfInBounds_toArray, List.set_cons_zero, List.set_cons_succ, i64_w, i32_w]
    rfl
  refine one_ (i := 5) (N := none) #[true, true, true, true, true, true, false, false] rfl rfl (by kernel_rfl) (by decide) (fun K hK => ?_)
  refine skip_ (w1 := ?_) (by rfl) rfl ?_ ?_
  rotate_left
  · go_simp
    rfl
  refine hK.out _ _ ⟨(by simp), (by simp)⟩ (fun hHeld => ?_)
  clear hK K
  refine pure_ (i := 6) (N := some 37) (v := ?_) (a' := ?_) #[true, true, true, true, true, true, true, false] rfl rfl (by kernel_rfl) (fun _ _ _ h => h) (Or.inl ⟨by rfl, ?_⟩) ?_ ?_
  rotate_left
  · intro w'
    go_simp
    with_reducible rfl
  rotate_left
  · simp only [Act.put, List.setIfInBounds_toArray, List.set_cons_zero, List.set_cons_succ, i64_w, i32_w]
    rfl
  refine one_ (i := 7) (N := none) #[true, true, true, true, true, true, true, true] rfl rfl (by kernel_rfl) (by decide) (fun K hK => ?_)
  refine skip_ (w1 := ?_) (by rfl) rfl ?_ ?_
  rotate_left
  · go_simp
    rfl
  refine hK.out _ _ ⟨(by simp), (by simp)⟩ (fun hHeld => ?_)
  clear hK K
  refine done_ (by kernel_rfl) ?_
  cases hq : eq35 (⟨11, d, sr, n, wd, sg, op, nm⟩ : S50) (⟨11, d, sr, 0, 0, false, 0, e0⟩ : S50) with
  | true =>
    have HQ := Lib.hid hq
    have HE : ∀ (dd : Nat) (W : World), (Op.equalIn (dd + 2) 50 (.agg #[.int .i64 11, .int .i64 d, .int .i64 sr, .int .i64 n, .int .i64 wd, .bool sg, .int .i64 op, .string nm]) (.agg #[.int .i64 11, .int .i64 d, .int .i64 sr, .int .i64 0, .int .i64 0, .bool false, .int .i64 0, .string ⟨#[]⟩])).run Tryd.prog W = .ok true W := fun dd W => (eqA35 dd W _ _ _ _ _ _ _ _ _ _ _ _ _ _ _ _).trans (congrArg (fun b => Result.ok b W) hq)
    clear hq
    go_wp2_with (go_at_call 56; refine (isReg_calls _ 2 [d, sr] _ (two_ints _ _ _ _ (by first | exact cell_new (by simp) rfl | exact cell_newD (by simp) rfl | exact cell_newN (by simp) rfl) (by first | exact cell_new (by simp) rfl | exact cell_newD (by simp) rfl | exact cell_newN (by simp) rfl)) (by simp)).mono ?_; rintro e w1 ⟨rfl, hb⟩; have HB := Lib.hid hb; clear hb)
    go_ret
    exact ⟨by (try rw [HQ.out]); rfl, by refine below_then (w1 := _) ?_ ?_ HB.out; (repeat (first | exact Below.refl _ _ | exact HB3.out | apply below_alloc | apply below_drew1 | apply pw_below_drewN | (refine Below.setCell ?_ (by simp) _))); (simp; try omega)⟩
  | false =>
    have hf := HF.out
    rw [hq] at hf
    exact absurd hf (by simp)
set_option maxRecDepth 100000 in
set_option maxHeartbeats 4000000 in
theorem form_12 (d sr n wd op : Int) (sg : Bool) (nm : ByteArray) (w : World) (hnm : nm.size ≤ 140737488351232) (hf : (decide (0 ≤ op ∧ op ≤ 5) && (eq35 (⟨12, d, sr, n, wd, sg, op, nm⟩ : S50) (⟨12, d, 0, 0, 0, false, op, e0⟩ : S50) && (!noReg d && !noReg sr))) = true) : Calls Tryd.prog 40 #[.agg #[.int .i64 12, .int .i64 d, .int .i64 sr, .int .i64 n, .int .i64 wd, .bool sg, .int .i64 op, .string nm]] w (FP (decide (0 ≤ op ∧ op ≤ 5) && (eq35 (⟨12, d, sr, n, wd, sg, op, nm⟩ : S50) (⟨12, d, 0, 0, 0, false, op, e0⟩ : S50) && (!noReg d && !noReg sr))) w) := by
  have HF := Lib.hid hf
  clear hf
  rcases (show (0 ≤ op ∧ op ≤ 5) ∨ (op < 0) ∨ (5 < op) by omega) with hc | hc | hc
  · skip
    have HO : Hid ((decide (0 ≤ op ∧ op ≤ 5)) = true) := Lib.hid (by simp; omega)
    have f0 : 0 ≤ op := by omega
    have h5 : op ≤ 5 := by omega
    clear hc
    go_enter Tryd.func40, Tryd.ntmps40
    go_wp2
    refine start_ (n := 17) (S := fun w' => w'.cell? ⟨w.heap.size, 1, none⟩ = some (.int .i64 d) ∧ w'.cell? ⟨w.heap.size, 6, none⟩ = some (.int .i64 op)) (ds := []) #[false, false, false, false, false, false, false, false, false, false, false, false, false, false, false, false, false] (by kernel_rfl) rfl rfl ⟨(by simp), (by simp)⟩ (fun hHeld => ?_)
    refine pure_ (i := 0) (N := some 154) (v := ?_) (a' := ?_) #[true, false, false, false, false, false, false, false, false, false, false, false, false, false, false, false, false] rfl rfl (by kernel_rfl) (fun _ _ _ h => h) (Or.inl ⟨by rfl, ?_⟩) ?_ ?_
    rotate_left
    · intro w'
      go_simp
      with_reducible rfl
    rotate_left
    · simp only [Act.put, List.setIfInBounds_toArray, List.set_cons_zero, List.set_cons_succ, i64_w, i32_w]
      rfl
    refine pure_ (i := 2) (N := some 156) (v := ?_) (a' := ?_) #[true, false, true, false, false, false, false, false, false, false, false, false, false, false, false, false, false] rfl rfl (by kernel_rfl) (fun _ _ _ h => h) (Or.inl ⟨by rfl, ?_⟩) ?_ ?_
    rotate_left
    · intro w'
      go_simp
      with_reducible rfl
    rotate_left
    · simp only [Act.put, List.setIfInBounds_toArray, List.set_cons_zero, List.set_cons_succ, i64_w, i32_w]
      rfl
    refine pure_ (i := 4) (N := some 158) (v := ?_) (a' := ?_) #[true, false, true, false, true, false, false, false, false, false, false, false, false, false, false, false, false] rfl rfl (by kernel_rfl) (fun _ _ _ h => h) (Or.inl ⟨by rfl, ?_⟩) ?_ ?_
    rotate_left
    · intro w'
      go_simp
      with_reducible rfl
    rotate_left
    · simp only [Act.put, List.setIfInBounds_toArray, List.set_cons_zero, List.set_cons_succ, i64_w, i32_w]
      rfl
    refine take_ (i := 1) (N := some 155) (v := ?_) (a' := ?_) #[true, true, true, false, true, false, false, false, false, false, false, false, false, false, false, false, false] rfl rfl (by kernel_rfl) (fun _ _ _ h => h) (Or.inl ⟨by rfl, ?_⟩) hHeld ?_ ?_
    rotate_left
    · rintro w' ⟨s0, s1⟩
      go_simp
      with_reducible rfl
    rotate_left
    · simp only [Act.put, List.setIfInBounds_toArray, List.set_cons_zero, List.set_cons_succ, i64_w, i32_w]
      rfl
    refine pure_ (i := 12) (N := some 166) (v := ?_) (a' := ?_) #[true, true, true, false, true, false, false, false, false, false, false, false, true, false, false, false, false] rfl rfl (by kernel_rfl) (fun _ _ _ h => h) (Or.inl ⟨by rfl, ?_⟩) ?_ ?_
    rotate_left
    · intro w'
      go_simp
      with_reducible rfl
    rotate_left
    · simp only [Act.put, List.setIfInBounds_toArray, List.set_cons_zero, List.set_cons_succ, i64_w, i32_w]
      rfl
    refine take_ (i := 3) (N := some 157) (v := ?_) (a' := ?_) #[true, true, true, true, true, false, false, false, false, false, false, false, true, false, false, false, false] rfl rfl (by kernel_rfl) (fun _ _ _ h => h) (Or.inl ⟨by rfl, ?_⟩) hHeld ?_ ?_
    rotate_left
    · rintro w' ⟨s0, s1⟩
      go_simp
      with_reducible rfl
    rotate_left
    · simp only [Act.put, List.setIfInBounds_toArray, List.set_cons_zero, List.set_cons_succ, i64_w, i32_w]
      rfl
    refine take_ (i := 5) (N := some 159) (v := ?_) (a' := ?_) #[true, true, true, true, true, true, false, false, false, false, false, false, true, false, false, false, false] rfl rfl (by kernel_rfl) (fun _ _ _ h => h) (Or.inl ⟨by rfl, ?_⟩) hHeld ?_ ?_
    rotate_left
    · rintro w' ⟨s0, s1⟩
      go_simp
      with_reducible rfl
    rotate_left
    · simp only [Act.put, List.setIfInBounds_toArray, List.set_cons_zero, List.set_cons_succ, i64_w, i32_w]
      rfl
    refine pure_ (i := 6) (N := some 160) (v := ?_) (a' := ?_) #[true, true, true, true, true, true, true, false, false, false, false, false, true, false, false, false, false] rfl rfl (by kernel_rfl) (fun _ _ _ h => h) (Or.inl ⟨by rfl, ?_⟩) ?_ ?_
    rotate_left
    · intro w'
      go_simp
      with_reducible rfl
    rotate_left
    · simp only [Act.put, List.setIfInBounds_toArray, List.set_cons_zero, List.set_cons_succ, i64_w, i32_w]
      rfl
    refine pure_ (i := 7) (N := some 161) (v := ?_) (a' := ?_) #[true, true, true, true, true, true, true, true, false, false, false, false, true, false, false, false, false] rfl rfl (by kernel_rfl) (fun _ _ _ h => h) (Or.inl ⟨by rfl, ?_⟩) ?_ ?_
    rotate_left
    · intro w'
      go_simp
      with_reducible rfl
    rotate_left
    · simp only [Act.put, List.setIfInBounds_toArray, List.set_cons_zero, List.set_cons_succ, i64_w, i32_w]
      rfl
    refine pure_ (i := 8) (N := some 162) (v := ?_) (a' := ?_) #[true, true, true, true, true, true, true, true, true, false, false, false, true, false, false, false, false] rfl rfl (by kernel_rfl) (fun _ _ _ h => h) (Or.inl ⟨by rfl, ?_⟩) ?_ ?_
    rotate_left
    · intro w'
      go_simp
      with_reducible rfl
    rotate_left
    · simp only [Act.put, List.setIfInBounds_toArray, List.set_cons_zero, List.set_cons_succ, i64_w, i32_w]
      rfl
    refine take_ (i := 9) (N := some 163) (v := ?_) (a' := ?_) #[true, true, true, true, true, true, true, true, true, true, false, false, true, false, false, false, false] rfl rfl (by kernel_rfl) (fun _ _ _ h => h) (Or.inl ⟨by rfl, ?_⟩) hHeld ?_ ?_
    rotate_left
    · rintro w' ⟨s0, s1⟩
      go_simp
      with_reducible rfl
    rotate_left
    · simp only [Act.put, List.setIfInBounds_toArray, List.set_cons_zero, List.set_cons_succ, i64_w, i32_w]
      rfl
    refine pure_ (i := 10) (N := some 164) (v := ?_) (a' := ?_) #[true, true, true, true, true, true, true, true, true, true, true, false, true, false, false, false, false] rfl rfl (by kernel_rfl) (fun _ _ _ h => h) (Or.inl ⟨by rfl, ?_⟩) ?_ ?_
    rotate_left
    · intro w'
      go_simp
      with_reducible rfl
    rotate_left
    · simp only [Act.put, List.setIfInBounds_toArray, List.set_cons_zero, List.set_cons_succ, i64_w, i32_w]
      rfl
    refine pure_ (i := 11) (N := some 165) (v := ?_) (a' := ?_) #[true, true, true, true, true, true, true, true, true, true, true, true, true, false, false, false, false] rfl rfl (by kernel_rfl) (fun _ _ _ h => h) (Or.inl ⟨by rfl, ?_⟩) ?_ ?_
    rotate_left
    · intro w'
      go_simp
      with_reducible rfl
    rotate_left
    · simp only [Act.put, List.setIfInBounds_toArray, List.set_cons_zero, List.set_cons_succ, i64_w, i32_w]
      rfl
    refine one_ (i := 13) (N := none) #[true, true, true, true, true, true, true, true, true, true, true, true, true, true, false, false, false] rfl rfl (by kernel_rfl) (by decide) (fun K hK => ?_)
    refine skip_ (w1 := ?_) (by rfl) rfl ?_ ?_
    rotate_left
    · go_simp
      rfl
    refine hK.out _ _ ⟨(by simp), (by simp)⟩ (fun hHeld => ?_)
    clear hK K
    refine pure_ (i := 14) (N := some 167) (v := ?_) (a' := ?_) #[true, true, true, true, true, true, true, true, true, true, true, true, true, true, true, false, false] rfl rfl (by kernel_rfl) (fun _ _ _ h => h) (Or.inl ⟨by rfl, ?_⟩) ?_ ?_
    rotate_left
    · intro w'
      go_simp
      with_reducible rfl
    rotate_left
    · simp only [Act.put, List.setIfInBounds_toArray, List.set_cons_zero, List.set_cons_succ, i64_w, i32_w]
      rfl
    refine one_ (i := 15) (N := none) #[true, true, true, true, true, true, true, true, true, true, true, true, true, true, true, true, false] rfl rfl (by kernel_rfl) (by decide) (fun K hK => ?_)
    refine skip_ (w1 := ?_) (by rfl) rfl ?_ ?_
    rotate_left
    · go_simp
      rfl
    refine hK.out _ _ ⟨(by simp), (by simp)⟩ (fun hHeld => ?_)
    clear hK K
    refine pure_ (i := 16) (N := some 4) (v := ?_) (a' := ?_) #[true, true, true, true, true, true, true, true, true, true, true, true, true, true, true, true, true] rfl rfl (by kernel_rfl) (fun _ _ _ h => h) (Or.inl ⟨by rfl, ?_⟩) ?_ ?_
    rotate_left
    · intro w'
      go_simp
      with_reducible rfl
    rotate_left
    · simp only [Act.put, List.setIfInBounds_toArray, List.set_cons_zero, List.set_cons_succ, i64_w, i32_w]
      rfl
    refine done_ (by kernel_rfl) ?_
    cases hq : eq35 (⟨12, d, sr, n, wd, sg, op, nm⟩ : S50) (⟨12, d, 0, 0, 0, false, op, e0⟩ : S50) with
    | true =>
      have HQ := Lib.hid hq
      have HE : ∀ (dd : Nat) (W : World), (Op.equalIn (dd + 2) 50 (.agg #[.int .i64 12, .int .i64 d, .int .i64 sr, .int .i64 n, .int .i64 wd, .bool sg, .int .i64 op, .string nm]) (.agg #[.int .i64 12, .int .i64 d, .int .i64 0, .int .i64 0, .int .i64 0, .bool false, .int .i64 op, .string ⟨#[]⟩])).run Tryd.prog W = .ok true W := fun dd W => (eqA35 dd W _ _ _ _ _ _ _ _ _ _ _ _ _ _ _ _).trans (congrArg (fun b => Result.ok b W) hq)
      clear hq
      go_wp2_with (go_at_call 56; refine (isReg_calls _ 2 [d, sr] _ (two_ints _ _ _ _ (by first | exact cell_new (by simp) rfl | exact cell_newD (by simp) rfl | exact cell_newN (by simp) rfl) (by first | exact cell_new (by simp) rfl | exact cell_newD (by simp) rfl | exact cell_newN (by simp) rfl)) (by simp)).mono ?_; rintro e w1 ⟨rfl, hb⟩; have HB := Lib.hid hb; clear hb)
      go_ret
      exact ⟨by (try rw [HO.out]); (try rw [HQ.out]); rfl, by refine below_then (w1 := _) ?_ ?_ HB.out; (repeat (first | exact Below.refl _ _ | exact HB3.out | apply below_alloc | apply below_drew1 | apply pw_below_drewN | (refine Below.setCell ?_ (by simp) _))); (simp; try omega)⟩
    | false =>
      have hf := HF.out
      rw [hq] at hf
      exact absurd hf (by simp)
  · skip
    have HO : Hid ((decide (0 ≤ op ∧ op ≤ 5)) = false) := Lib.hid (by simp; omega)
    have g0 : decide (0 ≤ op) = false := by simp; omega
    clear hc
    have hf := HF.out
    rw [HO.out] at hf
    exact absurd hf (by simp)
  · skip
    have HO : Hid ((decide (0 ≤ op ∧ op ≤ 5)) = false) := Lib.hid (by simp; omega)
    have f0 : 0 ≤ op := by omega
    have k5 : decide (op ≤ 5) = false := by simp; omega
    clear hc
    have hf := HF.out
    rw [HO.out] at hf
    exact absurd hf (by simp)
set_option maxRecDepth 100000 in
set_option maxHeartbeats 4000000 in
theorem form_15 (d sr n wd op : Int) (sg : Bool) (nm : ByteArray) (w : World) (hnm : nm.size ≤ 140737488351232) (hf : (isNameP nm && (eq35 (⟨15, d, sr, n, wd, sg, op, nm⟩ : S50) (⟨15, 0, 0, 0, 0, false, 0, nm⟩ : S50) && (!noReg d && !noReg sr))) = true) : Calls Tryd.prog 40 #[.agg #[.int .i64 15, .int .i64 d, .int .i64 sr, .int .i64 n, .int .i64 wd, .bool sg, .int .i64 op, .string nm]] w (FP (isNameP nm && (eq35 (⟨15, d, sr, n, wd, sg, op, nm⟩ : S50) (⟨15, 0, 0, 0, 0, false, 0, nm⟩ : S50) && (!noReg d && !noReg sr))) w) := by
  have HF := Lib.hid hf
  clear hf
  have HNM := Lib.hid hnm
  clear hnm
  cases hs : isNameP nm with
  | true =>
    have HSM := Lib.hid hs
    have HO := HSM
    clear hs
    go_enter Tryd.func40, Tryd.ntmps40
    go_wp2
    refine start_ (n := 8) (S := fun w' => w'.cell? ⟨w.heap.size, 7, none⟩ = some (.string nm)) (ds := []) #[false, false, false, false, false, false, false, false] (by kernel_rfl) rfl rfl ((by simp)) (fun hHeld => ?_)
    refine pure_ (i := 0) (N := some 193) (v := ?_) (a' := ?_) #[true, false, false, false, false, false, false, false] rfl rfl (by kernel_rfl) (fun _ _ _ h => h) (Or.inl ⟨by rfl, ?_⟩) ?_ ?_
    rotate_left
    · intro w'
      go_simp
      with_reducible rfl
    rotate_left
    · simp only [Act.put, List.setIfInBounds_toArray, List.set_cons_zero, List.set_cons_succ, i64_w, i32_w]
      rfl
    refine pure_ (i := 2) (N := some 195) (v := ?_) (a' := ?_) #[true, false, true, false, false, false, false, false] rfl rfl (by kernel_rfl) (fun _ _ _ h => h) (Or.inl ⟨by rfl, ?_⟩) ?_ ?_
    rotate_left
    · intro w'
      go_simp
      with_reducible rfl
    rotate_left
    · simp only [Act.put, List.setIfInBounds_toArray, List.set_cons_zero, List.set_cons_succ, i64_w, i32_w]
      rfl
    refine take_ (i := 1) (N := some 194) (v := ?_) (a' := ?_) #[true, true, true, false, false, false, false, false] rfl rfl (by kernel_rfl) (fun _ _ _ h => h) (Or.inl ⟨by rfl, ?_⟩) hHeld ?_ ?_
    rotate_left
    · intro w' s0
      go_simp
      with_reducible rfl
    rotate_left
    · simp only [Act.put, List.setIfInBounds_toArray, List.set_cons_zero, List.set_cons_succ, i64_w, i32_w]
      rfl
    refine pure_ (i := 5) (N := some 198) (v := ?_) (a' := ?_) #[true, true, true, false, false, true, false, false] rfl rfl (by kernel_rfl) (fun _ _ _ h => h) (Or.inl ⟨by rfl, ?_⟩) ?_ ?_
    rotate_left
    · intro w'
      go_simp
      with_reducible rfl
    rotate_left
    · simp only [Act.put, List.setIfInBounds_toArray, List.set_cons_zero, List.set_cons_succ, i64_w, i32_w]
      rfl
    refine take_ (i := 3) (N := some 196) (v := ?_) (a' := ?_) #[true, true, true, true, false, true, false, false] rfl rfl (by kernel_rfl) (fun _ _ _ h => h) (Or.inl ⟨by rfl, ?_⟩) hHeld ?_ ?_
    rotate_left
    · intro w' s0
      go_simp
      with_reducible rfl
    rotate_left
    · simp only [Act.put, List.setIfInBounds_toArray, List.set_cons_zero, List.set_cons_succ, i64_w, i32_w]
      rfl
    refine one_ (i := 4) (N := some 197) #[true, true, true, true, true, true, false, false] rfl rfl (by kernel_rfl) (by decide) (fun K hK => ?_)
    refine goes_ Tryd.func42 (by kernel_rfl) rfl #[.string nm] (by rfl) rfl rfl (by simp only [List.map_toArray, List.map_cons, List.map_nil]; rfl) ?_
    with_reducible refine (isName_calls nm _ HNM.out).mono ?_
    rw [HSM.out]
    rintro e w3 ⟨rfl, hb⟩
    refine ⟨_, rfl, ?_⟩
    have x0 : w3.cell? ⟨w.heap.size, 0, none⟩ = some (.int .i64 15) := (hb.cell (p := ⟨w.heap.size, 0, none⟩) (by simp; try omega)).trans (by simp)
    have x1 : w3.cell? ⟨w.heap.size, 1, none⟩ = some (.int .i64 d) := (hb.cell (p := ⟨w.heap.size, 1, none⟩) (by simp; try omega)).trans (by simp)
    have x2 : w3.cell? ⟨w.heap.size, 2, none⟩ = some (.int .i64 sr) := (hb.cell (p := ⟨w.heap.size, 2, none⟩) (by simp; try omega)).trans (by simp)
    have x3 : w3.cell? ⟨w.heap.size, 3, none⟩ = some (.int .i64 n) := (hb.cell (p := ⟨w.heap.size, 3, none⟩) (by simp; try omega)).trans (by simp)
    have x4 : w3.cell? ⟨w.heap.size, 4, none⟩ = some (.int .i64 wd) := (hb.cell (p := ⟨w.heap.size, 4, none⟩) (by simp; try omega)).trans (by simp)
    have x5 : w3.cell? ⟨w.heap.size, 5, none⟩ = some (.bool sg) := (hb.cell (p := ⟨w.heap.size, 5, none⟩) (by simp; try omega)).trans (by simp)
    have x6 : w3.cell? ⟨w.heap.size, 6, none⟩ = some (.int .i64 op) := (hb.cell (p := ⟨w.heap.size, 6, none⟩) (by simp; try omega)).trans (by simp)
    have x7 : w3.cell? ⟨w.heap.size, 7, none⟩ = some (.string nm) := (hb.cell (p := ⟨w.heap.size, 7, none⟩) (by simp; try omega)).trans (by simp)
    have y0 : w3.cell? ⟨w.heap.size + 1, 0, none⟩ = some (.int .i64 15) := (hb.cell (p := ⟨w.heap.size + 1, 0, none⟩) (by simp; try omega)).trans (by simp)
    have y1 : w3.cell? ⟨w.heap.size + 1, 1, none⟩ = some (.int .i64 0) := (hb.cell (p := ⟨w.heap.size + 1, 1, none⟩) (by simp; try omega)).trans (by simp)
    have y2 : w3.cell? ⟨w.heap.size + 1, 2, none⟩ = some (.int .i64 0) := (hb.cell (p := ⟨w.heap.size + 1, 2, none⟩) (by simp; try omega)).trans (by simp)
    have y3 : w3.cell? ⟨w.heap.size + 1, 3, none⟩ = some (.int .i64 0) := (hb.cell (p := ⟨w.heap.size + 1, 3, none⟩) (by simp; try omega)).trans (by simp)
    have y4 : w3.cell? ⟨w.heap.size + 1, 4, none⟩ = some (.int .i64 0) := (hb.cell (p := ⟨w.heap.size + 1, 4, none⟩) (by simp; try omega)).trans (by simp)
    have y5 : w3.cell? ⟨w.heap.size + 1, 5, none⟩ = some (.bool false) := (hb.cell (p := ⟨w.heap.size + 1, 5, none⟩) (by simp; try omega)).trans (by simp)
    have y6 : w3.cell? ⟨w.heap.size + 1, 6, none⟩ = some (.int .i64 0) := (hb.cell (p := ⟨w.heap.size + 1, 6, none⟩) (by simp; try omega)).trans (by simp)
    have y7 : w3.cell? ⟨w.heap.size + 1, 7, none⟩ = some (.string ⟨#[]⟩) := (hb.cell (p := ⟨w.heap.size + 1, 7, none⟩) (by simp; try omega)).trans (by simp)
    have g6 : w3.frozen? ⟨w.heap.size + 1, 6, none⟩ = false := (hb.frozen (p := ⟨w.heap.size + 1, 6, none⟩) (by simp; try omega)).trans (by simp)
    have g7 : w3.frozen? ⟨w.heap.size + 1, 7, none⟩ = false := (hb.frozen (p := ⟨w.heap.size + 1, 7, none⟩) (by simp; try omega)).trans (by simp)
    have hB3 : Below w.heap.size w w3 := below_then (by (repeat (first | exact Below.refl _ _ | exact HB3.out | apply below_alloc | apply below_drew1 | apply pw_below_drewN | (refine Below.setCell ?_ (by simp) _)))) (by simp; try omega) hb
    have hs3 := hb.size
    simp at hs3
    have HB3 := Lib.hid hB3
    clear hb hB3
    refine hK.out _ _ (x7) (fun hHeld => ?_)
    clear hK K
    refine norm_ (a' := ?_) ?_ ?_
    rotate_left
    · show Act.put _ (some 197) _ = _
      simp only [Act.put, List.setIfInBounds_toArray, List.set_cons_zero, List.set_cons_succ, i64_w, i32_w]
      rfl
    refine one_ (i := 6) (N := none) #[true, true, true, true, true, true, true, false] rfl rfl (by kernel_rfl) (by decide) (fun K hK => ?_)
    refine skip_ (w1 := ?_) (by rfl) rfl ?_ ?_
    rotate_left
    · go_simp
      rfl
    refine hK.out _ _ ((cell_far hHeld (by omega))) (fun hHeld => ?_)
    clear hK K
    refine pure_ (i := 7) (N := some 4) (v := ?_) (a' := ?_) #[true, true, true, true, true, true, true, true] rfl rfl (by kernel_rfl) (fun _ _ _ h => h) (Or.inl ⟨by rfl, ?_⟩) ?_ ?_
    rotate_left
    · intro w'
      go_simp
      with_reducible rfl
    rotate_left
    · simp only [Act.put, List.setIfInBounds_toArray, List.set_cons_zero, List.set_cons_succ, i64_w, i32_w]
      rfl
    refine done_ (by kernel_rfl) ?_
    cases hq : eq35 (⟨15, d, sr, n, wd, sg, op, nm⟩ : S50) (⟨15, 0, 0, 0, 0, false, 0, nm⟩ : S50) with
    | true =>
      have HQ := Lib.hid hq
      have HE : ∀ (dd : Nat) (W : World), (Op.equalIn (dd + 2) 50 (.agg #[.int .i64 15, .int .i64 d, .int .i64 sr, .int .i64 n, .int .i64 wd, .bool sg, .int .i64 op, .string nm]) (.agg #[.int .i64 15, .int .i64 0, .int .i64 0, .int .i64 0, .int .i64 0, .bool false, .int .i64 0, .string nm])).run Tryd.prog W = .ok true W := fun dd W => (eqA35 dd W _ _ _ _ _ _ _ _ _ _ _ _ _ _ _ _).trans (congrArg (fun b => Result.ok b W) hq)
      clear hq
      go_wp2_with (go_at_call 56; refine (isReg_calls _ 2 [d, sr] _ (two_ints _ _ _ _ (by first | exact cell_new (by simp) rfl | exact cell_newD (by simp) rfl | exact cell_newN (by simp) rfl) (by first | exact cell_new (by simp) rfl | exact cell_newD (by simp) rfl | exact cell_newN (by simp) rfl)) (by simp)).mono ?_; rintro e w1 ⟨rfl, hb⟩; have HB := Lib.hid hb; clear hb)
      go_ret
      exact ⟨by (try rw [HO.out]); (try rw [HQ.out]); rfl, by refine below_then (w1 := _) ?_ ?_ HB.out; (repeat (first | exact Below.refl _ _ | exact HB3.out | apply below_alloc | apply below_drew1 | apply pw_below_drewN | (refine Below.setCell ?_ (by simp) _))); (simp; try omega)⟩
    | false =>
      have hf := HF.out
      rw [hq] at hf
      exact absurd hf (by simp)
  | false =>
    have HSM := Lib.hid hs
    have HO := HSM
    clear hs
    have hf := HF.out
    rw [HO.out] at hf
    exact absurd hf (by simp)
set_option maxRecDepth 100000 in
set_option maxHeartbeats 4000000 in
theorem form_17 (d sr n wd op : Int) (sg : Bool) (nm : ByteArray) (w : World) (hnm : nm.size ≤ 140737488351232) (hf : (true && (eq35 (⟨17, d, sr, n, wd, sg, op, nm⟩ : S50) (⟨17, 0, 0, 0, 0, false, 0, e0⟩ : S50) && (!noReg d && !noReg sr))) = true) : Calls Tryd.prog 40 #[.agg #[.int .i64 17, .int .i64 d, .int .i64 sr, .int .i64 n, .int .i64 wd, .bool sg, .int .i64 op, .string nm]] w (FP (true && (eq35 (⟨17, d, sr, n, wd, sg, op, nm⟩ : S50) (⟨17, 0, 0, 0, 0, false, 0, e0⟩ : S50) && (!noReg d && !noReg sr))) w) := by
  have HF := Lib.hid hf
  clear hf
  go_enter Tryd.func40, Tryd.ntmps40
  cases hq : eq35 (⟨17, d, sr, n, wd, sg, op, nm⟩ : S50) (⟨17, 0, 0, 0, 0, false, 0, e0⟩ : S50) with
  | true =>
    have HQ := Lib.hid hq
    have HE : ∀ (dd : Nat) (W : World), (Op.equalIn (dd + 2) 50 (.agg #[.int .i64 17, .int .i64 d, .int .i64 sr, .int .i64 n, .int .i64 wd, .bool sg, .int .i64 op, .string nm]) (.agg #[.int .i64 17, .int .i64 0, .int .i64 0, .int .i64 0, .int .i64 0, .bool false, .int .i64 0, .string ⟨#[]⟩])).run Tryd.prog W = .ok true W := fun dd W => (eqA35 dd W _ _ _ _ _ _ _ _ _ _ _ _ _ _ _ _).trans (congrArg (fun b => Result.ok b W) hq)
    clear hq
    go_wp2_with (go_at_call 56; refine (isReg_calls _ 2 [d, sr] _ (two_ints _ _ _ _ (by first | exact cell_new (by simp) rfl | exact cell_newD (by simp) rfl | exact cell_newN (by simp) rfl) (by first | exact cell_new (by simp) rfl | exact cell_newD (by simp) rfl | exact cell_newN (by simp) rfl)) (by simp)).mono ?_; rintro e w1 ⟨rfl, hb⟩; have HB := Lib.hid hb; clear hb)
    go_ret
    exact ⟨by (try rw [HQ.out]); rfl, by refine below_then (w1 := _) ?_ ?_ HB.out; (repeat (first | exact Below.refl _ _ | exact HB3.out | apply below_alloc | apply below_drew1 | apply pw_below_drewN | (refine Below.setCell ?_ (by simp) _))); (simp; try omega)⟩
  | false =>
    have hf := HF.out
    rw [hq] at hf
    exact absurd hf (by simp)
set_option maxRecDepth 100000 in
set_option maxHeartbeats 4000000 in
theorem form_18 (d sr n wd op : Int) (sg : Bool) (nm : ByteArray) (w : World) (hnm : nm.size ≤ 140737488351232) (hf : (true && (eq35 (⟨18, d, sr, n, wd, sg, op, nm⟩ : S50) (⟨18, 0, sr, 0, 0, false, 0, e0⟩ : S50) && (!noReg d && !noReg sr))) = true) : Calls Tryd.prog 40 #[.agg #[.int .i64 18, .int .i64 d, .int .i64 sr, .int .i64 n, .int .i64 wd, .bool sg, .int .i64 op, .string nm]] w (FP (true && (eq35 (⟨18, d, sr, n, wd, sg, op, nm⟩ : S50) (⟨18, 0, sr, 0, 0, false, 0, e0⟩ : S50) && (!noReg d && !noReg sr))) w) := by
  have HF := Lib.hid hf
  clear hf
  go_enter Tryd.func40, Tryd.ntmps40
  cases hq : eq35 (⟨18, d, sr, n, wd, sg, op, nm⟩ : S50) (⟨18, 0, sr, 0, 0, false, 0, e0⟩ : S50) with
  | true =>
    have HQ := Lib.hid hq
    have HE : ∀ (dd : Nat) (W : World), (Op.equalIn (dd + 2) 50 (.agg #[.int .i64 18, .int .i64 d, .int .i64 sr, .int .i64 n, .int .i64 wd, .bool sg, .int .i64 op, .string nm]) (.agg #[.int .i64 18, .int .i64 0, .int .i64 sr, .int .i64 0, .int .i64 0, .bool false, .int .i64 0, .string ⟨#[]⟩])).run Tryd.prog W = .ok true W := fun dd W => (eqA35 dd W _ _ _ _ _ _ _ _ _ _ _ _ _ _ _ _).trans (congrArg (fun b => Result.ok b W) hq)
    clear hq
    go_wp2_with (go_at_call 56; refine (isReg_calls _ 2 [d, sr] _ (two_ints _ _ _ _ (by first | exact cell_new (by simp) rfl | exact cell_newD (by simp) rfl | exact cell_newN (by simp) rfl) (by first | exact cell_new (by simp) rfl | exact cell_newD (by simp) rfl | exact cell_newN (by simp) rfl)) (by simp)).mono ?_; rintro e w1 ⟨rfl, hb⟩; have HB := Lib.hid hb; clear hb)
    go_ret
    exact ⟨by (try rw [HQ.out]); rfl, by refine below_then (w1 := _) ?_ ?_ HB.out; (repeat (first | exact Below.refl _ _ | exact HB3.out | apply below_alloc | apply below_drew1 | apply pw_below_drewN | (refine Below.setCell ?_ (by simp) _))); (simp; try omega)⟩
  | false =>
    have hf := HF.out
    rw [hq] at hf
    exact absurd hf (by simp)
set_option maxRecDepth 100000 in
set_option maxHeartbeats 4000000 in
theorem form_19 (d sr n wd op : Int) (sg : Bool) (nm : ByteArray) (w : World) (hnm : nm.size ≤ 140737488351232) (hf : (true && (eq35 (⟨19, d, sr, n, wd, sg, op, nm⟩ : S50) (⟨19, d, 0, 0, 0, false, 0, e0⟩ : S50) && (!noReg d && !noReg sr))) = true) : Calls Tryd.prog 40 #[.agg #[.int .i64 19, .int .i64 d, .int .i64 sr, .int .i64 n, .int .i64 wd, .bool sg, .int .i64 op, .string nm]] w (FP (true && (eq35 (⟨19, d, sr, n, wd, sg, op, nm⟩ : S50) (⟨19, d, 0, 0, 0, false, 0, e0⟩ : S50) && (!noReg d && !noReg sr))) w) := by
  have HF := Lib.hid hf
  clear hf
  go_enter Tryd.func40, Tryd.ntmps40
  cases hq : eq35 (⟨19, d, sr, n, wd, sg, op, nm⟩ : S50) (⟨19, d, 0, 0, 0, false, 0, e0⟩ : S50) with
  | true =>
    have HQ := Lib.hid hq
    have HE : ∀ (dd : Nat) (W : World), (Op.equalIn (dd + 2) 50 (.agg #[.int .i64 19, .int .i64 d, .int .i64 sr, .int .i64 n, .int .i64 wd, .bool sg, .int .i64 op, .string nm]) (.agg #[.int .i64 19, .int .i64 d, .int .i64 0, .int .i64 0, .int .i64 0, .bool false, .int .i64 0, .string ⟨#[]⟩])).run Tryd.prog W = .ok true W := fun dd W => (eqA35 dd W _ _ _ _ _ _ _ _ _ _ _ _ _ _ _ _).trans (congrArg (fun b => Result.ok b W) hq)
    clear hq
    go_wp2_with (go_at_call 56; refine (isReg_calls _ 2 [d, sr] _ (two_ints _ _ _ _ (by first | exact cell_new (by simp) rfl | exact cell_newD (by simp) rfl | exact cell_newN (by simp) rfl) (by first | exact cell_new (by simp) rfl | exact cell_newD (by simp) rfl | exact cell_newN (by simp) rfl)) (by simp)).mono ?_; rintro e w1 ⟨rfl, hb⟩; have HB := Lib.hid hb; clear hb)
    go_ret
    exact ⟨by (try rw [HQ.out]); rfl, by refine below_then (w1 := _) ?_ ?_ HB.out; (repeat (first | exact Below.refl _ _ | exact HB3.out | apply below_alloc | apply below_drew1 | apply pw_below_drewN | (refine Below.setCell ?_ (by simp) _))); (simp; try omega)⟩
  | false =>
    have hf := HF.out
    rw [hq] at hf
    exact absurd hf (by simp)
set_option maxRecDepth 100000 in
set_option maxHeartbeats 4000000 in
theorem form_20 (d sr n wd op : Int) (sg : Bool) (nm : ByteArray) (w : World) (hnm : nm.size ≤ 140737488351232) (hf : (smallB n && (eq35 (⟨20, d, sr, n, wd, sg, op, nm⟩ : S50) (⟨20, d, 0, n, 0, false, 0, e0⟩ : S50) && (!noReg d && !noReg sr))) = true) : Calls Tryd.prog 40 #[.agg #[.int .i64 20, .int .i64 d, .int .i64 sr, .int .i64 n, .int .i64 wd, .bool sg, .int .i64 op, .string nm]] w (FP (smallB n && (eq35 (⟨20, d, sr, n, wd, sg, op, nm⟩ : S50) (⟨20, d, 0, n, 0, false, 0, e0⟩ : S50) && (!noReg d && !noReg sr))) w) := by
  have HF := Lib.hid hf
  clear hf
  cases hs : smallB n with
  | true =>
    have HSM := Lib.hid hs
    have HO := HSM
    clear hs
    go_enter Tryd.func40, Tryd.ntmps40
    go_wp2
    refine start_ (n := 12) (S := fun w' => w'.cell? ⟨w.heap.size, 1, none⟩ = some (.int .i64 d) ∧ w'.cell? ⟨w.heap.size, 3, none⟩ = some (.int .i64 n)) (ds := []) #[false, false, false, false, false, false, false, false, false, false, false, false] (by kernel_rfl) rfl rfl ⟨(by simp), (by simp)⟩ (fun hHeld => ?_)
    refine pure_ (i := 0) (N := some 20) (v := ?_) (a' := ?_) #[true, false, false, false, false, false, false, false, false, false, false, false] rfl rfl (by kernel_rfl) (fun _ _ _ h => h) (Or.inl ⟨by rfl, ?_⟩) ?_ ?_
    rotate_left
    · intro w'
      go_simp
      with_reducible rfl
    rotate_left
    · simp only [Act.put, List.setIfInBounds_toArray, List.set_cons_zero, List.set_cons_succ, i64_w, i32_w]
      rfl
    refine pure_ (i := 2) (N := some 22) (v := ?_) (a' := ?_) #[true, false, true, false, false, false, false, false, false, false, false, false] rfl rfl (by kernel_rfl) (fun _ _ _ h => h) (Or.inl ⟨by rfl, ?_⟩) ?_ ?_
    rotate_left
    · intro w'
      go_simp
      with_reducible rfl
    rotate_left
    · simp only [Act.put, List.setIfInBounds_toArray, List.set_cons_zero, List.set_cons_succ, i64_w, i32_w]
      rfl
    refine pure_ (i := 4) (N := some 24) (v := ?_) (a' := ?_) #[true, false, true, false, true, false, false, false, false, false, false, false] rfl rfl (by kernel_rfl) (fun _ _ _ h => h) (Or.inl ⟨by rfl, ?_⟩) ?_ ?_
    rotate_left
    · intro w'
      go_simp
      with_reducible rfl
    rotate_left
    · simp only [Act.put, List.setIfInBounds_toArray, List.set_cons_zero, List.set_cons_succ, i64_w, i32_w]
      rfl
    refine take_ (i := 1) (N := some 21) (v := ?_) (a' := ?_) #[true, true, true, false, true, false, false, false, false, false, false, false] rfl rfl (by kernel_rfl) (fun _ _ _ h => h) (Or.inl ⟨by rfl, ?_⟩) hHeld ?_ ?_
    rotate_left
    · rintro w' ⟨s0, s1⟩
      go_simp
      with_reducible rfl
    rotate_left
    · simp only [Act.put, List.setIfInBounds_toArray, List.set_cons_zero, List.set_cons_succ, i64_w, i32_w]
      rfl
    refine pure_ (i := 7) (N := some 27) (v := ?_) (a' := ?_) #[true, true, true, false, true, false, false, true, false, false, false, false] rfl rfl (by kernel_rfl) (fun _ _ _ h => h) (Or.inl ⟨by rfl, ?_⟩) ?_ ?_
    rotate_left
    · intro w'
      go_simp
      with_reducible rfl
    rotate_left
    · simp only [Act.put, List.setIfInBounds_toArray, List.set_cons_zero, List.set_cons_succ, i64_w, i32_w]
      rfl
    refine take_ (i := 3) (N := some 23) (v := ?_) (a' := ?_) #[true, true, true, true, true, false, false, true, false, false, false, false] rfl rfl (by kernel_rfl) (fun _ _ _ h => h) (Or.inl ⟨by rfl, ?_⟩) hHeld ?_ ?_
    rotate_left
    · rintro w' ⟨s0, s1⟩
      go_simp
      with_reducible rfl
    rotate_left
    · simp only [Act.put, List.setIfInBounds_toArray, List.set_cons_zero, List.set_cons_succ, i64_w, i32_w]
      rfl
    refine take_ (i := 5) (N := some 25) (v := ?_) (a' := ?_) #[true, true, true, true, true, true, false, true, false, false, false, false] rfl rfl (by kernel_rfl) (fun _ _ _ h => h) (Or.inl ⟨by rfl, ?_⟩) hHeld ?_ ?_
    rotate_left
    · rintro w' ⟨s0, s1⟩
      go_simp
      with_reducible rfl
    rotate_left
    · simp only [Act.put, List.setIfInBounds_toArray, List.set_cons_zero, List.set_cons_succ, i64_w, i32_w]
      rfl
    refine one_ (i := 6) (N := some 26) #[true, true, true, true, true, true, true, true, false, false, false, false] rfl rfl (by kernel_rfl) (by decide) (fun K hK => ?_)
    refine goes_ Tryd.func55 (by kernel_rfl) rfl #[.int .i64 n] (by rfl) rfl rfl (by simp only [List.map_toArray, List.map_cons, List.map_nil]; rfl) ?_
    with_reducible refine (small_c n _).mono ?_
    rw [HSM.out]
    rintro e w3 ⟨rfl, n3, rfl⟩
    refine ⟨_, rfl, ?_⟩
    refine hK.out _ _ ⟨hHeld.1, hHeld.2⟩ (fun hHeld => ?_)
    clear hK K
    refine norm_ (a' := ?_) ?_ ?_
    rotate_left
    · show Act.put _ (some 26) _ = _
      simp only [Act.put, List.setIfInBounds_toArray, List.set_cons_zero, List.set_cons_succ, i64_w, i32_w]
      rfl
    refine one_ (i := 8) (N := none) #[true, true, true, true, true, true, true, true, true, false, false, false] rfl rfl (by kernel_rfl) (by decide) (fun K hK => ?_)
    refine skip_ (w1 := ?_) (by rfl) rfl ?_ ?_
    rotate_left
    · go_simp
      rfl
    refine hK.out _ _ ⟨(cell_far hHeld.1 (by omega)), (cell_far hHeld.2 (by omega))⟩ (fun hHeld => ?_)
    clear hK K
    refine pure_ (i := 9) (N := some 28) (v := ?_) (a' := ?_) #[true, true, true, true, true, true, true, true, true, true, false, false] rfl rfl (by kernel_rfl) (fun _ _ _ h => h) (Or.inl ⟨by rfl, ?_⟩) ?_ ?_
    rotate_left
    · intro w'
      go_simp
      with_reducible rfl
    rotate_left
    · simp only [Act.put, List.setIfInBounds_toArray, List.set_cons_zero, List.set_cons_succ, i64_w, i32_w]
      rfl
    refine one_ (i := 10) (N := none) #[true, true, true, true, true, true, true, true, true, true, true, false] rfl rfl (by kernel_rfl) (by decide) (fun K hK => ?_)
    refine skip_ (w1 := ?_) (by rfl) rfl ?_ ?_
    rotate_left
    · go_simp
      rfl
    refine hK.out _ _ ⟨(cell_far hHeld.1 (by omega)), (cell_far hHeld.2 (by omega))⟩ (fun hHeld => ?_)
    clear hK K
    refine pure_ (i := 11) (N := some 4) (v := ?_) (a' := ?_) #[true, true, true, true, true, true, true, true, true, true, true, true] rfl rfl (by kernel_rfl) (fun _ _ _ h => h) (Or.inl ⟨by rfl, ?_⟩) ?_ ?_
    rotate_left
    · intro w'
      go_simp
      with_reducible rfl
    rotate_left
    · simp only [Act.put, List.setIfInBounds_toArray, List.set_cons_zero, List.set_cons_succ, i64_w, i32_w]
      rfl
    refine done_ (by kernel_rfl) ?_
    cases hq : eq35 (⟨20, d, sr, n, wd, sg, op, nm⟩ : S50) (⟨20, d, 0, n, 0, false, 0, e0⟩ : S50) with
    | true =>
      have HQ := Lib.hid hq
      have HE : ∀ (dd : Nat) (W : World), (Op.equalIn (dd + 2) 50 (.agg #[.int .i64 20, .int .i64 d, .int .i64 sr, .int .i64 n, .int .i64 wd, .bool sg, .int .i64 op, .string nm]) (.agg #[.int .i64 20, .int .i64 d, .int .i64 0, .int .i64 n, .int .i64 0, .bool false, .int .i64 0, .string ⟨#[]⟩])).run Tryd.prog W = .ok true W := fun dd W => (eqA35 dd W _ _ _ _ _ _ _ _ _ _ _ _ _ _ _ _).trans (congrArg (fun b => Result.ok b W) hq)
      clear hq
      go_wp2_with (go_at_call 56; refine (isReg_calls _ 2 [d, sr] _ (two_ints _ _ _ _ (by first | exact cell_new (by simp) rfl | exact cell_newD (by simp) rfl | exact cell_newN (by simp) rfl) (by first | exact cell_new (by simp) rfl | exact cell_newD (by simp) rfl | exact cell_newN (by simp) rfl)) (by simp)).mono ?_; rintro e w1 ⟨rfl, hb⟩; have HB := Lib.hid hb; clear hb)
      go_ret
      exact ⟨by (try rw [HO.out]); (try rw [HQ.out]); rfl, by refine below_then (w1 := _) ?_ ?_ HB.out; (repeat (first | exact Below.refl _ _ | exact HB3.out | apply below_alloc | apply below_drew1 | apply pw_below_drewN | (refine Below.setCell ?_ (by simp) _))); (simp; try omega)⟩
    | false =>
      have hf := HF.out
      rw [hq] at hf
      exact absurd hf (by simp)
  | false =>
    have HSM := Lib.hid hs
    have HO := HSM
    clear hs
    have hf := HF.out
    rw [HO.out] at hf
    exact absurd hf (by simp)
def kindU (x : S50) : Prop := x.f0 = 1 ∨ x.f0 = 2 ∨ x.f0 = 3 ∨ x.f0 = 4 ∨ x.f0 = 5 ∨ x.f0 = 8 ∨ x.f0 = 9 ∨ x.f0 = 11 ∨ x.f0 = 12 ∨ x.f0 = 15 ∨ x.f0 = 17 ∨ x.f0 = 18 ∨ x.f0 = 19 ∨ x.f0 = 20
theorem form_calls (x : S50) (w : World) (h : x.f7.size ≤ 140737488351232) (hf : formP x = true) (hu : kindU x) :
    Calls Tryd.prog 40 #[.agg #[.int .i64 x.f0, .int .i64 x.f1, .int .i64 x.f2, .int .i64 x.f3, .int .i64 x.f4, .bool x.f5, .int .i64 x.f6, .string x.f7]] w (FP true w) := by
  rw [← hf]
  obtain ⟨k, d, sr, n, wd, sg, op, nm⟩ := x
  unfold kindU at hu
  simp only at h hu ⊢
  rcases hu with rfl | rfl | rfl | rfl | rfl | rfl | rfl | rfl | rfl | rfl | rfl | rfl | rfl | rfl
  · exact form_1 d sr n wd op sg nm w h hf
  · exact form_2 d sr n wd op sg nm w h hf
  · exact form_3 d sr n wd op sg nm w h hf
  · exact form_4 d sr n wd op sg nm w h hf
  · exact form_5 d sr n wd op sg nm w h hf
  · exact form_8 d sr n wd op sg nm w h hf
  · exact form_9 d sr n wd op sg nm w h hf
  · exact form_11 d sr n wd op sg nm w h hf
  · exact form_12 d sr n wd op sg nm w h hf
  · exact form_15 d sr n wd op sg nm w h hf
  · exact form_17 d sr n wd op sg nm w h hf
  · exact form_18 d sr n wd op sg nm w h hf
  · exact form_19 d sr n wd op sg nm w h hf
  · exact form_20 d sr n wd op sg nm w h hf
end Go.Proofs.YthfpdlfpbbhjhaaDoor.Mc
