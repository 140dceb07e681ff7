import Derived.Test.YtcbfbefpbjmglaaDoorSHh
import Derived.Sort.KeysCollected
import Derived.Test.YtcbfbefpbjmglaaDoorIterT
namespace Go.Proofs.YtcbfbefpbjmglaaDoor.Mac
open Go.RowKit Go.Proofs.MapFun Go.Proofs.YtcbfbefpbjmglaaDoor.PA Go.Proofs.YtcbfbefpbjmglaaDoorT Go.Proofs.YtcbfbefpbjmglaaDoorW.PrintWords Go.Proofs.YtcbfbefpbjmglaaDoorW.PrintLast Go.Proofs.YtcbfbefpbjmglaaDoorW.PrintMore
set_option linter.unusedVariables false
set_option linter.unusedSimpArgs false
attribute [local go_sem] Oper.semAt_some
theorem turned_other {W W' : World} {b i : Nat} {cs : Array Value} {ty : TypeId} {fr : Nat × Nat} (ht : W.mapTurned W' b) (h : W.heap[i]? = some (.cells cs ty fr)) : W'.heap[i]? = some (.cells cs ty fr) := by
 obtain ⟨es, ck, _, _, hb, _⟩ := id ht
 obtain ⟨_, _, _, _, hg⟩ := ht.grown
 rw [hg i (blk_lt h) (fun e => by cases e; rw [hb] at h; cases h)]
 exact h
theorem cell_turned {W W' : World} {b : Nat} {a : Addr} {u : Value} (ht : W.mapTurned W' b) (h : W.cell? a = some u) : W'.cell? a = some u := by
 obtain ⟨es, ck, _, _, hb, _⟩ := id ht
 have hlt := World.block_lt_of_cell? W a h
 rw [← h]
 obtain ⟨_, _, _, _, hg⟩ := ht.grown
 refine World.cell?_of_block (hg _ hlt (fun e => ?_))
 cases e
 unfold World.cell? at h
 rw [hb] at h
 cases h
theorem C_turned {α : Type} {K : Kd α} {W W' : World} {A : Option Addr} {n b : Nat} {l : List α} (hK : ∀ p c, K.K W p c → K.K W' p c) (h : Kd.C K W A n l) (ht : W.mapTurned W' b) : Kd.C K W' A n l := by
 refine ⟨h.1, h.2.1, fun hn => ?_⟩
 obtain ⟨ad, ha, hr⟩ := h.2.2 hn
 refine ⟨ad, ha, fun j p hj => ?_⟩
 obtain ⟨c, h1, h2, h3⟩ := hr j p hj
 exact ⟨c, h1, hK _ _ h2, fun i u hu => cell_turned ht (h3 i u hu)⟩
theorem Cs_turned {W W' : World} {A : Option Addr} {n b : Nat} {l : List ByteArray} (h : Kd.C Kd.string W A n l) (ht : W.mapTurned W' b) : Kd.C Kd.string W' A n l := C_turned (W := W) (W' := W') (fun _ _ h => h) h ht
theorem Ck_turned {W W' : World} {A : Option Addr} {n b : Nat} {l : List S48} (h : Kd.C k48 W A n l) (ht : W.mapTurned W' b) : Kd.C k48 W' A n l := C_turned (W := W) (W' := W') (fun _ _ h => h) h ht
theorem MacV.turned {W W' : World} {b : Nat} {m : MacP} {v : Value} (h : MacV W m v) (ht : W.mapTurned W' b) : MacV W' m v := by
 obtain ⟨Ap, cp, Ab, cb, e, h1, h2, h3, h4⟩ := h
 exact ⟨Ap, cp, Ab, cb, e, Cs_turned h1 ht, h2, Ck_turned h3 ht, h4⟩
set_option maxRecDepth 100000 in
set_option maxHeartbeats 2000000 in
theorem define_new (p mb n : Nat) (T : List UInt8 → Option MacP) (nm : ByteArray) (fn more : Bool) (Ap Ab : Option Addr) (cp cb : Nat) (ps : List ByteArray) (body : List S48) (w : World) (hT : Tab w) (hd : DomM nm ps body) (h : TabR w p mb n T) (hr : rightP nm fn ps more body = true) (hnew : T nm.data.toList = none) (hn : n < 1000)
  (hP : Kd.C Kd.string w Ap ps.length ps) (hpc : ps.length ≤ cp) (hB : Kd.C k48 w Ab body.length body) (hbc : body.length ≤ cb) :
  Calls Tryd.prog 22 #[.pointer (some ⟨p, 0, none⟩), .agg #[.string nm, .bool fn, .slice Ap ps.length cp, .bool more, .slice Ab body.length cb]] w fun e w' => e = .returned (.int .i64 0) ∧ TabR w' p mb (n + 1) (fun y => if y = nm.data.toList then some ⟨nm, fn, ps, more, body⟩ else T y) ∧ ∃ w1, Below w.heap.size w w1 ∧ w1.mapTurned w' mb := by
 obtain ⟨B, hBw⟩ : ∃ B, w.heap.size = B := ⟨_, rfl⟩
 have hko := Go.WideMaps.keyOf_string_mk (s := nm) Tryd.underlying9 (by have := hd.1; unfold maxLen; omega)
 go_enter Tryd.func22, Tryd.ntmps22
 refine wp_seq_k fun K1 hK1 => ?_
 have HK1 := Lib.hid hK1
 clear hK1
 go_wp2
 refine HK1.out _ _ ?_
 clear HK1
 obtain ⟨W0, hW0⟩ : ∃ W0, w.alloc (.cells #[.string nm, .bool fn, .slice Ap ps.length cp, .bool more, .slice Ab body.length cb] 32) = W0 := ⟨_, rfl⟩
 have hb0 : Below w.heap.size w W0 := by rw [← hW0]; exact (Below.refl _ w).alloc (Nat.le_refl _) _
 have qA : W0.heap[B]? = some (.cells #[.string nm, .bool fn, .slice Ap ps.length cp, .bool more, .slice Ab body.length cb] 32 (0, 0)) := by rw [← hW0, ← hBw]; exact blk_new w _
 rw [hW0]
 try rw [hBw]
 have h0 := h.below hb0
 have FA : ∀ W, Below W0.heap.size W0 W → W.heap[B]? = some (.cells #[.string nm, .bool fn, .slice Ap ps.length cp, .bool more, .slice Ab body.length cb] 32 (0, 0)) := fun W hb => (hb.block _ (blk_lt qA)).trans qA
 have FP := Lib.hid fun (W : World) (hb : Below W0.heap.size W0 W) => (h0.below hb).hp
 obtain ⟨f, hf, hTf⟩ := h0.hm
 have hfn : f nm.data.toList = none := by have := hTf nm.data.toList; rw [hnew] at this; exact this
 have HMF := Lib.hid fun (W : World) (hb : Below W0.heap.size W0 W) => hf.block (hb.block _ hf.lt)
 have HLK : Hid (∀ W : World, Below W0.heap.size W0 W → (Instr.lookup 68 (.map (some mb)) (.string nm) true).run Tryd.prog W = .ok (.tuple #[.agg #[.string ⟨#[]⟩, .bool false, .slice none 0 0, .bool false, .slice none 0 0], .bool false]) W) := Lib.hid fun (W : World) (hb : Below W0.heap.size W0 W) => by
  have := (HMF.out W hb).look_ok law9 law68 (zero32 _) hko
  rw [hfn] at this
  exact this
 have HLN : Hid (∀ W : World, Below W0.heap.size W0 W → (Builtin.len_ #[68] 3 #[.map (some mb)]).run Tryd.prog W = .ok (.int .i64 n) W) := Lib.hid fun (W : World) (hb : Below W0.heap.size W0 W) => (HMF.out W hb).len law68 3
 have HKO := Lib.hid hko
 have HN := Lib.hid (show n < maxLen by unfold maxLen; omega)
 have HP0 := Kd.C_below hP hb0
 have HB0 := Kd.C_below hB hb0
 have hrc := right_c nm fn more Ap Ab cp cb ps body W0 (hT.grow hb0) hd HP0 hpc HB0 hbc
 rw [hr] at hrc
 have HC43 := Lib.hid fun (W : World) (hb : Below W0.heap.size W0 W) => own_c nm fn more Ap Ab cp cb ps body W hd.2.1 hd.2.2.1 (Kd.C_below HP0 hb) hpc (Kd.C_below HB0 hb) hbc
 have HX := Lib.hid (And.intro hrc (And.intro hb0 (And.intro h0 (And.intro hTf (And.intro hnew hfn)))))
 have hbr : Below W0.heap.size W0 W0 := Below.refl _ _
 have ca0 := blk_cell qA 0
 have ca1 := blk_cell qA 1
 have ca2 := blk_cell qA 2
 have ca3 := blk_cell qA 3
 have ca4 := blk_cell qA 4
 have hn1 : ((n : Int) == 1000) = false := beq_eq_false_iff_ne.2 (by omega)
 clear hrc hb0 h0 hTf hnew hfn hf hW0 hP hB HP0 HB0 hT h hko qA hbr hr
 go_upto_region 5 with (go_at_call 16; refine HX.out.1.mono ?_; rintro e W4 ⟨rfl, hb4⟩; have H4 := Lib.hid hb4; clear hb4 ca0 ca1 ca2 ca3 ca4)
 have H4d := Lib.hid (below_drew H4.out)
 have ca0 := blk_cell (FA _ H4.out) 0
 have cp0 := blk_cell (FP.out _ H4.out) 0
 refine start_ (n := 13) (S := fun w' => w'.cell? ⟨p, 0, none⟩ = some (.map (some mb)) ∧ w'.cell? ⟨B, 0, none⟩ = some (.string nm) ∧ (Instr.lookup 68 (.map (some mb)) (.string nm) true).run Tryd.prog w' = .ok (.tuple #[.agg #[.string ⟨#[]⟩, .bool false, .slice none 0 0, .bool false, .slice none 0 0], .bool false]) w') (ds := [11]) #[false, false, false, false, false, false, false, false, false, false, false, false, false] (by kernel_rfl) rfl rfl ⟨cp0, ca0, (HLK.out _ H4d.out)⟩ (fun hHeld => ?_)
 refine pure_ (i := 0) (N := some 15) (v := ?_) (a' := ?_) #[true, false, false, false, false, false, false, false, false, false, false, false, false] rfl rfl (by kernel_rfl) (fun _ _ _ h => h) (Or.inl ⟨by rfl, ?_⟩) ?_ ?_
 rotate_left
 ·intro w'
  go_simp
  with_reducible rfl
 rotate_left
 ·simp only [Act.put, List.setIfInBounds_toArray, List.set_cons_zero, List.set_cons_succ, i64_w, i32_w]
  rfl
 refine pure_ (i := 1) (N := some 16) (v := ?_) (a' := ?_) #[true, true, false, false, false, false, false, false, false, false, false, false, false] rfl rfl (by kernel_rfl) (fun _ _ _ h => h) (Or.inl ⟨by rfl, ?_⟩) ?_ ?_
 rotate_left
 ·intro w'
  go_simp
  with_reducible rfl
 rotate_left
 ·simp only [Act.put, List.setIfInBounds_toArray, List.set_cons_zero, List.set_cons_succ, i64_w, i32_w]
  rfl
 refine pure_ (i := 2) (N := some 17) (v := ?_) (a' := ?_) #[true, true, true, false, false, false, false, false, false, false, false, false, false] rfl rfl (by kernel_rfl) (fun _ _ _ h => h) (Or.inl ⟨by rfl, ?_⟩) ?_ ?_
 rotate_left
 ·intro w'
  go_simp
  with_reducible rfl
 rotate_left
 ·simp only [Act.put, List.setIfInBounds_toArray, List.set_cons_zero, List.set_cons_succ, i64_w, i32_w]
  rfl
 refine pure_ (i := 4) (N := some 19) (v := ?_) (a' := ?_) #[true, true, true, false, true, false, false, false, false, false, false, false, false] rfl rfl (by kernel_rfl) (fun _ _ _ h => h) (Or.inl ⟨by rfl, ?_⟩) ?_ ?_
 rotate_left
 ·intro w'
  go_simp
  with_reducible rfl
 rotate_left
 ·simp only [Act.put, List.setIfInBounds_toArray, List.set_cons_zero, List.set_cons_succ, i64_w, i32_w]
  rfl
 refine take_ (i := 3) (N := some 18) (v := ?_) (a' := ?_) #[true, true, true, true, true, false, false, false, false, false, false, false, false] rfl rfl (by kernel_rfl) (fun _ _ _ h => h) (Or.inl ⟨by rfl, ?_⟩) hHeld ?_ ?_
 rotate_left
 ·rintro w' ⟨s0, s1, s2⟩
  go_simp
  with_reducible rfl
 rotate_left
 ·simp only [Act.put, List.setIfInBounds_toArray, List.set_cons_zero, List.set_cons_succ, i64_w, i32_w]
  rfl
 refine take_ (i := 5) (N := some 20) (v := ?_) (a' := ?_) #[true, true, true, true, true, true, false, false, false, false, false, false, false] rfl rfl (by kernel_rfl) (fun _ _ _ h => h) (Or.inl ⟨by rfl, ?_⟩) hHeld ?_ ?_
 rotate_left
 ·rintro w' ⟨s0, s1, s2⟩
  go_simp
  with_reducible rfl
 rotate_left
 ·simp only [Act.put, List.setIfInBounds_toArray, List.set_cons_zero, List.set_cons_succ, i64_w, i32_w]
  rfl
 refine take_ (i := 6) (N := some 21) (v := ?_) (a' := ?_) #[true, true, true, true, true, true, true, false, false, false, false, false, false] rfl rfl (by kernel_rfl) (fun _ _ _ h => h) (Or.inl ⟨by rfl, ?_⟩) hHeld ?_ ?_
 rotate_left
 ·rintro w' ⟨s0, s1, s2⟩
  go_simp
  with_reducible rfl
 rotate_left
 ·simp only [Act.put, List.setIfInBounds_toArray, List.set_cons_zero, List.set_cons_succ, i64_w, i32_w]
  rfl
 refine pure_ (i := 7) (N := some 14) (v := ?_) (a' := ?_) #[true, true, true, true, true, true, true, true, false, false, false, false, false] rfl rfl (by kernel_rfl) (fun _ _ _ h => h) (Or.inl ⟨by rfl, ?_⟩) ?_ ?_
 rotate_left
 ·intro w'
  go_simp
  with_reducible rfl
 rotate_left
 ·simp only [Act.put, List.setIfInBounds_toArray, List.set_cons_zero, List.set_cons_succ, i64_w, i32_w]
  rfl
 refine pure_ (i := 8) (N := some 22) (v := ?_) (a' := ?_) #[true, true, true, true, true, true, true, true, true, false, false, false, false] rfl rfl (by kernel_rfl) (fun _ _ _ h => h) (Or.inl ⟨by rfl, ?_⟩) ?_ ?_
 rotate_left
 ·intro w'
  go_simp
  with_reducible rfl
 rotate_left
 ·simp only [Act.put, List.setIfInBounds_toArray, List.set_cons_zero, List.set_cons_succ, i64_w, i32_w]
  rfl
 refine pure_ (i := 9) (N := some 23) (v := ?_) (a' := ?_) #[true, true, true, true, true, true, true, true, true, true, false, false, false] rfl rfl (by kernel_rfl) (fun _ _ _ h => h) (Or.inl ⟨by rfl, ?_⟩) ?_ ?_
 rotate_left
 ·intro w'
  go_simp
  with_reducible rfl
 rotate_left
 ·simp only [Act.put, List.setIfInBounds_toArray, List.set_cons_zero, List.set_cons_succ, i64_w, i32_w]
  rfl
 refine one_ (i := 10) (N := some 5) #[true, true, true, true, true, true, true, true, true, true, true, false, false] rfl rfl (by kernel_rfl) (by decide) (fun K hK => ?_)
 refine value_ (w1 := ?_) (v := ?_) (by rfl) rfl ?_ ?_
 rotate_left 2
 ·go_simp
  constructor
  ·rfl
  ·rfl
 refine hK.out _ _ ⟨(cell_al cp0 _), (cell_al ca0 _), (HLK.out _ (H4d.out.alloc H4d.out.size _))⟩ (fun hHeld => ?_)
 clear hK K
 refine norm_ (a' := ?_) ?_ ?_
 rotate_left
 ·show Act.put _ (some 5) _ = _
  simp only [Act.put, List.setIfInBounds_toArray, List.set_cons_zero, List.set_cons_succ, i64_w, i32_w]
  rfl
 refine last_ (i := 11) (N := none) #[true, true, true, true, true, true, true, true, true, true, true, true, false] rfl rfl (by kernel_rfl) (by decide) (fun K hK => ?_)
 refine skip_ (w1 := ?_) (by rfl) rfl ?_ ?_
 rotate_left
 ·go_simp
  rfl
 refine hK.out _ _ ?_
 clear hK K
 refine pure_ (i := 12) (N := some 6) (v := ?_) (a' := ?_) #[true, true, true, true, true, true, true, true, true, true, true, true, true] rfl rfl (by kernel_rfl) (fun _ _ _ h => h) (Or.inl ⟨by rfl, ?_⟩) ?_ ?_
 rotate_left
 ·intro w'
  go_simp
  with_reducible rfl
 rotate_left
 ·simp only [Act.put, List.setIfInBounds_toArray, List.set_cons_zero, List.set_cons_succ, i64_w, i32_w]
  rfl
 refine done_ (by kernel_rfl) ?_

 have H5 := Lib.hid (below_drew (H4.out.alloc H4.out.size (.cells #[.string ⟨#[]⟩, .bool false, .slice none 0 0, .bool false, .slice none 0 0] 32)))
 obtain ⟨W5, hW5⟩ : ∃ W5, (W4.alloc (.cells #[.string ⟨#[]⟩, .bool false, .slice none 0 0, .bool false, .slice none 0 0] 32)).drew = W5 := ⟨_, rfl⟩
 rw [hW5] at H5 ⊢
 clear ca0 cp0 hW5
 have hln := HLN.out _ H5.out
 have cp0 := blk_cell (FP.out _ H5.out) 0
 go_upto_region 12 with (fail)
 have H6d := Lib.hid (below_drew H5.out)
 have d0 := blk_cell (FP.out _ H5.out) 0
 have e0 := blk_cell (FA _ H5.out) 0
 have e1 := blk_cell (FA _ H5.out) 1
 have e2 := blk_cell (FA _ H5.out) 2
 have e3 := blk_cell (FA _ H5.out) 3
 have e4 := blk_cell (FA _ H5.out) 4
 refine start_ (n := 9) (S := fun w' => w'.cell? ⟨p, 0, none⟩ = some (.map (some mb)) ∧ w'.cell? ⟨B, 0, none⟩ = some (.string nm) ∧ w'.cell? ⟨B, 1, none⟩ = some (.bool fn) ∧ w'.cell? ⟨B, 2, none⟩ = some (.slice Ap ps.length cp) ∧ w'.cell? ⟨B, 3, none⟩ = some (.bool more) ∧ w'.cell? ⟨B, 4, none⟩ = some (.slice Ab body.length cb)) (ds := [8]) #[false, false, false, false, false, false, false, false, false] (by kernel_rfl) rfl rfl ⟨d0, e0, e1, e2, e3, e4⟩ (fun hHeld => ?_)
 refine pure_ (i := 0) (N := some 35) (v := ?_) (a' := ?_) #[true, false, false, false, false, false, false, false, false] rfl rfl (by kernel_rfl) (fun _ _ _ h => h) (Or.inl ⟨by rfl, ?_⟩) ?_ ?_
 rotate_left
 ·intro w'
  go_simp
  with_reducible rfl
 rotate_left
 ·simp only [Act.put, List.setIfInBounds_toArray, List.set_cons_zero, List.set_cons_succ, i64_w, i32_w]
  rfl
 refine pure_ (i := 1) (N := some 36) (v := ?_) (a' := ?_) #[true, true, false, false, false, false, false, false, false] rfl rfl (by kernel_rfl) (fun _ _ _ h => h) (Or.inl ⟨by rfl, ?_⟩) ?_ ?_
 rotate_left
 ·intro w'
  go_simp
  with_reducible rfl
 rotate_left
 ·simp only [Act.put, List.setIfInBounds_toArray, List.set_cons_zero, List.set_cons_succ, i64_w, i32_w]
  rfl
 refine pure_ (i := 2) (N := some 37) (v := ?_) (a' := ?_) #[true, true, true, false, false, false, false, false, false] rfl rfl (by kernel_rfl) (fun _ _ _ h => h) (Or.inl ⟨by rfl, ?_⟩) ?_ ?_
 rotate_left
 ·intro w'
  go_simp
  with_reducible rfl
 rotate_left
 ·simp only [Act.put, List.setIfInBounds_toArray, List.set_cons_zero, List.set_cons_succ, i64_w, i32_w]
  rfl
 refine pure_ (i := 4) (N := some 39) (v := ?_) (a' := ?_) #[true, true, true, false, true, false, false, false, false] rfl rfl (by kernel_rfl) (fun _ _ _ h => h) (Or.inl ⟨by rfl, ?_⟩) ?_ ?_
 rotate_left
 ·intro w'
  go_simp
  with_reducible rfl
 rotate_left
 ·simp only [Act.put, List.setIfInBounds_toArray, List.set_cons_zero, List.set_cons_succ, i64_w, i32_w]
  rfl
 refine take_ (i := 3) (N := some 38) (v := ?_) (a' := ?_) #[true, true, true, true, true, false, false, false, false] rfl rfl (by kernel_rfl) (fun _ _ _ h => h) (Or.inl ⟨by rfl, ?_⟩) hHeld ?_ ?_
 rotate_left
 ·rintro w' ⟨s0, s1, s2, s3, s4, s5⟩
  go_simp
  with_reducible rfl
 rotate_left
 ·simp only [Act.put, List.setIfInBounds_toArray, List.set_cons_zero, List.set_cons_succ, i64_w, i32_w]
  rfl
 refine take_ (i := 5) (N := some 40) (v := ?_) (a' := ?_) #[true, true, true, true, true, true, false, false, false] rfl rfl (by kernel_rfl) (fun _ _ _ h => h) (Or.inl ⟨by rfl, ?_⟩) hHeld ?_ ?_
 rotate_left
 ·rintro w' ⟨s0, s1, s2, s3, s4, s5⟩
  go_simp
  with_reducible rfl
 rotate_left
 ·simp only [Act.put, List.setIfInBounds_toArray, List.set_cons_zero, List.set_cons_succ, i64_w, i32_w]
  rfl
 refine take_ (i := 6) (N := some 41) (v := ?_) (a' := ?_) #[true, true, true, true, true, true, true, false, false] rfl rfl (by kernel_rfl) (fun _ _ _ h => h) (Or.inl ⟨by rfl, ?_⟩) hHeld ?_ ?_
 rotate_left
 ·rintro w' ⟨s0, s1, s2, s3, s4, s5⟩
  go_simp
  with_reducible rfl
 rotate_left
 ·simp only [Act.put, List.setIfInBounds_toArray, List.set_cons_zero, List.set_cons_succ, i64_w, i32_w]
  rfl
 refine one_ (i := 7) (N := some 42) #[true, true, true, true, true, true, true, true, false] rfl rfl (by kernel_rfl) (by decide) (fun K hK => ?_)
 refine goes_ Tryd.func43 (by kernel_rfl) rfl #[.agg #[.string nm, .bool fn, .slice Ap ps.length cp, .bool more, .slice Ab body.length cb]] (by rfl) rfl rfl (by simp only [List.map_toArray, List.map_cons, List.map_nil]; rfl) ?_
 with_reducible refine (HC43.out _ H6d.out).mono ?_
 rintro e w8 ⟨v2, v4, rfl, hR2, hR4, hb8⟩
 refine ⟨_, rfl, ?_⟩
 obtain ⟨A2, k2, rfl⟩ := Kd.R_slice hR2
 obtain ⟨A4, k4, rfl⟩ := Kd.R_slice hR4
 have hb8 := H6d.out.trans (hb8.mono H6d.out.size)
 have hm8 := HMF.out _ hb8
 obtain ⟨w9, hrun9, hm9, ht9⟩ := hm8.store (val := .agg #[.string nm, .bool fn, .slice A2 ps.length k2, .bool more, .slice A4 body.length k4]) strEmb law9 law68 HN.out HKO.out
 have H8 := Lib.hid (And.intro hb8 (And.intro hm9 (And.intro ht9 (And.intro hR2 hR4))))
 refine hK.out _ _ ⟨(blk_cell (FP.out _ hb8) 0), (blk_cell (FA _ hb8) 0), (blk_cell (FA _ hb8) 1), (blk_cell (FA _ hb8) 2), (blk_cell (FA _ hb8) 3), (blk_cell (FA _ hb8) 4)⟩ (fun hHeld => ?_)
 clear hK K
 refine norm_ (a' := ?_) ?_ ?_
 rotate_left
 ·show Act.put _ (some 42) _ = _
  simp only [Act.put, List.setIfInBounds_toArray, List.set_cons_zero, List.set_cons_succ, i64_w, i32_w]
  rfl
 refine last_ (i := 8) (N := none) #[true, true, true, true, true, true, true, true, true] rfl rfl (by kernel_rfl) (by decide) (fun K hK => ?_)
 refine skip_ (w1 := w9) (by rfl) rfl ?_ ?_
 ·go_simp
 refine hK.out _ _ ?_
 clear hK K
 refine done_ (by kernel_rfl) ?_

 go_wp2
 go_ret
 obtain ⟨hb8, hm9, ht9, hR2, hR4⟩ := H8.out
 obtain ⟨hfT, hTn, hfn⟩ : (∀ y, (match T y with | none => f y = none | some m => ∃ v, f y = some v ∧ MacV W0 m v)) ∧ T nm.data.toList = none ∧ f nm.data.toList = none := ⟨HX.out.2.2.2.1, HX.out.2.2.2.2.1, HX.out.2.2.2.2.2⟩
 have hbw := HX.out.2.1
 rw [hBw] at hbw
 have hbs := hbw.size
 rw [hBw] at hbs
 rw [hfn] at hm9
 refine ⟨rfl, ⟨(turned_other ht9 (FP.out _ hb8)), _, hm9, fun y => ?_⟩, w8, hbw.trans (hb8.mono hbs), ht9⟩
 by_cases hy : y = nm.data.toList
 ·subst hy
  simp only [if_pos rfl]
  refine ⟨_, if_pos rfl, A2, k2, A4, k4, rfl, Cs_turned (Kd.R_reads' hR2).2.2 ht9, (Kd.R_reads' hR2).2.1, Ck_turned (Kd.R_reads' hR4).2.2 ht9, (Kd.R_reads' hR4).2.1⟩
 ·have h1 := hfT y
  simp only [if_neg hy]
  have hup : upd f nm.data.toList (.agg #[.string nm, .bool fn, .slice A2 ps.length k2, .bool more, .slice A4 body.length k4]) y = f y := if_neg hy
  cases hTy : T y with
  | none => rw [hTy] at h1; exact hup.trans h1
  | some m =>
   rw [hTy] at h1
   obtain ⟨v, e, hv⟩ := h1
   exact ⟨v, hup.trans e, (hv.below hb8).turned ht9⟩
end Go.Proofs.YtcbfbefpbjmglaaDoor.Mac
namespace Go.Proofs.YtcbfbefpbjmglaaDoor.Mac
open Go.RowKit Go.Proofs.MapFun Go.Proofs.YtcbfbefpbjmglaaDoor.PA Go.Proofs.YtcbfbefpbjmglaaDoorT Go.Proofs.YtcbfbefpbjmglaaDoorW.PrintWords Go.Proofs.YtcbfbefpbjmglaaDoorW.PrintLast Go.Proofs.YtcbfbefpbjmglaaDoorW.PrintMore
set_option linter.unusedVariables false
set_option linter.unusedSimpArgs false
attribute [local go_sem] Oper.semAt_some
set_option maxRecDepth 100000 in
set_option maxHeartbeats 2000000 in
theorem define_wrong (p : Nat) (nm : ByteArray) (fn more : Bool) (Ap Ab : Option Addr) (cp cb : Nat) (ps : List ByteArray) (body : List S48) (w : World) (hT : Tab w) (hd : DomM nm ps body) (hr : rightP nm fn ps more body = false)
  (hP : Kd.C Kd.string w Ap ps.length ps) (hpc : ps.length ≤ cp) (hB : Kd.C k48 w Ab body.length body) (hbc : body.length ≤ cb) :
  Calls Tryd.prog 22 #[.pointer (some ⟨p, 0, none⟩), .agg #[.string nm, .bool fn, .slice Ap ps.length cp, .bool more, .slice Ab body.length cb]] w fun e w' => e = .returned (.int .i64 2) ∧ Below w.heap.size w w' := by
 obtain ⟨B, hBw⟩ : ∃ B, w.heap.size = B := ⟨_, rfl⟩
 go_enter Tryd.func22, Tryd.ntmps22
 refine wp_seq_k fun K1 hK1 => ?_
 have HK1 := Lib.hid hK1
 clear hK1
 go_wp2
 refine HK1.out _ _ ?_
 clear HK1
 obtain ⟨W0, hW0⟩ : ∃ W0, w.alloc (.cells #[.string nm, .bool fn, .slice Ap ps.length cp, .bool more, .slice Ab body.length cb] 32) = W0 := ⟨_, rfl⟩
 have hb0 : Below w.heap.size w W0 := by rw [← hW0]; exact (Below.refl _ w).alloc (Nat.le_refl _) _
 have qA : W0.heap[B]? = some (.cells #[.string nm, .bool fn, .slice Ap ps.length cp, .bool more, .slice Ab body.length cb] 32 (0, 0)) := by rw [← hW0, ← hBw]; exact blk_new w _
 rw [hW0]
 try rw [hBw]
 have HP0 := Kd.C_below hP hb0
 have HB0 := Kd.C_below hB hb0
 have hrc := right_c nm fn more Ap Ab cp cb ps body W0 (hT.grow hb0) hd HP0 hpc HB0 hbc
 rw [hr] at hrc
 have HX := Lib.hid (And.intro hrc hb0)
 have ca0 := blk_cell qA 0
 have ca1 := blk_cell qA 1
 have ca2 := blk_cell qA 2
 have ca3 := blk_cell qA 3
 have ca4 := blk_cell qA 4
 clear hrc hb0 hW0 hP hB HP0 HB0 hT qA hr
 go_wp2_with (go_at_call 16; refine HX.out.1.mono ?_; rintro e W4 ⟨rfl, hb4⟩; have H4 := Lib.hid (HX.out.2.trans (hb4.mono HX.out.2.size)); clear hb4)
 go_ret
 exact ⟨rfl, hBw ▸ H4.out⟩
end Go.Proofs.YtcbfbefpbjmglaaDoor.Mac
namespace Go.Proofs.YtcbfbefpbjmglaaDoor.Mac
open Go.RowKit Go.Proofs.MapFun Go.Proofs.YtcbfbefpbjmglaaDoor.PA Go.Proofs.YtcbfbefpbjmglaaDoorT
set_option linter.unusedVariables false
set_option linter.unusedSimpArgs false
def nmB (m : MacP) : List UInt8 := m.nm.data.toList
def look (ms : List MacP) (y : List UInt8) : Option MacP := ms.find? (fun m => decide (nmB m = y))
theorem look_none {ms : List MacP} {y : List UInt8} : look ms y = none ↔ ∀ m ∈ ms, nmB m ≠ y := by
 unfold look
 rw [List.find?_eq_none]
 simp
theorem look_some {ms : List MacP} {y : List UInt8} {m : MacP} (h : look ms y = some m) : m ∈ ms ∧ nmB m = y := by
 unfold look at h
 exact ⟨List.mem_of_find?_eq_some h, by simpa using List.find?_some h⟩
theorem look_snoc (ms : List MacP) (m : MacP) (hn : look ms (nmB m) = none) : (fun y => if y = nmB m then some m else look ms y) = look (ms ++ [m]) := by
 funext y
 unfold look at hn ⊢
 rw [List.find?_append]
 by_cases hy : y = nmB m
 ·subst hy
  rw [if_pos rfl, hn]
  simp
 ·rw [if_neg hy]
  have : ([m] : List MacP).find? (fun m => decide (nmB m = y)) = none := by
   rw [List.find?_eq_none]; simp; exact fun h => hy h.symm
  rw [this]
  cases ms.find? (fun m => decide (nmB m = y)) <;> rfl
theorem look_mem {ms : List MacP} (hnd : (ms.map nmB).Nodup) {m : MacP} (hm : m ∈ ms) : look ms (nmB m) = some m := by
 induction ms with
 | nil => cases hm
 | cons a r ih =>
  rw [List.map_cons, List.nodup_cons] at hnd
  unfold look
  rcases List.mem_cons.1 hm with rfl | hm
  ·simp
  ·have hne : nmB a ≠ nmB m := fun e => hnd.1 (e ▸ List.mem_map_of_mem hm)
   rw [List.find?_cons_of_neg (by simpa using hne)]
   exact ih hnd.2 hm
theorem look_perm {ms ms' : List MacP} (hp : ms.Perm ms') (hnd : (ms.map nmB).Nodup) : look ms = look ms' := by
 have hnd' : (ms'.map nmB).Nodup := (hp.map nmB).nodup_iff.1 hnd
 funext y
 cases h : look ms y with
 | none =>
  rw [look_none] at h
  exact (look_none.2 fun m hm => h m (hp.mem_iff.2 hm)).symm
 | some m =>
  obtain ⟨h1, rfl⟩ := look_some h
  exact (look_mem hnd' (hp.mem_iff.1 h1)).symm
theorem look_isSome {ms : List MacP} {y : List UInt8} : y ∈ ms.map nmB ↔ (look ms y).isSome = true := by
 cases h : look ms y with
 | none =>
  rw [look_none] at h
  simp only [Option.isSome_none, Bool.false_eq_true, iff_false]
  intro hm
  obtain ⟨m, h1, h2⟩ := List.mem_map.1 hm
  exact h m h1 h2
 | some m =>
  obtain ⟨h1, rfl⟩ := look_some h
  simp only [Option.isSome_some, iff_true]
  exact List.mem_map_of_mem h1
theorem TabR.keys {W : World} {p mb n : Nat} {ms : List MacP} (h : TabR W p mb n (look ms)) (hnd : (ms.map nmB).Nodup) : ∃ D : DataW Value, W.ownsMap Tryd.prog 9 heldR mb n D ∧ Maps.size D = n ∧ (ms.map nmB).Perm (strKeys D) := by
 obtain ⟨f, ⟨D, h1, h2, h3⟩, hT⟩ := h.hm
 refine ⟨D, h1, h2, ?_⟩
 obtain ⟨es, hD, hpw, _⟩ := h1.entries law9
 obtain ⟨es', hD', hko⟩ := h1.keysOf
 obtain rfl : es = es' := by rw [hD] at hD'; simpa using hD'
 subst hD
 refine perm_strKeys hpw (fun p hp => by obtain ⟨v, hv⟩ := hko p hp; obtain ⟨x, _, hx, _⟩ := Maps.keyOf_str Tryd.underlying9 hv; exact ⟨x, hx⟩) hnd (fun y => ?_)
 rw [look_isSome, (h3 y).1]
 have := hT y
 cases hl : look ms y with
 | none => rw [hl] at this; rw [show f y = none from this]; simp
 | some m => rw [hl] at this; obtain ⟨v, e, _⟩ := this; rw [e]; simp
theorem TabR.turnedO {W W' : World} {p mb mb' n : Nat} {T : List UInt8 → Option MacP} (h : TabR W p mb n T) (ht : W.mapTurned W' mb') (hne : mb ≠ mb') : TabR W' p mb n T := by
 obtain ⟨f, h1, h2⟩ := h.hm
 obtain ⟨_, _, _, _, hg⟩ := ht.grown
 refine ⟨turned_other ht h.hp, f, h1.block (hg _ h1.lt (fun e => hne (by cases e; rfl))), fun y => ?_⟩
 have := h2 y
 cases hT : T y with
 | none => rw [hT] at this; exact this
 | some m =>
  rw [hT] at this
  obtain ⟨v, e, hv⟩ := this
  exact ⟨v, e, hv.turned ht⟩
end Go.Proofs.YtcbfbefpbjmglaaDoor.Mac
namespace Go.Proofs.YtcbfbefpbjmglaaDoor.Mac
open Go.RowKit Go.Maps Go.Sort Go.Shelf Go.Proofs.YtcbfbefpbjmglaaDoorW.PrintWords Go.Proofs.MapFun Go.Proofs.YtcbfbefpbjmglaaDoor.PA Go.Proofs.YtcbfbefpbjmglaaDoorT
set_option linter.unusedVariables false
set_option linter.unusedSimpArgs false
set_option maxHeartbeats 1000000 in
theorem names_c (p mb n : Nat) (ms : List MacP) (w : World) (h : TabR w p mb n (look ms)) (hnd : (ms.map nmB).Nodup) (hn : n ≤ 1000) :
  Calls Tryd.prog 24 #[.pointer (some ⟨p, 0, none⟩)] w fun e w' => ∃ v, e = .returned v ∧ w'.ownsRow w.heap.size 9 1 v ms.length (((ms.map nmB).mergeSort (fun x y => decide (x ≤ y))).map encStr) ∧ Below w.heap.size w w' := by
 obtain ⟨D, hown, hsz, hperm⟩ := h.keys hnd
 have hp := blk_cell h.hp 0
 have hmax : Maps.size D ≤ maxLen := by rw [hsz]; unfold maxLen; omega
 have hbytes : Maps.size D * 16 ≤ 140737488355328 := by rw [hsz]; omega
 refine (callsIn_wide (n := 6)).1 ?_
 have hfK : Fence.wide.fn 45 := trivial
 have hfS : Fence.wide.fn 44 := trivial
 refine callsIn_of_wp Tryd.func24 rfl trivial ?_ rfl
 simp only [Tryd.ntmps24, List.size_toArray, List.length_cons, List.length_nil, Nat.reduceAdd, Nat.reduceSub, Array.replicate_succ, Array.replicate_zero, List.push_toArray, List.append_toArray, List.nil_append, List.cons_append]
 gi_wp2_with (first
  | (gi_at_call 45; refine (Tryd.maps_Keys_45 _ _).mono ?_; rintro e w' ⟨rfl, rfl⟩)
  | (gi_at_call 44; refine (Tryd.slices_Sorted_keys_44_45 mb n D heldR w hown hmax hbytes).mono ?_; rintro e w' ⟨v, ss, rfl, hS, hrow, hnil, hb⟩))
 go_ret
 have hp2 : ss.Perm (ms.map nmB) := hS.trans hperm.symm
 have hl : ss.length = ms.length := by rw [hp2.length_eq, List.length_map]
 rw [mergeSort_of_perm hp2, hl] at hrow
 exact ⟨v, rfl, ownsRow_base_a hrow (by simp), ((Below.refl _ w).alloc (Nat.le_refl _) _).trans (hb.mono (by simp))⟩
end Go.Proofs.YtcbfbefpbjmglaaDoor.Mac
namespace Go.Proofs.YtcbfbefpbjmglaaDoor.PA
open Go.RowKit Go.Proofs.YtcbfbefpbjmglaaDoorT Go.Proofs.YtcbfbefpbjmglaaDoorW.PrintWords Go.Proofs.YtcbfbefpbjmglaaDoorW.PrintLast Go.Proofs.YtcbfbefpbjmglaaDoorW.PrintMore
attribute [local go_sem] max2_int min2_int max_two min_two max_three min_three max_four min_four
set_option linter.unusedVariables false
set_option linter.unusedSimpArgs false
def burinref03_SameNames.l0 : Nat → List ByteArray → List ByteArray → Int → Option (Bool)
 | 0, _, _, _ => none
 | k + 1, x0, x1, x5 => if x5 < (x0.length : Int) then (if 0 ≤ x5 then (if x5 < (x1.length : Int) then (if (rdOf ByteArray.empty x0 x5).toList = (rdOf ByteArray.empty x1 x5).toList then (burinref03_SameNames.l0 k x0 x1 (wrap64 (x5 + 1))) else (some false)) else (none)) else (none)) else (some true)
def burinref03_SameNames.f (k : Nat) (l0 : List ByteArray) (l1 : List ByteArray) : Option (Bool) := if (l0.length : Int) = (l1.length : Int) then (burinref03_SameNames.l0 k l0 l1 0) else (some false)
set_option maxHeartbeats 8000000 in
set_option maxRecDepth 100000 in
theorem burinref03_SameNames.calls (k : Nat) (A0 : Option Addr) (c0 : Nat) (l0 : List ByteArray) (A1 : Option Addr) (c1 : Nat) (l1 : List ByteArray) (r : Bool) (w : World) (hr0 : Kd.C Kd.string w A0 l0.length l0) (hc0 : l0.length ≤ c0) (hr1 : Kd.C Kd.string w A1 l1.length l1) (hc1 : l1.length ≤ c1) (h : burinref03_SameNames.f k l0 l1 = some r) :
  Calls Tryd.prog 25 #[.slice A0 l0.length c0, .slice A1 l1.length c1] w fun e w' => e = .returned (.bool r) ∧ Drawn0 w w' := by
 have HR0 := Aside0.mk hr0
 have HC0 := Aside0.mk hc0
 clear hr0 hc0
 have HR1 := Aside0.mk hr1
 have HC1 := Aside0.mk hc1
 clear hr1 hc1
 have H : (if (l0.length : Int) = (l1.length : Int) then (burinref03_SameNames.l0 k l0 l1 0) else (some false)) = some r := h
 clear h
 by_cases c3 : (l0.length : Int) = (l1.length : Int)
 ·rw [if_pos c3] at H
  have c3b0 : ((l0.length : Int) == (l1.length : Int)) = true := beq_iff_eq.mpr c3
  have c3b1 : ((l0.length : Int) != (l1.length : Int)) = false := bne_eq_false_iff_eq.mpr c3
  have c3b2 : (l0.length == l1.length) = true := by first | simpa using c3 | (simp at c3 ⊢; omega)
  clear c3
  have H' := Aside0.mk H
  clear H
  go_enter Tryd.func25, Tryd.ntmps25
  go_wp2
  repeat (go_quiet (fail); try go_wp2)
  go_loopg [5] k (fun kq v5 w' => ∃ (x5_1 : Int), v5 = .int .i64 x5_1 ∧ Aside0 (burinref03_SameNames.l0 kq l0 l1 x5_1 = some r) ∧ Aside0 (kq ≤ k) ∧ Drawn0 w w')
  case atStart => exact ⟨(0), (by first | rfl | (simp; done) | (simp [*]; done)), H', ⟨Nat.le_refl _⟩, by repeat (first | exact Drawn0.refl _ | apply Drawn0.step)⟩
  case round =>
   clear H'
   try clear c1
   try clear c2
   try clear p2
   try clear c3
   try clear c3b0
   try clear c3b1
   try clear c3b2
   obtain ⟨x5_1, rfl, HA, HK1, ⟨m1, rfl⟩⟩ := hrel
   cases gk with
   | zero => exact absurd HA.out (by simp [burinref03_SameNames.l0])
   | succ k1 =>
    have H := HA.out
    clear HA
    simp only [burinref03_SameNames.l0] at H
    by_cases c4 : x5_1 < (l0.length : Int)
    ·rw [if_pos c4] at H
     have c4b0 : decide (x5_1 < (l0.length : Int)) = true := decide_eq_true c4
     clear c4
     by_cases c5 : 0 ≤ x5_1
     ·rw [if_pos c5] at H
      have c5b0 : decide (0 ≤ x5_1) = true := decide_eq_true c5
      clear c5
      by_cases c6 : x5_1 < (l1.length : Int)
      ·rw [if_pos c6] at H
       have c6b0 : decide (x5_1 < (l1.length : Int)) = true := decide_eq_true c6
       clear c6
       by_cases c7 : (rdOf ByteArray.empty l0 x5_1).toList = (rdOf ByteArray.empty l1 x5_1).toList
       ·rw [if_pos c7] at H
        have c7b0 : ((rdOf ByteArray.empty l0 x5_1).toList == (rdOf ByteArray.empty l1 x5_1).toList) = true := beq_iff_eq.mpr c7
        have c7b1 : ((rdOf ByteArray.empty l0 x5_1).toList != (rdOf ByteArray.empty l1 x5_1).toList) = false := bne_eq_false_iff_eq.mpr c7
        clear c7
        have H' := Aside0.mk H
        clear H
        have p520 : 0 ≤ (x5_1 : Int) := of_decide_eq_true (by first | (with_reducible assumption) | assumption)
        have q520 : x5_1 < (l0.length : Int) := of_decide_eq_true (by first | (with_reducible assumption) | assumption)
        obtain ⟨ad520, e520, hx520_0⟩ := Kd.at_string HR0.out x5_1 p520 q520
        cases e520
        replace p520 := eq_true p520
        replace q520 := eq_true q520
        have p521 : 0 ≤ (x5_1 : Int) := of_decide_eq_true (by first | (with_reducible assumption) | assumption)
        have q521 : x5_1 < (l1.length : Int) := of_decide_eq_true (by first | (with_reducible assumption) | assumption)
        obtain ⟨ad521, e521, hx521_0⟩ := Kd.at_string HR1.out x5_1 p521 q521
        cases e521
        replace p521 := eq_true p521
        replace q521 := eq_true q521
        go_wp2
        repeat (go_quiet (fail); try go_wp2)
        go_roundg k1
        case measure => have := HK1.out; omega
        case rel => exact ⟨(wrap64 (x5_1 + 1)), (by first | rfl | (simp; done) | (simp [*]; done)), H', ⟨by have := HK1.out; omega⟩, by repeat (first | exact Drawn0.refl _ | apply Drawn0.step)⟩
       ·rw [if_neg c7] at H
        have c7b0 : ((rdOf ByteArray.empty l0 x5_1).toList == (rdOf ByteArray.empty l1 x5_1).toList) = false := beq_eq_false_iff_ne.mpr c7
        have c7b1 : ((rdOf ByteArray.empty l0 x5_1).toList != (rdOf ByteArray.empty l1 x5_1).toList) = true := bne_iff_ne.mpr c7
        obtain rfl := Option.some.inj H
        have p520 : 0 ≤ (x5_1 : Int) := of_decide_eq_true (by first | (with_reducible assumption) | assumption)
        have q520 : x5_1 < (l0.length : Int) := of_decide_eq_true (by first | (with_reducible assumption) | assumption)
        obtain ⟨ad520, e520, hx520_0⟩ := Kd.at_string HR0.out x5_1 p520 q520
        cases e520
        replace p520 := eq_true p520
        replace q520 := eq_true q520
        have p521 : 0 ≤ (x5_1 : Int) := of_decide_eq_true (by first | (with_reducible assumption) | assumption)
        have q521 : x5_1 < (l1.length : Int) := of_decide_eq_true (by first | (with_reducible assumption) | assumption)
        obtain ⟨ad521, e521, hx521_0⟩ := Kd.at_string HR1.out x5_1 p521 q521
        cases e521
        replace p521 := eq_true p521
        replace q521 := eq_true q521
        go_wp2
        repeat (go_quiet (fail); try go_wp2)
        go_ret
        exact ⟨by first | rfl | (simp; done) | (simp [*]; done), by repeat (first | exact Drawn0.refl _ | apply Drawn0.step)⟩
      ·rw [if_neg c6] at H
       exact absurd H (by simp)
     ·rw [if_neg c5] at H
      exact absurd H (by simp)
    ·rw [if_neg c4] at H
     have c4b0 : decide (x5_1 < (l0.length : Int)) = false := decide_eq_false c4
     clear c4
     obtain rfl := Option.some.inj H
     go_wp2
     repeat (go_quiet (fail); try go_wp2)
     go_ret
     exact ⟨by first | rfl | (simp; done) | (simp [*]; done), by repeat (first | exact Drawn0.refl _ | apply Drawn0.step)⟩
 ·rw [if_neg c3] at H
  have c3b0 : ((l0.length : Int) == (l1.length : Int)) = false := beq_eq_false_iff_ne.mpr c3
  have c3b1 : ((l0.length : Int) != (l1.length : Int)) = true := bne_iff_ne.mpr c3
  have c3b2 : (l0.length == l1.length) = false := by first | simpa using c3 | (simp at c3 ⊢; omega)
  obtain rfl := Option.some.inj H
  go_enter Tryd.func25, Tryd.ntmps25
  go_wp2
  repeat (go_quiet (fail); try go_wp2)
  go_ret
  exact ⟨by first | rfl | (simp; done) | (simp [*]; done), by repeat (first | exact Drawn0.refl _ | apply Drawn0.step)⟩
end Go.Proofs.YtcbfbefpbjmglaaDoor.PA
namespace Go.Proofs.YtcbfbefpbjmglaaDoor.Mac
open Go.RowKit Go.Lib Go.Proofs.MapFun Go.Proofs.YtcbfbefpbjmglaaDoor.PA Go.Proofs.YtcbfbefpbjmglaaDoorT Go.Proofs.YtcbfbefpbjmglaaDoorW.PrintWords Go.Proofs.YtcbfbefpbjmglaaDoorW.PrintLast Go.Proofs.YtcbfbefpbjmglaaDoorW.PrintMore
set_option linter.unusedVariables false
set_option linter.unusedSimpArgs false
theorem lexed_f (s : ByteArray) (h : s.size ≤ 1048576) : burinlaw03_lexed.f s = some ((lexP [(1, s.data.toList)]).1.map toT) := by
 unfold burinlaw03_lexed.f
 rw [lex_one s (by omega)]; rfl
theorem parseP_right {l : List S48} {m : MacP} (h : parseP l = some m) : rightP m.nm m.fn m.params m.more m.body = true := by
 match l, h with
 | t :: r, h =>
  rw [parseP] at h
  split at h
  ·obtain ⟨x, hx, h2⟩ := Option.bind_eq_some_iff.1 h
   split at h2
   ·rename_i hr
    have h2 := Option.some.inj h2
    rw [← h2]; exact hr
   ·cases h2
  ·cases h
theorem headP_size {l : List S48} {x : Bool × List ByteArray × Bool × List S48} (h : headP l = some x) : x.2.1.length ≤ l.length ∧ (∀ p ∈ x.2.1, ∃ t ∈ l, p = t.f1) ∧ x.2.2.2.length ≤ l.length ∧ (∀ t ∈ x.2.2.2, t ∈ l) := by
 match l with
 | [] => rw [headP] at h; cases h; exact ⟨Nat.le_refl _, by simp, Nat.le_refl _, by simp⟩
 | t :: r =>
  rw [headP] at h
  split at h
  ·cases h; exact ⟨Nat.zero_le _, by simp, Nat.le_refl _, by simp⟩
  ·split at h
   ·obtain ⟨y, hy, h2⟩ := Option.bind_eq_some_iff.1 h
    have h2 := Option.some.inj h2
    rw [← h2]
    obtain ⟨k, st⟩ := y
    obtain ⟨_, _, g3, g4⟩ := paramsP_size hy
    refine ⟨?_, fun p hp => ?_, ?_, fun t' ht' => ?_⟩
    ·show st.1.length ≤ _
     rw [List.length_cons]; omega
    ·obtain ⟨t', h1, h2⟩ := g4 p hp
     exact ⟨t', List.mem_cons_of_mem _ h1, h2⟩
    ·show (r.drop k.toNat).length ≤ _
     rw [List.length_drop, List.length_cons]; omega
    ·exact List.mem_cons_of_mem _ (List.mem_of_mem_drop ht')
   ·cases h
theorem parseP_dom {l : List S48} {m : MacP} (hd : domL l = true) (h : parseP l = some m) : DomM m.nm m.params m.body := by
 unfold domL at hd
 rw [Bool.and_eq_true, decide_eq_true_eq, List.all_eq_true] at hd
 obtain ⟨hl, ha⟩ := hd
 have ha : ∀ t ∈ l, t.f1.size ≤ 1048576 := fun t ht => by have := ha t ht; rwa [decide_eq_true_eq] at this
 match l, h with
 | t :: r, h =>
  rw [parseP] at h
  split at h
  ·obtain ⟨x, hx, h2⟩ := Option.bind_eq_some_iff.1 h
   split at h2
   ·have h2 := Option.some.inj h2
    rw [← h2]
    obtain ⟨g1, g2, g3, g4⟩ := headP_size hx
    rw [List.length_cons] at hl
    refine ⟨ha t List.mem_cons_self, ?_, ?_, fun p hp => ?_, fun b hb => ?_⟩
    ·show x.2.1.length ≤ _; omega
    ·show (bareFrom 0 x.2.2.2).length ≤ _; rw [bareFrom_len]; omega
    ·obtain ⟨t', h1, rfl⟩ := g2 p hp
     exact ha t' (List.mem_cons_of_mem _ h1)
    ·obtain ⟨t', h1, h2⟩ := bareFrom_mem _ _ b hb
     rw [h2]; exact ha t' (List.mem_cons_of_mem _ (g4 t' h1))
   ·cases h2
  ·cases h
theorem below_turned {B mb : Nat} {w w1 w' : World} (h : Below B w w1) (ht : w1.mapTurned w' mb) (hB : B ≤ mb) : Below B w w' := by
 obtain ⟨g1, g2, g3, g4, hg⟩ := ht.grown
 refine ⟨g1.trans h.os, g2.trans h.tape, g3.trans h.output, Nat.le_trans h.size (by exact g4), fun k hk => ?_⟩
 rw [← h.block k hk]
 by_cases hk2 : k < w1.heap.size
 ·exact hg k hk2 (fun e => by cases e; omega)
 ·obtain ⟨_, _, _, _, hb, _⟩ := id ht
  have : mb < w1.heap.size := (Array.getElem?_eq_some_iff.1 hb).1
  omega
theorem getm_c (p mb n : Nat) (T : List UInt8 → Option MacP) (nm : ByteArray) (m : MacP) (hTn : T nm.data.toList = some m) (hnm : nm.size < maxLen) (w : World) (h : TabR w p mb n T) (hsz : ∀ y m, T y = some m → m.params.length ≤ 2000000 ∧ m.body.length ≤ 1000000) :
  Calls Tryd.prog 23 #[.pointer (some ⟨p, 0, none⟩), .string nm] w fun e w' => ∃ A2 k2 A4 k4, e = .returned (.tuple #[.agg #[.string m.nm, .bool m.fn, .slice A2 m.params.length k2, .bool m.more, .slice A4 m.body.length k4], .bool true]) ∧ Kd.string.R 9 w' w.heap.size (fun _ => True) (.slice A2 m.params.length k2) m.params ∧ Kd.R k48 48 w' w.heap.size (fun _ => True) (.slice A4 m.body.length k4) m.body ∧ Below w.heap.size w w' := by
 refine (get_c p mb n T nm hnm w h hsz).mono ?_
 rintro e w' ⟨v, rfl, hg, hb⟩
 rw [hTn] at hg ⊢
 obtain ⟨v2, v4, rfl, h2, h4⟩ := hg
 obtain ⟨A2, k2, rfl⟩ := Kd.R_slice h2
 obtain ⟨A4, k4, rfl⟩ := Kd.R_slice h4
 exact ⟨A2, k2, A4, k4, rfl, h2, h4, hb⟩
structure KInv (W7 W10 W : World) (Ba b8 : Nat) (ca : Array Value) (A5 A6 : Option Addr) (n5 n6 : Nat) : Prop where
 bel : Below W7.heap.size W7 W
 a : W.heap[Ba]? = some (.cells ca 32 (0, 0))
 hi : ∀ k, b8 ≤ k → k < W10.heap.size → W.heap[k]? = W10.heap[k]?
 sz : W10.heap.size ≤ W.heap.size
 r5 : 0 < n5 → ∃ g cs, A5 = some ⟨g, 0, none⟩ ∧ W.heap[g]? = some (.cells cs 9 (0, 0)) ∧ n5 ≤ cs.size ∧ W7.heap.size ≤ g ∧ g < b8
 r6 : 0 < n6 → ∃ g cs, A6 = some ⟨g, 0, none⟩ ∧ W.heap[g]? = some (.cells cs 48 (0, 0)) ∧ n6 * 6 ≤ cs.size ∧ W7.heap.size ≤ g ∧ g < b8
theorem KInv.put {W7 W10 W : World} {Ba b8 : Nat} {ca : Array Value} {A5 A6 : Option Addr} {n5 n6 : Nat} (h : KInv W7 W10 W Ba b8 ca A5 A6 n5 n6) {g : Nat} {cs : Array Value} {t : TypeId} (hg : W.heap[g]? = some (.cells cs t (0, 0))) (h1 : W7.heap.size ≤ g) (h2 : g < b8) (ht : t ≠ 32) (off : Nat) (u : Value) :
  KInv W7 W10 (W.setCell ⟨g, off, none⟩ u) Ba b8 ca A5 A6 n5 n6 := by
 have hp := blk_put hg off u rfl
 have hne : ∀ k, k ≠ g → (W.setCell ⟨g, off, none⟩ u).heap[k]? = W.heap[k]? := fun k hk => Below.heap_setCell W ⟨g, off, none⟩ u k hk
 refine ⟨h.bel.setCell (p := ⟨g, off, none⟩) h1 u, (hne Ba (fun e => ?_)).trans h.a, fun k hk hk2 => (hne k (by omega)).trans (h.hi k hk hk2), by simpa using h.sz, fun hn => ?_, fun hn => ?_⟩
 ·subst e
  have := h.a
  rw [hg] at this
  cases this
  exact ht rfl
 ·obtain ⟨g', cs', e1, e2, e3, e4, e5⟩ := h.r5 hn
  by_cases he : g' = g
  ·subst he
   rw [hg] at e2
   cases e2
   exact ⟨g', _, e1, hp, by simpa using e3, e4, e5⟩
  ·exact ⟨g', cs', e1, (hne g' he).trans e2, e3, e4, e5⟩
 ·obtain ⟨g', cs', e1, e2, e3, e4, e5⟩ := h.r6 hn
  by_cases he : g' = g
  ·subst he
   rw [hg] at e2
   cases e2
   exact ⟨g', _, e1, hp, by simpa using e3, e4, e5⟩
  ·exact ⟨g', cs', e1, (hne g' he).trans e2, e3, e4, e5⟩
theorem KInv.grow {W7 W10 W W' : World} {Ba b8 : Nat} {ca : Array Value} {A5 A6 : Option Addr} {n5 n6 : Nat} (h : KInv W7 W10 W Ba b8 ca A5 A6 n5 n6) (hb : Below W.heap.size W W') : KInv W7 W10 W' Ba b8 ca A5 A6 n5 n6 := by
 have hs := h.sz
 refine ⟨h.bel.trans (hb.mono h.bel.size), (hb.block _ (blk_lt h.a)).trans h.a, fun k h1 h2 => (hb.block k (by omega)).trans (h.hi k h1 h2), Nat.le_trans hs hb.size, fun hn => ?_, fun hn => ?_⟩
 ·obtain ⟨g', cs', e1, e2, e3⟩ := h.r5 hn
  exact ⟨g', cs', e1, (hb.block _ (blk_lt e2)).trans e2, e3⟩
 ·obtain ⟨g', cs', e1, e2, e3⟩ := h.r6 hn
  exact ⟨g', cs', e1, (hb.block _ (blk_lt e2)).trans e2, e3⟩
attribute [local go_sem] Oper.semAt_some
end Go.Proofs.YtcbfbefpbjmglaaDoor.Mac
namespace Go.Proofs.YtcbfbefpbjmglaaDoor.Mac
open Go.RowKit Go.Sort Go.Proofs.YtcbfbefpbjmglaaDoorW.PrintWords Go.Proofs.MapFun Go.Proofs.YtcbfbefpbjmglaaDoor.PA Go.Proofs.YtcbfbefpbjmglaaDoorT
set_option linter.unusedVariables false
set_option linter.unusedSimpArgs false
def sortedN (ms : List MacP) : List ByteArray := ((ms.map nmB).mergeSort (fun x y => decide (x ≤ y))).map (fun x => ⟨x.toArray⟩)
theorem sortedN_len (ms : List MacP) : (sortedN ms).length = ms.length := by
 unfold sortedN
 rw [List.length_map, (List.mergeSort_perm _ _).length_eq, List.length_map]
theorem sortedN_perm {ms ms' : List MacP} (h : ms.Perm ms') : sortedN ms = sortedN ms' := by
 unfold sortedN
 rw [mergeSort_of_perm (h.map nmB)]
theorem namesR_c (p mb n : Nat) (ms : List MacP) (w : World) (h : TabR w p mb n (look ms)) (hnd : (ms.map nmB).Nodup) (hn : n ≤ 1000) :
  Calls Tryd.prog 24 #[.pointer (some ⟨p, 0, none⟩)] w fun e w' => ∃ A c, e = .returned (.slice A (sortedN ms).length c) ∧ Kd.string.R 9 w' w.heap.size (fun _ => True) (.slice A (sortedN ms).length c) (sortedN ms) ∧ Below w.heap.size w w' := by
 refine (names_c p mb n ms w h hnd hn).mono ?_
 rintro e w' ⟨v, rfl, hrow, hb⟩
 have hR : Kd.string.R 9 w' w.heap.size (fun _ => True) v (sortedN ms) := by
  refine R_of_row ?_
  rw [sortedN_len]
  have he : (sortedN ms).map Value.string = ((ms.map nmB).mergeSort (fun x y => decide (x ≤ y))).map encStr := by
   unfold sortedN
   rw [List.map_map]; rfl
  rw [he]
  exact hrow
 obtain ⟨A, c, rfl⟩ := Kd.R_slice hR
 exact ⟨A, c, rfl, hR, hb⟩
theorem sameNames_l (l : List ByteArray) (hl : l.length ≤ 1000000) : ∀ d k i, i + d = l.length → d < k → burinref03_SameNames.l0 k l l (i : Int) = some true
 | 0, k, i, h1, h2 => by
  obtain ⟨k, rfl⟩ : ∃ m, k = m + 1 := ⟨k - 1, by omega⟩
  rw [burinref03_SameNames.l0, if_neg (by omega)]
 | d + 1, k, i, h1, h2 => by
  obtain ⟨k, rfl⟩ : ∃ m, k = m + 1 := ⟨k - 1, by omega⟩
  have hw : wrap64 ((i : Int) + 1) = ((i + 1 : Nat) : Int) := by unfold wrap64; omega
  rw [burinref03_SameNames.l0, if_pos (by omega), if_pos (by omega), if_pos (by omega), if_pos rfl, hw]
  exact sameNames_l l hl d k (i + 1) (by omega) (by omega)
theorem sameNames_f (l : List ByteArray) (hl : l.length ≤ 1000000) : burinref03_SameNames.f 1000001 l l = some true := by
 unfold burinref03_SameNames.f
 rw [if_pos rfl]
 exact sameNames_l l hl l.length _ 0 (by omega) (by omega)
end Go.Proofs.YtcbfbefpbjmglaaDoor.Mac
