import Derived.Test.YtcbfbefpbjmglaaDoorSHh
import Derived.Test.YtcbfbefpbjmglaaDoorCards
import Derived.Test.YtcbfbefpbjmglaaDoorMF
import Derived.WalkKit
import Derived.ProofKit
import Derived.OpenShut
import Derived.ShutString
import Derived.ChangeOld
import Derived.SizedLaws
import Derived.Deep.DeepHandedRow
import Derived.Deep.SlicePairs
import Derived.Lib.LaidTab
namespace Go.Proofs.YtcbfbefpbjmglaaDoor.Mac
open Go.RowKit Go.Proofs.MapFun Go.Proofs.YtcbfbefpbjmglaaDoor.PA Go.Proofs.YtcbfbefpbjmglaaDoorT Go.Proofs.YtcbfbefpbjmglaaDoorW.PrintWords Go.Proofs.YtcbfbefpbjmglaaDoorW.PrintLast Go.Proofs.YtcbfbefpbjmglaaDoorW.PrintMore
set_option linter.unusedVariables false
set_option linter.unusedSimpArgs false
attribute [local go_sem] Oper.semAt_some
theorem turned_other {W W' : World} {b i : Nat} {cs : Array Value} {ty : TypeId} {fr : Nat × Nat} (ht : W.mapTurned W' b) (h : W.heap[i]? = some (.cells cs ty fr)) : W'.heap[i]? = some (.cells cs ty fr) := by
 obtain ⟨es, ck, _, _, hb, _⟩ := id ht
 obtain ⟨_, _, _, _, hg⟩ := ht.grown
 rw [hg i (blk_lt h) (fun e => by cases e; rw [hb] at h; cases h)]
 exact h
theorem cell_turned {W W' : World} {b : Nat} {a : Addr} {u : Value} (ht : W.mapTurned W' b) (h : W.cell? a = some u) : W'.cell? a = some u := by
 obtain ⟨es, ck, _, _, hb, _⟩ := id ht
 have hlt := World.block_lt_of_cell? W a h
 rw [← h]
 obtain ⟨_, _, _, _, hg⟩ := ht.grown
 refine World.cell?_of_block (hg _ hlt (fun e => ?_))
 cases e
 unfold World.cell? at h
 rw [hb] at h
 cases h
theorem C_turned {α : Type} {K : Kd α} {W W' : World} {A : Option Addr} {n b : Nat} {l : List α} (hK : ∀ p c, K.K W p c → K.K W' p c) (h : Kd.C K W A n l) (ht : W.mapTurned W' b) : Kd.C K W' A n l := by
 refine ⟨h.1, h.2.1, fun hn => ?_⟩
 obtain ⟨ad, ha, hr⟩ := h.2.2 hn
 refine ⟨ad, ha, fun j p hj => ?_⟩
 obtain ⟨c, h1, h2, h3⟩ := hr j p hj
 exact ⟨c, h1, hK _ _ h2, fun i u hu => cell_turned ht (h3 i u hu)⟩
theorem Cs_turned {W W' : World} {A : Option Addr} {n b : Nat} {l : List ByteArray} (h : Kd.C Kd.string W A n l) (ht : W.mapTurned W' b) : Kd.C Kd.string W' A n l := C_turned (W := W) (W' := W') (fun _ _ h => h) h ht
theorem Ck_turned {W W' : World} {A : Option Addr} {n b : Nat} {l : List S48} (h : Kd.C k48 W A n l) (ht : W.mapTurned W' b) : Kd.C k48 W' A n l := C_turned (W := W) (W' := W') (fun _ _ h => h) h ht
theorem MacV.turned {W W' : World} {b : Nat} {m : MacP} {v : Value} (h : MacV W m v) (ht : W.mapTurned W' b) : MacV W' m v := by
 obtain ⟨Ap, cp, Ab, cb, e, h1, h2, h3, h4⟩ := h
 exact ⟨Ap, cp, Ab, cb, e, Cs_turned h1 ht, h2, Ck_turned h3 ht, h4⟩
set_option maxRecDepth 100000 in
set_option maxHeartbeats 2000000 in
theorem define_new (p mb n : Nat) (T : List UInt8 → Option MacP) (nm : ByteArray) (fn more : Bool) (Ap Ab : Option Addr) (cp cb : Nat) (ps : List ByteArray) (body : List S48) (w : World) (hT : Tab w) (hd : DomM nm ps body) (h : TabR w p mb n T) (hr : rightP nm fn ps more body = true) (hnew : T nm.data.toList = none) (hn : n < 1000)
  (hP : Kd.C Kd.string w Ap ps.length ps) (hpc : ps.length ≤ cp) (hB : Kd.C k48 w Ab body.length body) (hbc : body.length ≤ cb) :
  Calls Tryd.prog 22 #[.pointer (some ⟨p, 0, none⟩), .agg #[.string nm, .bool fn, .slice Ap ps.length cp, .bool more, .slice Ab body.length cb]] w fun e w' => e = .returned (.int .i64 0) ∧ TabR w' p mb (n + 1) (fun y => if y = nm.data.toList then some ⟨nm, fn, ps, more, body⟩ else T y) ∧ ∃ w1, Below w.heap.size w w1 ∧ w1.mapTurned w' mb := by
 obtain ⟨B, hBw⟩ : ∃ B, w.heap.size = B := ⟨_, rfl⟩
 have hko := Go.WideMaps.keyOf_string_mk (s := nm) Tryd.underlying9 (by have := hd.1; unfold maxLen; omega)
 go_enter Tryd.func22, Tryd.ntmps22
 refine wp_seq_k fun K1 hK1 => ?_
 have HK1 := Lib.hid hK1
 clear hK1
 go_wp2
 refine HK1.out _ _ ?_
 clear HK1
 obtain ⟨W0, hW0⟩ : ∃ W0, w.alloc (.cells #[.string nm, .bool fn, .slice Ap ps.length cp, .bool more, .slice Ab body.length cb] 32) = W0 := ⟨_, rfl⟩
 have hb0 : Below w.heap.size w W0 := by rw [← hW0]; exact (Below.refl _ w).alloc (Nat.le_refl _) _
 have qA : W0.heap[B]? = some (.cells #[.string nm, .bool fn, .slice Ap ps.length cp, .bool more, .slice Ab body.length cb] 32 (0, 0)) := by rw [← hW0, ← hBw]; exact blk_new w _
 rw [hW0]
 try rw [hBw]
 have h0 := h.below hb0
 have FA : ∀ W, Below W0.heap.size W0 W → W.heap[B]? = some (.cells #[.string nm, .bool fn, .slice Ap ps.length cp, .bool more, .slice Ab body.length cb] 32 (0, 0)) := fun W hb => (hb.block _ (blk_lt qA)).trans qA
 have FP := Lib.hid fun (W : World) (hb : Below W0.heap.size W0 W) => (h0.below hb).hp
 obtain ⟨f, hf, hTf⟩ := h0.hm
 have hfn : f nm.data.toList = none := by have := hTf nm.data.toList; rw [hnew] at this; exact this
 have HMF := Lib.hid fun (W : World) (hb : Below W0.heap.size W0 W) => hf.block (hb.block _ hf.lt)
 have HLK : Hid (∀ W : World, Below W0.heap.size W0 W → (Instr.lookup 68 (.map (some mb)) (.string nm) true).run Tryd.prog W = .ok (.tuple #[.agg #[.string ⟨#[]⟩, .bool false, .slice none 0 0, .bool false, .slice none 0 0], .bool false]) W) := Lib.hid fun (W : World) (hb : Below W0.heap.size W0 W) => by
  have := (HMF.out W hb).look_ok law9 law68 (zero32 _) hko
  rw [hfn] at this
  exact this
 have HLN : Hid (∀ W : World, Below W0.heap.size W0 W → (Builtin.len_ #[68] 3 #[.map (some mb)]).run Tryd.prog W = .ok (.int .i64 n) W) := Lib.hid fun (W : World) (hb : Below W0.heap.size W0 W) => (HMF.out W hb).len law68 3
 have HKO := Lib.hid hko
 have HN := Lib.hid (show n < maxLen by unfold maxLen; omega)
 have HP0 := Kd.C_below hP hb0
 have HB0 := Kd.C_below hB hb0
 have hrc := right_c nm fn more Ap Ab cp cb ps body W0 (hT.grow hb0) hd HP0 hpc HB0 hbc
 rw [hr] at hrc
 have HC43 := Lib.hid fun (W : World) (hb : Below W0.heap.size W0 W) => own_c nm fn more Ap Ab cp cb ps body W hd.2.1 hd.2.2.1 (Kd.C_below HP0 hb) hpc (Kd.C_below HB0 hb) hbc
 have HX := Lib.hid (And.intro hrc (And.intro hb0 (And.intro h0 (And.intro hTf (And.intro hnew hfn)))))
 have hbr : Below W0.heap.size W0 W0 := Below.refl _ _
 have ca0 := blk_cell qA 0
 have ca1 := blk_cell qA 1
 have ca2 := blk_cell qA 2
 have ca3 := blk_cell qA 3
 have ca4 := blk_cell qA 4
 have hn1 : ((n : Int) == 1000) = false := beq_eq_false_iff_ne.2 (by omega)
 clear hrc hb0 h0 hTf hnew hfn hf hW0 hP hB HP0 HB0 hT h hko qA hbr hr
 go_upto_region 5 with (go_at_call 16; refine HX.out.1.mono ?_; rintro e W4 ⟨rfl, hb4⟩; have H4 := Lib.hid hb4; clear hb4 ca0 ca1 ca2 ca3 ca4)
 have H4d := Lib.hid (below_drew H4.out)
 have ca0 := blk_cell (FA _ H4.out) 0
 have cp0 := blk_cell (FP.out _ H4.out) 0
 refine start_ (n := 13) (S := fun w' => w'.cell? ⟨p, 0, none⟩ = some (.map (some mb)) ∧ w'.cell? ⟨B, 0, none⟩ = some (.string nm) ∧ (Instr.lookup 68 (.map (some mb)) (.string nm) true).run Tryd.prog w' = .ok (.tuple #[.agg #[.string ⟨#[]⟩, .bool false, .slice none 0 0, .bool false, .slice none 0 0], .bool false]) w') (ds := [11]) #[false, false, false, false, false, false, false, false, false, false, false, false, false] (by kernel_rfl) rfl rfl ⟨cp0, ca0, (HLK.out _ H4d.out)⟩ (fun hHeld => ?_)
 refine pure_ (i := 0) (N := some 15) (v := ?_) (a' := ?_) #[true, false, false, false, false, false, false, false, false, false, false, false, false] rfl rfl (by kernel_rfl) (fun _ _ _ h => h) (Or.inl ⟨by rfl, ?_⟩) ?_ ?_
 rotate_left
 ·intro w'
  go_simp
  with_reducible rfl
 rotate_left
 ·simp only [Act.put, List.setIfInBounds_toArray, List.set_cons_zero, List.set_cons_succ, i64_w, i32_w]
  rfl
 refine pure_ (i := 1) (N := some 16) (v := ?_) (a' := ?_) #[true, true, false, false, false, false, false, false, false, false, false, false, false] rfl rfl (by kernel_rfl) (fun _ _ _ h => h) (Or.inl ⟨by rfl, ?_⟩) ?_ ?_
 rotate_left
 ·intro w'
  go_simp
  with_reducible rfl
 rotate_left
 ·simp only [Act.put, List.setIfInBounds_toArray, List.set_cons_zero, List.set_cons_succ, i64_w, i32_w]
  rfl
 refine pure_ (i := 2) (N := some 17) (v := ?_) (a' := ?_) #[true, true, true, false, false, false, false, false, false, false, false, false, false] rfl rfl (by kernel_rfl) (fun _ _ _ h => h) (Or.inl ⟨by rfl, ?_⟩) ?_ ?_
 rotate_left
 ·intro w'
  go_simp
  with_reducible rfl
 rotate_left
 ·simp only [Act.put, List.setIfInBounds_toArray, List.set_cons_zero, List.set_cons_succ, i64_w, i32_w]
  rfl
 refine pure_ (i := 4) (N := some 19) (v := ?_) (a' := ?_) #[true, true, true, false, true, false, false, false, false, false, false, false, false] rfl rfl (by kernel_rfl) (fun _ _ _ h => h) (Or.inl ⟨by rfl, ?_⟩) ?_ ?_
 rotate_left
 ·intro w'
  go_simp
  with_reducible rfl
 rotate_left
 ·simp only [Act.put, List.setIfInBounds_toArray, List.set_cons_zero, List.set_cons_succ, i64_w, i32_w]
  rfl
 refine take_ (i := 3) (N := some 18) (v := ?_) (a' := ?_) #[true, true, true, true, true, false, false, false, false, false, false, false, false] rfl rfl (by kernel_rfl) (fun _ _ _ h => h) (Or.inl ⟨by rfl, ?_⟩) hHeld ?_ ?_
 rotate_left
 ·rintro w' ⟨s0, s1, s2⟩
  go_simp
  with_reducible rfl
 rotate_left
 ·simp only [Act.put, List.setIfInBounds_toArray, List.set_cons_zero, List.set_cons_succ, i64_w, i32_w]
  rfl
 refine take_ (i := 5) (N := some 20) (v := ?_) (a' := ?_) #[true, true, true, true, true, true, false, false, false, false, false, false, false] rfl rfl (by kernel_rfl) (fun _ _ _ h => h) (Or.inl ⟨by rfl, ?_⟩) hHeld ?_ ?_
 rotate_left
 ·rintro w' ⟨s0, s1, s2⟩
  go_simp
  with_reducible rfl
 rotate_left
 ·simp only [Act.put, List.setIfInBounds_toArray, List.set_cons_zero, List.set_cons_succ, i64_w, i32_w]
  rfl
 refine take_ (i := 6) (N := some 21) (v := ?_) (a' := ?_) #[true, true, true, true, true, true, true, false, false, false, false, false, false] rfl rfl (by kernel_rfl) (fun _ _ _ h => h) (Or.inl ⟨by rfl, ?_⟩) hHeld ?_ ?_
 rotate_left
 ·rintro w' ⟨s0, s1, s2⟩
  go_simp
  with_reducible rfl
 rotate_left
 ·simp only [Act.put, List.setIfInBounds_toArray, List.set_cons_zero, List.set_cons_succ, i64_w, i32_w]
  rfl
 refine pure_ (i := 7) (N := some 14) (v := ?_) (a' := ?_) #[true, true, true, true, true, true, true, true, false, false, false, false, false] rfl rfl (by kernel_rfl) (fun _ _ _ h => h) (Or.inl ⟨by rfl, ?_⟩) ?_ ?_
 rotate_left
 ·intro w'
  go_simp
  with_reducible rfl
 rotate_left
 ·simp only [Act.put, List.setIfInBounds_toArray, List.set_cons_zero, List.set_cons_succ, i64_w, i32_w]
  rfl
 refine pure_ (i := 8) (N := some 22) (v := ?_) (a' := ?_) #[true, true, true, true, true, true, true, true, true, false, false, false, false] rfl rfl (by kernel_rfl) (fun _ _ _ h => h) (Or.inl ⟨by rfl, ?_⟩) ?_ ?_
 rotate_left
 ·intro w'
  go_simp
  with_reducible rfl
 rotate_left
 ·simp only [Act.put, List.setIfInBounds_toArray, List.set_cons_zero, List.set_cons_succ, i64_w, i32_w]
  rfl
 refine pure_ (i := 9) (N := some 23) (v := ?_) (a' := ?_) #[true, true, true, true, true, true, true, true, true, true, false, false, false] rfl rfl (by kernel_rfl) (fun _ _ _ h => h) (Or.inl ⟨by rfl, ?_⟩) ?_ ?_
 rotate_left
 ·intro w'
  go_simp
  with_reducible rfl
 rotate_left
 ·simp only [Act.put, List.setIfInBounds_toArray, List.set_cons_zero, List.set_cons_succ, i64_w, i32_w]
  rfl
 refine one_ (i := 10) (N := some 5) #[true, true, true, true, true, true, true, true, true, true, true, false, false] rfl rfl (by kernel_rfl) (by decide) (fun K hK => ?_)
 refine value_ (w1 := ?_) (v := ?_) (by rfl) rfl ?_ ?_
 rotate_left 2
 ·go_simp
  constructor
  ·rfl
  ·rfl
 refine hK.out _ _ ⟨(cell_al cp0 _), (cell_al ca0 _), (HLK.out _ (H4d.out.alloc H4d.out.size _))⟩ (fun hHeld => ?_)
 clear hK K
 refine norm_ (a' := ?_) ?_ ?_
 rotate_left
 ·show Act.put _ (some 5) _ = _
  simp only [Act.put, List.setIfInBounds_toArray, List.set_cons_zero, List.set_cons_succ, i64_w, i32_w]
  rfl
 refine last_ (i := 11) (N := none) #[true, true, true, true, true, true, true, true, true, true, true, true, false] rfl rfl (by kernel_rfl) (by decide) (fun K hK => ?_)
 refine skip_ (w1 := ?_) (by rfl) rfl ?_ ?_
 rotate_left
 ·go_simp
  rfl
 refine hK.out _ _ ?_
 clear hK K
 refine pure_ (i := 12) (N := some 6) (v := ?_) (a' := ?_) #[true, true, true, true, true, true, true, true, true, true, true, true, true] rfl rfl (by kernel_rfl) (fun _ _ _ h => h) (Or.inl ⟨by rfl, ?_⟩) ?_ ?_
 rotate_left
 ·intro w'
  go_simp
  with_reducible rfl
 rotate_left
 ·simp only [Act.put, List.setIfInBounds_toArray, List.set_cons_zero, List.set_cons_succ, i64_w, i32_w]
  rfl
 refine done_ (by kernel_rfl) ?_

 have H5 := Lib.hid (below_drew (H4.out.alloc H4.out.size (.cells #[.string ⟨#[]⟩, .bool false, .slice none 0 0, .bool false, .slice none 0 0] 32)))
 obtain ⟨W5, hW5⟩ : ∃ W5, (W4.alloc (.cells #[.string ⟨#[]⟩, .bool false, .slice none 0 0, .bool false, .slice none 0 0] 32)).drew = W5 := ⟨_, rfl⟩
 rw [hW5] at H5 ⊢
 clear ca0 cp0 hW5
 have hln := HLN.out _ H5.out
 have cp0 := blk_cell (FP.out _ H5.out) 0
 go_upto_region 12 with (fail)
 have H6d := Lib.hid (below_drew H5.out)
 have d0 := blk_cell (FP.out _ H5.out) 0
 have e0 := blk_cell (FA _ H5.out) 0
 have e1 := blk_cell (FA _ H5.out) 1
 have e2 := blk_cell (FA _ H5.out) 2
 have e3 := blk_cell (FA _ H5.out) 3
 have e4 := blk_cell (FA _ H5.out) 4
 refine start_ (n := 9) (S := fun w' => w'.cell? ⟨p, 0, none⟩ = some (.map (some mb)) ∧ w'.cell? ⟨B, 0, none⟩ = some (.string nm) ∧ w'.cell? ⟨B, 1, none⟩ = some (.bool fn) ∧ w'.cell? ⟨B, 2, none⟩ = some (.slice Ap ps.length cp) ∧ w'.cell? ⟨B, 3, none⟩ = some (.bool more) ∧ w'.cell? ⟨B, 4, none⟩ = some (.slice Ab body.length cb)) (ds := [8]) #[false, false, false, false, false, false, false, false, false] (by kernel_rfl) rfl rfl ⟨d0, e0, e1, e2, e3, e4⟩ (fun hHeld => ?_)
 refine pure_ (i := 0) (N := some 35) (v := ?_) (a' := ?_) #[true, false, false, false, false, false, false, false, false] rfl rfl (by kernel_rfl) (fun _ _ _ h => h) (Or.inl ⟨by rfl, ?_⟩) ?_ ?_
 rotate_left
 ·intro w'
  go_simp
  with_reducible rfl
 rotate_left
 ·simp only [Act.put, List.setIfInBounds_toArray, List.set_cons_zero, List.set_cons_succ, i64_w, i32_w]
  rfl
 refine pure_ (i := 1) (N := some 36) (v := ?_) (a' := ?_) #[true, true, false, false, false, false, false, false, false] rfl rfl (by kernel_rfl) (fun _ _ _ h => h) (Or.inl ⟨by rfl, ?_⟩) ?_ ?_
 rotate_left
 ·intro w'
  go_simp
  with_reducible rfl
 rotate_left
 ·simp only [Act.put, List.setIfInBounds_toArray, List.set_cons_zero, List.set_cons_succ, i64_w, i32_w]
  rfl
 refine pure_ (i := 2) (N := some 37) (v := ?_) (a' := ?_) #[true, true, true, false, false, false, false, false, false] rfl rfl (by kernel_rfl) (fun _ _ _ h => h) (Or.inl ⟨by rfl, ?_⟩) ?_ ?_
 rotate_left
 ·intro w'
  go_simp
  with_reducible rfl
 rotate_left
 ·simp only [Act.put, List.setIfInBounds_toArray, List.set_cons_zero, List.set_cons_succ, i64_w, i32_w]
  rfl
 refine pure_ (i := 4) (N := some 39) (v := ?_) (a' := ?_) #[true, true, true, false, true, false, false, false, false] rfl rfl (by kernel_rfl) (fun _ _ _ h => h) (Or.inl ⟨by rfl, ?_⟩) ?_ ?_
 rotate_left
 ·intro w'
  go_simp
  with_reducible rfl
 rotate_left
 ·simp only [Act.put, List.setIfInBounds_toArray, List.set_cons_zero, List.set_cons_succ, i64_w, i32_w]
  rfl
 refine take_ (i := 3) (N := some 38) (v := ?_) (a' := ?_) #[true, true, true, true, true, false, false, false, false] rfl rfl (by kernel_rfl) (fun _ _ _ h => h) (Or.inl ⟨by rfl, ?_⟩) hHeld ?_ ?_
 rotate_left
 ·rintro w' ⟨s0, s1, s2, s3, s4, s5⟩
  go_simp
  with_reducible rfl
 rotate_left
 ·simp only [Act.put, List.setIfInBounds_toArray, List.set_cons_zero, List.set_cons_succ, i64_w, i32_w]
  rfl
 refine take_ (i := 5) (N := some 40) (v := ?_) (a' := ?_) #[true, true, true, true, true, true, false, false, false] rfl rfl (by kernel_rfl) (fun _ _ _ h => h) (Or.inl ⟨by rfl, ?_⟩) hHeld ?_ ?_
 rotate_left
 ·rintro w' ⟨s0, s1, s2, s3, s4, s5⟩
  go_simp
  with_reducible rfl
 rotate_left
 ·simp only [Act.put, List.setIfInBounds_toArray, List.set_cons_zero, List.set_cons_succ, i64_w, i32_w]
  rfl
 refine take_ (i := 6) (N := some 41) (v := ?_) (a' := ?_) #[true, true, true, true, true, true, true, false, false] rfl rfl (by kernel_rfl) (fun _ _ _ h => h) (Or.inl ⟨by rfl, ?_⟩) hHeld ?_ ?_
 rotate_left
 ·rintro w' ⟨s0, s1, s2, s3, s4, s5⟩
  go_simp
  with_reducible rfl
 rotate_left
 ·simp only [Act.put, List.setIfInBounds_toArray, List.set_cons_zero, List.set_cons_succ, i64_w, i32_w]
  rfl
 refine one_ (i := 7) (N := some 42) #[true, true, true, true, true, true, true, true, false] rfl rfl (by kernel_rfl) (by decide) (fun K hK => ?_)
 refine goes_ Tryd.func43 (by kernel_rfl) rfl #[.agg #[.string nm, .bool fn, .slice Ap ps.length cp, .bool more, .slice Ab body.length cb]] (by rfl) rfl rfl (by simp only [List.map_toArray, List.map_cons, List.map_nil]; rfl) ?_
 with_reducible refine (HC43.out _ H6d.out).mono ?_
 rintro e w8 ⟨v2, v4, rfl, hR2, hR4, hb8⟩
 refine ⟨_, rfl, ?_⟩
 obtain ⟨A2, k2, rfl⟩ := Kd.R_slice hR2
 obtain ⟨A4, k4, rfl⟩ := Kd.R_slice hR4
 have hb8 := H6d.out.trans (hb8.mono H6d.out.size)
 have hm8 := HMF.out _ hb8
 obtain ⟨w9, hrun9, hm9, ht9⟩ := hm8.store (val := .agg #[.string nm, .bool fn, .slice A2 ps.length k2, .bool more, .slice A4 body.length k4]) strEmb law9 law68 HN.out HKO.out
 have H8 := Lib.hid (And.intro hb8 (And.intro hm9 (And.intro ht9 (And.intro hR2 hR4))))
 refine hK.out _ _ ⟨(blk_cell (FP.out _ hb8) 0), (blk_cell (FA _ hb8) 0), (blk_cell (FA _ hb8) 1), (blk_cell (FA _ hb8) 2), (blk_cell (FA _ hb8) 3), (blk_cell (FA _ hb8) 4)⟩ (fun hHeld => ?_)
 clear hK K
 refine norm_ (a' := ?_) ?_ ?_
 rotate_left
 ·show Act.put _ (some 42) _ = _
  simp only [Act.put, List.setIfInBounds_toArray, List.set_cons_zero, List.set_cons_succ, i64_w, i32_w]
  rfl
 refine last_ (i := 8) (N := none) #[true, true, true, true, true, true, true, true, true] rfl rfl (by kernel_rfl) (by decide) (fun K hK => ?_)
 refine skip_ (w1 := w9) (by rfl) rfl ?_ ?_
 ·go_simp
 refine hK.out _ _ ?_
 clear hK K
 refine done_ (by kernel_rfl) ?_

 go_wp2
 go_ret
 obtain ⟨hb8, hm9, ht9, hR2, hR4⟩ := H8.out
 obtain ⟨hfT, hTn, hfn⟩ : (∀ y, (match T y with | none => f y = none | some m => ∃ v, f y = some v ∧ MacV W0 m v)) ∧ T nm.data.toList = none ∧ f nm.data.toList = none := ⟨HX.out.2.2.2.1, HX.out.2.2.2.2.1, HX.out.2.2.2.2.2⟩
 have hbw := HX.out.2.1
 rw [hBw] at hbw
 have hbs := hbw.size
 rw [hBw] at hbs
 rw [hfn] at hm9
 refine ⟨rfl, ⟨(turned_other ht9 (FP.out _ hb8)), _, hm9, fun y => ?_⟩, w8, hbw.trans (hb8.mono hbs), ht9⟩
 by_cases hy : y = nm.data.toList
 ·subst hy
  simp only [if_pos rfl]
  refine ⟨_, if_pos rfl, A2, k2, A4, k4, rfl, Cs_turned (Kd.R_reads' hR2).2.2 ht9, (Kd.R_reads' hR2).2.1, Ck_turned (Kd.R_reads' hR4).2.2 ht9, (Kd.R_reads' hR4).2.1⟩
 ·have h1 := hfT y
  simp only [if_neg hy]
  have hup : upd f nm.data.toList (.agg #[.string nm, .bool fn, .slice A2 ps.length k2, .bool more, .slice A4 body.length k4]) y = f y := if_neg hy
  cases hTy : T y with
  | none => rw [hTy] at h1; exact hup.trans h1
  | some m =>
   rw [hTy] at h1
   obtain ⟨v, e, hv⟩ := h1
   exact ⟨v, hup.trans e, (hv.below hb8).turned ht9⟩
end Go.Proofs.YtcbfbefpbjmglaaDoor.Mac
namespace Go.Proofs.YtcbfbefpbjmglaaDoor.Mac
open Go.RowKit Go.Lib Go.Proofs.MapFun Go.Proofs.YtcbfbefpbjmglaaDoor.PA Go.Proofs.YtcbfbefpbjmglaaDoorT Go.Proofs.YtcbfbefpbjmglaaDoorW.PrintWords Go.Proofs.YtcbfbefpbjmglaaDoorW.PrintLast Go.Proofs.YtcbfbefpbjmglaaDoorW.PrintMore
set_option linter.unusedVariables false
set_option linter.unusedSimpArgs false
theorem lexed_f (s : ByteArray) (h : s.size ≤ 1048576) : burinlaw03_lexed.f s = some ((lexP [(1, s.data.toList)]).1.map toT) := by
 unfold burinlaw03_lexed.f
 rw [lex_one s (by omega)]; rfl
theorem parseP_right {l : List S48} {m : MacP} (h : parseP l = some m) : rightP m.nm m.fn m.params m.more m.body = true := by
 match l, h with
 | t :: r, h =>
  rw [parseP] at h
  split at h
  ·obtain ⟨x, hx, h2⟩ := Option.bind_eq_some_iff.1 h
   split at h2
   ·rename_i hr
    have h2 := Option.some.inj h2
    rw [← h2]; exact hr
   ·cases h2
  ·cases h
theorem headP_size {l : List S48} {x : Bool × List ByteArray × Bool × List S48} (h : headP l = some x) : x.2.1.length ≤ l.length ∧ (∀ p ∈ x.2.1, ∃ t ∈ l, p = t.f1) ∧ x.2.2.2.length ≤ l.length ∧ (∀ t ∈ x.2.2.2, t ∈ l) := by
 match l with
 | [] => rw [headP] at h; cases h; exact ⟨Nat.le_refl _, by simp, Nat.le_refl _, by simp⟩
 | t :: r =>
  rw [headP] at h
  split at h
  ·cases h; exact ⟨Nat.zero_le _, by simp, Nat.le_refl _, by simp⟩
  ·split at h
   ·obtain ⟨y, hy, h2⟩ := Option.bind_eq_some_iff.1 h
    have h2 := Option.some.inj h2
    rw [← h2]
    obtain ⟨k, st⟩ := y
    obtain ⟨_, _, g3, g4⟩ := paramsP_size hy
    refine ⟨?_, fun p hp => ?_, ?_, fun t' ht' => ?_⟩
    ·show st.1.length ≤ _
     rw [List.length_cons]; omega
    ·obtain ⟨t', h1, h2⟩ := g4 p hp
     exact ⟨t', List.mem_cons_of_mem _ h1, h2⟩
    ·show (r.drop k.toNat).length ≤ _
     rw [List.length_drop, List.length_cons]; omega
    ·exact List.mem_cons_of_mem _ (List.mem_of_mem_drop ht')
   ·cases h
theorem parseP_dom {l : List S48} {m : MacP} (hd : domL l = true) (h : parseP l = some m) : DomM m.nm m.params m.body := by
 unfold domL at hd
 rw [Bool.and_eq_true, decide_eq_true_eq, List.all_eq_true] at hd
 obtain ⟨hl, ha⟩ := hd
 have ha : ∀ t ∈ l, t.f1.size ≤ 1048576 := fun t ht => by have := ha t ht; rwa [decide_eq_true_eq] at this
 match l, h with
 | t :: r, h =>
  rw [parseP] at h
  split at h
  ·obtain ⟨x, hx, h2⟩ := Option.bind_eq_some_iff.1 h
   split at h2
   ·have h2 := Option.some.inj h2
    rw [← h2]
    obtain ⟨g1, g2, g3, g4⟩ := headP_size hx
    rw [List.length_cons] at hl
    refine ⟨ha t List.mem_cons_self, ?_, ?_, fun p hp => ?_, fun b hb => ?_⟩
    ·show x.2.1.length ≤ _; omega
    ·show (bareFrom 0 x.2.2.2).length ≤ _; rw [bareFrom_len]; omega
    ·obtain ⟨t', h1, rfl⟩ := g2 p hp
     exact ha t' (List.mem_cons_of_mem _ h1)
    ·obtain ⟨t', h1, h2⟩ := bareFrom_mem _ _ b hb
     rw [h2]; exact ha t' (List.mem_cons_of_mem _ (g4 t' h1))
   ·cases h2
  ·cases h
theorem below_turned {B mb : Nat} {w w1 w' : World} (h : Below B w w1) (ht : w1.mapTurned w' mb) (hB : B ≤ mb) : Below B w w' := by
 obtain ⟨g1, g2, g3, g4, hg⟩ := ht.grown
 refine ⟨g1.trans h.os, g2.trans h.tape, g3.trans h.output, Nat.le_trans h.size (by exact g4), fun k hk => ?_⟩
 rw [← h.block k hk]
 by_cases hk2 : k < w1.heap.size
 ·exact hg k hk2 (fun e => by cases e; omega)
 ·obtain ⟨_, _, _, _, hb, _⟩ := id ht
  have : mb < w1.heap.size := (Array.getElem?_eq_some_iff.1 hb).1
  omega
theorem getm_c (p mb n : Nat) (T : List UInt8 → Option MacP) (nm : ByteArray) (m : MacP) (hTn : T nm.data.toList = some m) (hnm : nm.size < maxLen) (w : World) (h : TabR w p mb n T) (hsz : ∀ y m, T y = some m → m.params.length ≤ 2000000 ∧ m.body.length ≤ 1000000) :
  Calls Tryd.prog 23 #[.pointer (some ⟨p, 0, none⟩), .string nm] w fun e w' => ∃ A2 k2 A4 k4, e = .returned (.tuple #[.agg #[.string m.nm, .bool m.fn, .slice A2 m.params.length k2, .bool m.more, .slice A4 m.body.length k4], .bool true]) ∧ Kd.string.R 9 w' w.heap.size (fun _ => True) (.slice A2 m.params.length k2) m.params ∧ Kd.R k48 48 w' w.heap.size (fun _ => True) (.slice A4 m.body.length k4) m.body ∧ Below w.heap.size w w' := by
 refine (get_c p mb n T nm hnm w h hsz).mono ?_
 rintro e w' ⟨v, rfl, hg, hb⟩
 rw [hTn] at hg ⊢
 obtain ⟨v2, v4, rfl, h2, h4⟩ := hg
 obtain ⟨A2, k2, rfl⟩ := Kd.R_slice h2
 obtain ⟨A4, k4, rfl⟩ := Kd.R_slice h4
 exact ⟨A2, k2, A4, k4, rfl, h2, h4, hb⟩
structure KInv (W7 W10 W : World) (Ba b8 : Nat) (ca : Array Value) (A5 A6 : Option Addr) (n5 n6 : Nat) : Prop where
 bel : Below W7.heap.size W7 W
 a : W.heap[Ba]? = some (.cells ca 32 (0, 0))
 hi : ∀ k, b8 ≤ k → k < W10.heap.size → W.heap[k]? = W10.heap[k]?
 sz : W10.heap.size ≤ W.heap.size
 r5 : 0 < n5 → ∃ g cs, A5 = some ⟨g, 0, none⟩ ∧ W.heap[g]? = some (.cells cs 9 (0, 0)) ∧ n5 ≤ cs.size ∧ W7.heap.size ≤ g ∧ g < b8
 r6 : 0 < n6 → ∃ g cs, A6 = some ⟨g, 0, none⟩ ∧ W.heap[g]? = some (.cells cs 48 (0, 0)) ∧ n6 * 6 ≤ cs.size ∧ W7.heap.size ≤ g ∧ g < b8
theorem KInv.put {W7 W10 W : World} {Ba b8 : Nat} {ca : Array Value} {A5 A6 : Option Addr} {n5 n6 : Nat} (h : KInv W7 W10 W Ba b8 ca A5 A6 n5 n6) {g : Nat} {cs : Array Value} {t : TypeId} (hg : W.heap[g]? = some (.cells cs t (0, 0))) (h1 : W7.heap.size ≤ g) (h2 : g < b8) (ht : t ≠ 32) (off : Nat) (u : Value) :
  KInv W7 W10 (W.setCell ⟨g, off, none⟩ u) Ba b8 ca A5 A6 n5 n6 := by
 have hp := blk_put hg off u rfl
 have hne : ∀ k, k ≠ g → (W.setCell ⟨g, off, none⟩ u).heap[k]? = W.heap[k]? := fun k hk => Below.heap_setCell W ⟨g, off, none⟩ u k hk
 refine ⟨h.bel.setCell (p := ⟨g, off, none⟩) h1 u, (hne Ba (fun e => ?_)).trans h.a, fun k hk hk2 => (hne k (by omega)).trans (h.hi k hk hk2), by simpa using h.sz, fun hn => ?_, fun hn => ?_⟩
 ·subst e
  have := h.a
  rw [hg] at this
  cases this
  exact ht rfl
 ·obtain ⟨g', cs', e1, e2, e3, e4, e5⟩ := h.r5 hn
  by_cases he : g' = g
  ·subst he
   rw [hg] at e2
   cases e2
   exact ⟨g', _, e1, hp, by simpa using e3, e4, e5⟩
  ·exact ⟨g', cs', e1, (hne g' he).trans e2, e3, e4, e5⟩
 ·obtain ⟨g', cs', e1, e2, e3, e4, e5⟩ := h.r6 hn
  by_cases he : g' = g
  ·subst he
   rw [hg] at e2
   cases e2
   exact ⟨g', _, e1, hp, by simpa using e3, e4, e5⟩
  ·exact ⟨g', cs', e1, (hne g' he).trans e2, e3, e4, e5⟩
theorem KInv.grow {W7 W10 W W' : World} {Ba b8 : Nat} {ca : Array Value} {A5 A6 : Option Addr} {n5 n6 : Nat} (h : KInv W7 W10 W Ba b8 ca A5 A6 n5 n6) (hb : Below W.heap.size W W') : KInv W7 W10 W' Ba b8 ca A5 A6 n5 n6 := by
 have hs := h.sz
 refine ⟨h.bel.trans (hb.mono h.bel.size), (hb.block _ (blk_lt h.a)).trans h.a, fun k h1 h2 => (hb.block k (by omega)).trans (h.hi k h1 h2), Nat.le_trans hs hb.size, fun hn => ?_, fun hn => ?_⟩
 ·obtain ⟨g', cs', e1, e2, e3⟩ := h.r5 hn
  exact ⟨g', cs', e1, (hb.block _ (blk_lt e2)).trans e2, e3⟩
 ·obtain ⟨g', cs', e1, e2, e3⟩ := h.r6 hn
  exact ⟨g', cs', e1, (hb.block _ (blk_lt e2)).trans e2, e3⟩
theorem addr0 (g n : Nat) : (Addr.add ⟨g, 0, none⟩ n) = ⟨g, n, none⟩ := by
 unfold Addr.add
 split
 ·first | rfl | simp_all
 ·first | simp | simp_all
theorem conv_one {W : World} {g : Nat} {c : Int} (h : W.heap[g]? = some (.cells #[.int .u8 c] 5 (0, 0))) : (convert 46 9 (.slice (some ⟨g, 0, none⟩) 1 1)).run Tryd.prog W = .ok (.string (strOfNums [c])) W :=
 string_of_reads Tryd.underlying46 Tryd.underlying5 Tryd.underlying9 ⟨rfl, by decide, fun _ => ⟨_, rfl, fun j hj => by
  obtain rfl : j = 0 := by omega
  rw [addr0]
  exact blk_cell h 0⟩⟩
theorem row_size {α : Type} {K : Kd α} {e base : Nat} {W : World} {A : Option Addr} {n c : Nat} {xs : List α} (h : K.R e W base (fun _ => True) (.slice A n c) xs) (hn : 0 < xs.length) (hs : 0 < K.sz) : ∃ g cs, A = some ⟨g, 0, none⟩ ∧ W.heap[g]? = some (.cells cs e (0, 0)) ∧ xs.length * K.sz ≤ cs.size ∧ base ≤ g ∧ g < W.heap.size := by
 have hb := Kd.R_base h
 have hl := Kd.R_lt h
 have hty := Kd.R_typed h
 obtain ⟨rfl, _, hC⟩ := Kd.R_reads' h
 obtain ⟨ad, ha, hr⟩ := hC.2.2 hn
 subst ha
 obtain ⟨g, rfl⟩ : ∃ g, ad = ⟨g, 0, none⟩ := by
  obtain ⟨_, inner, ho, hr⟩ := h
  rcases ho.2 with ⟨hv, _⟩ | ⟨g, cap', cur, hv, _⟩
  ·cases hv
  ·injection hv with ha _ _
   injection ha with ha
   exact ⟨g, ha⟩
 obtain ⟨cs, hcs⟩ := hty g rfl
 refine ⟨g, cs, rfl, hcs, ?_, hb g rfl, hl g rfl⟩
 obtain ⟨cc, g1, _, g3⟩ := hr (xs.length - 1) _ (List.getElem?_eq_getElem (by omega))
 have hlt : K.sz - 1 < cc.length := by omega
 have h5 := g3 (K.sz - 1) _ (List.getElem?_eq_getElem hlt)
 have h6 : (Addr.add ⟨g, 0, none⟩ ((xs.length - 1) * K.sz + (K.sz - 1))) = ⟨g, (xs.length - 1) * K.sz + (K.sz - 1), none⟩ := addr0 _ _
 rw [h6, blk_cell hcs] at h5
 have h7 := (Array.getElem?_eq_some_iff.1 h5).1
 have h8 : (xs.length - 1) * K.sz + K.sz = xs.length * K.sz := by
  obtain ⟨m, hm⟩ : ∃ m, xs.length = m + 1 := ⟨xs.length - 1, by omega⟩
  rw [hm, Nat.add_sub_cancel, Nat.succ_mul]
 omega
attribute [local go_sem] Oper.semAt_some
set_option maxRecDepth 100000 in
set_option maxHeartbeats 2000000 in
theorem keeps_c (s : ByteArray) (c : Int) (w : World) (hT : Tab w) (h : s.size ≤ 1048576) : Calls Tryd.prog 6 #[.string s, .int .u8 c] w fun e w' => e = .returned (.bool true) ∧ Below w.heap.size w w' := by
 have hlex := lexed_f s h
 have hd := domL_lex s h
 obtain ⟨l, hl⟩ : ∃ l, (lexP [(1, s.data.toList)]).1.map toT = l := ⟨_, rfl⟩
 rw [hl] at hlex hd
 cases hp : parseP l with
 | none =>
  have hpar : macro_Parse.f l = some (⟨#[]⟩, false, [], false, [], 30) := by unfold macro_Parse.f; rw [if_pos hd, hp]; rfl
  have HX := Lib.hid (And.intro hT (And.intro hlex hpar))
  clear hT hlex hpar hd hp hl
  have ST1 : True := trivial
  go_enter Tryd.func6, Tryd.ntmps6
  go_wp2_with (first
   | (have g_ := ST1; clear g_ ST1; go_at_call 9; refine (shown_c _ HX.out.1).mono ?_; rintro e W1 ⟨rfl, hb1⟩; have H1 := Lib.hid hb1; clear hb1; have ST2 : True := trivial)
   | (have g_ := ST2; clear g_ ST2; go_at_call 20; refine (burinlaw03_lexed.calls s l _ (HX.out.1.grow H1.out) HX.out.2.1).mono ?_; rintro e W2 ⟨v3, rfl, hR3, hb3⟩; obtain ⟨A0, c0, rfl⟩ := Kd.R_slice hR3; have H2 := Lib.hid (And.intro (Kd.R_reads' hR3) (H1.out.trans (hb3.mono H1.out.size))); clear hR3 hb3; have ST3 : True := trivial)
   | (have g_ := ST3; clear g_ ST3; go_at_call 11; refine (macro_Parse.calls A0 c0 l _ _ _ _ _ _ _ H2.out.1.2.2 H2.out.1.2.1 (HX.out.1.grow H2.out.2) HX.out.2.2).mono ?_; rintro e W4 ⟨v4, v5, rfl, hR4, hR5, hb4⟩; obtain ⟨A2, c2, rfl⟩ := Kd.R_slice hR4; obtain ⟨A3, c3, rfl⟩ := Kd.R_slice hR5; have H4 := Lib.hid (H2.out.2.trans (hb4.mono H2.out.2.size)); clear hR4 hR5 hb4))
  go_ret
  exact ⟨rfl, H4.out.alloc H4.out.size _⟩
 | some m =>
  obtain ⟨nm, fn, ps, more, body⟩ := m
  have hr := parseP_right hp
  have hdm := parseP_dom hd hp
  have hpar : macro_Parse.f l = some (nm, fn, ps, more, body, 0) := by unfold macro_Parse.f; rw [if_pos hd, hp]; rfl
  have hequ : burinref03_Equal.f 3000000 nm fn ps more body nm fn ps more body = some true := by
   obtain ⟨d1, d2, d3, _⟩ := hdm
   obtain ⟨_, h16, _⟩ := rightP_parts hr
   have h16 : ps.length ≤ 16 := h16
   have d3 : body.length ≤ 1000000 := d3
   rw [requal_f _ _ _ _ _ _ _ _ _ _ _ (by omega) d3 (by omega), toksEq_refl, strsEq_refl]; simp
  have HX := Lib.hid (And.intro hT (And.intro hlex (And.intro hpar (And.intro hr (And.intro hdm hequ)))))
  clear hT hlex hpar hd hp hl hr hdm hequ
  have ST1 : True := trivial
  go_enter Tryd.func6, Tryd.ntmps6
  go_upto_region 5 with (first
   | (have g_ := ST1; clear g_ ST1; go_at_call 9; refine (shown_c _ HX.out.1).mono ?_; rintro e W1 ⟨rfl, hb1⟩; have H1 := Lib.hid hb1; clear hb1; have ST2 : True := trivial)
   | (have g_ := ST2; clear g_ ST2; go_at_call 20; refine (burinlaw03_lexed.calls s l _ (HX.out.1.grow H1.out) HX.out.2.1).mono ?_; rintro e W2 ⟨v3, rfl, hR3, hb3⟩; obtain ⟨A0, c0, rfl⟩ := Kd.R_slice hR3; have H2 := Lib.hid (And.intro (Kd.R_reads' hR3) (H1.out.trans (hb3.mono H1.out.size))); clear hR3 hb3; have ST3 : True := trivial)
   | (have g_ := ST3; clear g_ ST3; go_at_call 11; refine (macro_Parse.calls A0 c0 l _ _ _ _ _ _ _ H2.out.1.2.2 H2.out.1.2.1 (HX.out.1.grow H2.out.2) HX.out.2.2.1).mono ?_; rintro e W4 ⟨v4, v5, rfl, hR4, hR5, hb4⟩; obtain ⟨A2, c2, rfl⟩ := Kd.R_slice hR4; obtain ⟨A3, c3, rfl⟩ := Kd.R_slice hR5; have H4 := Lib.hid (And.intro (Kd.R_reads' hR4) (And.intro (Kd.R_reads' hR5) (H2.out.2.trans (hb4.mono H2.out.2.size)))); clear hR4 hR5 hb4))
  obtain ⟨Bm, hBm⟩ : ∃ B, W4.heap.size = B := ⟨_, rfl⟩
  obtain ⟨W5, hW5⟩ : ∃ W5, W4.alloc (.cells #[.string nm, .bool fn, .slice A2 ps.length c2, .bool more, .slice A3 body.length c3] 32) = W5 := ⟨_, rfl⟩
  have qm : W5.heap[Bm]? = some (.cells #[.string nm, .bool fn, .slice A2 ps.length c2, .bool more, .slice A3 body.length c3] 32 (0, 0)) := by rw [← hW5, ← hBm]; exact blk_new W4 _
  have hb5 : Below w.heap.size w W5 := by rw [← hW5]; exact H4.out.2.2.alloc H4.out.2.2.size _
  have hP5 : Kd.C Kd.string W5 A2 ps.length ps := by rw [← hW5]; exact Kd.C_alloc H4.out.1.2.2 _
  have hB5 : Kd.C k48 W5 A3 body.length body := by rw [← hW5]; exact Kd.C_alloc H4.out.2.1.2.2 _
  have hT5 := HX.out.1.grow hb5
  have FM := Lib.hid fun (W : World) (hb : Below W5.heap.size W5 W) => (hb.block _ (blk_lt qm)).trans qm
  have H5 := Lib.hid (And.intro hb5 (And.intro hP5 (And.intro hB5 hT5)))
  rw [hW5]
  try rw [hBm]
  clear hW5 qm hb5 hP5 hB5 hT5
  have ST5 : True := trivial
  obtain ⟨T1, hT1e⟩ : ∃ T1 : List UInt8 → Option MacP, (fun y => if y = nm.data.toList then some (⟨nm, fn, ps, more, body⟩ : MacP) else none) = T1 := ⟨_, rfl⟩
  have hT1 : Hid (∀ y m, T1 y = some m → m.params.length ≤ 2000000 ∧ m.body.length ≤ 1000000) := Lib.hid fun y m h => by
   subst hT1e
   have h : (if y = nm.data.toList then some (⟨nm, fn, ps, more, body⟩ : MacP) else none) = some m := h
   split at h
   ·cases h; exact ⟨HX.out.2.2.2.2.1.2.1, HX.out.2.2.2.2.1.2.2.1⟩
   ·cases h
  have hTn : Hid (T1 nm.data.toList = some ⟨nm, fn, ps, more, body⟩) := Lib.hid (by subst hT1e; exact if_pos rfl)
  have HT1 := Lib.hid hT1e
  clear hT1e
  have hnm : Hid (nm.size < maxLen) := Lib.hid (by have : nm.size ≤ 1048576 := HX.out.2.2.2.2.1.1; unfold maxLen; omega)
  go_upto_region 9 with (first
   | (have g_ := ST5; clear g_ ST5; go_at_call 21; refine (new_c _).mono ?_; rintro e W6 ⟨p, mb, rfl, hTab6, hmb, hb6⟩; have qm6 := FM.out _ hb6; have a0 := blk_cell qm6 0; have a1 := blk_cell qm6 1; have a2 := blk_cell qm6 2; have a3 := blk_cell qm6 3; have a4 := blk_cell qm6 4; have H6 := Lib.hid (And.intro hTab6 (And.intro hmb hb6)); clear hTab6 hmb hb6 qm6; have ST6 : True := trivial)
   | (have g_ := ST6; clear g_ ST6; go_at_call 22; refine (define_new p mb 0 (fun _ => none) nm fn more A2 A3 c2 c3 ps body _ (H5.out.2.2.2.grow H6.out.2.2) HX.out.2.2.2.2.1 H6.out.1 HX.out.2.2.2.1 rfl (by decide) (Kd.C_below H5.out.2.1 H6.out.2.2) H4.out.1.2.1 (Kd.C_below H5.out.2.2.1 H6.out.2.2) H4.out.2.1.2.1).mono ?_; rintro e W7 ⟨rfl, hTab7, w1, hbw1, htw⟩; have hb7 : Below W5.heap.size W5 W7 := below_turned (H6.out.2.2.trans (hbw1.mono H6.out.2.2.size)) htw H6.out.2.1; clear a0 a1 a2 a3 a4; have a0 := blk_cell (FM.out _ hb7) 0; have hTab7' : TabR W7 p mb 1 T1 := (by have h1 := HT1.out; clear hTn hT1; subst h1; exact hTab7); have H7 := Lib.hid (And.intro hTab7' hb7); clear hTab7 hTab7' hb7 hbw1 htw; have ST7 : True := trivial)
   | (have g_ := ST7; clear g_ ST7; go_at_call 23; refine (getm_c p mb 1 _ nm _ hTn.out hnm.out _ H7.out.1 hT1.out).mono ?_; rintro e W8 ⟨A5, c5, A6, c6, rfl, hR5, hR6, hb8⟩; have hb8' := H7.out.2.trans (hb8.mono H7.out.2.size); clear a0; have a0 := cell_al (blk_cell (FM.out _ hb8') 0) (.cells #[.string nm, .bool fn, .slice A5 ps.length c5, .bool more, .slice A6 body.length c6] 32); have H8 := Lib.hid (And.intro hb8 (And.intro hR5 hR6)); clear hb8 hb8' hR5 hR6; have ST8 : True := trivial)
   | (have g_ := ST8; clear g_ ST8; go_at_call 23; have hbA := H8.out.1.alloc H8.out.1.size (.cells #[.string nm, .bool fn, .slice A5 ps.length c5, .bool more, .slice A6 body.length c6] 32); refine (getm_c p mb 1 _ nm _ hTn.out hnm.out _ (H7.out.1.below hbA) hT1.out).mono ?_; rintro e W9 ⟨A7, c7, A8, c8, rfl, hR7, hR8, hb9⟩; clear a0; have H9 := Lib.hid (And.intro hb9 (And.intro hR7 hR8)); clear hb9 hbA hR7 hR8))
  obtain ⟨Ba, hBa⟩ : ∃ B, W8.heap.size = B := ⟨_, rfl⟩
  obtain ⟨W8a, hW8⟩ : ∃ W', W8.alloc (.cells #[.string nm, .bool fn, .slice A5 ps.length c5, .bool more, .slice A6 body.length c6] 32) = W' := ⟨_, rfl⟩
  obtain ⟨W10, hW10⟩ : ∃ W', W9.alloc (.cells #[.string nm, .bool fn, .slice A7 ps.length c7, .bool more, .slice A8 body.length c8] 32) = W' := ⟨_, rfl⟩
  obtain ⟨Bb, hBb⟩ : ∃ B, W9.heap.size = B := ⟨_, rfl⟩
  have hs8 : W8a.heap.size = Ba + 1 := by rw [← hW8, World.size_alloc, hBa]
  have hq8 : W8a.heap[Ba]? = some (.cells #[.string nm, .bool fn, .slice A5 ps.length c5, .bool more, .slice A6 body.length c6] 32 (0, 0)) := by rw [← hW8, ← hBa]; exact blk_new W8 _
  have hq10 : W10.heap[Bb]? = some (.cells #[.string nm, .bool fn, .slice A7 ps.length c7, .bool more, .slice A8 body.length c8] 32 (0, 0)) := by rw [← hW10, ← hBb]; exact blk_new W9 _
  have hb9 : Below W8a.heap.size W8a W9 := by have := H9.out.1; rw [hW8] at this; exact this
  have hb10 : Below W8a.heap.size W8a W10 := by rw [← hW10]; exact hb9.alloc hb9.size _
  have hb8 : Below W7.heap.size W7 W8a := by rw [← hW8]; exact H8.out.1.alloc H8.out.1.size _
  have hR7 : Kd.string.R 9 W10 W8a.heap.size (fun _ => True) (.slice A7 ps.length c7) ps := by have := H9.out.2.1; rw [hW8] at this; rw [← hW10]; exact Kd.R_alloc this _
  have hR8 : Kd.R k48 48 W10 W8a.heap.size (fun _ => True) (.slice A8 body.length c8) body := by have := H9.out.2.2; rw [hW8] at this; rw [← hW10]; exact Kd.R_alloc this _
  have hI : KInv W7 W10 W10 Ba W8a.heap.size #[.string nm, .bool fn, .slice A5 ps.length c5, .bool more, .slice A6 body.length c6] A5 A6 ps.length body.length := by
   refine ⟨hb8.trans (hb10.mono hb8.size), (hb10.block _ (blk_lt hq8)).trans hq8, fun _ _ _ => rfl, Nat.le_refl _, fun hn => ?_, fun hn => ?_⟩
   ·obtain ⟨g, cs, e1, e2, e3, e4, e5⟩ := row_size H8.out.2.1 hn (by decide)
    have hlt : g < W8a.heap.size := by omega
    refine ⟨g, cs, e1, ?_, (by have e3 : ps.length * 1 ≤ cs.size := e3; omega), e4, hlt⟩
    rw [hb10.block _ hlt, ← hW8]
    exact blk_alloc e2 _
   ·obtain ⟨g, cs, e1, e2, e3, e4, e5⟩ := row_size H8.out.2.2 hn (by decide)
    have hlt : g < W8a.heap.size := by omega
    refine ⟨g, cs, e1, ?_, e3, e4, hlt⟩
    rw [hb10.block _ hlt, ← hW8]
    exact blk_alloc e2 _
  have hBs : Hid (W8a.heap.size ≤ Bb ∧ Bb < W10.heap.size) := Lib.hid ⟨by have := hb9.size; omega, blk_lt hq10⟩
  have HY := Lib.hid (And.intro hq10 (And.intro hR7 (And.intro hR8 (And.intro hb8 (And.intro hb10 hI)))))
  rw [hW10]
  try rw [hBa]
  try rw [hBb]
  clear hq8 hq10 hb9 hb10 hb8 hR7 hR8 hI hW8 hW10
  go_wp2
  go_loopw [14] (fun i W => ∃ k : Nat, k ≤ body.length ∧ i = .int .i64 k ∧ KInv W7 W10 W Ba W8a.heap.size #[.string nm, .bool fn, .slice A5 ps.length c5, .bool more, .slice A6 body.length c6] A5 A6 ps.length body.length) (fun i _ => body.length - (RowKit.intOf i).toNat)
  case atStart => exact ⟨0, Nat.zero_le _, rfl, HY.out.2.2.2.2.2⟩
  case round =>
   obtain ⟨k, hk, rfl, hI⟩ := hrel
   have q4 := blk_cell hI.a 4
   by_cases hlt : k < body.length
   ·obtain ⟨g, cs, rfl, e2, e3, e4, e5⟩ := hI.r6 (by omega)
    have hcv := conv_one (blk_new wr (.cells #[.int .u8 c] 5))
    have q4' := cell_al q4 (.cells #[.int .u8 c] 5)
    have hx : k * 6 + 1 < cs.size := by omega
    have cg := (blk_cell (blk_alloc e2 (.cells #[.int .u8 c] 5)) (k * 6 + 1)).trans (Array.getElem?_eq_getElem hx)
    have fg := blk_frozen (blk_alloc e2 (.cells #[.int .u8 c] 5)) (k * 6 + 1)
    have HHI := Lib.hid (And.intro hI e2)
    have HW := Lib.hid (show wrap64 ((k : Int) + 1) = ((k + 1 : Nat) : Int) by have : body.length ≤ 1000000 := HX.out.2.2.2.2.1.2.2.1; unfold wrap64; omega)
    clear hI e2
    go_wp2
    go_roundw
    case rel => exact ⟨k + 1, by omega, by rw [HW.out], (HHI.out.1.grow (below_alloc (Below.refl _ _) _)).put (blk_alloc HHI.out.2 _) e4 e5 (by decide) _ _⟩
    case measure => rw [HW.out]; simp [RowKit.intOf]; omega
   ·have HI := Lib.hid hI
    clear hI
    go_wp2
    clear q4
    go_loopw [15] (fun i W => ∃ k : Nat, k ≤ ps.length ∧ i = .int .i64 k ∧ KInv W7 W10 W Ba W8a.heap.size #[.string nm, .bool fn, .slice A5 ps.length c5, .bool more, .slice A6 body.length c6] A5 A6 ps.length body.length) (fun i _ => ps.length - (RowKit.intOf i).toNat)
    case atStart => exact ⟨0, Nat.zero_le _, rfl, HI.out⟩
    case round =>
     obtain ⟨j, hj, rfl, hI⟩ := hrel
     have q2 := blk_cell hI.a 2
     by_cases hlt2 : j < ps.length
     ·obtain ⟨g, cs, rfl, e2, e3, e4, e5⟩ := hI.r5 (by omega)
      have hx : j < cs.size := by omega
      have cg := (blk_cell e2 j).trans (Array.getElem?_eq_getElem hx)
      have fg := blk_frozen e2 j
      have HHI := Lib.hid (And.intro hI e2)
      have HW := Lib.hid (show wrap64 ((j : Int) + 1) = ((j + 1 : Nat) : Int) by have : ps.length ≤ 2000000 := HX.out.2.2.2.2.1.2.1; unfold wrap64; omega)
      clear hI e2
      go_wp2
      go_roundw
      case rel => exact ⟨j + 1, by omega, by rw [HW.out], HHI.out.1.put HHI.out.2 e4 e5 (by decide) _ _⟩
      case measure => rw [HW.out]; simp [RowKit.intOf]; omega
     ·have HJ := Lib.hid hI
      have hbm := H7.out.2.trans (hI.bel.mono H7.out.2.size)
      have a0 := blk_cell (FM.out _ hbm) 0
      have HB := Lib.hid hbm
      clear hI hbm
      have ST9 : True := trivial
      go_wp2_with (first
       | (have g_ := ST9; clear g_ ST9; go_at_call 23; refine (getm_c p mb 1 _ nm _ hTn.out hnm.out _ (H7.out.1.below HJ.out.bel) hT1.out).mono ?_; rintro e W11 ⟨A9, c9, A10, c10, rfl, hR9, hR10, hb11⟩; have hb12 := hb11.alloc hb11.size (.cells #[.string nm, .bool fn, .slice A9 ps.length c9, .bool more, .slice A10 body.length c10] 32); have qb := (hb12.block Bb (Nat.lt_of_lt_of_le hBs.out.2 HJ.out.sz)).trans ((HJ.out.hi Bb hBs.out.1 hBs.out.2).trans HY.out.1); have qx := blk_new W11 (.cells #[.string nm, .bool fn, .slice A9 ps.length c9, .bool more, .slice A10 body.length c10] 32); have b0 := blk_cell qb 0; have b1 := blk_cell qb 1; have b2 := blk_cell qb 2; have b3 := blk_cell qb 3; have b4 := blk_cell qb 4; have x0 := blk_cell qx 0; have x1 := blk_cell qx 1; have x2 := blk_cell qx 2; have x3 := blk_cell qx 3; have x4 := blk_cell qx 4; have H11 := Lib.hid (And.intro hb12 (And.intro (Kd.R_reads' (Kd.R_alloc hR9 (.cells #[.string nm, .bool fn, .slice A9 ps.length c9, .bool more, .slice A10 body.length c10] 32))) (And.intro (Kd.R_reads' (Kd.R_alloc hR10 (.cells #[.string nm, .bool fn, .slice A9 ps.length c9, .bool more, .slice A10 body.length c10] 32))) (And.intro (Kd.R_reads' (R_high HY.out.2.1 (fun k h1 h2 => (hb12.block k (Nat.lt_of_lt_of_le h2 HJ.out.sz)).trans (HJ.out.hi k h1 h2)))) (And.intro (Kd.R_reads' (R_high HY.out.2.2.1 (fun k h1 h2 => (hb12.block k (Nat.lt_of_lt_of_le h2 HJ.out.sz)).trans (HJ.out.hi k h1 h2)))) (And.intro qx (HB.out.trans (hb12.mono HB.out.size)))))))); clear hR9 hR10 hb11 hb12 qb qx a0 q2; have ST10 : True := trivial)
       | (have g_ := ST10; clear g_ ST10; go_at_call 13; refine (burinref03_Equal.calls 3000000 nm fn A7 c7 ps more A8 c8 body nm fn A9 c9 ps more A10 c10 body _ _ H11.out.2.2.2.1.2.2 H11.out.2.2.2.1.2.1 H11.out.2.2.2.2.1.2.2 H11.out.2.2.2.2.1.2.1 H11.out.2.1.2.2 H11.out.2.1.2.1 H11.out.2.2.1.2.2 H11.out.2.2.1.2.1 HX.out.2.2.2.2.2).mono ?_; rintro e W13 ⟨rfl, hb13⟩; have hb13' := H11.out.2.2.2.2.2.2.trans (hb13.mono H11.out.2.2.2.2.2.2.size); clear b0 b1 b2 b3 b4 x0 x1 x2 x3 x4; have qx := (hb13.block _ (blk_lt H11.out.2.2.2.2.2.1)).trans H11.out.2.2.2.2.2.1; have qm := FM.out _ hb13'; have x0 := blk_cell qx 0; have x1 := blk_cell qx 1; have x2 := blk_cell qx 2; have x3 := blk_cell qx 3; have x4 := blk_cell qx 4; have m0 := blk_cell qm 0; have m1 := blk_cell qm 1; have m2 := blk_cell qm 2; have m3 := blk_cell qm 3; have m4 := blk_cell qm 4; have H13 := Lib.hid (And.intro hb13 hb13'); clear hb13 hb13' qx qm; have ST11 : True := trivial)
       | (have g_ := ST11; clear g_ ST11; go_at_call 13; refine (burinref03_Equal.calls 3000000 nm fn A2 c2 ps more A3 c3 body nm fn A9 c9 ps more A10 c10 body _ _ (Kd.C_below H5.out.2.1 H13.out.2) H4.out.1.2.1 (Kd.C_below H5.out.2.2.1 H13.out.2) H4.out.2.1.2.1 (Kd.C_below H11.out.2.1.2.2 H13.out.1) H11.out.2.1.2.1 (Kd.C_below H11.out.2.2.1.2.2 H13.out.1) H11.out.2.2.1.2.1 HX.out.2.2.2.2.2).mono ?_; rintro e W14 ⟨rfl, hb14⟩; have H14 := Lib.hid (H13.out.2.trans (hb14.mono H13.out.2.size)); clear hb14))
      go_ret
      exact ⟨rfl, H5.out.1.trans (H14.out.mono H5.out.1.size)⟩
end Go.Proofs.YtcbfbefpbjmglaaDoor.Mac
