import Derived.Test.YtcbfbefpbjmglaaDoorLB4
import Derived.Test.YtcbfbefpbjmglaaDoorSHh
namespace Go.Proofs.YtcbfbefpbjmglaaDoor.Mac
open Go.RowKit Go.Lib Go.Proofs.YtcbfbefpbjmglaaDoor.PA Go.Proofs.YtcbfbefpbjmglaaDoorT Go.Proofs.YtcbfbefpbjmglaaDoorW.PrintWords Go.Proofs.YtcbfbefpbjmglaaDoorW.PrintLast Go.Proofs.YtcbfbefpbjmglaaDoorW.PrintMore
set_option linter.unusedVariables false
set_option linter.unusedSimpArgs false
attribute [local go_sem] Oper.semAt_some beq_self_eq_true
set_option maxRecDepth 100000 in
set_option maxHeartbeats 4000000 in
theorem words_c (nm nm' : ByteArray) (fn fn' more more' : Bool) (Ap Ab Ap' Ab' : Option Addr) (cp cb cp' cb' : Nat) (ps ps' : List ByteArray) (body body' : List S48) (w : World) (hT : Tab w) (hd : DomM nm ps body) (hd' : DomM nm' ps' body')
  (hP : Kd.C Kd.string w Ap ps.length ps) (hpc : ps.length ≤ cp) (hB : Kd.C k48 w Ab body.length body) (hbc : body.length ≤ cb)
  (hP' : Kd.C Kd.string w Ap' ps'.length ps') (hpc' : ps'.length ≤ cp') (hB' : Kd.C k48 w Ab' body'.length body') (hbc' : body'.length ≤ cb') :
  Calls Tryd.prog 4 #[.agg #[.string nm, .bool fn, .slice Ap ps.length cp, .bool more, .slice Ab body.length cb], .agg #[.string nm', .bool fn', .slice Ap' ps'.length cp', .bool more', .slice Ab' body'.length cb']] w fun e w' => e = .returned (.bool true) ∧ Below w.heap.size w w' := by
 obtain ⟨B, hBw⟩ : ∃ B, w.heap.size = B := ⟨_, rfl⟩
 go_enter Tryd.func4, Tryd.ntmps4
 refine wp_seq_k fun K1 hK1 => ?_
 have HK1 := Lib.hid hK1
 clear hK1
 go_wp2
 refine HK1.out _ _ ?_
 clear HK1
 obtain ⟨W0, hW0⟩ : ∃ W0, (w.alloc (.cells #[.string nm, .bool fn, .slice Ap ps.length cp, .bool more, .slice Ab body.length cb] 32)).alloc (.cells #[.string nm', .bool fn', .slice Ap' ps'.length cp', .bool more', .slice Ab' body'.length cb'] 32) = W0 := ⟨_, rfl⟩
 have hb0 : Below w.heap.size w W0 := by rw [← hW0]; exact ((Below.refl _ w).alloc (Nat.le_refl _) _).alloc (by simp) _
 have qA : W0.heap[B]? = some (.cells #[.string nm, .bool fn, .slice Ap ps.length cp, .bool more, .slice Ab body.length cb] 32 (0, 0)) := by rw [← hW0, ← hBw]; exact blk_alloc (blk_new w _) _
 have qB : W0.heap[B + 1]? = some (.cells #[.string nm', .bool fn', .slice Ap' ps'.length cp', .bool more', .slice Ab' body'.length cb'] 32 (0, 0)) := by
  have := blk_new (w.alloc (.cells #[.string nm, .bool fn, .slice Ap ps.length cp, .bool more, .slice Ab body.length cb] 32)) (.cells #[.string nm', .bool fn', .slice Ap' ps'.length cp', .bool more', .slice Ab' body'.length cb'] 32)
  rw [hW0, World.size_alloc, hBw] at this; exact this
 rw [hW0]
 try rw [hBw]
 have FA : ∀ W, Below W0.heap.size W0 W → W.heap[B]? = some (.cells #[.string nm, .bool fn, .slice Ap ps.length cp, .bool more, .slice Ab body.length cb] 32 (0, 0)) := fun W hb => (hb.block _ (blk_lt qA)).trans qA
 have FB : ∀ W, Below W0.heap.size W0 W → W.heap[B + 1]? = some (.cells #[.string nm', .bool fn', .slice Ap' ps'.length cp', .bool more', .slice Ab' body'.length cb'] 32 (0, 0)) := fun W hb => (hb.block _ (blk_lt qB)).trans qB
 have hbr : Below W0.heap.size W0 W0 := Below.refl _ _
 have c0 := blk_cell (FA W0 hbr) 0
 have c1 := blk_cell (FA W0 hbr) 1
 have c2 := blk_cell (FA W0 hbr) 2
 have c3 := blk_cell (FA W0 hbr) 3
 have c4 := blk_cell (FA W0 hbr) 4
 have d0 := blk_cell (FB W0 hbr) 0
 have d1 := blk_cell (FB W0 hbr) 1
 have d2 := blk_cell (FB W0 hbr) 2
 have d3 := blk_cell (FB W0 hbr) 3
 have d4 := blk_cell (FB W0 hbr) 4
 have T0 := hT.grow hb0
 have HP0 := Kd.C_below hP hb0
 have HB0 := Kd.C_below hB hb0
 have HP1 := Kd.C_below hP' hb0
 have HB1 := Kd.C_below hB' hb0
 have hsf := show_f 30000 nm fn more ps body hd
 obtain ⟨⟨s, er⟩, hse⟩ : ∃ p : ByteArray × Int, showR nm fn ps more body = p := ⟨_, rfl⟩
 have hsf : macro_Show.f 30001 nm fn ps more body = some (showR nm fn ps more body) := hsf
 rw [hse] at hsf
 have HRS : Hid (∀ W : World, Below W0.heap.size W0 W → Calls Tryd.prog 15 #[.agg #[.string nm, .bool fn, .slice Ap ps.length cp, .bool more, .slice Ab body.length cb]] W fun e w' => e = .returned (.tuple #[.string s, .int .i64 er]) ∧ Below W.heap.size W w') := Lib.hid fun (W : World) (hb : Below W0.heap.size W0 W) => by
  have := rshow_c nm fn more Ap Ab cp cb ps body W hd (Kd.C_below HP0 hb) hpc (Kd.C_below HB0 hb) hbc
  rw [hse] at this
  exact this
 obtain ⟨r1, h1⟩ : ∃ r, rightP nm fn ps more body = r := ⟨_, rfl⟩
 obtain ⟨b1, e1⟩ : ∃ b, sameP nm fn ps more body nm' fn' ps' more' body' = b := ⟨_, rfl⟩
 have HC1 : Hid (∀ W : World, Below W0.heap.size W0 W → Calls Tryd.prog 16 #[.agg #[.string nm, .bool fn, .slice Ap ps.length cp, .bool more, .slice Ab body.length cb]] W (BoolBelow r1 W)) := Lib.hid fun (W : World) (hb : Below W0.heap.size W0 W) => h1 ▸ right_c nm fn more Ap Ab cp cb ps body W (T0.grow hb) hd (Kd.C_below HP0 hb) hpc (Kd.C_below HB0 hb) hbc
 have HC2 : Hid (∀ W : World, Below W0.heap.size W0 W → Calls Tryd.prog 17 #[.agg #[.string nm, .bool fn, .slice Ap ps.length cp, .bool more, .slice Ab body.length cb]] W (BoolBelow r1 W)) := Lib.hid fun (W : World) (hb : Below W0.heap.size W0 W) => h1 ▸ rright_c nm fn more Ap Ab cp cb ps body W hd (Kd.C_below HP0 hb) hpc (Kd.C_below HB0 hb) hbc
 have HC3 : Hid (∀ W : World, Below W0.heap.size W0 W → Calls Tryd.prog 18 #[.agg #[.string nm, .bool fn, .slice Ap ps.length cp, .bool more, .slice Ab body.length cb], .agg #[.string nm', .bool fn', .slice Ap' ps'.length cp', .bool more', .slice Ab' body'.length cb']] W (BoolBelow b1 W)) := Lib.hid fun (W : World) (hb : Below W0.heap.size W0 W) => e1 ▸ same_c nm nm' fn fn' more more' Ap Ab Ap' Ab' cp cb cp' cb' ps ps' body body' W (T0.grow hb) hd hd' (Kd.C_below HP0 hb) hpc (Kd.C_below HB0 hb) hbc (Kd.C_below HP1 hb) hpc' (Kd.C_below HB1 hb) hbc'
 have HC4 : Hid (∀ W : World, Below W0.heap.size W0 W → Calls Tryd.prog 19 #[.agg #[.string nm, .bool fn, .slice Ap ps.length cp, .bool more, .slice Ab body.length cb], .agg #[.string nm', .bool fn', .slice Ap' ps'.length cp', .bool more', .slice Ab' body'.length cb']] W (BoolBelow b1 W)) := Lib.hid fun (W : World) (hb : Below W0.heap.size W0 W) => e1 ▸ rsame_c nm nm' fn fn' more more' Ap Ab Ap' Ab' cp cb cp' cb' ps ps' body body' W hd hd' (Kd.C_below HP0 hb) hpc (Kd.C_below HB0 hb) hbc (Kd.C_below HP1 hb) hpc' (Kd.C_below HB1 hb) hbc'
 have HX := Lib.hid (And.intro T0 (And.intro HP0 (And.intro HB0 (And.intro hb0 hsf))))
 clear T0 HP0 HB0 HP1 HB1 hb0 hsf hse h1 e1 hP hB hP' hB' hd hd' hT hW0 qA qB hbr
 have ST1 : True := trivial
 go_upto_region 4 with (first
  | (have g_ := ST1; clear g_ ST1; go_at_call 9; refine (shown_c _ HX.out.1).mono ?_; rintro e W1 ⟨rfl, hb1⟩; clear c0 c1 c2 c3 c4 d0 d1 d2 d3 d4; have c0 := blk_cell (FA W1 hb1) 0; have c1 := blk_cell (FA W1 hb1) 1; have c2 := blk_cell (FA W1 hb1) 2; have c3 := blk_cell (FA W1 hb1) 3; have c4 := blk_cell (FA W1 hb1) 4; have d0 := blk_cell (FB W1 hb1) 0; have d1 := blk_cell (FB W1 hb1) 1; have d2 := blk_cell (FB W1 hb1) 2; have d3 := blk_cell (FB W1 hb1) 3; have d4 := blk_cell (FB W1 hb1) 4; have H1 := Lib.hid hb1; clear hb1; have ST2 : True := trivial)
  | (have g_ := ST2; clear g_ ST2; go_at_call 14; refine (macro_Show.calls 30001 nm fn Ap cp ps more Ab cb body _ _ _ (Kd.C_below HX.out.2.1 H1.out) hpc (Kd.C_below HX.out.2.2.1 H1.out) hbc (HX.out.1.grow H1.out) HX.out.2.2.2.2).mono ?_; rintro e W2 ⟨rfl, hb2⟩; have hb2' := H1.out.trans (hb2.mono H1.out.size); clear c0 c1 c2 c3 c4 d0 d1 d2 d3 d4; have c0 := blk_cell (FA W2 hb2') 0; have c1 := blk_cell (FA W2 hb2') 1; have c2 := blk_cell (FA W2 hb2') 2; have c3 := blk_cell (FA W2 hb2') 3; have c4 := blk_cell (FA W2 hb2') 4; have d0 := blk_cell (FB W2 hb2') 0; have d1 := blk_cell (FB W2 hb2') 1; have d2 := blk_cell (FB W2 hb2') 2; have d3 := blk_cell (FB W2 hb2') 3; have d4 := blk_cell (FB W2 hb2') 4; have H2 := Lib.hid hb2'; clear hb2 hb2'; have ST3 : True := trivial)
  | (have g_ := ST3; clear g_ ST3; go_at_call 15; refine (HRS.out _ H2.out).mono ?_; rintro e W4 ⟨rfl, hb4⟩; have hb4' := H2.out.trans (hb4.mono H2.out.size); clear c0 c1 c2 c3 c4 d0 d1 d2 d3 d4; have c0 := blk_cell (FA W4 hb4') 0; have c1 := blk_cell (FA W4 hb4') 1; have c2 := blk_cell (FA W4 hb4') 2; have c3 := blk_cell (FA W4 hb4') 3; have c4 := blk_cell (FA W4 hb4') 4; have d0 := blk_cell (FB W4 hb4') 0; have d1 := blk_cell (FB W4 hb4') 1; have d2 := blk_cell (FB W4 hb4') 2; have d3 := blk_cell (FB W4 hb4') 3; have d4 := blk_cell (FB W4 hb4') 4; have H4 := Lib.hid hb4'; clear hb4 hb4'))
 have H4d := Lib.hid (below_drew H4.out)
 refine start_ (n := 28) (S := fun w' => w'.cell? ⟨B, 0, none⟩ = some (.string nm) ∧ w'.cell? ⟨B, 1, none⟩ = some (.bool fn) ∧ w'.cell? ⟨B, 2, none⟩ = some (.slice Ap ps.length cp) ∧ w'.cell? ⟨B, 3, none⟩ = some (.bool more) ∧ w'.cell? ⟨B, 4, none⟩ = some (.slice Ab body.length cb) ∧ w'.cell? ⟨B + 1, 0, none⟩ = some (.string nm') ∧ w'.cell? ⟨B + 1, 1, none⟩ = some (.bool fn') ∧ w'.cell? ⟨B + 1, 2, none⟩ = some (.slice Ap' ps'.length cp') ∧ w'.cell? ⟨B + 1, 3, none⟩ = some (.bool more') ∧ w'.cell? ⟨B + 1, 4, none⟩ = some (.slice Ab' body'.length cb')) (ds := []) #[false, false, false, false, false, false, false, false, false, false, false, false, false, false, false, false, false, false, false, false, false, false, false, false, false, false, false, false] (by kernel_rfl) rfl rfl ⟨c0, c1, c2, c3, c4, d0, d1, d2, d3, d4⟩ (fun hHeld => ?_)
 refine pure_ (i := 0) (N := some 21) (v := ?_) (a' := ?_) #[true, false, false, false, false, false, false, false, false, false, false, false, false, false, false, false, false, false, false, false, false, false, false, false, false, false, false, false] rfl rfl (by kernel_rfl) (fun _ _ _ h => h) (Or.inl ⟨by rfl, ?_⟩) ?_ ?_
 rotate_left
 ·intro w'
  go_simp
  with_reducible rfl
 rotate_left
 ·simp only [Act.put, List.setIfInBounds_toArray, List.set_cons_zero, List.set_cons_succ, i64_w, i32_w]
  rfl
 refine pure_ (i := 1) (N := some 22) (v := ?_) (a' := ?_) #[true, true, false, false, false, false, false, false, false, false, false, false, false, false, false, false, false, false, false, false, false, false, false, false, false, false, false, false] rfl rfl (by kernel_rfl) (fun _ _ _ h => h) (Or.inl ⟨by rfl, ?_⟩) ?_ ?_
 rotate_left
 ·intro w'
  go_simp
  with_reducible rfl
 rotate_left
 ·simp only [Act.put, List.setIfInBounds_toArray, List.set_cons_zero, List.set_cons_succ, i64_w, i32_w]
  rfl
 refine take_ (i := 2) (N := some 23) (v := ?_) (a' := ?_) #[true, true, true, false, false, false, false, false, false, false, false, false, false, false, false, false, false, false, false, false, false, false, false, false, false, false, false, false] rfl rfl (by kernel_rfl) (fun _ _ _ h => h) (Or.inl ⟨by rfl, ?_⟩) hHeld ?_ ?_
 rotate_left
 ·rintro w' ⟨s0, s1, s2, s3, s4, s5, s6, s7, s8, s9⟩
  go_simp
  with_reducible rfl
 rotate_left
 ·simp only [Act.put, List.setIfInBounds_toArray, List.set_cons_zero, List.set_cons_succ, i64_w, i32_w]
  rfl
 refine take_ (i := 4) (N := some 25) (v := ?_) (a' := ?_) #[true, true, true, false, true, false, false, false, false, false, false, false, false, false, false, false, false, false, false, false, false, false, false, false, false, false, false, false] rfl rfl (by kernel_rfl) (fun _ _ _ h => h) (Or.inl ⟨by rfl, ?_⟩) hHeld ?_ ?_
 rotate_left
 ·rintro w' ⟨s0, s1, s2, s3, s4, s5, s6, s7, s8, s9⟩
  go_simp
  with_reducible rfl
 rotate_left
 ·simp only [Act.put, List.setIfInBounds_toArray, List.set_cons_zero, List.set_cons_succ, i64_w, i32_w]
  rfl
 refine one_ (i := 3) (N := some 24) #[true, true, true, true, true, false, false, false, false, false, false, false, false, false, false, false, false, false, false, false, false, false, false, false, false, false, false, false] rfl rfl (by kernel_rfl) (by decide) (fun K hK => ?_)
 refine goes_ Tryd.func16 (by kernel_rfl) rfl #[.agg #[.string nm, .bool fn, .slice Ap ps.length cp, .bool more, .slice Ab body.length cb]] (by rfl) rfl rfl (by simp only [List.map_toArray, List.map_cons, List.map_nil]; rfl) ?_
 with_reducible refine (HC1.out _ H4d.out).mono ?_
 rintro e w5 ⟨rfl, hb5⟩
 refine ⟨_, rfl, ?_⟩
 have H5 := Lib.hid (H4d.out.trans (hb5.mono H4d.out.size))
 refine hK.out _ _ ⟨(blk_cell (FA _ H5.out) 0), (blk_cell (FA _ H5.out) 1), (blk_cell (FA _ H5.out) 2), (blk_cell (FA _ H5.out) 3), (blk_cell (FA _ H5.out) 4), (blk_cell (FB _ H5.out) 0), (blk_cell (FB _ H5.out) 1), (blk_cell (FB _ H5.out) 2), (blk_cell (FB _ H5.out) 3), (blk_cell (FB _ H5.out) 4)⟩ (fun hHeld => ?_)
 clear hK K
 refine norm_ (a' := ?_) ?_ ?_
 rotate_left
 ·show Act.put _ (some 24) _ = _
  simp only [Act.put, List.setIfInBounds_toArray, List.set_cons_zero, List.set_cons_succ, i64_w, i32_w]
  rfl
 refine one_ (i := 5) (N := some 26) #[true, true, true, true, true, true, false, false, false, false, false, false, false, false, false, false, false, false, false, false, false, false, false, false, false, false, false, false] rfl rfl (by kernel_rfl) (by decide) (fun K hK => ?_)
 refine goes_ Tryd.func17 (by kernel_rfl) rfl #[.agg #[.string nm, .bool fn, .slice Ap ps.length cp, .bool more, .slice Ab body.length cb]] (by rfl) rfl rfl (by simp only [List.map_toArray, List.map_cons, List.map_nil]; rfl) ?_
 with_reducible refine (HC2.out _ H5.out).mono ?_
 rintro e w6 ⟨rfl, hb6⟩
 refine ⟨_, rfl, ?_⟩
 have H6 := Lib.hid (H5.out.trans (hb6.mono H5.out.size))
 refine hK.out _ _ ⟨(blk_cell (FA _ H6.out) 0), (blk_cell (FA _ H6.out) 1), (blk_cell (FA _ H6.out) 2), (blk_cell (FA _ H6.out) 3), (blk_cell (FA _ H6.out) 4), (blk_cell (FB _ H6.out) 0), (blk_cell (FB _ H6.out) 1), (blk_cell (FB _ H6.out) 2), (blk_cell (FB _ H6.out) 3), (blk_cell (FB _ H6.out) 4)⟩ (fun hHeld => ?_)
 clear hK K
 refine norm_ (a' := ?_) ?_ ?_
 rotate_left
 ·show Act.put _ (some 26) _ = _
  simp only [Act.put, List.setIfInBounds_toArray, List.set_cons_zero, List.set_cons_succ, i64_w, i32_w]
  rfl
 refine pure_ (i := 6) (N := some 27) (v := ?_) (a' := ?_) #[true, true, true, true, true, true, true, false, false, false, false, false, false, false, false, false, false, false, false, false, false, false, false, false, false, false, false, false] rfl rfl (by kernel_rfl) (fun _ _ _ h => h) (Or.inl ⟨by rfl, ?_⟩) ?_ ?_
 rotate_left
 ·intro w'
  go_simp
  with_reducible rfl
 rotate_left
 ·simp only [Act.put, List.setIfInBounds_toArray, List.set_cons_zero, List.set_cons_succ, i64_w, i32_w]
  rfl
 refine pure_ (i := 7) (N := some 28) (v := ?_) (a' := ?_) #[true, true, true, true, true, true, true, true, false, false, false, false, false, false, false, false, false, false, false, false, false, false, false, false, false, false, false, false] rfl rfl (by kernel_rfl) (fun _ _ _ h => h) (Or.inl ⟨by rfl, ?_⟩) ?_ ?_
 rotate_left
 ·intro w'
  go_simp
  with_reducible rfl
 rotate_left
 ·simp only [Act.put, List.setIfInBounds_toArray, List.set_cons_zero, List.set_cons_succ, i64_w, i32_w]
  rfl
 refine pure_ (i := 8) (N := some 29) (v := ?_) (a' := ?_) #[true, true, true, true, true, true, true, true, true, false, false, false, false, false, false, false, false, false, false, false, false, false, false, false, false, false, false, false] rfl rfl (by kernel_rfl) (fun _ _ _ h => h) (Or.inl ⟨by rfl, ?_⟩) ?_ ?_
 rotate_left
 ·intro w'
  go_simp
  with_reducible rfl
 rotate_left
 ·simp only [Act.put, List.setIfInBounds_toArray, List.set_cons_zero, List.set_cons_succ, i64_w, i32_w]
  rfl
 refine take_ (i := 9) (N := some 30) (v := ?_) (a' := ?_) #[true, true, true, true, true, true, true, true, true, true, false, false, false, false, false, false, false, false, false, false, false, false, false, false, false, false, false, false] rfl rfl (by kernel_rfl) (fun _ _ _ h => h) (Or.inl ⟨by rfl, ?_⟩) hHeld ?_ ?_
 rotate_left
 ·rintro w' ⟨s0, s1, s2, s3, s4, s5, s6, s7, s8, s9⟩
  go_simp
  with_reducible rfl
 rotate_left
 ·simp only [Act.put, List.setIfInBounds_toArray, List.set_cons_zero, List.set_cons_succ, i64_w, i32_w]
  rfl
 refine take_ (i := 10) (N := some 31) (v := ?_) (a' := ?_) #[true, true, true, true, true, true, true, true, true, true, true, false, false, false, false, false, false, false, false, false, false, false, false, false, false, false, false, false] rfl rfl (by kernel_rfl) (fun _ _ _ h => h) (Or.inl ⟨by rfl, ?_⟩) hHeld ?_ ?_
 rotate_left
 ·rintro w' ⟨s0, s1, s2, s3, s4, s5, s6, s7, s8, s9⟩
  go_simp
  with_reducible rfl
 rotate_left
 ·simp only [Act.put, List.setIfInBounds_toArray, List.set_cons_zero, List.set_cons_succ, i64_w, i32_w]
  rfl
 refine take_ (i := 12) (N := some 33) (v := ?_) (a' := ?_) #[true, true, true, true, true, true, true, true, true, true, true, false, true, false, false, false, false, false, false, false, false, false, false, false, false, false, false, false] rfl rfl (by kernel_rfl) (fun _ _ _ h => h) (Or.inl ⟨by rfl, ?_⟩) hHeld ?_ ?_
 rotate_left
 ·rintro w' ⟨s0, s1, s2, s3, s4, s5, s6, s7, s8, s9⟩
  go_simp
  with_reducible rfl
 rotate_left
 ·simp only [Act.put, List.setIfInBounds_toArray, List.set_cons_zero, List.set_cons_succ, i64_w, i32_w]
  rfl
 refine take_ (i := 13) (N := some 34) (v := ?_) (a' := ?_) #[true, true, true, true, true, true, true, true, true, true, true, false, true, true, false, false, false, false, false, false, false, false, false, false, false, false, false, false] rfl rfl (by kernel_rfl) (fun _ _ _ h => h) (Or.inl ⟨by rfl, ?_⟩) hHeld ?_ ?_
 rotate_left
 ·rintro w' ⟨s0, s1, s2, s3, s4, s5, s6, s7, s8, s9⟩
  go_simp
  with_reducible rfl
 rotate_left
 ·simp only [Act.put, List.setIfInBounds_toArray, List.set_cons_zero, List.set_cons_succ, i64_w, i32_w]
  rfl
 refine one_ (i := 11) (N := some 32) #[true, true, true, true, true, true, true, true, true, true, true, true, true, true, false, false, false, false, false, false, false, false, false, false, false, false, false, false] rfl rfl (by kernel_rfl) (by decide) (fun K hK => ?_)
 refine goes_ Tryd.func18 (by kernel_rfl) rfl #[.agg #[.string nm, .bool fn, .slice Ap ps.length cp, .bool more, .slice Ab body.length cb], .agg #[.string nm', .bool fn', .slice Ap' ps'.length cp', .bool more', .slice Ab' body'.length cb']] (by rfl) rfl rfl (by simp only [List.map_toArray, List.map_cons, List.map_nil]; rfl) ?_
 with_reducible refine (HC3.out _ H6.out).mono ?_
 rintro e w7 ⟨rfl, hb7⟩
 refine ⟨_, rfl, ?_⟩
 have H7 := Lib.hid (H6.out.trans (hb7.mono H6.out.size))
 refine hK.out _ _ ⟨(blk_cell (FA _ H7.out) 0), (blk_cell (FA _ H7.out) 1), (blk_cell (FA _ H7.out) 2), (blk_cell (FA _ H7.out) 3), (blk_cell (FA _ H7.out) 4), (blk_cell (FB _ H7.out) 0), (blk_cell (FB _ H7.out) 1), (blk_cell (FB _ H7.out) 2), (blk_cell (FB _ H7.out) 3), (blk_cell (FB _ H7.out) 4)⟩ (fun hHeld => ?_)
 clear hK K
 refine norm_ (a' := ?_) ?_ ?_
 rotate_left
 ·show Act.put _ (some 32) _ = _
  simp only [Act.put, List.setIfInBounds_toArray, List.set_cons_zero, List.set_cons_succ, i64_w, i32_w]
  rfl
 refine one_ (i := 14) (N := some 35) #[true, true, true, true, true, true, true, true, true, true, true, true, true, true, true, false, false, false, false, false, false, false, false, false, false, false, false, false] rfl rfl (by kernel_rfl) (by decide) (fun K hK => ?_)
 refine goes_ Tryd.func19 (by kernel_rfl) rfl #[.agg #[.string nm, .bool fn, .slice Ap ps.length cp, .bool more, .slice Ab body.length cb], .agg #[.string nm', .bool fn', .slice Ap' ps'.length cp', .bool more', .slice Ab' body'.length cb']] (by rfl) rfl rfl (by simp only [List.map_toArray, List.map_cons, List.map_nil]; rfl) ?_
 with_reducible refine (HC4.out _ H7.out).mono ?_
 rintro e w8 ⟨rfl, hb8⟩
 refine ⟨_, rfl, ?_⟩
 have H8 := Lib.hid (H7.out.trans (hb8.mono H7.out.size))
 refine hK.out _ _ ⟨(blk_cell (FA _ H8.out) 0), (blk_cell (FA _ H8.out) 1), (blk_cell (FA _ H8.out) 2), (blk_cell (FA _ H8.out) 3), (blk_cell (FA _ H8.out) 4), (blk_cell (FB _ H8.out) 0), (blk_cell (FB _ H8.out) 1), (blk_cell (FB _ H8.out) 2), (blk_cell (FB _ H8.out) 3), (blk_cell (FB _ H8.out) 4)⟩ (fun hHeld => ?_)
 clear hK K
 refine norm_ (a' := ?_) ?_ ?_
 rotate_left
 ·show Act.put _ (some 35) _ = _
  simp only [Act.put, List.setIfInBounds_toArray, List.set_cons_zero, List.set_cons_succ, i64_w, i32_w]
  rfl
 refine pure_ (i := 15) (N := some 36) (v := ?_) (a' := ?_) #[true, true, true, true, true, true, true, true, true, true, true, true, true, true, true, true, false, false, false, false, false, false, false, false, false, false, false, false] rfl rfl (by kernel_rfl) (fun _ _ _ h => h) (Or.inl ⟨by rfl, ?_⟩) ?_ ?_
 rotate_left
 ·intro w'
  go_simp
  with_reducible rfl
 rotate_left
 ·simp only [Act.put, List.setIfInBounds_toArray, List.set_cons_zero, List.set_cons_succ, i64_w, i32_w]
  rfl
 refine pure_ (i := 16) (N := some 37) (v := ?_) (a' := ?_) #[true, true, true, true, true, true, true, true, true, true, true, true, true, true, true, true, true, false, false, false, false, false, false, false, false, false, false, false] rfl rfl (by kernel_rfl) (fun _ _ _ h => h) (Or.inl ⟨by rfl, ?_⟩) ?_ ?_
 rotate_left
 ·intro w'
  go_simp
  with_reducible rfl
 rotate_left
 ·simp only [Act.put, List.setIfInBounds_toArray, List.set_cons_zero, List.set_cons_succ, i64_w, i32_w]
  rfl
 refine pure_ (i := 17) (N := some 38) (v := ?_) (a' := ?_) #[true, true, true, true, true, true, true, true, true, true, true, true, true, true, true, true, true, true, false, false, false, false, false, false, false, false, false, false] rfl rfl (by kernel_rfl) (fun _ _ _ h => h) (Or.inl ⟨by rfl, ?_⟩) ?_ ?_
 rotate_left
 ·intro w'
  go_simp
  with_reducible rfl
 rotate_left
 ·simp only [Act.put, List.setIfInBounds_toArray, List.set_cons_zero, List.set_cons_succ, i64_w, i32_w]
  rfl
 refine pure_ (i := 18) (N := some 39) (v := ?_) (a' := ?_) #[true, true, true, true, true, true, true, true, true, true, true, true, true, true, true, true, true, true, true, false, false, false, false, false, false, false, false, false] rfl rfl (by kernel_rfl) (fun _ _ _ h => h) (Or.inl ⟨by rfl, ?_⟩) ?_ ?_
 rotate_left
 ·intro w'
  go_simp
  with_reducible rfl
 rotate_left
 ·simp only [Act.put, List.setIfInBounds_toArray, List.set_cons_zero, List.set_cons_succ, i64_w, i32_w]
  rfl
 refine pure_ (i := 19) (N := some 40) (v := ?_) (a' := ?_) #[true, true, true, true, true, true, true, true, true, true, true, true, true, true, true, true, true, true, true, true, false, false, false, false, false, false, false, false] rfl rfl (by kernel_rfl) (fun _ _ _ h => h) (Or.inl ⟨by rfl, ?_⟩) ?_ ?_
 rotate_left
 ·intro w'
  go_simp
  with_reducible rfl
 rotate_left
 ·simp only [Act.put, List.setIfInBounds_toArray, List.set_cons_zero, List.set_cons_succ, i64_w, i32_w]
  rfl
 refine pure_ (i := 20) (N := some 41) (v := ?_) (a' := ?_) #[true, true, true, true, true, true, true, true, true, true, true, true, true, true, true, true, true, true, true, true, true, false, false, false, false, false, false, false] rfl rfl (by kernel_rfl) (fun _ _ _ h => h) (Or.inl ⟨by rfl, ?_⟩) ?_ ?_
 rotate_left
 ·intro w'
  go_simp
  with_reducible rfl
 rotate_left
 ·simp only [Act.put, List.setIfInBounds_toArray, List.set_cons_zero, List.set_cons_succ, i64_w, i32_w]
  rfl
 refine pure_ (i := 21) (N := some 42) (v := ?_) (a' := ?_) #[true, true, true, true, true, true, true, true, true, true, true, true, true, true, true, true, true, true, true, true, true, true, false, false, false, false, false, false] rfl rfl (by kernel_rfl) (fun _ _ _ h => h) (Or.inl ⟨by rfl, ?_⟩) ?_ ?_
 rotate_left
 ·intro w'
  go_simp
  with_reducible rfl
 rotate_left
 ·simp only [Act.put, List.setIfInBounds_toArray, List.set_cons_zero, List.set_cons_succ, i64_w, i32_w]
  rfl
 refine pure_ (i := 22) (N := some 43) (v := ?_) (a' := ?_) #[true, true, true, true, true, true, true, true, true, true, true, true, true, true, true, true, true, true, true, true, true, true, true, false, false, false, false, false] rfl rfl (by kernel_rfl) (fun _ _ _ h => h) (Or.inl ⟨by rfl, ?_⟩) ?_ ?_
 rotate_left
 ·intro w'
  go_simp
  with_reducible rfl
 rotate_left
 ·simp only [Act.put, List.setIfInBounds_toArray, List.set_cons_zero, List.set_cons_succ, i64_w, i32_w]
  rfl
 refine pure_ (i := 23) (N := some 44) (v := ?_) (a' := ?_) #[true, true, true, true, true, true, true, true, true, true, true, true, true, true, true, true, true, true, true, true, true, true, true, true, false, false, false, false] rfl rfl (by kernel_rfl) (fun _ _ _ h => h) (Or.inl ⟨by rfl, ?_⟩) ?_ ?_
 rotate_left
 ·intro w'
  go_simp
  with_reducible rfl
 rotate_left
 ·simp only [Act.put, List.setIfInBounds_toArray, List.set_cons_zero, List.set_cons_succ, i64_w, i32_w]
  rfl
 refine pure_ (i := 24) (N := some 45) (v := ?_) (a' := ?_) #[true, true, true, true, true, true, true, true, true, true, true, true, true, true, true, true, true, true, true, true, true, true, true, true, true, false, false, false] rfl rfl (by kernel_rfl) (fun _ _ _ h => h) (Or.inl ⟨by rfl, ?_⟩) ?_ ?_
 rotate_left
 ·intro w'
  go_simp
  with_reducible rfl
 rotate_left
 ·simp only [Act.put, List.setIfInBounds_toArray, List.set_cons_zero, List.set_cons_succ, i64_w, i32_w]
  rfl
 refine pure_ (i := 25) (N := some 46) (v := ?_) (a' := ?_) #[true, true, true, true, true, true, true, true, true, true, true, true, true, true, true, true, true, true, true, true, true, true, true, true, true, true, false, false] rfl rfl (by kernel_rfl) (fun _ _ _ h => h) (Or.inl ⟨by rfl, ?_⟩) ?_ ?_
 rotate_left
 ·intro w'
  go_simp
  with_reducible rfl
 rotate_left
 ·simp only [Act.put, List.setIfInBounds_toArray, List.set_cons_zero, List.set_cons_succ, i64_w, i32_w]
  rfl
 refine pure_ (i := 26) (N := some 47) (v := ?_) (a' := ?_) #[true, true, true, true, true, true, true, true, true, true, true, true, true, true, true, true, true, true, true, true, true, true, true, true, true, true, true, false] rfl rfl (by kernel_rfl) (fun _ _ _ h => h) (Or.inl ⟨by rfl, ?_⟩) ?_ ?_
 rotate_left
 ·intro w'
  go_simp
  with_reducible rfl
 rotate_left
 ·simp only [Act.put, List.setIfInBounds_toArray, List.set_cons_zero, List.set_cons_succ, i64_w, i32_w]
  rfl
 refine pure_ (i := 27) (N := some 4) (v := ?_) (a' := ?_) #[true, true, true, true, true, true, true, true, true, true, true, true, true, true, true, true, true, true, true, true, true, true, true, true, true, true, true, true] rfl rfl (by kernel_rfl) (fun _ _ _ h => h) (Or.inl ⟨by rfl, ?_⟩) ?_ ?_
 rotate_left
 ·intro w'
  go_simp
  with_reducible rfl
 rotate_left
 ·simp only [Act.put, List.setIfInBounds_toArray, List.set_cons_zero, List.set_cons_succ, i64_w, i32_w]
  rfl
 refine done_ (by kernel_rfl) ?_
 go_wp2
 go_ret
 exact ⟨rfl, hBw ▸ HX.out.2.2.2.1.trans (H8.out.mono HX.out.2.2.2.1.size)⟩
end Go.Proofs.YtcbfbefpbjmglaaDoor.Mac
