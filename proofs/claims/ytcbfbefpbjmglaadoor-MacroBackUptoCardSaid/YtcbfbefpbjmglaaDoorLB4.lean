import Derived.Test.YtcbfbefpbjmglaaDoorSHh
import Derived.Test.YtcbfbefpbjmglaaDoorSM
namespace Go.Proofs.YtcbfbefpbjmglaaDoor.Mac
open Go.RowKit Go.Lib Go.Proofs.YtcbfbefpbjmglaaDoor.PA Go.Proofs.YtcbfbefpbjmglaaDoorT Go.Proofs.YtcbfbefpbjmglaaDoorW.PrintWords Go.Proofs.YtcbfbefpbjmglaaDoorW.PrintLast Go.Proofs.YtcbfbefpbjmglaaDoorW.PrintMore
set_option linter.unusedVariables false
set_option linter.unusedSimpArgs false
theorem app_nil (a : ByteArray) : a ++ (⟨#[]⟩ : ByteArray) = a := by
 apply ByteArray.ext; simp
theorem domM_true {nm : ByteArray} {ps : List ByteArray} {body : List S48} (h : DomM nm ps body) : domM nm ps body = true := by
 unfold domM
 simp only [Bool.and_eq_true, List.all_eq_true, decide_eq_true_eq]
 exact ⟨h.1, h.2.1, h.2.2.1, h.2.2.2.1, h.2.2.2.2⟩
theorem right_f' {nm : ByteArray} {fn more : Bool} {ps : List ByteArray} {body : List S48} (h : DomM nm ps body) : macro_Right.f nm fn ps more body = some (rightP nm fn ps more body) := by
 unfold macro_Right.f; rw [if_pos (domM_true h)]
theorem spellB_le (body : List S48) (h2 : ∀ x ∈ body, x.f1.size ≤ 1048576) : (spellB body).size ≤ body.length * 1048577 := by
 have : (spellB body).size = (Sp.spellN (Sp.itemsOf body)).length := rfl
 rw [this]
 have hi : ∀ x ∈ Sp.itemsOf body, x.2.f1.size ≤ 1048576 := by
  intro x hx
  obtain ⟨j, hj, rfl⟩ := List.mem_map.1 hx
  show (body.getD j z48).f1.size ≤ _
  rw [List.getD_eq_getElem?_getD]
  by_cases hjl : j < body.length
  ·rw [List.getElem?_eq_getElem hjl]; exact h2 _ (List.getElem_mem hjl)
  ·rw [List.getElem?_eq_none (by omega)]; show (0 : Nat) ≤ _; omega
 have := Sp.spellN_len 1048576 (Sp.itemsOf body) hi
 have hl : (Sp.itemsOf body).length = body.length := by simp [Sp.itemsOf, Sp.upto]
 rw [hl] at this
 exact this
theorem joinB_le (l : List ByteArray) (s : ByteArray) (h : ∀ x ∈ l, x.size ≤ 1048576) (hs : s.size ≤ 1048576) : (joinB l s).size ≤ l.length * 2097152 := by
 have := join_len s.data.toList (by rwa [Lib.size_eq] at hs) (l.map (·.data.toList)) (fun x hx => by
  obtain ⟨y, hy, rfl⟩ := List.mem_map.1 hx
  have := h y hy
  rwa [Lib.size_eq] at this)
 rw [List.length_map] at this
 exact this
theorem joinS_f (l : List ByteArray) (h : ∀ x ∈ l, x.size ≤ 1048576) (hl : l.length ≤ 20) : strings_Join.f l (⟨#[44, 32]⟩ : ByteArray) = some (joinB l (⟨#[44, 32]⟩ : ByteArray)) := by
 unfold strings_Join.f
 rw [if_pos]
 unfold fitsJ
 simp only [Bool.and_eq_true, List.all_eq_true, decide_eq_true_eq]
 exact ⟨h, by omega, by show (2 : Nat) ≤ 1048576; omega⟩
theorem spellT_f (body : List S48) (h1 : body.length ≤ 500) (h2 : ∀ x ∈ body, x.f1.size ≤ 1048576) : token_Spell.f body = some (spellB body) := by
 unfold token_Spell.f
 rw [if_pos]
 ·rfl
 ·unfold fitsT
  simp only [Bool.and_eq_true, List.all_eq_true, decide_eq_true_eq]
  exact ⟨h2, by omega⟩
def itemsB (more : Bool) (ps : List ByteArray) : List ByteArray := ps ++ (if more then [dotsA] else [])
theorem itemsB_ok {more : Bool} {ps : List ByteArray} (h : ∀ x ∈ ps, x.size ≤ 1048576) (hl : ps.length ≤ 16) : (∀ x ∈ itemsB more ps, x.size ≤ 1048576) ∧ (itemsB more ps).length ≤ 17 := by
 unfold itemsB
 refine ⟨fun x hx => ?_, ?_⟩
 ·rcases List.mem_append.1 hx with hx | hx
  ·exact h x hx
  ·cases more with
   | false => cases hx
   | true => rw [List.mem_singleton.1 hx]; show (3 : Nat) ≤ _; omega
 ·rw [List.length_append]
  cases more <;> simp <;> omega
theorem show_f (k : Nat) (nm : ByteArray) (fn more : Bool) (ps : List ByteArray) (body : List S48) (hd : DomM nm ps body) :
  macro_Show.f (k + 1) nm fn ps more body = some (if rightP nm fn ps more body then (showP nm fn ps more body, 0) else (⟨#[]⟩, 2)) := by
 unfold macro_Show.f
 rw [right_f' hd, Option.bind_some]
 cases hr : rightP nm fn ps more body with
 | false => rfl
 | true =>
  obtain ⟨hn, h16, hfn, hg, h500, hsp⟩ := rightP_parts hr
  obtain ⟨hnz, _, _, hpz, hbz⟩ := hd
  have hsb := spellB_le body hbz
  have hsb2 : (spellB body).size ≤ 600000000 := by omega
  rw [if_pos rfl, if_pos rfl]
  cases fn with
  | false =>
   rw [if_neg (by decide)]
   unfold showP
   by_cases h0 : 0 < body.length
   ·rw [if_pos (by omega), spellT_f body h500 hbz, Option.bind_some, if_pos (by omega), if_pos (by rw [ByteArray.size_append]; have : (⟨#[32]⟩ : ByteArray).size = 1 := rfl; omega), if_pos h0]
    rfl
   ·rw [if_neg (by omega), if_neg h0, app_nil]
    rfl
  | true =>
   obtain ⟨ok1, ok2⟩ := itemsB_ok (more := more) hpz h16
   have hj := joinB_le (itemsB more ps) (⟨#[44, 32]⟩ : ByteArray) ok1 (by show (2 : Nat) ≤ _; omega)
   have key : macro_Show.j0 (k + 1) nm (itemsB more ps) nm true ps more body = some (showP nm true ps more body, 0) := by
    simp only [macro_Show.j0]
    rw [joinS_f _ ok1 (by omega), Option.bind_some]
    have e40 : (⟨#[40]⟩ : ByteArray).size = 1 := rfl
    have e41 : (⟨#[41]⟩ : ByteArray).size = 1 := rfl
    have e32 : (⟨#[32]⟩ : ByteArray).size = 1 := rfl
    rw [if_pos (by omega), if_pos (by rw [ByteArray.size_append]; omega), if_pos (by rw [ByteArray.size_append, ByteArray.size_append]; omega)]
    unfold showP
    by_cases h0 : 0 < body.length
    ·rw [if_pos (by omega), spellT_f body h500 hbz, Option.bind_some, if_pos (by omega), if_pos (by rw [ByteArray.size_append, ByteArray.size_append, ByteArray.size_append, ByteArray.size_append]; omega), if_pos h0]
     rfl
    ·rw [if_neg (by omega), if_neg h0, app_nil]
     rfl
   rw [if_pos rfl]
   unfold slices_Clone_string_string.f
   rw [if_pos (by omega), Option.bind_some]
   cases more with
   | true =>
    rw [if_pos rfl, if_pos (by omega)]
    exact key
   | false =>
    rw [if_neg (by decide)]
    have e : itemsB false ps = ps := List.append_nil ps
    rw [e] at key
    exact key
theorem showP_size (nm : ByteArray) (fn more : Bool) (ps : List ByteArray) (body : List S48) (hd : DomM nm ps body) (hr : rightP nm fn ps more body = true) : (showP nm fn ps more body).size < 4294967281 := by
 obtain ⟨hn, h16, hfn, hg, h500, hsp⟩ := rightP_parts hr
 obtain ⟨hnz, _, _, hpz, hbz⟩ := hd
 have hsb := spellB_le body hbz
 obtain ⟨ok1, ok2⟩ := itemsB_ok (more := more) hpz h16
 have hj := joinB_le (itemsB more ps) (⟨#[44, 32]⟩ : ByteArray) ok1 (by show (2 : Nat) ≤ _; omega)
 have e40 : (⟨#[40]⟩ : ByteArray).size = 1 := rfl
 have e41 : (⟨#[41]⟩ : ByteArray).size = 1 := rfl
 have e32 : (⟨#[32]⟩ : ByteArray).size = 1 := rfl
 have e0 : (⟨#[]⟩ : ByteArray).size = 0 := rfl
 unfold showP
 rw [ByteArray.size_append]
 have h1 : (if fn then nm ++ (((⟨#[40]⟩ : ByteArray) ++ joinB (ps ++ (if more then [dotsA] else [])) (⟨#[44, 32]⟩ : ByteArray)) ++ (⟨#[41]⟩ : ByteArray)) else nm).size ≤ 100000000 := by
  cases fn with
  | true =>
   rw [if_pos rfl, ByteArray.size_append, ByteArray.size_append, ByteArray.size_append]
   have : (joinB (ps ++ (if more then [dotsA] else [])) (⟨#[44, 32]⟩ : ByteArray)).size ≤ (itemsB more ps).length * 2097152 := hj
   omega
  | false => rw [if_neg (by decide)]; omega
 have h2 : (if 0 < body.length then (⟨#[32]⟩ : ByteArray) ++ spellB body else ⟨#[]⟩ : ByteArray).size ≤ 600000001 := by
  split
  ·rw [ByteArray.size_append]; omega
  ·omega
 omega
set_option maxRecDepth 100000 in
set_option maxHeartbeats 2000000 in
theorem back_c (nm : ByteArray) (fn more : Bool) (Ap Ab : Option Addr) (cp cb : Nat) (ps : List ByteArray) (body : List S48) (w : World) (hT : Tab w) (hd : DomM nm ps body)
  (hP : Kd.C Kd.string w Ap ps.length ps) (hpc : ps.length ≤ cp) (hB : Kd.C k48 w Ab body.length body) (hbc : body.length ≤ cb) :
  Calls Tryd.prog 5 #[.agg #[.string nm, .bool fn, .slice Ap ps.length cp, .bool more, .slice Ab body.length cb]] w fun e w' => e = .returned (.bool true) ∧ Below w.heap.size w w' := by
 obtain ⟨B, hBw⟩ : ∃ B, w.heap.size = B := ⟨_, rfl⟩
 go_enter Tryd.func5, Tryd.ntmps5
 refine wp_seq_k fun K1 hK1 => ?_
 have HK1 := Lib.hid hK1
 clear hK1
 go_wp2
 refine HK1.out _ _ ?_
 clear HK1
 obtain ⟨W0, hW0⟩ : ∃ W0, w.alloc (.cells #[.string nm, .bool fn, .slice Ap ps.length cp, .bool more, .slice Ab body.length cb] 32) = W0 := ⟨_, rfl⟩
 have hb0 : Below w.heap.size w W0 := by rw [← hW0]; exact (Below.refl _ w).alloc (Nat.le_refl _) _
 have qA : W0.heap[B]? = some (.cells #[.string nm, .bool fn, .slice Ap ps.length cp, .bool more, .slice Ab body.length cb] 32 (0, 0)) := by rw [← hW0, ← hBw]; exact blk_new w _
 rw [hW0]
 try rw [hBw]
 have FA : ∀ W, Below W0.heap.size W0 W → W.heap[B]? = some (.cells #[.string nm, .bool fn, .slice Ap ps.length cp, .bool more, .slice Ab body.length cb] 32 (0, 0)) := fun W hb => (hb.block _ (blk_lt qA)).trans qA
 have HFA := Lib.hid FA
 have T0 := hT.grow hb0
 have HP0 := Kd.C_below hP hb0
 have HB0 := Kd.C_below hB hb0
 have hbr : Below W0.heap.size W0 W0 := Below.refl _ _
 have hsf := show_f 0 nm fn more ps body hd
 obtain ⟨r, hr⟩ : ∃ r, rightP nm fn ps more body = r := ⟨_, rfl⟩
 rw [hr] at hsf
 have ST1 : True := trivial
 cases r with
 | false =>
  have HX := Lib.hid (And.intro T0 (And.intro HP0 (And.intro HB0 (And.intro hb0 (And.intro hsf (And.intro hd hr))))))
  clear T0 HP0 HB0 hb0 hsf hd hr hP hB hT hW0 qA FA hbr
  go_wp2_with (first
   | (have g_ := ST1; clear g_ ST1; go_at_call 9; refine (shown_c _ HX.out.1).mono ?_; rintro e W1 ⟨rfl, hb1⟩; have c0 := blk_cell (HFA.out _ hb1) 0; have c1 := blk_cell (HFA.out _ hb1) 1; have c2 := blk_cell (HFA.out _ hb1) 2; have c3 := blk_cell (HFA.out _ hb1) 3; have c4 := blk_cell (HFA.out _ hb1) 4; have H1 := Lib.hid hb1; clear hb1; have ST2 : True := trivial)
   | (have g_ := ST2; clear g_ ST2; go_at_call 14; refine (macro_Show.calls 1 nm fn Ap cp ps more Ab cb body _ _ _ (Kd.C_below HX.out.2.1 H1.out) hpc (Kd.C_below HX.out.2.2.1 H1.out) hbc (HX.out.1.grow H1.out) HX.out.2.2.2.2.1).mono ?_; rintro e W2 ⟨rfl, hb2⟩; have hb2' := H1.out.trans (hb2.mono H1.out.size); clear c0 c1 c2 c3 c4; have c0 := blk_cell (HFA.out _ hb2') 0; have c1 := blk_cell (HFA.out _ hb2') 1; have c2 := blk_cell (HFA.out _ hb2') 2; have c3 := blk_cell (HFA.out _ hb2') 3; have c4 := blk_cell (HFA.out _ hb2') 4; have H2 := Lib.hid hb2'; clear hb2 hb2'; have ST3 : True := trivial)
   | (have g_ := ST3; clear g_ ST3; go_at_call 16; refine (right_c nm fn more Ap Ab cp cb ps body _ (HX.out.1.grow H2.out) HX.out.2.2.2.2.2.1 (Kd.C_below HX.out.2.1 H2.out) hpc (Kd.C_below HX.out.2.2.1 H2.out) hbc).mono ?_; rintro e W3 ⟨rfl, hb3⟩; rw [HX.out.2.2.2.2.2.2]; have H3 := Lib.hid (HX.out.2.2.2.1.trans ((H2.out.trans (hb3.mono H2.out.size)).mono HX.out.2.2.2.1.size)); clear hb3))
  go_ret
  exact ⟨rfl, hBw ▸ H3.out⟩
 | true =>
  obtain ⟨q1, q2, q3, q4⟩ := back_law nm fn more ps body hd hr
  have hsz := showP_size nm fn more ps body hd hr
  obtain ⟨s, hs⟩ : ∃ s, showP nm fn ps more body = s := ⟨_, rfl⟩
  rw [hs] at q1 q2 q3 q4 hsz hsf
  have hlex : burinlaw03_lexed.f s = some ((lexP [(1, s.data.toList)]).1.map toT) := by
   unfold burinlaw03_lexed.f
   rw [lex_one s hsz]; rfl
  obtain ⟨l, hl⟩ : ∃ l, (lexP [(1, s.data.toList)]).1.map toT = l := ⟨_, rfl⟩
  have hdl : domL l = true := by
   rw [← hl]
   unfold domL
   rw [Bool.and_eq_true, decide_eq_true_eq, List.all_eq_true]
   refine ⟨by rw [List.length_map]; omega, fun x hx => ?_⟩
   obtain ⟨t, ht, rfl⟩ := List.mem_map.1 hx
   rw [decide_eq_true_eq]
   exact q4 t ht
  rw [hl] at hlex q2
  have hpar : macro_Parse.f l = some (nm, fn, ps, more, body, 0) := by unfold macro_Parse.f; rw [if_pos hdl, q2]; rfl
  obtain ⟨hn, h16, hfn, hg, h500, hsp⟩ := rightP_parts hr
  have hequ : burinref03_Equal.f 3000000 nm fn ps more body nm fn ps more body = some true := by
   rw [requal_f _ _ _ _ _ _ _ _ _ _ _ (by omega) (by omega) (by omega), toksEq_refl, strsEq_refl]; simp
  have hsam : sameP nm fn ps more body nm fn ps more body = true := by
   unfold sameP; rw [hr, toksEq_refl, strsEq_refl]; simp
  have HX := Lib.hid (And.intro T0 (And.intro HP0 (And.intro HB0 (And.intro hb0 (And.intro hsf (And.intro hd (And.intro hlex (And.intro hpar (And.intro hequ hsam)))))))))
  clear T0 HP0 HB0 hb0 hsf hd hr hP hB hT hW0 qA FA hbr q1 q2 q3 q4 hsz hlex hl hdl hpar hn h16 hfn hg h500 hsp hequ hsam hs
  go_wp2_with (first
   | (have g_ := ST1; clear g_ ST1; go_at_call 9; refine (shown_c _ HX.out.1).mono ?_; rintro e W1 ⟨rfl, hb1⟩; have c0 := blk_cell (HFA.out _ hb1) 0; have c1 := blk_cell (HFA.out _ hb1) 1; have c2 := blk_cell (HFA.out _ hb1) 2; have c3 := blk_cell (HFA.out _ hb1) 3; have c4 := blk_cell (HFA.out _ hb1) 4; have H1 := Lib.hid hb1; clear hb1; have ST2 : True := trivial)
   | (have g_ := ST2; clear g_ ST2; go_at_call 14; refine (macro_Show.calls 1 nm fn Ap cp ps more Ab cb body _ _ _ (Kd.C_below HX.out.2.1 H1.out) hpc (Kd.C_below HX.out.2.2.1 H1.out) hbc (HX.out.1.grow H1.out) HX.out.2.2.2.2.1).mono ?_; rintro e W2 ⟨rfl, hb2⟩; have hb2' := H1.out.trans (hb2.mono H1.out.size); clear c0 c1 c2 c3 c4; have H2 := Lib.hid hb2'; clear hb2 hb2'; have ST3 : True := trivial)
   | (have g_ := ST3; clear g_ ST3; go_at_call 20; refine (burinlaw03_lexed.calls s l _ (HX.out.1.grow H2.out) HX.out.2.2.2.2.2.2.1).mono ?_; rintro e W3 ⟨v3, rfl, hR3, hb3⟩; obtain ⟨A0, c0, rfl⟩ := Kd.R_slice hR3; have H3 := Lib.hid (And.intro (Kd.R_reads' hR3) (H2.out.trans (hb3.mono H2.out.size))); clear hR3 hb3; have ST4 : True := trivial)
   | (have g_ := ST4; clear g_ ST4; go_at_call 11; refine (macro_Parse.calls A0 c0 l _ _ _ _ _ _ _ H3.out.1.2.2 H3.out.1.2.1 (HX.out.1.grow H3.out.2) HX.out.2.2.2.2.2.2.2.1).mono ?_; rintro e W4 ⟨v4, v5, rfl, hR4, hR5, hb4⟩; obtain ⟨A2, c2, rfl⟩ := Kd.R_slice hR4; obtain ⟨A3, c3, rfl⟩ := Kd.R_slice hR5; have hb4' := H3.out.2.trans (hb4.mono H3.out.2.size); have hb5 := hb4'.alloc hb4'.size (.cells #[.string nm, .bool fn, .slice A2 ps.length c2, .bool more, .slice A3 body.length c3] 32); have a0 := blk_cell (HFA.out _ hb5) 0; have a1 := blk_cell (HFA.out _ hb5) 1; have a2 := blk_cell (HFA.out _ hb5) 2; have a3 := blk_cell (HFA.out _ hb5) 3; have a4 := blk_cell (HFA.out _ hb5) 4; have H4 := Lib.hid (And.intro (Kd.R_reads' hR4) (And.intro (Kd.R_reads' hR5) (And.intro hb5 (blk_new W4 (.cells #[.string nm, .bool fn, .slice A2 ps.length c2, .bool more, .slice A3 body.length c3] 32))))); clear hR4 hR5 hb4 hb4' hb5; have ST5 : True := trivial)
   | (have g_ := ST5; clear g_ ST5; go_at_call 18; refine (same_c nm nm fn fn more more Ap Ab A2 A3 cp cb c2 c3 ps ps body body _ (HX.out.1.grow H4.out.2.2.1) HX.out.2.2.2.2.2.1 HX.out.2.2.2.2.2.1 (Kd.C_below HX.out.2.1 H4.out.2.2.1) hpc (Kd.C_below HX.out.2.2.1 H4.out.2.2.1) hbc (Kd.C_alloc H4.out.1.2.2 _) H4.out.1.2.1 (Kd.C_alloc H4.out.2.1.2.2 _) H4.out.2.1.2.1).mono ?_; rintro e W5 ⟨rfl, hb5⟩; rw [HX.out.2.2.2.2.2.2.2.2.2]; have hb6 := H4.out.2.2.1.trans (hb5.mono H4.out.2.2.1.size); have qn := (hb5.block _ (blk_lt H4.out.2.2.2)).trans H4.out.2.2.2; clear a0 a1 a2 a3 a4; have a0 := blk_cell (HFA.out _ hb6) 0; have a1 := blk_cell (HFA.out _ hb6) 1; have a2 := blk_cell (HFA.out _ hb6) 2; have a3 := blk_cell (HFA.out _ hb6) 3; have a4 := blk_cell (HFA.out _ hb6) 4; have n0 := blk_cell qn 0; have n1 := blk_cell qn 1; have n2 := blk_cell qn 2; have n3 := blk_cell qn 3; have n4 := blk_cell qn 4; have H5 := Lib.hid (And.intro hb6 (And.intro (Kd.C_below (Kd.C_alloc H4.out.1.2.2 _) hb5) (Kd.C_below (Kd.C_alloc H4.out.2.1.2.2 _) hb5))); clear hb5 hb6 qn; have ST6 : True := trivial)
   | (have g_ := ST6; clear g_ ST6; go_at_call 13; refine (burinref03_Equal.calls 3000000 nm fn Ap cp ps more Ab cb body nm fn A2 c2 ps more A3 c3 body _ _ (Kd.C_below HX.out.2.1 H5.out.1) hpc (Kd.C_below HX.out.2.2.1 H5.out.1) hbc H5.out.2.1 H4.out.1.2.1 H5.out.2.2 H4.out.2.1.2.1 HX.out.2.2.2.2.2.2.2.2.1).mono ?_; rintro e W6 ⟨rfl, hb6⟩; have H6 := Lib.hid (HX.out.2.2.2.1.trans ((H5.out.1.trans (hb6.mono H5.out.1.size)).mono HX.out.2.2.2.1.size)); clear hb6))
  go_ret
  exact ⟨rfl, hBw ▸ H6.out⟩
end Go.Proofs.YtcbfbefpbjmglaaDoor.Mac
