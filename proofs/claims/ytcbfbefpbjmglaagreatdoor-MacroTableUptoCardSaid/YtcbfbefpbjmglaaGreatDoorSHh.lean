import Derived.Test.YtcbfbefpbjmglaaGreatDoorZ
import Derived.Test.YtcbfbefpbjmglaaGreatDoorPS
import Derived.Test.YtcbfbefpbjmglaaGreatDoorA3
import Derived.Test.YtcbfbefpbjmglaaGreatDoorPE
import Derived.Test.YtcbfbefpbjmglaaGreatDoorMR0
import Derived.Test.YtcbfbefpbjmglaaGreatDoorA22
import Derived.Test.YtcbfbefpbjmglaaGreatDoorLS
import Derived.Test.YtcbfbefpbjmglaaGreatDoorMR1
import Derived.Test.YtcbfbefpbjmglaaGreatDoorLQ0
import Derived.Lib.LaidTab
import Derived.Test.YtcbfbefpbjmglaaGreatDoorH2
import Derived.Test.YtcbfbefpbjmglaaGreatDoorShelf2
import Derived.Test.YtcbfbefpbjmglaaGreatDoorRows
import Derived.Test.YtcbfbefpbjmglaaGreatDoorMF
import Derived.Test.YtcbfbefpbjmglaaGreatDoorPRc
set_option maxRecDepth 100000
set_option linter.unusedSimpArgs false
set_option linter.unusedVariables false
namespace Go.Proofs.YtcbfbefpbjmglaaGreatDoor.Mac
open Go.RowKit MapFun PA YtcbfbefpbjmglaaGreatDoorT YtcbfbefpbjmglaaGreatDoorW PrintWords PrintLast PrintMore
def sA : ByteArray := ⟨#[70, 40, 97, 44, 98, 41, 32, 32, 97, 32, 35, 35, 32, 98]⟩
def sB : ByteArray := ⟨#[88, 43, 49]⟩
def lA : List S55 := (lexP [(1, sA.data.toList)]).1.map toT
def lB : List S55 := (lexP [(1, sB.data.toList)]).1.map toT
def psA : List ByteArray := [⟨#[97]⟩, ⟨#[98]⟩]
def bdA : List S55 := [⟨1, ⟨#[97]⟩, ⟨#[]⟩, 0, false, false⟩, ⟨5, ⟨#[35, 35]⟩, ⟨#[]⟩, 0, true, false⟩, ⟨1, ⟨#[98]⟩, ⟨#[]⟩, 0, true, false⟩]
theorem lexA_f : burinlaw03_lexed.f sA = some lA := by kernel_rfl
theorem lexB_f : burinlaw03_lexed.f sB = some lB := by kernel_rfl
theorem parseA_f : macro_Parse.f lA = some (⟨#[70]⟩, true, psA, false, bdA, 0) := by kernel_rfl
theorem parseB_f : macro_Parse.f lB = some (⟨#[]⟩, false, [], false, [], 30) := by kernel_rfl
theorem showA_f : macro_Show.f 40 ⟨#[70]⟩ true psA false bdA = some (⟨#[70, 40, 97, 44, 32, 98, 41, 32, 97, 32, 35, 35, 32, 98]⟩, 0) := by kernel_rfl
set_option maxHeartbeats 1000000 in
theorem shown_c (w : World) (hT : Tab w) : Calls Tryz.prog 4 #[] w fun e w' => e = .returned (.bool true) ∧ Below w.heap.size w w' := by
 have HT := Lib.hid hT
 clear hT
 have ST1 : True := trivial
 go_enter Tryz.func4, Tryz.ntmps4
 go_wp2_with (first
  | (have g_ := ST1; clear g_ ST1; go_at_call 7; refine (burinlaw03_lexed.calls sA lA _ HT.out lexA_f).mono ?_; rintro e w1 ⟨v1, rfl, hR1, hb1⟩; obtain ⟨A1, c1, rfl⟩ := Kd.R_slice hR1; have H1 := Lib.hid (And.intro hR1 hb1); clear hR1 hb1; have ST2 : True := trivial)
  | (have g_ := ST2; clear g_ ST2; go_at_call 6; refine (macro_Parse.calls A1 c1 lA _ _ _ _ _ _ _ (Kd.R_reads' H1.out.1).2.2 (Kd.R_reads' H1.out.1).2.1 (HT.out.grow H1.out.2) parseA_f).mono ?_; rintro e w2 ⟨v2, v3, rfl, hR2, hR3, hb2⟩; obtain ⟨A2, c2, rfl⟩ := Kd.R_slice hR2; obtain ⟨A3, c3, rfl⟩ := Kd.R_slice hR3; have H2 := Lib.hid (And.intro hR2 (And.intro hR3 (H1.out.2.trans (hb2.mono H1.out.2.size)))); clear hR2 hR3 hb2; have ST3 : True := trivial)
  | (have g_ := ST3; clear g_ ST3; go_at_call 18; have hbA := H2.out.2.2.alloc H2.out.2.2.size (.cells #[.string ⟨#[70]⟩, .bool true, .slice A2 psA.length c2, .bool false, .slice A3 bdA.length c3] 33); have qA := blk_new w2 (.cells #[.string ⟨#[70]⟩, .bool true, .slice A2 psA.length c2, .bool false, .slice A3 bdA.length c3] 33); have hszA := World.size_alloc w2 (.cells #[.string ⟨#[70]⟩, .bool true, .slice A2 psA.length c2, .bool false, .slice A3 bdA.length c3] 33); refine (macro_Show.calls 40 _ _ A2 c2 psA _ A3 c3 bdA _ _ _ (Kd.C_alloc (Kd.R_reads' H2.out.1).2.2 _) (Kd.R_reads' H2.out.1).2.1 (Kd.C_alloc (Kd.R_reads' H2.out.2.1).2.2 _) (Kd.R_reads' H2.out.2.1).2.1 (HT.out.grow hbA) showA_f).mono ?_; rintro e w3 ⟨rfl, hb3⟩; have H3 := Lib.hid (And.intro ((hb3.block w2.heap.size (by rw [hszA]; exact Nat.lt_succ_self _)).trans qA) (hbA.trans (hb3.mono hbA.size))); clear hb3 qA hbA hszA; have ST4 : True := trivial)
  | (have g_ := ST4; clear g_ ST4; go_at_call 7; refine (burinlaw03_lexed.calls sB lB _ (HT.out.grow H3.out.2) lexB_f).mono ?_; rintro e w4 ⟨v4, rfl, hR4, hb4⟩; obtain ⟨A4, c4, rfl⟩ := Kd.R_slice hR4; have H4 := Lib.hid (And.intro hR4 (And.intro ((hb4.block _ (blk_lt H3.out.1)).trans H3.out.1) (H3.out.2.trans (hb4.mono H3.out.2.size)))); clear hR4 hb4; have ST5 : True := trivial)
  | (have g_ := ST5; clear g_ ST5; go_at_call 6; refine (macro_Parse.calls A4 c4 lB _ _ _ _ _ _ _ (Kd.R_reads' H4.out.1).2.2 (Kd.R_reads' H4.out.1).2.1 (HT.out.grow H4.out.2.2) parseB_f).mono ?_; rintro e w5 ⟨v5, v6, rfl, hR5, hR6, hb5⟩; obtain ⟨A5, c5, rfl⟩ := Kd.R_slice hR5; obtain ⟨A6, c6, rfl⟩ := Kd.R_slice hR6; have q5 := (hb5.block _ (blk_lt H4.out.2.1)).trans H4.out.2.1; have m1 := cell_al (bC q5 1) (.cells #[.string ⟨#[]⟩, .bool false, .slice A5 0 c5, .bool false, .slice A6 0 c6] 33); have m2 := cell_al (bC q5 2) (.cells #[.string ⟨#[]⟩, .bool false, .slice A5 0 c5, .bool false, .slice A6 0 c6] 33); have hb6 := H4.out.2.2.trans (hb5.mono H4.out.2.2.size); have H5 := Lib.hid (hb6.alloc hb6.size (.cells #[.string ⟨#[]⟩, .bool false, .slice A5 0 c5, .bool false, .slice A6 0 c6] 33)); clear hR5 hR6 hb5 q5 hb6))
 go_ret
 exact ⟨rfl, H5.out⟩
end Go.Proofs.YtcbfbefpbjmglaaGreatDoor.Mac
namespace Go.Proofs.YtcbfbefpbjmglaaGreatDoor.Mac
open Go.RowKit Go.Lib MapFun PA YtcbfbefpbjmglaaGreatDoorT YtcbfbefpbjmglaaGreatDoorW PrintWords PrintLast PrintMore
attribute [local go_sem] Oper.semAt_some
def strsEq : List ByteArray → List ByteArray → Bool
 | [], [] => true
 | x :: l, y :: r => decide (x.toList = y.toList) && strsEq l r
 | _, _ => false
theorem strsEq_len : ∀ {a b : List ByteArray}, strsEq a b = true → a.length = b.length
 | [], [], _ => rfl
 | x :: l, y :: r, h => by rw [strsEq, Bool.and_eq_true] at h; rw [List.length_cons, List.length_cons, strsEq_len h.2]
 | [], _ :: _, h => by cases h
 | _ :: _, [], h => by cases h
theorem strs_loop (a b : List ByteArray) (hab : a.length = b.length) (hl : a.length ≤ 2000000) : ∀ d k i, i + d = a.length → d < k → slices_Equal_string_string.l0 k a b (a.length : Int) (i : Int) = some (strsEq (a.drop i) (b.drop i))
 | 0, k, i, h1, h3 => by
  obtain ⟨k, rfl⟩ : ∃ m, k = m + 1 := ⟨k - 1, by omega⟩
  simp only [slices_Equal_string_string.l0]
  rw [if_neg (by omega), List.drop_eq_nil_of_le (by omega), List.drop_eq_nil_of_le (by omega), strsEq]
 | d + 1, k, i, h1, h3 => by
  obtain ⟨k, rfl⟩ : ∃ m, k = m + 1 := ⟨k - 1, by omega⟩
  have hi : i < a.length := by omega
  have hw : wrap64 ((i : Int) + 1) = ((i + 1 : Nat) : Int) := by unfold wrap64; omega
  simp only [slices_Equal_string_string.l0]
  rw [if_pos (by omega), if_pos (by omega), if_pos (by omega), if_pos (by omega), rdB_at hi, rdB_at (hab ▸ hi), hw, List.drop_eq_getElem_cons hi, List.drop_eq_getElem_cons (l := b) (by omega), strsEq]
  by_cases he : a[i].toList = (b[i]'(by omega)).toList
  ·rw [if_pos he, decide_eq_true he, Bool.true_and]; exact strs_loop a b hab hl d k (i + 1) (by omega) (by omega)
  ·rw [if_neg he, decide_eq_false he, Bool.false_and]
theorem strs_f (a b : List ByteArray) (hl : a.length ≤ 2000000) : slices_Equal_string_string.f (a.length + 1) a b = some (strsEq a b) := by
 unfold slices_Equal_string_string.f
 by_cases hab : a.length = b.length
 ·rw [if_pos (by omega)]
  have := strs_loop a b hab hl a.length (a.length + 1) 0 (by omega) (by omega)
  simpa using this
 ·rw [if_neg (by omega)]
  cases hs : strsEq a b with
  | false => rfl
  | true => exact absurd (strsEq_len hs) hab
def sameP (nm : ByteArray) (fn : Bool) (ps : List ByteArray) (more : Bool) (body : List S55) (nm' : ByteArray) (fn' : Bool) (ps' : List ByteArray) (more' : Bool) (body' : List S55) : Bool :=
 rightP nm fn ps more body && (rightP nm' fn' ps' more' body' && ((nm.toList == nm'.toList) && ((fn == fn') && ((more == more') && (strsEq ps ps' && toksEq body body')))))
set_option maxHeartbeats 2000000 in
theorem same_c (nm nm' : ByteArray) (fn fn' more more' : Bool) (Ap Ab Ap' Ab' : Option Addr) (cp cb cp' cb' : Nat) (ps ps' : List ByteArray) (body body' : List S55) (w : World) (hT : Tab w) (hd : DomM nm ps body) (hd' : DomM nm' ps' body')
  (hP : Kd.C Kd.string w Ap ps.length ps) (hpc : ps.length ≤ cp) (hB : Kd.C k55 w Ab body.length body) (hbc : body.length ≤ cb)
  (hP' : Kd.C Kd.string w Ap' ps'.length ps') (hpc' : ps'.length ≤ cp') (hB' : Kd.C k55 w Ab' body'.length body') (hbc' : body'.length ≤ cb') :
  Calls Tryz.prog 23 #[.agg #[.string nm, .bool fn, .slice Ap ps.length cp, .bool more, .slice Ab body.length cb], .agg #[.string nm', .bool fn', .slice Ap' ps'.length cp', .bool more', .slice Ab' body'.length cb']] w (BoolBelow (sameP nm fn ps more body nm' fn' ps' more' body') w) := by
 obtain ⟨B, hBw⟩ : ∃ B, w.heap.size = B := ⟨_, rfl⟩
 go_enter Tryz.func23, Tryz.ntmps23
 refine wp_seq_k fun K1 hK1 => ?_
 have HK1 := Lib.hid hK1
 clear hK1
 go_wp2
 refine HK1.out _ _ ?_
 clear HK1
 obtain ⟨W0, hW0⟩ : ∃ W0, (w.alloc (.cells #[.string nm, .bool fn, .slice Ap ps.length cp, .bool more, .slice Ab body.length cb] 33)).alloc (.cells #[.string nm', .bool fn', .slice Ap' ps'.length cp', .bool more', .slice Ab' body'.length cb'] 33) = W0 := ⟨_, rfl⟩
 have hb0 : Below w.heap.size w W0 := by rw [← hW0]; exact ((Below.refl _ w).alloc (Nat.le_refl _) _).alloc (by simp) _
 have qA : W0.heap[B]? = some (.cells #[.string nm, .bool fn, .slice Ap ps.length cp, .bool more, .slice Ab body.length cb] 33 (0, 0)) := by rw [← hW0, ← hBw]; exact kA (blk_new w _) _
 have qB : W0.heap[B + 1]? = some (.cells #[.string nm', .bool fn', .slice Ap' ps'.length cp', .bool more', .slice Ab' body'.length cb'] 33 (0, 0)) := by
  have := blk_new (w.alloc (.cells #[.string nm, .bool fn, .slice Ap ps.length cp, .bool more, .slice Ab body.length cb] 33)) (.cells #[.string nm', .bool fn', .slice Ap' ps'.length cp', .bool more', .slice Ab' body'.length cb'] 33)
  rw [hW0, World.size_alloc, hBw] at this; exact this
 rw [hW0]
 try rw [hBw]
 have FA : ∀ W, Below W0.heap.size W0 W → W.heap[B]? = some (.cells #[.string nm, .bool fn, .slice Ap ps.length cp, .bool more, .slice Ab body.length cb] 33 (0, 0)) := fun W hb => (hb.block _ (blk_lt qA)).trans qA
 have FB : ∀ W, Below W0.heap.size W0 W → W.heap[B + 1]? = some (.cells #[.string nm', .bool fn', .slice Ap' ps'.length cp', .bool more', .slice Ab' body'.length cb'] 33 (0, 0)) := fun W hb => (hb.block _ (blk_lt qB)).trans qB
 have hbr : Below W0.heap.size W0 W0 := Below.refl _ _
 have c0 := bC (FA W0 hbr) 0
 have c1 := bC (FA W0 hbr) 1
 have c2 := bC (FA W0 hbr) 2
 have c3 := bC (FA W0 hbr) 3
 have c4 := bC (FA W0 hbr) 4
 have d0 := bC (FB W0 hbr) 0
 have d1 := bC (FB W0 hbr) 1
 have d2 := bC (FB W0 hbr) 2
 have d3 := bC (FB W0 hbr) 3
 have d4 := bC (FB W0 hbr) 4
 obtain ⟨r1, h1⟩ : ∃ r, rightP nm fn ps more body = r := ⟨_, rfl⟩
 obtain ⟨r2, h2⟩ : ∃ r, rightP nm' fn' ps' more' body' = r := ⟨_, rfl⟩
 obtain ⟨b1, e1⟩ : ∃ b, (nm.toList == nm'.toList) = b := ⟨_, rfl⟩
 obtain ⟨b2, e2⟩ : ∃ b, (fn == fn') = b := ⟨_, rfl⟩
 obtain ⟨b3, e3⟩ : ∃ b, (more == more') = b := ⟨_, rfl⟩
 obtain ⟨b4, e4⟩ : ∃ b, strsEq ps ps' = b := ⟨_, rfl⟩
 obtain ⟨b5, e5⟩ : ∃ b, toksEq body body' = b := ⟨_, rfl⟩
 have hc1 := right_c nm fn more Ap Ab cp cb ps body W0 (hT.grow hb0) hd (Kd.C_below hP hb0) hpc (Kd.C_below hB hb0) hbc
 have HC2 : Hid (∀ W : World, Below W0.heap.size W0 W → Calls Tryz.prog 21 #[.agg #[.string nm', .bool fn', .slice Ap' ps'.length cp', .bool more', .slice Ab' body'.length cb']] W (BoolBelow r2 W)) := Lib.hid fun (W : World) (hb : Below W0.heap.size W0 W) => h2 ▸ right_c nm' fn' more' Ap' Ab' cp' cb' ps' body' W (hT.grow (hb0.trans (hb.mono hb0.size))) hd' (Kd.C_below hP' (hb0.trans (hb.mono hb0.size))) hpc' (Kd.C_below hB' (hb0.trans (hb.mono hb0.size))) hbc'
 have HC3 := Lib.hid fun (W : World) (hb : Below W0.heap.size W0 W) => slices_Equal_string_string.calls _ Ap cp ps Ap' cp' ps' b4 W (Kd.C_below hP (hb0.trans (hb.mono hb0.size))) hpc (Kd.C_below hP' (hb0.trans (hb.mono hb0.size))) hpc' (by rw [← e4]; exact strs_f ps ps' hd.2.1)
 have HC4 := Lib.hid fun (W : World) (hb : Below W0.heap.size W0 W) => api_Tok_38.calls _ Ab cb body Ab' cb' body' b5 W (Kd.C_below hB (hb0.trans (hb.mono hb0.size))) hbc (Kd.C_below hB' (hb0.trans (hb.mono hb0.size))) hbc' (by rw [← e5]; exact equal_f body body' hd.2.2.1)
 have HS := Lib.hid (show sameP nm fn ps more body nm' fn' ps' more' body' = (r1 && (r2 && (b1 && (b2 && (b3 && (b4 && b5)))))) by unfold sameP; rw [h1, h2, e1, e2, e3, e4, e5])
 have H0 := Lib.hid hb0
 rw [h1] at hc1
 have HC1 := Lib.hid hc1
 clear hc1 h1 h2 e4 e5 hP hB hP' hB' hd hd' hT hW0 qA qB hb0
 have HBR := Lib.hid hbr
 clear hbr
 have ST1 : True := trivial
 go_wp2_with (first
  | (have g_ := ST1; clear g_ ST1; go_at_call 21; refine HC1.out.mono ?_; rintro e W1 ⟨rfl, hb1⟩; clear c0 c1 c2 c3 c4 d0 d1 d2 d3 d4; have c0 := bC (FA W1 hb1) 0; have c1 := bC (FA W1 hb1) 1; have c2 := bC (FA W1 hb1) 2; have c3 := bC (FA W1 hb1) 3; have c4 := bC (FA W1 hb1) 4; have d0 := bC (FB W1 hb1) 0; have d1 := bC (FB W1 hb1) 1; have d2 := bC (FB W1 hb1) 2; have d3 := bC (FB W1 hb1) 3; have d4 := bC (FB W1 hb1) 4; have H1 := Lib.hid hb1; clear hb1; have ST2 : True := trivial; cases r1)
  | (have g_ := ST2; clear g_ ST2; go_at_call 21; refine (HC2.out _ H1.out).mono ?_; rintro e W2 ⟨rfl, hb2⟩; have hb2' := H1.out.trans (hb2.mono H1.out.size); clear c0 c1 c2 c3 c4 d0 d1 d2 d3 d4; have c0 := bC (FA W2 hb2') 0; have c1 := bC (FA W2 hb2') 1; have c2 := bC (FA W2 hb2') 2; have c3 := bC (FA W2 hb2') 3; have c4 := bC (FA W2 hb2') 4; have d0 := bC (FB W2 hb2') 0; have d1 := bC (FB W2 hb2') 1; have d2 := bC (FB W2 hb2') 2; have d3 := bC (FB W2 hb2') 3; have d4 := bC (FB W2 hb2') 4; have H2 := Lib.hid hb2'; clear hb2 hb2'; have ST3 : True := trivial; cases r2 <;> cases b1 <;> cases b2 <;> cases b3)
  | (have g_ := ST3; clear g_ ST3; go_at_call 37; refine (HC3.out _ H2.out).mono ?_; rintro e W3 ⟨rfl, n3, rfl⟩; have hb3 := bl_drewN H2.out n3; clear c0 c1 c2 c3 c4 d0 d1 d2 d3 d4; have c0 := bC (FA (W2.drewN n3) hb3) 0; have c1 := bC (FA (W2.drewN n3) hb3) 1; have c2 := bC (FA (W2.drewN n3) hb3) 2; have c3 := bC (FA (W2.drewN n3) hb3) 3; have c4 := bC (FA (W2.drewN n3) hb3) 4; have d0 := bC (FB (W2.drewN n3) hb3) 0; have d1 := bC (FB (W2.drewN n3) hb3) 1; have d2 := bC (FB (W2.drewN n3) hb3) 2; have d3 := bC (FB (W2.drewN n3) hb3) 3; have d4 := bC (FB (W2.drewN n3) hb3) 4; have H3 := Lib.hid hb3; clear hb3; have ST4 : True := trivial; cases b4)
  | (have g_ := ST4; clear g_ ST4; go_at_call 38; refine (HC4.out _ H3.out).mono ?_; rintro e W4 ⟨rfl, n4, rfl⟩; have H4 := Lib.hid (bl_drewN H3.out n4)))
 all_goals go_ret
 all_goals
  refine ⟨by rw [HS.out]; rfl, ?_⟩
  first
   | exact H0.out.trans (H4.out.mono H0.out.size)
   | exact H0.out.trans ((bl_drewN H2.out _).mono H0.out.size)
   | exact H0.out.trans (H3.out.mono H0.out.size)
   | exact H0.out.trans (H2.out.mono H0.out.size)
   | exact H0.out.trans (H1.out.mono H0.out.size)
end Go.Proofs.YtcbfbefpbjmglaaGreatDoor.Mac
namespace Go.Proofs.YtcbfbefpbjmglaaGreatDoor.Mac
open Go.RowKit Go.Lib PA YtcbfbefpbjmglaaGreatDoorT YtcbfbefpbjmglaaGreatDoorW PrintWords PrintLast PrintMore
theorem equal_loop' (k0 : Nat) (nm nm' : ByteArray) (fn fn' more more' : Bool) (ps ps' : List ByteArray) (body body' : List S55) (hlen : ps.length = ps'.length) (hps : ps.length ≤ 1000000) (hb : body.length ≤ 1000000) (hk0 : body.length < k0) : ∀ d k i, i + d = ps.length → d + k0 + 1 ≤ k →
  burinref03_Equal.l0 k (i : Int) nm fn ps more body nm' fn' ps' more' body' = some (strsEq (ps.drop i) (ps'.drop i) && toksEq body body')
 | 0, k, i, h1, h3 => by
  obtain ⟨k, rfl⟩ : ∃ m, k = m + 1 := ⟨k - 1, by omega⟩
  simp only [burinref03_Equal.l0]
  rw [if_neg (by omega), same_f k _ _ hb (by omega), Option.bind_some, List.drop_eq_nil_of_le (by omega), List.drop_eq_nil_of_le (by omega)]
  rfl
 | d + 1, k, i, h1, h3 => by
  obtain ⟨k, rfl⟩ : ∃ m, k = m + 1 := ⟨k - 1, by omega⟩
  have hi : i < ps.length := by omega
  have hw : wrap64 ((i : Int) + 1) = ((i + 1 : Nat) : Int) := by unfold wrap64; omega
  simp only [burinref03_Equal.l0]
  rw [if_pos (by omega), if_pos (by omega), if_pos (by omega), rdB_at hi, rdB_at (hlen ▸ hi), hw, List.drop_eq_getElem_cons hi, List.drop_eq_getElem_cons (l := ps') (by omega), strsEq]
  by_cases he : ps[i].toList = (ps'[i]'(by omega)).toList
  ·rw [if_pos he, decide_eq_true he, Bool.true_and]
   exact equal_loop' k0 nm nm' fn fn' more more' ps ps' body body' hlen hps hb hk0 d k (i + 1) (by omega) (by omega)
  ·rw [if_neg he, decide_eq_false he]; rfl
theorem requal_f (k : Nat) (nm nm' : ByteArray) (fn fn' more more' : Bool) (ps ps' : List ByteArray) (body body' : List S55) (hps : ps.length ≤ 1000000) (hb : body.length ≤ 1000000) (hk : ps.length + body.length + 4 ≤ k) :
  burinref03_Equal.f k nm fn ps more body nm' fn' ps' more' body' = some (decide (nm.toList = nm'.toList) && (fn == fn' && (more == more' && (strsEq ps ps' && toksEq body body')))) := by
 obtain ⟨k, rfl⟩ : ∃ m, k = m + 1 := ⟨k - 1, by omega⟩
 have j0t : burinref03_Equal.j0 (k + 1) true nm fn ps more body nm' fn' ps' more' body' = some false := by simp only [burinref03_Equal.j0]; rfl
 unfold burinref03_Equal.f
 by_cases h1 : nm.toList = nm'.toList
 ·rw [if_pos h1, decide_eq_true h1, Bool.true_and]
  have key : burinref03_Equal.j0 (k + 1) ((ps.length : Int) != (ps'.length : Int)) nm fn ps more body nm' fn' ps' more' body' = some (strsEq ps ps' && toksEq body body') := by
   simp only [burinref03_Equal.j0]
   by_cases hl : ps.length = ps'.length
   ·rw [if_neg (by rw [hl]; simp)]
    have := equal_loop' (body.length + 1) nm nm' fn fn' more more' ps ps' body body' hl hps hb (by omega) ps.length k 0 (by omega) (by omega)
    simpa using this
   ·rw [if_pos (by rw [bne_iff_ne]; omega)]
    have : strsEq ps ps' = false := by
     cases hs : strsEq ps ps' with
     | false => rfl
     | true => exact absurd (strsEq_len hs) hl
    rw [this]; rfl
  cases fn <;> cases fn' <;> cases more <;> cases more' <;> first
   | (rw [if_pos (by decide), j0t]; rfl)
   | (rw [if_neg (by decide), if_pos (by decide), j0t]; rfl)
   | (rw [if_neg (by decide), if_neg (by decide), key]; rfl)
 ·rw [if_neg h1, j0t, decide_eq_false h1]; rfl
theorem tokEq_refl (t : S55) : tokEq t t = true := by unfold tokEq; simp
theorem toksEq_refl : ∀ l : List S55, toksEq l l = true
 | [] => rfl
 | t :: l => by rw [toksEq, tokEq_refl, toksEq_refl l]; rfl
theorem strsEq_refl : ∀ l : List ByteArray, strsEq l l = true
 | [] => rfl
 | t :: l => by rw [strsEq, strsEq_refl l]; simp
theorem domL_lex (s : ByteArray) (h : s.size ≤ 1048576) : domL ((lexP [(1, s.data.toList)]).1.map toT) = true := by
 unfold domL
 rw [Bool.and_eq_true, decide_eq_true_eq, List.all_eq_true]
 have hl := lexP_len [(1, s.data.toList)]
 refine ⟨by rw [List.length_map]; omega, fun x hx => ?_⟩
 obtain ⟨t, ht, rfl⟩ := List.mem_map.1 hx
 rw [decide_eq_true_eq]
 show t.s.length ≤ _
 have hts : ∀ t ∈ (lexP [(1, s.data.toList)]).1, t.s.length ≤ s.data.toList.length := by
  by_cases hz : (lexP [(1, s.data.toList)]).2.1 = 0
  ·rw [(lexP_toks 1 _ hz).1]
   exact lineP_short 1 _ _
  ·have : (lexP [(1, s.data.toList)]).1 = [] := by
    unfold lexP lexF at hz ⊢
    split
    ·rename_i h0
     rw [if_pos h0] at hz
     unfold lexF at hz ⊢
     split
     ·rfl
     ·rename_i hop
      rw [if_neg hop] at hz
      exact absurd rfl hz
    ·rfl
   rw [this]; simp
 have := hts t ht
 have hs := Lib.size_eq s
 omega
end Go.Proofs.YtcbfbefpbjmglaaGreatDoor.Mac
namespace Go.Proofs.YtcbfbefpbjmglaaGreatDoor.Mac
open Go.RowKit Go.Lib PA YtcbfbefpbjmglaaGreatDoorT YtcbfbefpbjmglaaGreatDoorW PrintWords PrintLast PrintMore
def dotsA : ByteArray := ⟨#[46, 46, 46]⟩
theorem rightP_parts {nm : ByteArray} {fn more : Bool} {ps : List ByteArray} {body : List S55} (h : rightP nm fn ps more body = true) : isNameP nm = true ∧ ps.length ≤ 16 ∧ (fn = false → ps = [] ∧ more = false) ∧ goodParams [] ps = true ∧ body.length ≤ 500 ∧ speltP body = true := by
 unfold rightP isBodyP at h
 simp only [Bool.and_eq_true, decide_eq_true_eq] at h
 obtain ⟨h1, h2, h3, h4, h5, h6, h7, h8, h9, h10⟩ := h
 refine ⟨h1, h3, fun hf => ?_, h5, h6, ?_⟩
 ·subst hf
  cases more with
  | true => simp at h4
  | false =>
   refine ⟨?_, rfl⟩
   cases ps with
   | nil => rfl
   | cons a b => simp at h4
 ·unfold speltP
  rw [h7, decide_eq_true h8, h9]; rfl
end Go.Proofs.YtcbfbefpbjmglaaGreatDoor.Mac
namespace Go.Proofs.LaidStrs
open Go.Lib
def strData {H : Type} (ss : List (List UInt8)) : DataW H := .agg (ss.map fun s => .lit (.string s))
def StrsIs (P : Program) (w : World) (name : String) (ss : List (List UInt8)) : Prop := w.var? P name = some (ss.map fun s => Value.string ⟨s.toArray⟩).toArray
theorem cells_of_strs {H : Type} {enc : TypeId × Value → H} {P : Program} {w : World} {base : Nat} {sp : Nat → Bool} {held : Bool} {fuel : Nat} {t e : TypeId} {n : Nat} {cs : List Value} {ss : List (List UInt8)} {p : List MemPlace}
  (ht : P.underlying t = some (.array n e)) (he : P.underlying e = some .string) (hce : P.cellsOf e = 1) (hct : P.cellsOf t = n)
  (h : DataW.trod enc P w base sp held fuel t cs = some (strData ss, p)) : cs = ss.map fun s => Value.string ⟨s.toArray⟩ := by
 cases fuel with
 | zero => simp [DataW.trod] at h
 | succ fuel =>
  simp only [DataW.trod, ht, hce, hct, Nat.mul_one] at h
  split at h
  ·rename_i hl
   obtain ⟨xs, hm, hx⟩ := Option.map_eq_some_iff.1 h
   have hxs : xs.map (·.1) = ss.map fun s => (DataW.lit (.string s) : DataW H) := by
    have := congrArg Prod.fst hx
    simpa [strData] using this
   have hxl : xs.length = n := by simpa using mapM_length hm
   have hzl : ss.length = n := by
    have := congrArg List.length hxs
    simp at this
    omega
   apply List.ext_getElem?
   intro i
   by_cases hi : i < n
   ·obtain ⟨b, hb, hf⟩ := mapM_at hm i i (by simp [hi])
    obtain ⟨s, hc, rfl, _⟩ := DataW.trod_string he hf
    have h1 : cs[i]? = some (.string s) := by
     have := congrArg (·[0]?) hc
     simpa [List.getElem?_take, List.getElem?_drop] using this
    have h2 : (xs.map (·.1))[i]? = some (DataW.lit (.string s.data.toList) : DataW H) := by simp [hb]
    rw [hxs] at h2
    simp only [List.getElem?_map, Option.map_eq_some_iff, DataW.lit.injEq, Lit.string.injEq] at h2
    obtain ⟨s', hs', hs2⟩ := h2
    rw [h1, List.getElem?_map, hs', hs2]
    simp
   ·rw [List.getElem?_eq_none (by omega), List.getElem?_eq_none (by simp; omega)]
  ·cases h
theorem strsIs_of_head {P : Program} {W : World} {name : String} {ss : List (List UInt8)} {rest : List (String × DataW Unit)} {g : Nat} {t e : TypeId} {n : Nat}
  (hg : P.globalNamed name = some g) (hty : (P.globals[g]?).map (·.type) = some t) (ht : P.underlying t = some (.array n e)) (he : P.underlying e = some .string) (hce : P.cellsOf e = 1) (hct : P.cellsOf t = n)
  (h : laidMet P ((name, strData ss) :: rest) W) : StrsIs P W name ss := by
 obtain ⟨ps, ⟨g', t', cs, fuel, p, q, hg', ht', hvar, hd, _, _⟩, _⟩ := h
 obtain rfl := Option.some.inj (hg.symm.trans hg')
 obtain rfl := Option.some.inj (hty.symm.trans ht')
 unfold StrsIs
 rw [hvar, ← cells_of_strs ht he hce hct hd]
theorem StrsIs.cell {P : Program} {W : World} {name : String} {ss : List (List UInt8)} {g : Nat} (h : StrsIs P W name ss) (hg : P.globalNamed name = some g) (i : Nat) (hi : i < ss.length) :
  W.cell? ⟨g, i, none⟩ = some (.string ⟨(ss.getD i []).toArray⟩) := by
 have := World.var?_cell hg h i
 simpa [List.getD, hi] using this
end Go.Proofs.LaidStrs
namespace Go.Proofs.YtcbfbefpbjmglaaGreatDoorT
open Go.Lib Go.Proofs.LaidStrs YtcbfbefpbjmglaaGreatDoor
theorem gTab : Tryz.prog.globalNamed "burin/token.signs" = some 0 := by kernel_rfl
theorem gTabType : (Tryz.prog.globals[0]?).map (·.type) = some 125 := by kernel_rfl
theorem cells54 : Tryz.prog.cellsOf 125 = 48 := by kernel_rfl
theorem cells9 : Tryz.prog.cellsOf 9 = 1 := by kernel_rfl
theorem heap_of_var {P : Program} {w : World} {name : String} {g : Nat} {cs : Array Value} (hg : P.globalNamed name = some g) (h : w.var? P name = some cs) : ∃ t fr, w.heap[g]? = some (.cells cs t fr) := by
 unfold World.var? at h
 rw [hg] at h
 rw [Option.bind_some] at h
 split at h
 ·rename_i c t fr hc
  obtain rfl := Option.some.inj h
  exact ⟨t, fr, hc⟩
 ·cases h
noncomputable def laidWorld (os : Os) : World :=
 { World.holding Tryz.prog os ⟨#[], #[], []⟩ with heap := (World.holding Tryz.prog os ⟨#[], #[], []⟩).heap.modify 0 fun
   | .cells _ t frozen => .cells sgv t frozen
   | o => o }
end Go.Proofs.YtcbfbefpbjmglaaGreatDoorT
namespace Go.Proofs.YtcbfbefpbjmglaaGreatDoor.Mac
open Go.RowKit MapFun PA YtcbfbefpbjmglaaGreatDoorT YtcbfbefpbjmglaaGreatDoorW PrintWords PrintLast PrintMore
attribute [local go_sem] Oper.semAt_some
def headB (nm : ByteArray) (fn : Bool) (ps : List ByteArray) (more : Bool) : ByteArray := if fn then nm ++ (((⟨#[40]⟩ : ByteArray) ++ joinB (ps ++ (if more then [dotsA] else [])) (⟨#[44, 32]⟩ : ByteArray)) ++ (⟨#[41]⟩ : ByteArray)) else nm
end Go.Proofs.YtcbfbefpbjmglaaGreatDoor.Mac
namespace Go.Proofs.YtcbfbefpbjmglaaGreatDoor.Mac
open Go.RowKit MapFun PA YtcbfbefpbjmglaaGreatDoorT YtcbfbefpbjmglaaGreatDoorW PrintWords PrintLast PrintMore
attribute [local go_sem] Oper.semAt_some
theorem C_nil {w : World} {n : Nat} {l : List S55} (h : Kd.C k55 w none n l) (hn : l.length = n) : l = [] := by
 cases l with
 | nil => rfl
 | cons x l =>
  obtain ⟨ad, ha, _⟩ := h.2.2 (by rw [← hn]; simp)
  cases ha
theorem q23 (w : World) (a : Option Addr) (n c : Nat) : (binOp .eql 31 (.slice a n c) (.slice none 0 0)).run Tryz.prog w = .ok (.bool a.isNone) w := Go.Lib.run_eql_slice_nil w _ _ a n c 0 0 Tryz.underlying31
attribute [local go_sem] q23
set_option maxHeartbeats 400000 in
theorem cloneT_c (A : Option Addr) (c : Nat) (l : List S55) (w : World) (hl : l.length ≤ 1000000) (hB : Kd.C k55 w A l.length l) (hc : l.length ≤ c) :
  Calls Tryz.prog 39 #[.slice A l.length c] w fun e w' => ∃ v, e = .returned v ∧ Kd.R k55 55 w' w.heap.size (fun _ => True) v l ∧ Below w.heap.size w w' := by
 cases A with
 | none =>
  have hnil := C_nil hB rfl
  subst hnil
  go_enter Tryz.func39, Tryz.ntmps39
  go_wp2
  go_ret
  exact ⟨_, rfl, Kd.R_nil _ _ _ _ _, Below.refl _ _⟩
 | some ad =>
  have HH := Lib.hid hB
  clear hB
  go_enter Tryz.func39, Tryz.ntmps39
  go_wp2_with (first
   | ((with_reducible refine gate_dst (N := 5) rfl ?_); refine Kd.R_lit k55 _ 55 ?hg (N := 5) ?hd (xs := ([] : List S55)) (inner := []) (ok := fun _ => True) (okp := fun _ => True) ?hr ?hp (fun _ hk => hk) trivial (Below.refl _ _) (Nat.le_refl _) (by simp) ?_; (case hd => rfl); (case hg => rfl); (case hr => first | (go_simp; done) | (go_simp; rfl)); (case hp => exact (Reps.none _ _)); intro v1 w1 hR1 hb1 hg1 hn1; clear hg1 hn1; have H1 := Lib.hid (And.intro hR1 hb1); clear hR1 hb1)
   | (at_builtin; (refine Kd.R_append_rows k55 (w0 := w) w.heap.size rfl (.tmp 5) (.tmp 6) 31 55 _ 56 rfl Tryz.underlying31 info55 rfl (by decide) (by decide) _ [] l (some ad) l.length c (fun _ => True) (fun _ => False) rfl rfl H1.out.1 (Kd.C_below HH.out H1.out.2) (fun _ _ hx => hx) (fun k h => h.elim) (fun _ _ => trivial) H1.out.2 H1.out.2.size (by simp; omega) ?_); intro v2 w2 hR2 hb2 _ _; have H2 := Lib.hid (And.intro hR2 hb2); clear hR2 hb2))

  go_ret
  exact ⟨_, rfl, H2.out.1, H2.out.2⟩
end Go.Proofs.YtcbfbefpbjmglaaGreatDoor.Mac
namespace Go.Proofs.YtcbfbefpbjmglaaGreatDoor.Mac
open Go.RowKit MapFun PA YtcbfbefpbjmglaaGreatDoorT YtcbfbefpbjmglaaGreatDoorW PrintWords PrintLast PrintMore
attribute [local go_sem] Oper.semAt_some
set_option maxHeartbeats 1000000 in
theorem own_c (nm : ByteArray) (fn more : Bool) (Ap Ab : Option Addr) (cp cb : Nat) (ps : List ByteArray) (body : List S55) (w : World) (hl : ps.length ≤ 2000000) (hl2 : body.length ≤ 1000000)
  (hP : Kd.C Kd.string w Ap ps.length ps) (hpc : ps.length ≤ cp) (hB : Kd.C k55 w Ab body.length body) (hbc : body.length ≤ cb) :
  Calls Tryz.prog 24 #[.agg #[.string nm, .bool fn, .slice Ap ps.length cp, .bool more, .slice Ab body.length cb]] w fun e w' => ∃ v2 v4, e = .returned (.agg #[.string nm, .bool fn, v2, .bool more, v4]) ∧ Kd.string.R 9 w' w.heap.size (fun _ => True) v2 ps ∧ Kd.R k55 55 w' w.heap.size (fun _ => True) v4 body ∧ Below w.heap.size w w' := by
 obtain ⟨B, hBw⟩ : ∃ B, w.heap.size = B := ⟨_, rfl⟩
 go_enter Tryz.func24, Tryz.ntmps24
 refine wp_seq_k fun K1 hK1 => ?_
 have HK1 := Lib.hid hK1
 clear hK1
 go_wp2
 refine HK1.out _ _ ?_
 clear HK1
 obtain ⟨W0, hW0⟩ : ∃ W0, (w.alloc (.cells #[.string nm, .bool fn, .slice Ap ps.length cp, .bool more, .slice Ab body.length cb] 33)).alloc (.cells #[.string ⟨#[]⟩, .bool false, .slice none 0 0, .bool false, .slice none 0 0] 33) = W0 := ⟨_, rfl⟩
 have hb0 : Below w.heap.size w W0 := by rw [← hW0]; exact ((Below.refl _ w).alloc (Nat.le_refl _) _).alloc (by simp) _
 have qA : W0.heap[B]? = some (.cells #[.string nm, .bool fn, .slice Ap ps.length cp, .bool more, .slice Ab body.length cb] 33 (0, 0)) := by rw [← hW0, ← hBw]; exact kA (blk_new w _) _
 have qB : W0.heap[B + 1]? = some (.cells #[.string ⟨#[]⟩, .bool false, .slice none 0 0, .bool false, .slice none 0 0] 33 (0, 0)) := by
  have := blk_new (w.alloc (.cells #[.string nm, .bool fn, .slice Ap ps.length cp, .bool more, .slice Ab body.length cb] 33)) (.cells #[.string ⟨#[]⟩, .bool false, .slice none 0 0, .bool false, .slice none 0 0] 33)
  rw [hW0, World.size_alloc, hBw] at this; exact this
 have hs0 : W0.heap.size = B + 2 := by rw [← hW0]; simp [hBw]
 rw [hW0]
 try rw [hBw]
 have FA : ∀ W, Below W0.heap.size W0 W → W.heap[B]? = some (.cells #[.string nm, .bool fn, .slice Ap ps.length cp, .bool more, .slice Ab body.length cb] 33 (0, 0)) := fun W hb => (hb.block _ (blk_lt qA)).trans qA
 have FB : ∀ W, Below W0.heap.size W0 W → W.heap[B + 1]? = some (.cells #[.string ⟨#[]⟩, .bool false, .slice none 0 0, .bool false, .slice none 0 0] 33 (0, 0)) := fun W hb => (hb.block _ (blk_lt qB)).trans qB
 have hbr : Below W0.heap.size W0 W0 := Below.refl _ _
 have c2 := bC qA 2
 have c4 := bC qA 4
 have HP0 := Kd.C_below hP hb0
 have HB0 := Kd.C_below hB hb0
 have HC1 := Lib.hid fun (W : World) (hb : Below W0.heap.size W0 W) => slices_Clone_string_string.calls Ap cp ps ps W (Kd.C_below HP0 hb) hpc (by unfold slices_Clone_string_string.f; rw [if_pos (by omega)])
 have HC2 := Lib.hid fun (W : World) (hb : Below W0.heap.size W0 W) => cloneT_c Ab cb body W hl2 (Kd.C_below HB0 hb) hbc
 have H0d := Lib.hid (below_drew hbr)
 have HX := Lib.hid (And.intro hb0 hs0)
 clear hb0 hs0 hW0 hP hB HP0 HB0 hbr qA qB
 refine wp_seq_k fun K2 hK2 => ?_
 have HK2 := Lib.hid hK2
 clear hK2
 refine start_ (n := 10) (S := fun w' => w'.cell? ⟨B, 2, none⟩ = some (.slice Ap ps.length cp) ∧ w'.cell? ⟨B, 4, none⟩ = some (.slice Ab body.length cb)) (ds := [7, 9]) (fl 0 10) (by kernel_rfl) rfl rfl ⟨c2, c4⟩ (fun hHeld => ?_)
 refine pu 0 3 (fl 1 9) ?_
 refine pu 3 6 #[true, false, false, true, false, false, false, false, false, false] ?_
 refine tk 1 4 #[true, true, false, true, false, false, false, false, false, false] rfl rfl hHeld (by rintro w' ⟨s0, s1⟩; go_simp; with_reducible rfl) ?_
 refine tk 4 7 #[true, true, false, true, true, false, false, false, false, false] rfl rfl hHeld (by rintro w' ⟨s0, s1⟩; go_simp; with_reducible rfl) ?_
 refine one_ (i := 2) (N := some 5) (fl 5 5) rfl rfl (by kernel_rfl) (by decide) (fun K hK => ?_)
 refine goes_ Tryz.func30 (by kernel_rfl) rfl #[.slice Ap ps.length cp] (by rfl) rfl rfl (by simp only [List.map_toArray, List.map_cons, List.map_nil]; rfl) ?_
 with_reducible refine (HC1.out _ H0d.out).mono ?_
 rintro e w2 ⟨v2, rfl, hR2, hb2⟩
 refine ⟨_, rfl, ?_⟩
 obtain ⟨A2, c2, rfl⟩ := Kd.R_slice hR2
 have H2 := Lib.hid (And.intro (H0d.out.trans (hb2.mono H0d.out.size)) hR2)
 refine hK.out _ _ ⟨(bC (FA _ H2.out.1) 2), (bC (FA _ H2.out.1) 4)⟩ (fun hHeld => ?_)
 clear hK K
 refine norm_ (a' := ?_) ?_ ?_
 rotate_left
 ·show Act.put _ (some 5) _ = _
  simp only [Act.put, sT, sZ, sS, i64_w, i32_w]
  rfl
 refine pu 6 9 #[true, true, true, true, true, false, true, false, false, false] ?_
 refine one_ (i := 5) (N := some 8) (fl 7 3) rfl rfl (by kernel_rfl) (by decide) (fun K hK => ?_)
 refine goes_ Tryz.func39 (by kernel_rfl) rfl #[.slice Ab body.length cb] (by rfl) rfl rfl (by simp only [List.map_toArray, List.map_cons, List.map_nil]; rfl) ?_
 with_reducible refine (HC2.out _ H2.out.1).mono ?_
 rintro e w3 ⟨v4, rfl, hR4, hb4⟩
 refine ⟨_, rfl, ?_⟩
 obtain ⟨A4, c4, rfl⟩ := Kd.R_slice hR4
 have H3 := Lib.hid (And.intro (H2.out.1.trans (hb4.mono H2.out.1.size)) (And.intro (Kd.R_below H2.out.2 hb4) hR4))
 have q3 := FA _ H3.out.1
 have f2 := frz_blk q3 2
 have f4 := frz_blk q3 4
 have g2 := bC q3 2
 have g4 := bC q3 4
 refine hK.out _ _ ⟨(bC (FA _ H3.out.1) 2), (bC (FA _ H3.out.1) 4)⟩ (fun hHeld => ?_)
 clear hK K
 refine norm_ (a' := ?_) ?_ ?_
 rotate_left
 ·show Act.put _ (some 8) _ = _
  simp only [Act.put, sT, sZ, sS, i64_w, i32_w]
  rfl
 refine last_ (i := 7) (N := none) (fl 8 2) rfl rfl (by kernel_rfl) (by decide) (fun K hK => ?_)
 refine skip_ (w1 := ?_) (by rfl) rfl ?_ ?_
 rotate_left
 ·go_simp
  rfl
 refine hK.out _ _ ?_
 clear hK K
 refine pu 8 10 (fl 9 1) ?_
 refine last_ (i := 9) (N := none) (fl 10 0) rfl rfl (by kernel_rfl) (by decide) (fun K hK => ?_)
 refine skip_ (w1 := ?_) (by rfl) rfl ?_ ?_
 rotate_left
 ·go_simp
  rfl
 refine hK.out _ _ ?_
 clear hK K
 refine done_ (by kernel_rfl) ?_

 refine HK2.out _ _ ?_
 clear HK2
 obtain ⟨W4, hW4⟩ : ∃ W4, (w3.setCell ⟨B, 2, none⟩ (.slice A2 ps.length c2)).setCell ⟨B, 4, none⟩ (.slice A4 body.length c4) = W4 := ⟨_, rfl⟩
 have far4 : ∀ k, k ≠ B → W4.heap[k]? = w3.heap[k]? := fun k hk => by rw [← hW4]; exact (Below.heap_setCell _ ⟨B, 4, none⟩ _ _ hk).trans (Below.heap_setCell _ ⟨B, 2, none⟩ _ _ hk)
 have q4 : W4.heap[B]? = some (.cells #[.string nm, .bool fn, .slice A2 ps.length c2, .bool more, .slice A4 body.length c4] 33 (0, 0)) := by rw [← hW4]; exact bU (bU q3 2 _ rfl) 4 _ rfl
 have qz := (far4 (B + 1) (by omega)).trans (FB _ H3.out.1)
 have hb4 : Below w.heap.size w W4 := by rw [← hW4]; exact ((HX.out.1.trans (H3.out.1.mono HX.out.1.size)).setCell (p := ⟨B, 2, none⟩) (by simp [hBw]) _).setCell (p := ⟨B, 4, none⟩) (by simp [hBw]) _
 have hR2 : Kd.string.R 9 W4 (B + 2) (fun _ => True) (.slice A2 ps.length c2) ps := R_high (Kd.R_lower H3.out.2.1 (by have := HX.out.2; show _ ≤ W0.heap.size; omega)) (fun k hk _ => far4 k (by omega))
 have hR4 : Kd.R k55 55 W4 (B + 2) (fun _ => True) (.slice A4 body.length c4) body := R_high (Kd.R_lower H3.out.2.2 (by have := HX.out.2; have := H2.out.1.size; omega)) (fun k hk _ => far4 k (by omega))
 rw [hW4]
 have HR := Lib.hid (And.intro q4 (And.intro qz (And.intro hb4 (And.intro hR2 hR4))))
 have a0 := bC q4 0
 have a1 := bC q4 1
 have a2 := bC q4 2
 have a3 := bC q4 3
 have a4 := bC q4 4
 have b0 := bC qz 0
 have b1 := bC qz 1
 have b2 := bC qz 2
 have b3 := bC qz 3
 have b4 := bC qz 4
 have z0 := frz_blk qz 0
 have z1 := frz_blk qz 1
 have z2 := frz_blk qz 2
 have z3 := frz_blk qz 3
 have z4 := frz_blk qz 4
 clear q4 qz hb4 hR2 hR4 hW4 g2 g4 f2 f4 q3 far4
 go_wp2
 obtain ⟨h1, h2, h3⟩ := put5 HR.out.2.1 rfl (.string nm) (.bool fn) (.slice A2 ps.length c2) (.bool more) (.slice A4 body.length c4)
 refine bodyPost_ret (results_cell_row rfl _ _ (B + 1) 33 _ (0, 0) _ (by simp) h1 Tryz.underlying33 rfl (by kernel_rfl)) rfl ?_
 refine ⟨_, _, rfl, Kd.R_lower (R_high HR.out.2.2.2.1 (fun k hk _ => h3 k (by omega))) (by omega), Kd.R_lower (R_high HR.out.2.2.2.2 (fun k hk _ => h3 k (by omega))) (by omega), ?_⟩
 have := HR.out.2.2.1
 rw [hBw] at this
 exact this.trans (h2.mono (by omega))
end Go.Proofs.YtcbfbefpbjmglaaGreatDoor.Mac
