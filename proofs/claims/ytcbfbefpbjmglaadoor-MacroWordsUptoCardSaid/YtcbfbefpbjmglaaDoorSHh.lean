import Derived.Test.YtcbfbefpbjmglaaDoorPS
import Derived.Test.YtcbfbefpbjmglaaDoorA3
import Derived.Test.YtcbfbefpbjmglaaDoorPE
import Derived.Test.YtcbfbefpbjmglaaDoorMR0
import Derived.Test.YtcbfbefpbjmglaaDoorA12
import Derived.Test.YtcbfbefpbjmglaaDoorLS
import Derived.Test.YtcbfbefpbjmglaaDoorMR1
import Derived.Test.YtcbfbefpbjmglaaDoorLQ0
import Derived.Test.YtcbfbefpbjmglaaDoorCards
import Derived.Test.YtcbfbefpbjmglaaDoorMF
import Derived.WalkKit
import Derived.ProofKit
import Derived.OpenShut
import Derived.ShutString
import Derived.ChangeOld
import Derived.SizedLaws
import Derived.Deep.DeepHandedRow
import Derived.Deep.SlicePairs
import Derived.Lib.LaidTab
import Derived.Test.YtcbfbefpbjmglaaDoorH2
import Derived.Test.YtcbfbefpbjmglaaDoorShelf2
import Derived.Test.YtcbfbefpbjmglaaDoorRows
namespace Go.Proofs.YtcbfbefpbjmglaaDoor.Mac
open Go.RowKit Go.Proofs.MapFun Go.Proofs.YtcbfbefpbjmglaaDoor.PA Go.Proofs.YtcbfbefpbjmglaaDoorT Go.Proofs.YtcbfbefpbjmglaaDoorW.PrintWords Go.Proofs.YtcbfbefpbjmglaaDoorW.PrintLast Go.Proofs.YtcbfbefpbjmglaaDoorW.PrintMore
set_option linter.unusedVariables false
set_option linter.unusedSimpArgs false
def sA : ByteArray := ⟨#[70, 40, 97, 44, 98, 41, 32, 32, 97, 32, 35, 35, 32, 98]⟩
def sB : ByteArray := ⟨#[88, 43, 49]⟩
def lA : List S48 := (lexP [(1, sA.data.toList)]).1.map toT
def lB : List S48 := (lexP [(1, sB.data.toList)]).1.map toT
def psA : List ByteArray := [⟨#[97]⟩, ⟨#[98]⟩]
def bdA : List S48 := [⟨1, ⟨#[97]⟩, ⟨#[]⟩, 0, false, false⟩, ⟨5, ⟨#[35, 35]⟩, ⟨#[]⟩, 0, true, false⟩, ⟨1, ⟨#[98]⟩, ⟨#[]⟩, 0, true, false⟩]
theorem lexA_f : burinlaw03_lexed.f sA = some lA := by kernel_rfl
theorem lexB_f : burinlaw03_lexed.f sB = some lB := by kernel_rfl
theorem parseA_f : macro_Parse.f lA = some (⟨#[70]⟩, true, psA, false, bdA, 0) := by kernel_rfl
theorem parseB_f : macro_Parse.f lB = some (⟨#[]⟩, false, [], false, [], 30) := by kernel_rfl
theorem showA_f : macro_Show.f 40 ⟨#[70]⟩ true psA false bdA = some (⟨#[70, 40, 97, 44, 32, 98, 41, 32, 97, 32, 35, 35, 32, 98]⟩, 0) := by kernel_rfl
set_option maxHeartbeats 1000000 in
theorem shown_c (w : World) (hT : Tab w) : Calls Tryd.prog 9 #[] w fun e w' => e = .returned (.bool true) ∧ Below w.heap.size w w' := by
 have HT := Lib.hid hT
 clear hT
 have ST1 : True := trivial
 go_enter Tryd.func9, Tryd.ntmps9
 go_wp2_with (first
  | (have g_ := ST1; clear g_ ST1; go_at_call 20; refine (burinlaw03_lexed.calls sA lA _ HT.out lexA_f).mono ?_; rintro e w1 ⟨v1, rfl, hR1, hb1⟩; obtain ⟨A1, c1, rfl⟩ := Kd.R_slice hR1; have H1 := Lib.hid (And.intro hR1 hb1); clear hR1 hb1; have ST2 : True := trivial)
  | (have g_ := ST2; clear g_ ST2; go_at_call 11; refine (macro_Parse.calls A1 c1 lA _ _ _ _ _ _ _ (Kd.R_reads' H1.out.1).2.2 (Kd.R_reads' H1.out.1).2.1 (HT.out.grow H1.out.2) parseA_f).mono ?_; rintro e w2 ⟨v2, v3, rfl, hR2, hR3, hb2⟩; obtain ⟨A2, c2, rfl⟩ := Kd.R_slice hR2; obtain ⟨A3, c3, rfl⟩ := Kd.R_slice hR3; have H2 := Lib.hid (And.intro hR2 (And.intro hR3 (H1.out.2.trans (hb2.mono H1.out.2.size)))); clear hR2 hR3 hb2; have ST3 : True := trivial)
  | (have g_ := ST3; clear g_ ST3; go_at_call 14; have hbA := H2.out.2.2.alloc H2.out.2.2.size (.cells #[.string ⟨#[70]⟩, .bool true, .slice A2 psA.length c2, .bool false, .slice A3 bdA.length c3] 32); have qA := blk_new w2 (.cells #[.string ⟨#[70]⟩, .bool true, .slice A2 psA.length c2, .bool false, .slice A3 bdA.length c3] 32); have hszA := World.size_alloc w2 (.cells #[.string ⟨#[70]⟩, .bool true, .slice A2 psA.length c2, .bool false, .slice A3 bdA.length c3] 32); refine (macro_Show.calls 40 _ _ A2 c2 psA _ A3 c3 bdA _ _ _ (Kd.C_alloc (Kd.R_reads' H2.out.1).2.2 _) (Kd.R_reads' H2.out.1).2.1 (Kd.C_alloc (Kd.R_reads' H2.out.2.1).2.2 _) (Kd.R_reads' H2.out.2.1).2.1 (HT.out.grow hbA) showA_f).mono ?_; rintro e w3 ⟨rfl, hb3⟩; have H3 := Lib.hid (And.intro ((hb3.block w2.heap.size (by rw [hszA]; exact Nat.lt_succ_self _)).trans qA) (hbA.trans (hb3.mono hbA.size))); clear hb3 qA hbA hszA; have ST4 : True := trivial)
  | (have g_ := ST4; clear g_ ST4; go_at_call 20; refine (burinlaw03_lexed.calls sB lB _ (HT.out.grow H3.out.2) lexB_f).mono ?_; rintro e w4 ⟨v4, rfl, hR4, hb4⟩; obtain ⟨A4, c4, rfl⟩ := Kd.R_slice hR4; have H4 := Lib.hid (And.intro hR4 (And.intro ((hb4.block _ (blk_lt H3.out.1)).trans H3.out.1) (H3.out.2.trans (hb4.mono H3.out.2.size)))); clear hR4 hb4; have ST5 : True := trivial)
  | (have g_ := ST5; clear g_ ST5; go_at_call 11; refine (macro_Parse.calls A4 c4 lB _ _ _ _ _ _ _ (Kd.R_reads' H4.out.1).2.2 (Kd.R_reads' H4.out.1).2.1 (HT.out.grow H4.out.2.2) parseB_f).mono ?_; rintro e w5 ⟨v5, v6, rfl, hR5, hR6, hb5⟩; obtain ⟨A5, c5, rfl⟩ := Kd.R_slice hR5; obtain ⟨A6, c6, rfl⟩ := Kd.R_slice hR6; have q5 := (hb5.block _ (blk_lt H4.out.2.1)).trans H4.out.2.1; have m1 := cell_al (blk_cell q5 1) (.cells #[.string ⟨#[]⟩, .bool false, .slice A5 0 c5, .bool false, .slice A6 0 c6] 32); have m2 := cell_al (blk_cell q5 2) (.cells #[.string ⟨#[]⟩, .bool false, .slice A5 0 c5, .bool false, .slice A6 0 c6] 32); have hb6 := H4.out.2.2.trans (hb5.mono H4.out.2.2.size); have H5 := Lib.hid (hb6.alloc hb6.size (.cells #[.string ⟨#[]⟩, .bool false, .slice A5 0 c5, .bool false, .slice A6 0 c6] 32)); clear hR5 hR6 hb5 q5 hb6))
 go_ret
 exact ⟨rfl, H5.out⟩
end Go.Proofs.YtcbfbefpbjmglaaDoor.Mac
namespace Go.Proofs.YtcbfbefpbjmglaaDoor.Mac
open Go.RowKit Go.Lib Go.Proofs.MapFun Go.Proofs.YtcbfbefpbjmglaaDoor.PA Go.Proofs.YtcbfbefpbjmglaaDoorT Go.Proofs.YtcbfbefpbjmglaaDoorW.PrintWords Go.Proofs.YtcbfbefpbjmglaaDoorW.PrintLast Go.Proofs.YtcbfbefpbjmglaaDoorW.PrintMore
set_option linter.unusedVariables false
set_option linter.unusedSimpArgs false
attribute [local go_sem] Oper.semAt_some
def strsEq : List ByteArray → List ByteArray → Bool
 | [], [] => true
 | x :: l, y :: r => decide (x.toList = y.toList) && strsEq l r
 | _, _ => false
theorem strsEq_len : ∀ {a b : List ByteArray}, strsEq a b = true → a.length = b.length
 | [], [], _ => rfl
 | x :: l, y :: r, h => by rw [strsEq, Bool.and_eq_true] at h; rw [List.length_cons, List.length_cons, strsEq_len h.2]
 | [], _ :: _, h => by cases h
 | _ :: _, [], h => by cases h
theorem strs_loop (a b : List ByteArray) (hab : a.length = b.length) (hl : a.length ≤ 2000000) : ∀ d k i, i + d = a.length → d < k → slices_Equal_string_string.l0 k a b (a.length : Int) (i : Int) = some (strsEq (a.drop i) (b.drop i))
 | 0, k, i, h1, h3 => by
  obtain ⟨k, rfl⟩ : ∃ m, k = m + 1 := ⟨k - 1, by omega⟩
  simp only [slices_Equal_string_string.l0]
  rw [if_neg (by omega), List.drop_eq_nil_of_le (by omega), List.drop_eq_nil_of_le (by omega), strsEq]
 | d + 1, k, i, h1, h3 => by
  obtain ⟨k, rfl⟩ : ∃ m, k = m + 1 := ⟨k - 1, by omega⟩
  have hi : i < a.length := by omega
  have hw : wrap64 ((i : Int) + 1) = ((i + 1 : Nat) : Int) := by unfold wrap64; omega
  simp only [slices_Equal_string_string.l0]
  rw [if_pos (by omega), if_pos (by omega), if_pos (by omega), if_pos (by omega), rdB_at hi, rdB_at (hab ▸ hi), hw, List.drop_eq_getElem_cons hi, List.drop_eq_getElem_cons (l := b) (by omega), strsEq]
  by_cases he : a[i].toList = (b[i]'(by omega)).toList
  ·rw [if_pos he, decide_eq_true he, Bool.true_and]; exact strs_loop a b hab hl d k (i + 1) (by omega) (by omega)
  ·rw [if_neg he, decide_eq_false he, Bool.false_and]
theorem strs_f (a b : List ByteArray) (hl : a.length ≤ 2000000) : slices_Equal_string_string.f (a.length + 1) a b = some (strsEq a b) := by
 unfold slices_Equal_string_string.f
 by_cases hab : a.length = b.length
 ·rw [if_pos (by omega)]
  have := strs_loop a b hab hl a.length (a.length + 1) 0 (by omega) (by omega)
  simpa using this
 ·rw [if_neg (by omega)]
  cases hs : strsEq a b with
  | false => rfl
  | true => exact absurd (strsEq_len hs) hab
def sameP (nm : ByteArray) (fn : Bool) (ps : List ByteArray) (more : Bool) (body : List S48) (nm' : ByteArray) (fn' : Bool) (ps' : List ByteArray) (more' : Bool) (body' : List S48) : Bool :=
 rightP nm fn ps more body && (rightP nm' fn' ps' more' body' && ((nm.toList == nm'.toList) && ((fn == fn') && ((more == more') && (strsEq ps ps' && toksEq body body')))))
set_option maxRecDepth 100000 in
set_option maxHeartbeats 2000000 in
theorem same_c (nm nm' : ByteArray) (fn fn' more more' : Bool) (Ap Ab Ap' Ab' : Option Addr) (cp cb cp' cb' : Nat) (ps ps' : List ByteArray) (body body' : List S48) (w : World) (hT : Tab w) (hd : DomM nm ps body) (hd' : DomM nm' ps' body')
  (hP : Kd.C Kd.string w Ap ps.length ps) (hpc : ps.length ≤ cp) (hB : Kd.C k48 w Ab body.length body) (hbc : body.length ≤ cb)
  (hP' : Kd.C Kd.string w Ap' ps'.length ps') (hpc' : ps'.length ≤ cp') (hB' : Kd.C k48 w Ab' body'.length body') (hbc' : body'.length ≤ cb') :
  Calls Tryd.prog 18 #[.agg #[.string nm, .bool fn, .slice Ap ps.length cp, .bool more, .slice Ab body.length cb], .agg #[.string nm', .bool fn', .slice Ap' ps'.length cp', .bool more', .slice Ab' body'.length cb']] w (BoolBelow (sameP nm fn ps more body nm' fn' ps' more' body') w) := by
 obtain ⟨B, hBw⟩ : ∃ B, w.heap.size = B := ⟨_, rfl⟩
 go_enter Tryd.func18, Tryd.ntmps18
 refine wp_seq_k fun K1 hK1 => ?_
 have HK1 := Lib.hid hK1
 clear hK1
 go_wp2
 refine HK1.out _ _ ?_
 clear HK1
 obtain ⟨W0, hW0⟩ : ∃ W0, (w.alloc (.cells #[.string nm, .bool fn, .slice Ap ps.length cp, .bool more, .slice Ab body.length cb] 32)).alloc (.cells #[.string nm', .bool fn', .slice Ap' ps'.length cp', .bool more', .slice Ab' body'.length cb'] 32) = W0 := ⟨_, rfl⟩
 have hb0 : Below w.heap.size w W0 := by rw [← hW0]; exact ((Below.refl _ w).alloc (Nat.le_refl _) _).alloc (by simp) _
 have qA : W0.heap[B]? = some (.cells #[.string nm, .bool fn, .slice Ap ps.length cp, .bool more, .slice Ab body.length cb] 32 (0, 0)) := by rw [← hW0, ← hBw]; exact blk_alloc (blk_new w _) _
 have qB : W0.heap[B + 1]? = some (.cells #[.string nm', .bool fn', .slice Ap' ps'.length cp', .bool more', .slice Ab' body'.length cb'] 32 (0, 0)) := by
  have := blk_new (w.alloc (.cells #[.string nm, .bool fn, .slice Ap ps.length cp, .bool more, .slice Ab body.length cb] 32)) (.cells #[.string nm', .bool fn', .slice Ap' ps'.length cp', .bool more', .slice Ab' body'.length cb'] 32)
  rw [hW0, World.size_alloc, hBw] at this; exact this
 rw [hW0]
 try rw [hBw]
 have FA : ∀ W, Below W0.heap.size W0 W → W.heap[B]? = some (.cells #[.string nm, .bool fn, .slice Ap ps.length cp, .bool more, .slice Ab body.length cb] 32 (0, 0)) := fun W hb => (hb.block _ (blk_lt qA)).trans qA
 have FB : ∀ W, Below W0.heap.size W0 W → W.heap[B + 1]? = some (.cells #[.string nm', .bool fn', .slice Ap' ps'.length cp', .bool more', .slice Ab' body'.length cb'] 32 (0, 0)) := fun W hb => (hb.block _ (blk_lt qB)).trans qB
 have hbr : Below W0.heap.size W0 W0 := Below.refl _ _
 have c0 := blk_cell (FA W0 hbr) 0
 have c1 := blk_cell (FA W0 hbr) 1
 have c2 := blk_cell (FA W0 hbr) 2
 have c3 := blk_cell (FA W0 hbr) 3
 have c4 := blk_cell (FA W0 hbr) 4
 have d0 := blk_cell (FB W0 hbr) 0
 have d1 := blk_cell (FB W0 hbr) 1
 have d2 := blk_cell (FB W0 hbr) 2
 have d3 := blk_cell (FB W0 hbr) 3
 have d4 := blk_cell (FB W0 hbr) 4
 obtain ⟨r1, h1⟩ : ∃ r, rightP nm fn ps more body = r := ⟨_, rfl⟩
 obtain ⟨r2, h2⟩ : ∃ r, rightP nm' fn' ps' more' body' = r := ⟨_, rfl⟩
 obtain ⟨b1, e1⟩ : ∃ b, (nm.toList == nm'.toList) = b := ⟨_, rfl⟩
 obtain ⟨b2, e2⟩ : ∃ b, (fn == fn') = b := ⟨_, rfl⟩
 obtain ⟨b3, e3⟩ : ∃ b, (more == more') = b := ⟨_, rfl⟩
 obtain ⟨b4, e4⟩ : ∃ b, strsEq ps ps' = b := ⟨_, rfl⟩
 obtain ⟨b5, e5⟩ : ∃ b, toksEq body body' = b := ⟨_, rfl⟩
 have hc1 := right_c nm fn more Ap Ab cp cb ps body W0 (hT.grow hb0) hd (Kd.C_below hP hb0) hpc (Kd.C_below hB hb0) hbc
 have HC2 : Hid (∀ W : World, Below W0.heap.size W0 W → Calls Tryd.prog 16 #[.agg #[.string nm', .bool fn', .slice Ap' ps'.length cp', .bool more', .slice Ab' body'.length cb']] W (BoolBelow r2 W)) := Lib.hid fun (W : World) (hb : Below W0.heap.size W0 W) => h2 ▸ right_c nm' fn' more' Ap' Ab' cp' cb' ps' body' W (hT.grow (hb0.trans (hb.mono hb0.size))) hd' (Kd.C_below hP' (hb0.trans (hb.mono hb0.size))) hpc' (Kd.C_below hB' (hb0.trans (hb.mono hb0.size))) hbc'
 have HC3 := Lib.hid fun (W : World) (hb : Below W0.heap.size W0 W) => slices_Equal_string_string.calls _ Ap cp ps Ap' cp' ps' b4 W (Kd.C_below hP (hb0.trans (hb.mono hb0.size))) hpc (Kd.C_below hP' (hb0.trans (hb.mono hb0.size))) hpc' (by rw [← e4]; exact strs_f ps ps' hd.2.1)
 have HC4 := Lib.hid fun (W : World) (hb : Below W0.heap.size W0 W) => api_Tok_42.calls _ Ab cb body Ab' cb' body' b5 W (Kd.C_below hB (hb0.trans (hb.mono hb0.size))) hbc (Kd.C_below hB' (hb0.trans (hb.mono hb0.size))) hbc' (by rw [← e5]; exact equal_f body body' hd.2.2.1)
 have HS := Lib.hid (show sameP nm fn ps more body nm' fn' ps' more' body' = (r1 && (r2 && (b1 && (b2 && (b3 && (b4 && b5)))))) by unfold sameP; rw [h1, h2, e1, e2, e3, e4, e5])
 have H0 := Lib.hid hb0
 rw [h1] at hc1
 have HC1 := Lib.hid hc1
 clear hc1 h1 h2 e4 e5 hP hB hP' hB' hd hd' hT hW0 qA qB hb0
 have HBR := Lib.hid hbr
 clear hbr
 have ST1 : True := trivial
 go_wp2_with (first
  | (have g_ := ST1; clear g_ ST1; go_at_call 16; refine HC1.out.mono ?_; rintro e W1 ⟨rfl, hb1⟩; clear c0 c1 c2 c3 c4 d0 d1 d2 d3 d4; have c0 := blk_cell (FA W1 hb1) 0; have c1 := blk_cell (FA W1 hb1) 1; have c2 := blk_cell (FA W1 hb1) 2; have c3 := blk_cell (FA W1 hb1) 3; have c4 := blk_cell (FA W1 hb1) 4; have d0 := blk_cell (FB W1 hb1) 0; have d1 := blk_cell (FB W1 hb1) 1; have d2 := blk_cell (FB W1 hb1) 2; have d3 := blk_cell (FB W1 hb1) 3; have d4 := blk_cell (FB W1 hb1) 4; have H1 := Lib.hid hb1; clear hb1; have ST2 : True := trivial; cases r1)
  | (have g_ := ST2; clear g_ ST2; go_at_call 16; refine (HC2.out _ H1.out).mono ?_; rintro e W2 ⟨rfl, hb2⟩; have hb2' := H1.out.trans (hb2.mono H1.out.size); clear c0 c1 c2 c3 c4 d0 d1 d2 d3 d4; have c0 := blk_cell (FA W2 hb2') 0; have c1 := blk_cell (FA W2 hb2') 1; have c2 := blk_cell (FA W2 hb2') 2; have c3 := blk_cell (FA W2 hb2') 3; have c4 := blk_cell (FA W2 hb2') 4; have d0 := blk_cell (FB W2 hb2') 0; have d1 := blk_cell (FB W2 hb2') 1; have d2 := blk_cell (FB W2 hb2') 2; have d3 := blk_cell (FB W2 hb2') 3; have d4 := blk_cell (FB W2 hb2') 4; have H2 := Lib.hid hb2'; clear hb2 hb2'; have ST3 : True := trivial; cases r2 <;> cases b1 <;> cases b2 <;> cases b3)
  | (have g_ := ST3; clear g_ ST3; go_at_call 41; refine (HC3.out _ H2.out).mono ?_; rintro e W3 ⟨rfl, n3, rfl⟩; have hb3 := bl_drewN H2.out n3; clear c0 c1 c2 c3 c4 d0 d1 d2 d3 d4; have c0 := blk_cell (FA (W2.drewN n3) hb3) 0; have c1 := blk_cell (FA (W2.drewN n3) hb3) 1; have c2 := blk_cell (FA (W2.drewN n3) hb3) 2; have c3 := blk_cell (FA (W2.drewN n3) hb3) 3; have c4 := blk_cell (FA (W2.drewN n3) hb3) 4; have d0 := blk_cell (FB (W2.drewN n3) hb3) 0; have d1 := blk_cell (FB (W2.drewN n3) hb3) 1; have d2 := blk_cell (FB (W2.drewN n3) hb3) 2; have d3 := blk_cell (FB (W2.drewN n3) hb3) 3; have d4 := blk_cell (FB (W2.drewN n3) hb3) 4; have H3 := Lib.hid hb3; clear hb3; have ST4 : True := trivial; cases b4)
  | (have g_ := ST4; clear g_ ST4; go_at_call 42; refine (HC4.out _ H3.out).mono ?_; rintro e W4 ⟨rfl, n4, rfl⟩; have H4 := Lib.hid (bl_drewN H3.out n4)))
 all_goals go_ret
 all_goals
  refine ⟨by rw [HS.out]; rfl, ?_⟩
  first
   | exact H0.out.trans (H4.out.mono H0.out.size)
   | exact H0.out.trans ((bl_drewN H2.out _).mono H0.out.size)
   | exact H0.out.trans (H3.out.mono H0.out.size)
   | exact H0.out.trans (H2.out.mono H0.out.size)
   | exact H0.out.trans (H1.out.mono H0.out.size)
end Go.Proofs.YtcbfbefpbjmglaaDoor.Mac
namespace Go.Proofs.YtcbfbefpbjmglaaDoor.Mac
open Go.RowKit Go.Lib Go.Proofs.YtcbfbefpbjmglaaDoor.PA Go.Proofs.YtcbfbefpbjmglaaDoorT Go.Proofs.YtcbfbefpbjmglaaDoorW.PrintWords Go.Proofs.YtcbfbefpbjmglaaDoorW.PrintLast Go.Proofs.YtcbfbefpbjmglaaDoorW.PrintMore
set_option linter.unusedVariables false
set_option linter.unusedSimpArgs false
theorem equal_loop' (k0 : Nat) (nm nm' : ByteArray) (fn fn' more more' : Bool) (ps ps' : List ByteArray) (body body' : List S48) (hlen : ps.length = ps'.length) (hps : ps.length ≤ 1000000) (hb : body.length ≤ 1000000) (hk0 : body.length < k0) : ∀ d k i, i + d = ps.length → d + k0 + 1 ≤ k →
  burinref03_Equal.l0 k (i : Int) nm fn ps more body nm' fn' ps' more' body' = some (strsEq (ps.drop i) (ps'.drop i) && toksEq body body')
 | 0, k, i, h1, h3 => by
  obtain ⟨k, rfl⟩ : ∃ m, k = m + 1 := ⟨k - 1, by omega⟩
  simp only [burinref03_Equal.l0]
  rw [if_neg (by omega), same_f k _ _ hb (by omega), Option.bind_some, List.drop_eq_nil_of_le (by omega), List.drop_eq_nil_of_le (by omega)]
  rfl
 | d + 1, k, i, h1, h3 => by
  obtain ⟨k, rfl⟩ : ∃ m, k = m + 1 := ⟨k - 1, by omega⟩
  have hi : i < ps.length := by omega
  have hw : wrap64 ((i : Int) + 1) = ((i + 1 : Nat) : Int) := by unfold wrap64; omega
  simp only [burinref03_Equal.l0]
  rw [if_pos (by omega), if_pos (by omega), if_pos (by omega), rdB_at hi, rdB_at (hlen ▸ hi), hw, List.drop_eq_getElem_cons hi, List.drop_eq_getElem_cons (l := ps') (by omega), strsEq]
  by_cases he : ps[i].toList = (ps'[i]'(by omega)).toList
  ·rw [if_pos he, decide_eq_true he, Bool.true_and]
   exact equal_loop' k0 nm nm' fn fn' more more' ps ps' body body' hlen hps hb hk0 d k (i + 1) (by omega) (by omega)
  ·rw [if_neg he, decide_eq_false he]; rfl
theorem requal_f (k : Nat) (nm nm' : ByteArray) (fn fn' more more' : Bool) (ps ps' : List ByteArray) (body body' : List S48) (hps : ps.length ≤ 1000000) (hb : body.length ≤ 1000000) (hk : ps.length + body.length + 4 ≤ k) :
  burinref03_Equal.f k nm fn ps more body nm' fn' ps' more' body' = some (decide (nm.toList = nm'.toList) && (fn == fn' && (more == more' && (strsEq ps ps' && toksEq body body')))) := by
 obtain ⟨k, rfl⟩ : ∃ m, k = m + 1 := ⟨k - 1, by omega⟩
 have j0t : burinref03_Equal.j0 (k + 1) true nm fn ps more body nm' fn' ps' more' body' = some false := by simp only [burinref03_Equal.j0]; rfl
 unfold burinref03_Equal.f
 by_cases h1 : nm.toList = nm'.toList
 ·rw [if_pos h1, decide_eq_true h1, Bool.true_and]
  have key : burinref03_Equal.j0 (k + 1) ((ps.length : Int) != (ps'.length : Int)) nm fn ps more body nm' fn' ps' more' body' = some (strsEq ps ps' && toksEq body body') := by
   simp only [burinref03_Equal.j0]
   by_cases hl : ps.length = ps'.length
   ·rw [if_neg (by rw [hl]; simp)]
    have := equal_loop' (body.length + 1) nm nm' fn fn' more more' ps ps' body body' hl hps hb (by omega) ps.length k 0 (by omega) (by omega)
    simpa using this
   ·rw [if_pos (by rw [bne_iff_ne]; omega)]
    have : strsEq ps ps' = false := by
     cases hs : strsEq ps ps' with
     | false => rfl
     | true => exact absurd (strsEq_len hs) hl
    rw [this]; rfl
  cases fn <;> cases fn' <;> cases more <;> cases more' <;> first
   | (rw [if_pos (by decide), j0t]; rfl)
   | (rw [if_neg (by decide), if_pos (by decide), j0t]; rfl)
   | (rw [if_neg (by decide), if_neg (by decide), key]; rfl)
 ·rw [if_neg h1, j0t, decide_eq_false h1]; rfl
end Go.Proofs.YtcbfbefpbjmglaaDoor.Mac
namespace Go.Proofs.YtcbfbefpbjmglaaDoor.Mac
open Go.RowKit Go.Lib Go.Proofs.MapFun Go.Proofs.YtcbfbefpbjmglaaDoor.PA Go.Proofs.YtcbfbefpbjmglaaDoorT Go.Proofs.YtcbfbefpbjmglaaDoorW.PrintWords Go.Proofs.YtcbfbefpbjmglaaDoorW.PrintLast Go.Proofs.YtcbfbefpbjmglaaDoorW.PrintMore
set_option linter.unusedVariables false
set_option linter.unusedSimpArgs false
attribute [local go_sem] Oper.semAt_some
theorem rightP_len {nm : ByteArray} {fn more : Bool} {ps : List ByteArray} {body : List S48} (h : rightP nm fn ps more body = true) : ps.length ≤ 16 ∧ body.length ≤ 500 := by
 unfold rightP isBodyP at h
 simp only [Bool.and_eq_true, decide_eq_true_eq] at h
 exact ⟨h.2.2.1, h.2.2.2.2.2.1⟩
set_option maxRecDepth 100000 in
set_option maxHeartbeats 2000000 in
theorem rsame_c (nm nm' : ByteArray) (fn fn' more more' : Bool) (Ap Ab Ap' Ab' : Option Addr) (cp cb cp' cb' : Nat) (ps ps' : List ByteArray) (body body' : List S48) (w : World) (hd : DomM nm ps body) (hd' : DomM nm' ps' body')
  (hP : Kd.C Kd.string w Ap ps.length ps) (hpc : ps.length ≤ cp) (hB : Kd.C k48 w Ab body.length body) (hbc : body.length ≤ cb)
  (hP' : Kd.C Kd.string w Ap' ps'.length ps') (hpc' : ps'.length ≤ cp') (hB' : Kd.C k48 w Ab' body'.length body') (hbc' : body'.length ≤ cb') :
  Calls Tryd.prog 19 #[.agg #[.string nm, .bool fn, .slice Ap ps.length cp, .bool more, .slice Ab body.length cb], .agg #[.string nm', .bool fn', .slice Ap' ps'.length cp', .bool more', .slice Ab' body'.length cb']] w (BoolBelow (sameP nm fn ps more body nm' fn' ps' more' body') w) := by
 obtain ⟨B, hBw⟩ : ∃ B, w.heap.size = B := ⟨_, rfl⟩
 go_enter Tryd.func19, Tryd.ntmps19
 refine wp_seq_k fun K1 hK1 => ?_
 have HK1 := Lib.hid hK1
 clear hK1
 go_wp2
 refine HK1.out _ _ ?_
 clear HK1
 obtain ⟨W0, hW0⟩ : ∃ W0, (w.alloc (.cells #[.string nm, .bool fn, .slice Ap ps.length cp, .bool more, .slice Ab body.length cb] 32)).alloc (.cells #[.string nm', .bool fn', .slice Ap' ps'.length cp', .bool more', .slice Ab' body'.length cb'] 32) = W0 := ⟨_, rfl⟩
 have hb0 : Below w.heap.size w W0 := by rw [← hW0]; exact ((Below.refl _ w).alloc (Nat.le_refl _) _).alloc (by simp) _
 have qA : W0.heap[B]? = some (.cells #[.string nm, .bool fn, .slice Ap ps.length cp, .bool more, .slice Ab body.length cb] 32 (0, 0)) := by rw [← hW0, ← hBw]; exact blk_alloc (blk_new w _) _
 have qB : W0.heap[B + 1]? = some (.cells #[.string nm', .bool fn', .slice Ap' ps'.length cp', .bool more', .slice Ab' body'.length cb'] 32 (0, 0)) := by
  have := blk_new (w.alloc (.cells #[.string nm, .bool fn, .slice Ap ps.length cp, .bool more, .slice Ab body.length cb] 32)) (.cells #[.string nm', .bool fn', .slice Ap' ps'.length cp', .bool more', .slice Ab' body'.length cb'] 32)
  rw [hW0, World.size_alloc, hBw] at this; exact this
 rw [hW0]
 try rw [hBw]
 have FA : ∀ W, Below W0.heap.size W0 W → W.heap[B]? = some (.cells #[.string nm, .bool fn, .slice Ap ps.length cp, .bool more, .slice Ab body.length cb] 32 (0, 0)) := fun W hb => (hb.block _ (blk_lt qA)).trans qA
 have FB : ∀ W, Below W0.heap.size W0 W → W.heap[B + 1]? = some (.cells #[.string nm', .bool fn', .slice Ap' ps'.length cp', .bool more', .slice Ab' body'.length cb'] 32 (0, 0)) := fun W hb => (hb.block _ (blk_lt qB)).trans qB
 have hbr : Below W0.heap.size W0 W0 := Below.refl _ _
 have c0 := blk_cell (FA W0 hbr) 0
 have c1 := blk_cell (FA W0 hbr) 1
 have c2 := blk_cell (FA W0 hbr) 2
 have c3 := blk_cell (FA W0 hbr) 3
 have c4 := blk_cell (FA W0 hbr) 4
 have d0 := blk_cell (FB W0 hbr) 0
 have d1 := blk_cell (FB W0 hbr) 1
 have d2 := blk_cell (FB W0 hbr) 2
 have d3 := blk_cell (FB W0 hbr) 3
 have d4 := blk_cell (FB W0 hbr) 4
 obtain ⟨r1, h1⟩ : ∃ r, rightP nm fn ps more body = r := ⟨_, rfl⟩
 obtain ⟨r2, h2⟩ : ∃ r, rightP nm' fn' ps' more' body' = r := ⟨_, rfl⟩
 have hc1 := rright_c nm fn more Ap Ab cp cb ps body W0 hd (Kd.C_below hP hb0) hpc (Kd.C_below hB hb0) hbc
 have HC2 : Hid (∀ W : World, Below W0.heap.size W0 W → Calls Tryd.prog 17 #[.agg #[.string nm', .bool fn', .slice Ap' ps'.length cp', .bool more', .slice Ab' body'.length cb']] W (BoolBelow r2 W)) := Lib.hid fun (W : World) (hb : Below W0.heap.size W0 W) => h2 ▸ rright_c nm' fn' more' Ap' Ab' cp' cb' ps' body' W hd' (Kd.C_below hP' (hb0.trans (hb.mono hb0.size))) hpc' (Kd.C_below hB' (hb0.trans (hb.mono hb0.size))) hbc'
 obtain ⟨b, hb⟩ : ∃ b, ((nm.toList == nm'.toList) && ((fn == fn') && ((more == more') && (strsEq ps ps' && toksEq body body')))) = b := ⟨_, rfl⟩
 have HS := Lib.hid (show sameP nm fn ps more body nm' fn' ps' more' body' = (r1 && (r2 && b)) by unfold sameP; rw [h1, h2, hb])
 have HC3 : Hid (r1 = true → r2 = true → ∀ (W : World), Below W0.heap.size W0 W → Calls Tryd.prog 13 #[.agg #[.string nm, .bool fn, .slice Ap ps.length cp, .bool more, .slice Ab body.length cb], .agg #[.string nm', .bool fn', .slice Ap' ps'.length cp', .bool more', .slice Ab' body'.length cb']] W (BoolBelow b W)) := Lib.hid fun hr1 hr2 W hw => by
  have p1 := rightP_len (h1.trans hr1)
  refine burinref03_Equal.calls 3000000 nm fn Ap cp ps more Ab cb body nm' fn' Ap' cp' ps' more' Ab' cb' body' b W (Kd.C_below hP (hb0.trans (hw.mono hb0.size))) hpc (Kd.C_below hB (hb0.trans (hw.mono hb0.size))) hbc (Kd.C_below hP' (hb0.trans (hw.mono hb0.size))) hpc' (Kd.C_below hB' (hb0.trans (hw.mono hb0.size))) hbc' ?_
  rw [requal_f _ _ _ _ _ _ _ _ _ _ _ (by omega) (by omega) (by omega), ← hb, show decide (nm.toList = nm'.toList) = (nm.toList == nm'.toList) by rw [Bool.eq_iff_iff]; simp]
 have H0 := Lib.hid hb0
 rw [h1] at hc1
 have HC1 := Lib.hid hc1
 clear hc1 h1 h2 hb hP hB hP' hB' hd hd' hW0 qA qB hb0
 have HBR := Lib.hid hbr
 clear hbr
 have ST1 : True := trivial
 go_wp2_with (first
  | (have g_ := ST1; clear g_ ST1; go_at_call 17; refine HC1.out.mono ?_; rintro e W1 ⟨rfl, hb1⟩; clear c0 c1 c2 c3 c4 d0 d1 d2 d3 d4; have c0 := blk_cell (FA W1 hb1) 0; have c1 := blk_cell (FA W1 hb1) 1; have c2 := blk_cell (FA W1 hb1) 2; have c3 := blk_cell (FA W1 hb1) 3; have c4 := blk_cell (FA W1 hb1) 4; have d0 := blk_cell (FB W1 hb1) 0; have d1 := blk_cell (FB W1 hb1) 1; have d2 := blk_cell (FB W1 hb1) 2; have d3 := blk_cell (FB W1 hb1) 3; have d4 := blk_cell (FB W1 hb1) 4; have H1 := Lib.hid hb1; clear hb1; have ST2 : True := trivial; cases r1)
  | (have g_ := ST2; clear g_ ST2; go_at_call 17; refine (HC2.out _ H1.out).mono ?_; rintro e W2 ⟨rfl, hb2⟩; have hb2' := H1.out.trans (hb2.mono H1.out.size); clear c0 c1 c2 c3 c4 d0 d1 d2 d3 d4; have c0 := blk_cell (FA W2 hb2') 0; have c1 := blk_cell (FA W2 hb2') 1; have c2 := blk_cell (FA W2 hb2') 2; have c3 := blk_cell (FA W2 hb2') 3; have c4 := blk_cell (FA W2 hb2') 4; have d0 := blk_cell (FB W2 hb2') 0; have d1 := blk_cell (FB W2 hb2') 1; have d2 := blk_cell (FB W2 hb2') 2; have d3 := blk_cell (FB W2 hb2') 3; have d4 := blk_cell (FB W2 hb2') 4; have H2 := Lib.hid hb2'; clear hb2 hb2'; have ST3 : True := trivial; cases r2)
  | (have g_ := ST3; clear g_ ST3; go_at_call 13; refine (HC3.out (by trivial) (by trivial) _ H2.out).mono ?_; rintro e W3 ⟨rfl, hb3⟩; have H3 := Lib.hid (H2.out.trans (hb3.mono H2.out.size)); clear hb3))
 all_goals go_ret
 all_goals
  refine ⟨by rw [HS.out]; rfl, ?_⟩
  first
   | exact H0.out.trans (H3.out.mono H0.out.size)
   | exact H0.out.trans (H2.out.mono H0.out.size)
   | exact H0.out.trans (H1.out.mono H0.out.size)
end Go.Proofs.YtcbfbefpbjmglaaDoor.Mac
namespace Go.Proofs.YtcbfbefpbjmglaaDoor.PA
open Go.RowKit Go.Proofs.YtcbfbefpbjmglaaDoor.Mac Go.Proofs.YtcbfbefpbjmglaaDoorT Go.Proofs.YtcbfbefpbjmglaaDoorW.PrintWords Go.Proofs.YtcbfbefpbjmglaaDoorW.PrintLast Go.Proofs.YtcbfbefpbjmglaaDoorW.PrintMore
set_option linter.unusedVariables false
set_option linter.unusedSimpArgs false
end Go.Proofs.YtcbfbefpbjmglaaDoor.PA
namespace Go.Proofs.YtcbfbefpbjmglaaDoor.Mac
open Go.RowKit Go.Lib Go.Proofs.YtcbfbefpbjmglaaDoor.PA Go.Proofs.YtcbfbefpbjmglaaDoorT Go.Proofs.YtcbfbefpbjmglaaDoorW.PrintWords Go.Proofs.YtcbfbefpbjmglaaDoorW.PrintLast Go.Proofs.YtcbfbefpbjmglaaDoorW.PrintMore
set_option linter.unusedVariables false
set_option linter.unusedSimpArgs false
theorem join_two (x y sep : List UInt8) (r : List (List UInt8)) : Lib.join (x :: y :: r) sep = x ++ (sep ++ Lib.join (y :: r) sep) := by
 rw [Lib.join_cons, Lib.join_cons]
 unfold Lib.joinTail
 simp
end Go.Proofs.YtcbfbefpbjmglaaDoor.Mac
namespace Go.Proofs.YtcbfbefpbjmglaaDoor.Mac
open Go.RowKit Go.Lib Go.Proofs.YtcbfbefpbjmglaaDoor.PA Go.Proofs.YtcbfbefpbjmglaaDoorT Go.Proofs.YtcbfbefpbjmglaaDoorW.PrintWords Go.Proofs.YtcbfbefpbjmglaaDoorW.PrintLast Go.Proofs.YtcbfbefpbjmglaaDoorW.PrintMore
set_option linter.unusedVariables false
set_option linter.unusedSimpArgs false
def dotsA : ByteArray := ⟨#[46, 46, 46]⟩
def showP (nm : ByteArray) (fn : Bool) (ps : List ByteArray) (more : Bool) (body : List S48) : ByteArray :=
 (if fn then nm ++ (((⟨#[40]⟩ : ByteArray) ++ joinB (ps ++ (if more then [dotsA] else [])) (⟨#[44, 32]⟩ : ByteArray)) ++ (⟨#[41]⟩ : ByteArray)) else nm) ++ (if 0 < body.length then (⟨#[32]⟩ : ByteArray) ++ spellB body else ⟨#[]⟩)
theorem rightP_parts {nm : ByteArray} {fn more : Bool} {ps : List ByteArray} {body : List S48} (h : rightP nm fn ps more body = true) : isNameP nm = true ∧ ps.length ≤ 16 ∧ (fn = false → ps = [] ∧ more = false) ∧ goodParams [] ps = true ∧ body.length ≤ 500 ∧ speltP body = true := by
 unfold rightP isBodyP at h
 simp only [Bool.and_eq_true, decide_eq_true_eq] at h
 obtain ⟨h1, h2, h3, h4, h5, h6, h7, h8, h9, h10⟩ := h
 refine ⟨h1, h3, fun hf => ?_, h5, h6, ?_⟩
 ·subst hf
  cases more with
  | true => simp at h4
  | false =>
   refine ⟨?_, rfl⟩
   cases ps with
   | nil => rfl
   | cons a b => simp at h4
 ·unfold speltP
  rw [h7, decide_eq_true h8, h9]; rfl
end Go.Proofs.YtcbfbefpbjmglaaDoor.Mac
namespace Go.Proofs.YtcbfbefpbjmglaaDoor.Mac
open Go.ChangeShapes Go.WideShapes Go.ChangeAt Go.RowKit Go.Proofs.YtcbfbefpbjmglaaDoor.PA Go.Proofs.YtcbfbefpbjmglaaDoorT Go.Proofs.YtcbfbefpbjmglaaDoorW.PrintWords
set_option linter.unusedVariables false
set_option linter.unusedSimpArgs false
theorem bulk_mem {H : Type} {d : DataW H} : ∀ {l : List (DataW H)}, d ∈ l → Rows.uptoBulk d ≤ Rows.uptoBulkAll l := by
 intro l
 induction l with
 | nil => intro h; cases h
 | cons x l ih =>
  intro h
  rw [Rows.uptoBulkAll]
  rcases List.mem_cons.1 h with rfl | h
  ·omega
  ·have := ih h; omega
theorem bulk_len {H : Type} : ∀ {l : List (DataW H)}, (∀ d ∈ l, 1 ≤ Rows.uptoBulk d) → l.length ≤ Rows.uptoBulkAll l := by
 intro l
 induction l with
 | nil => intro _; exact Nat.zero_le _
 | cons x l ih =>
  intro h
  rw [Rows.uptoBulkAll, List.length_cons]
  have := h x (by simp)
  have := ih (fun d hd => h d (by simp [hd]))
  omega
theorem bulk_len2 {H : Type} : ∀ {l : List (DataW H)}, (∀ d ∈ l, 2 ≤ Rows.uptoBulk d) → 2 * l.length ≤ Rows.uptoBulkAll l := by
 intro l
 induction l with
 | nil => intro _; exact Nat.zero_le _
 | cons x l ih =>
  intro h
  rw [Rows.uptoBulkAll, List.length_cons]
  have := h x (by simp)
  have := ih (fun d hd => h d (by simp [hd]))
  omega
set_option maxRecDepth 20000 in
theorem openedT {H : Type} {enc : TypeId × Value → H} {W : World} {a : Option Addr} {len cap : Nat} {x : DataW H × List MemPlace}
  (h : ∃ n, DataW.trod enc Tryd.prog W 0 (fun _ => true) true n 23 (Value.slice a len cap).cells.toList = some x) :
  ∃ l : List S48, l.length = len ∧ len ≤ cap ∧ Kd.C k48 W a len l ∧ (∀ y ∈ l, y.f1.size ≤ Rows.uptoBulk x.1) ∧ 2 * l.length ≤ Rows.uptoBulk x.1 := by
 obtain ⟨fuel, hf⟩ := h
 have ce : Tryd.prog.cellsOf 48 = 6 := by kernel_rfl
 have c3 : Tryd.prog.cellsOf 3 = 1 := by kernel_rfl
 have c9 : Tryd.prog.cellsOf 9 = 1 := by kernel_rfl
 have c4 : Tryd.prog.cellsOf 4 = 1 := by kernel_rfl
 rcases Deep.open_slice Tryd.underlying23 hf with ⟨hcs, _⟩ | ⟨ad, l, c, m, n, D, Pl, hcs, _, hl, hm, hmm, hxe, hx⟩
 ·simp [Value.cells] at hcs
  obtain ⟨rfl, rfl, rfl⟩ := hcs
  exact ⟨[], rfl, Nat.le_refl _, ⟨rfl, by omega, fun h => absurd h (by omega)⟩, (fun y hy => by cases hy), Nat.zero_le _⟩
 ·simp [Value.cells] at hcs
  obtain ⟨rfl, rfl, rfl⟩ := hcs
  have hml : len ≤ m := by rw [hmm]; split <;> omega
  have hmax : cap ≤ 9223372036854775807 := hm
  have hbulk : Rows.uptoBulk x.1 = Rows.uptoBulkAll ((List.range len).map D) + Rows.uptoBulkAll ((List.range (m - len)).map fun j => D (len + j)) + 1 := by
   rw [hxe]; rfl
  have each : ∀ i, i < len → ∃ y : S48, (∀ j u, ([.int .i64 y.f0, .string y.f1, .string y.f2, .int .i64 y.f3, .bool y.f4, .bool y.f5] : List Value)[j]? = some u → W.cell? (ad.add (i * 6 + j)) = some u) ∧ y.f1.size ≤ Rows.uptoBulk x.1 ∧ 2 ≤ Rows.uptoBulk (D i) := fun i hi => by
   obtain ⟨cs', h1, h2⟩ := hx i (by omega)
   rw [ce] at h1
   obtain ⟨_, hlen, hcell⟩ := World.cells?_some h1
   obtain ⟨xs, k, hk, hxy, _, hxl, hff⟩ := DataW.trod_struct Tryd.underlying48 h2
   have hxl : xs.length = 6 := hxl
   match xs, hxl, cs', hlen with
   | [y0, y1, y2, y3, y4, y5], _, [v0, v1, v2, v3, v4, v5], _ =>
    have g0 := hff 0 _ rfl
    have g1 := hff 1 _ rfl
    have g2 := hff 2 _ rfl
    have g3 := hff 3 _ rfl
    have g4 := hff 4 _ rfl
    have g5 := hff 5 _ rfl
    simp [c3, c9, c4] at g0 g1 g2 g3 g4 g5
    obtain ⟨n0, e0, _, _⟩ := DataW.trod_int Tryd.underlying3 g0
    obtain ⟨s1, e1, e1', _⟩ := DataW.trod_string Tryd.underlying9 g1
    obtain ⟨s2, e2, _, _⟩ := DataW.trod_string Tryd.underlying9 g2
    obtain ⟨n3, e3, _, _⟩ := DataW.trod_int Tryd.underlying3 g3
    obtain ⟨b4, e4, _⟩ := DataW.trod_bool Tryd.underlying4 g4
    obtain ⟨b5, e5, _⟩ := DataW.trod_bool Tryd.underlying4 g5
    have e0 : v0 = .int .i64 n0 := by simpa using e0
    have e1 : v1 = .string s1 := by simpa using e1
    have e2 : v2 = .string s2 := by simpa using e2
    have e3 : v3 = .int .i64 n3 := by simpa using e3
    have e4 : v4 = .bool b4 := by simpa using e4
    have e5 : v5 = .bool b5 := by simpa using e5
    subst e0 e1 e2 e3 e4 e5
    have hD : D i = .agg [y0.1, y1.1, y2.1, y3.1, y4.1, y5.1] := by simpa using congrArg Prod.fst hxy
    have hb2 : Rows.uptoBulk (D i) = Rows.uptoBulk y0.1 + (Rows.uptoBulk y1.1 + (Rows.uptoBulk y2.1 + (Rows.uptoBulk y3.1 + (Rows.uptoBulk y4.1 + (Rows.uptoBulk y5.1 + 0))))) + 1 := by rw [hD]; rfl
    have hb7 : Rows.uptoBulk y1.1 = s1.data.toList.length + 1 := by rw [e1']; rfl
    refine ⟨⟨n0, s1, s2, n3, b4, b5⟩, fun j u hu => ?_, ?_, by omega⟩
    ·have hj : j < 6 := by have := (List.getElem?_eq_some_iff.1 hu).1; simpa using this
     have ec := hcell j hj
     rw [Deep.add_add] at ec
     rw [ec]
     exact hu
    ·have hmem : D i ∈ (List.range len).map D := List.mem_map.2 ⟨i, List.mem_range.2 hi, rfl⟩
     have hb := bulk_mem hmem
     have hb3 : Rows.uptoBulk y1.1 = s1.data.toList.length + 1 := by rw [e1']; rfl
     have hs := Lib.size_eq s1
     show s1.size ≤ _
     omega
  obtain ⟨f, hf'⟩ := Deep.choose_lt each
  refine ⟨(List.range len).map f, by simp, hl, ⟨by simp, by omega, fun hp => ⟨ad, rfl, fun j p hj => ?_⟩⟩, fun y hy => ?_, ?_⟩
  ·have hj' : j < len := by
    have := (List.getElem?_eq_some_iff.1 hj).1
    simpa using this
   have hp' : f j = p := by simpa [hj'] using hj
   obtain ⟨g0, _⟩ := hf' j hj'
   rw [hp'] at g0
   exact ⟨[.int .i64 p.f0, .string p.f1, .string p.f2, .int .i64 p.f3, .bool p.f4, .bool p.f5], rfl, k48_mk W p, fun i u hu => g0 i u hu⟩
  ·obtain ⟨j, hj, rfl⟩ := List.mem_map.1 hy
   exact (hf' j (List.mem_range.1 hj)).2.1
  ·have := bulk_len2 (H := H) (l := (List.range len).map D) (fun d hd => by
    obtain ⟨i, hi, rfl⟩ := List.mem_map.1 hd
    exact (hf' i (List.mem_range.1 hi)).2.2)
   rw [List.length_map, List.length_range] at this ⊢
   omega
set_option maxRecDepth 20000 in
theorem openedS {H : Type} {enc : TypeId × Value → H} {W : World} {a : Option Addr} {len cap : Nat} {x : DataW H × List MemPlace}
  (h : ∃ n, DataW.trod enc Tryd.prog W 0 (fun _ => true) true n 30 (Value.slice a len cap).cells.toList = some x) :
  ∃ l : List ByteArray, l.length = len ∧ len ≤ cap ∧ Kd.C Kd.string W a len l ∧ (∀ y ∈ l, y.size ≤ Rows.uptoBulk x.1) ∧ l.length ≤ Rows.uptoBulk x.1 := by
 obtain ⟨fuel, hf⟩ := h
 have c9 : Tryd.prog.cellsOf 9 = 1 := by kernel_rfl
 rcases Deep.open_slice Tryd.underlying30 hf with ⟨hcs, _⟩ | ⟨ad, l, c, m, n, D, Pl, hcs, _, hl, hm, hmm, hxe, hx⟩
 ·simp [Value.cells] at hcs
  obtain ⟨rfl, rfl, rfl⟩ := hcs
  exact ⟨[], rfl, Nat.le_refl _, ⟨rfl, by omega, fun h => absurd h (by omega)⟩, (fun y hy => by cases hy), Nat.zero_le _⟩
 ·simp [Value.cells] at hcs
  obtain ⟨rfl, rfl, rfl⟩ := hcs
  have hml : len ≤ m := by rw [hmm]; split <;> omega
  have hmax : cap ≤ 9223372036854775807 := hm
  have hbulk : Rows.uptoBulk x.1 = Rows.uptoBulkAll ((List.range len).map D) + Rows.uptoBulkAll ((List.range (m - len)).map fun j => D (len + j)) + 1 := by
   rw [hxe]; rfl
  have each : ∀ i, i < len → ∃ y : ByteArray, W.cell? (ad.add (i * 1 + 0)) = some (.string y) ∧ y.size + 1 ≤ Rows.uptoBulk (D i) := fun i hi => by
   obtain ⟨cs', h1, h2⟩ := hx i (by omega)
   rw [c9] at h1
   obtain ⟨_, hlen, hcell⟩ := World.cells?_some h1
   match cs', hlen with
   | [v0], _ =>
    obtain ⟨s1, e1, e1', _⟩ := DataW.trod_string Tryd.underlying9 h2
    have e1 : v0 = .string s1 := by simpa using e1
    subst e1
    refine ⟨s1, ?_, ?_⟩
    ·have ec := hcell 0 (by omega)
     rw [Deep.add_add] at ec
     rw [ec]
     rfl
    ·have hD : D i = .lit (.string s1.data.toList) := by simpa using congrArg Prod.fst e1'
     have hb3 : Rows.uptoBulk (D i) = s1.data.toList.length + 1 := by rw [hD]; rfl
     have hs := Lib.size_eq s1
     omega
  obtain ⟨f, hf'⟩ := Deep.choose_lt each
  refine ⟨(List.range len).map f, by simp, hl, ⟨by simp, by omega, fun hp => ⟨ad, rfl, fun j p hj => ?_⟩⟩, fun y hy => ?_, ?_⟩
  ·have hj' : j < len := by
    have := (List.getElem?_eq_some_iff.1 hj).1
    simpa using this
   have hp' : f j = p := by simpa [hj'] using hj
   obtain ⟨g0, _⟩ := hf' j hj'
   rw [hp'] at g0
   refine ⟨[.string p], rfl, rfl, fun i u hu => ?_⟩
   match i, hu with
   | 0, hu => simp at hu; subst hu; exact g0
  ·obtain ⟨j, hj, rfl⟩ := List.mem_map.1 hy
   have h1 := (hf' j (List.mem_range.1 hj)).2
   have hmem : D j ∈ (List.range len).map D := List.mem_map.2 ⟨j, hj, rfl⟩
   have hb := bulk_mem hmem
   omega
  ·have := bulk_len (H := H) (l := (List.range len).map D) (fun d hd => by
    obtain ⟨i, hi, rfl⟩ := List.mem_map.1 hd
    have := (hf' i (List.mem_range.1 hi)).2
    omega)
   rw [List.length_map, List.length_range] at this ⊢
   omega
set_option maxRecDepth 20000 in
theorem openedM {H : Type} {enc : TypeId × Value → H} {W : World} {base : Nat} {v : Value} {d : DataW H} {p : List MemPlace} (hv : Value.okWide Tryd.prog W .any base 32 v)
  (h : DataW.Trod enc Tryd.prog W 0 (fun _ => true) true 32 v d p) (hb : Rows.uptoBulk d ≤ 1048576) :
  ∃ (nm : ByteArray) (fn more : Bool) (Ap Ab : Option Addr) (cp cb : Nat) (ps : List ByteArray) (body : List S48), v = .agg #[.string nm, .bool fn, .slice Ap ps.length cp, .bool more, .slice Ab body.length cb] ∧
   Kd.C Kd.string W Ap ps.length ps ∧ ps.length ≤ cp ∧ Kd.C k48 W Ab body.length body ∧ body.length ≤ cb ∧ nm.size ≤ 1048576 ∧ ps.length ≤ 2000000 ∧ body.length ≤ 1000000 ∧ (∀ x ∈ ps, x.size ≤ 1048576) ∧ ∀ x ∈ body, x.f1.size ≤ 1048576 := by
 have c9 : Tryd.prog.cellsOf 9 = 1 := by kernel_rfl
 have c4 : Tryd.prog.cellsOf 4 = 1 := by kernel_rfl
 have c30 : Tryd.prog.cellsOf 30 = 1 := by kernel_rfl
 have c23 : Tryd.prog.cellsOf 23 = 1 := by kernel_rfl
 obtain ⟨cs, rfl, hsz⟩ := okWide_struct Tryd.underlying32 hv
 have hsz : cs.size = 5 := hsz.trans (by kernel_rfl)
 match cs, hsz with
 | ⟨[v0, v1, v2, v3, v4]⟩, _ =>
  obtain ⟨fuel, hf⟩ := h
  obtain ⟨xs, k, hk, hxy, hlen, hxl, hff⟩ := DataW.trod_struct Tryd.underlying32 hf
  have hxl : xs.length = 5 := hxl
  match xs, hxl with
  | [y0, y1, y2, y3, y4], _ =>
   have g0 := hff 0 _ rfl
   have g1 := hff 1 _ rfl
   have g2 := hff 2 _ rfl
   have g3 := hff 3 _ rfl
   have g4 := hff 4 _ rfl
   simp [Value.cells, c9, c4, c30, c23] at g0 g1 g2 g3 g4
   obtain ⟨s0, e0, e0', _⟩ := DataW.trod_string Tryd.underlying9 g0
   obtain ⟨b1, e1, _⟩ := DataW.trod_bool Tryd.underlying4 g1
   obtain ⟨b3, e3, _⟩ := DataW.trod_bool Tryd.underlying4 g3
   have e0 : v0 = .string s0 := by simpa using e0
   have e1 : v1 = .bool b1 := by simpa using e1
   have e3 : v3 = .bool b3 := by simpa using e3
   have e2 : ∃ a n c, v2 = .slice a n c := by
    rcases Deep.open_slice Tryd.underlying30 g2 with ⟨hcs, _⟩ | ⟨ad, l, c, m, n, D, Pl, hcs, _⟩
    ·exact ⟨_, _, _, by simpa using hcs⟩
    ·exact ⟨_, _, _, by simpa using hcs⟩
   have e4 : ∃ a n c, v4 = .slice a n c := by
    rcases Deep.open_slice Tryd.underlying23 g4 with ⟨hcs, _⟩ | ⟨ad, l, c, m, n, D, Pl, hcs, _⟩
    ·exact ⟨_, _, _, by simpa using hcs⟩
    ·exact ⟨_, _, _, by simpa using hcs⟩
   obtain ⟨Ap, np, cp, e2⟩ := e2
   obtain ⟨Ab, nb, cb, e4⟩ := e4
   subst e0 e1 e2 e3 e4
   obtain ⟨ps, hl2, hc2, hC2, hs2, hn2⟩ := openedS (x := y2) ⟨k, g2⟩
   obtain ⟨body, hl4, hc4, hC4, hs4, hn4⟩ := openedT (x := y4) ⟨k, g4⟩
   subst hl2 hl4
   have hD : d = .agg [y0.1, y1.1, y2.1, y3.1, y4.1] := by simpa using congrArg Prod.fst hxy
   have hb2 : Rows.uptoBulk d = Rows.uptoBulk y0.1 + (Rows.uptoBulk y1.1 + (Rows.uptoBulk y2.1 + (Rows.uptoBulk y3.1 + (Rows.uptoBulk y4.1 + 0)))) + 1 := by rw [hD]; rfl
   have hb0 : Rows.uptoBulk y0.1 = s0.data.toList.length + 1 := by rw [e0']; rfl
   have hs0 := Lib.size_eq s0
   refine ⟨s0, b1, b3, Ap, Ab, cp, cb, ps, body, rfl, hC2, hc2, hC4, hc4, by omega, by omega, by omega, fun x hx => ?_, fun x hx => ?_⟩
   ·have := hs2 x hx; omega
   ·have := hs4 x hx; omega
end Go.Proofs.YtcbfbefpbjmglaaDoor.Mac
namespace Go.Proofs.LaidStrs
open Go.Lib
def strData {H : Type} (ss : List (List UInt8)) : DataW H := .agg (ss.map fun s => .lit (.string s))
def StrsIs (P : Program) (w : World) (name : String) (ss : List (List UInt8)) : Prop := w.var? P name = some (ss.map fun s => Value.string ⟨s.toArray⟩).toArray
theorem cells_of_strs {H : Type} {enc : TypeId × Value → H} {P : Program} {w : World} {base : Nat} {sp : Nat → Bool} {held : Bool} {fuel : Nat} {t e : TypeId} {n : Nat} {cs : List Value} {ss : List (List UInt8)} {p : List MemPlace}
  (ht : P.underlying t = some (.array n e)) (he : P.underlying e = some .string) (hce : P.cellsOf e = 1) (hct : P.cellsOf t = n)
  (h : DataW.trod enc P w base sp held fuel t cs = some (strData ss, p)) : cs = ss.map fun s => Value.string ⟨s.toArray⟩ := by
 cases fuel with
 | zero => simp [DataW.trod] at h
 | succ fuel =>
  simp only [DataW.trod, ht, hce, hct, Nat.mul_one] at h
  split at h
  ·rename_i hl
   obtain ⟨xs, hm, hx⟩ := Option.map_eq_some_iff.1 h
   have hxs : xs.map (·.1) = ss.map fun s => (DataW.lit (.string s) : DataW H) := by
    have := congrArg Prod.fst hx
    simpa [strData] using this
   have hxl : xs.length = n := by simpa using mapM_length hm
   have hzl : ss.length = n := by
    have := congrArg List.length hxs
    simp at this
    omega
   apply List.ext_getElem?
   intro i
   by_cases hi : i < n
   ·obtain ⟨b, hb, hf⟩ := mapM_at hm i i (by simp [hi])
    obtain ⟨s, hc, rfl, _⟩ := DataW.trod_string he hf
    have h1 : cs[i]? = some (.string s) := by
     have := congrArg (·[0]?) hc
     simpa [List.getElem?_take, List.getElem?_drop] using this
    have h2 : (xs.map (·.1))[i]? = some (DataW.lit (.string s.data.toList) : DataW H) := by simp [hb]
    rw [hxs] at h2
    simp only [List.getElem?_map, Option.map_eq_some_iff, DataW.lit.injEq, Lit.string.injEq] at h2
    obtain ⟨s', hs', hs2⟩ := h2
    rw [h1, List.getElem?_map, hs', hs2]
    simp
   ·rw [List.getElem?_eq_none (by omega), List.getElem?_eq_none (by simp; omega)]
  ·cases h
theorem strsIs_of_head {P : Program} {W : World} {name : String} {ss : List (List UInt8)} {rest : List (String × DataW Unit)} {g : Nat} {t e : TypeId} {n : Nat}
  (hg : P.globalNamed name = some g) (hty : (P.globals[g]?).map (·.type) = some t) (ht : P.underlying t = some (.array n e)) (he : P.underlying e = some .string) (hce : P.cellsOf e = 1) (hct : P.cellsOf t = n)
  (h : laidMet P ((name, strData ss) :: rest) W) : StrsIs P W name ss := by
 obtain ⟨ps, ⟨g', t', cs, fuel, p, q, hg', ht', hvar, hd, _, _⟩, _⟩ := h
 obtain rfl := Option.some.inj (hg.symm.trans hg')
 obtain rfl := Option.some.inj (hty.symm.trans ht')
 unfold StrsIs
 rw [hvar, ← cells_of_strs ht he hce hct hd]
theorem StrsIs.cell {P : Program} {W : World} {name : String} {ss : List (List UInt8)} {g : Nat} (h : StrsIs P W name ss) (hg : P.globalNamed name = some g) (i : Nat) (hi : i < ss.length) :
  W.cell? ⟨g, i, none⟩ = some (.string ⟨(ss.getD i []).toArray⟩) := by
 have := World.var?_cell hg h i
 simpa [List.getD, hi] using this
end Go.Proofs.LaidStrs
namespace Go.Proofs.YtcbfbefpbjmglaaDoorT
open Go.Lib Go.Proofs.LaidStrs Go.Proofs.YtcbfbefpbjmglaaDoor
theorem gTab : Tryd.prog.globalNamed "burin/token.signs" = some 0 := by kernel_rfl
theorem gTabType : (Tryd.prog.globals[0]?).map (·.type) = some 110 := by kernel_rfl
theorem cells54 : Tryd.prog.cellsOf 110 = 48 := by kernel_rfl
theorem cells9 : Tryd.prog.cellsOf 9 = 1 := by kernel_rfl
theorem heap_of_var {P : Program} {w : World} {name : String} {g : Nat} {cs : Array Value} (hg : P.globalNamed name = some g) (h : w.var? P name = some cs) : ∃ t fr, w.heap[g]? = some (.cells cs t fr) := by
 unfold World.var? at h
 rw [hg] at h
 rw [Option.bind_some] at h
 split at h
 ·rename_i c t fr hc
  obtain rfl := Option.some.inj h
  exact ⟨t, fr, hc⟩
 ·cases h
noncomputable def laidWorld (os : Os) : World :=
 { World.holding Tryd.prog os ⟨#[], #[], []⟩ with heap := (World.holding Tryd.prog os ⟨#[], #[], []⟩).heap.modify 0 fun
   | .cells _ t frozen => .cells sgv t frozen
   | o => o }
end Go.Proofs.YtcbfbefpbjmglaaDoorT
