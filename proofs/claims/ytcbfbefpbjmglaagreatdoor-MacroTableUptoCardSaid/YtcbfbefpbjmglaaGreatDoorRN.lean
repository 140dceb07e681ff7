import Derived.Test.YtcbfbefpbjmglaaGreatDoorZ
import Derived.Test.YtcbfbefpbjmglaaGreatDoorRF3
import Derived.Test.YtcbfbefpbjmglaaGreatDoorA3
import Derived.Test.YtcbfbefpbjmglaaGreatDoorA6
import Derived.Test.YtcbfbefpbjmglaaGreatDoorLQ0
import Derived.Deep.AppendLies
set_option maxHeartbeats 8000000
set_option maxRecDepth 100000
set_option linter.unusedSimpArgs false
set_option linter.unusedVariables false
namespace Go.Proofs.YtcbfbefpbjmglaaGreatDoor.PureF
open Go.RowKit Go.Lib YtcbfbefpbjmglaaGreatDoorT PA YtcbfbefpbjmglaaGreatDoorW PrintWords PrintLast PrintMore
theorem wp_seq_of {P : Program} {x y : Code} {Q : Exit → Act → World → Prop} {a : Act} {w : World} (PP : Act → World → Prop) (h1 : x.wp P (Exit.then PP Q) a w)
  (h2 : ∀ a w, PP a w → y.wp P Q a w) : (x.seq y).wp P Q a w :=
 wp_seq (wp_mono h1 fun e a w q => by cases e <;> first | exact h2 _ _ q | exact q)
def RAt (W : World) (X : Nat) (v : Value) (st : St) : Prop := W.heap[X]? = some (.cells #[v, .bool st.sp, .bool st.fs, .bool st.op, .int .i64 st.fr] 143 (0, 0))
theorem RAt.c {W : World} {X : Nat} {v : Value} {st : St} (h : RAt W X v st) : W.cell? ⟨X, 0, none⟩ = some v ∧ W.cell? ⟨X, 1, none⟩ = some (.bool st.sp) ∧ W.cell? ⟨X, 2, none⟩ = some (.bool st.fs) ∧ W.cell? ⟨X, 3, none⟩ = some (.bool st.op) ∧ W.cell? ⟨X, 4, none⟩ = some (.int .i64 st.fr) := by
 refine ⟨?_, ?_, ?_, ?_, ?_⟩ <;> simp [World.cell?, show W.heap[X]? = _ from h]
theorem RAt.fz {W : World} {X : Nat} {v : Value} {st : St} (h : RAt W X v st) (i : Nat) : W.frozen? ⟨X, i, none⟩ = false := by simp [World.frozen?, show W.heap[X]? = _ from h]
theorem RAt.lt {W : World} {X : Nat} {v : Value} {st : St} (h : RAt W X v st) : X < W.heap.size := (Array.getElem?_eq_some_iff.1 h).1
theorem RAt.s1 {W : World} {X : Nat} {v : Value} {st : St} (h : RAt W X v st) (b : Bool) : RAt (W.setCell ⟨X, 1, none⟩ (.bool b)) X v { st with sp := b } := Go.Proofs.YtcbfbefpbjmglaaGreatDoorT.heap_setCell_same h
theorem RAt.s2 {W : World} {X : Nat} {v : Value} {st : St} (h : RAt W X v st) (b : Bool) : RAt (W.setCell ⟨X, 2, none⟩ (.bool b)) X v { st with fs := b } := Go.Proofs.YtcbfbefpbjmglaaGreatDoorT.heap_setCell_same h
theorem RAt.s3 {W : World} {X : Nat} {v : Value} {st : St} (h : RAt W X v st) (b : Bool) : RAt (W.setCell ⟨X, 3, none⟩ (.bool b)) X v { st with op := b } := Go.Proofs.YtcbfbefpbjmglaaGreatDoorT.heap_setCell_same h
theorem RAt.s4 {W : World} {X : Nat} {v : Value} {st : St} (h : RAt W X v st) (b : Int) : RAt (W.setCell ⟨X, 4, none⟩ (.int .i64 b)) X v { st with fr := b } := Go.Proofs.YtcbfbefpbjmglaaGreatDoorT.heap_setCell_same h
theorem blank_eq (c : UInt8) : burinref02_blank.f (c.toNat : Int) = some (isB c) := by
 unfold burinref02_blank.f isB
 have e := byte_eq c
 repeat' split
 all_goals first
  | (congr 1; symm; simp only [Bool.or_eq_true, beq_iff_eq]; first | exact .inl (.inl (.inl ((e 32 (by omega)).1 (by assumption)))) | exact .inl (.inl (.inr ((e 9 (by omega)).1 (by assumption)))) | exact .inl (.inr ((e 11 (by omega)).1 (by assumption))))
  | (rename_i h1 h2 h3; have f1 : (c == 32) = false := beq_eq_false_iff_ne.2 (fun hh => h1 ((e 32 (by omega)).2 hh)); have f2 : (c == 9) = false := beq_eq_false_iff_ne.2 (fun hh => h2 ((e 9 (by omega)).2 hh)); have f3 : (c == 11) = false := beq_eq_false_iff_ne.2 (fun hh => h3 ((e 11 (by omega)).2 hh)); rw [f1, f2, f3]; congr 1; rw [Bool.eq_iff_iff]; simp only [Bool.false_or, beq_iff_eq]; exact e 12 (by omega))
theorem row_drewN {W : World} {base k : Nat} {v : Value} {xs : List Value} (h : W.ownsRow base 55 6 v k xs) (n : Nat) : (W.drewN n).ownsRow base 55 6 v k xs := h
theorem RAt.not_row {W : World} {X : Nat} {v0 : Value} {st : St} (h : RAt W X v0 st) {base k : Nat} {v : Value} {xs : List Value} (hr : W.ownsRow base 55 6 v k xs) : v.ownBlock ≠ some X := by
 rcases hr.2 with ⟨rfl, _⟩ | ⟨g, cap, cur, rfl, _, hgb, _⟩
 ·simp [Value.ownBlock]
 ·intro e'
  obtain rfl : g = X := by simpa [Value.ownBlock] using e'
  have := (show W.heap[g]? = _ from h).symm.trans hgb
  simp at this
theorem grown_setCell (W : World) (b i : Nat) (v : Value) : W.grownBy (W.setCell ⟨b, i, none⟩ v) (some b) :=
 ⟨rfl, rfl, rfl, by rw [size_setCell]; exact Nat.le_refl _, fun k hk hn => Below.heap_setCell W ⟨b, i, none⟩ v k (fun e => hn (by rw [e]))⟩
theorem RAt.row {W : World} {X i : Nat} {v0 u : Value} {st : St} (h : RAt W X v0 st) {base k : Nat} {v : Value} {xs : List Value} (hr : W.ownsRow base 55 6 v k xs) : (W.setCell ⟨X, i, none⟩ u).ownsRow base 55 6 v k xs :=
 hr.kept (grown_setCell W X i u) (.inr (h.not_row hr))
theorem pre2 (S : List UInt8) (i : Nat) (a b : UInt8) (h : i < S.length) : Lib.hasPrefix (S.drop i) [a, b] = (decide (i + 1 < S.length) && (at_ (bstr S) i == a && at_ (bstr S) (i + 1) == b)) := by
 rw [List.drop_eq_getElem_cons h, at_bstr, at_bstr, List.getD_eq_getElem?_getD, List.getElem?_eq_getElem h]
 unfold Lib.hasPrefix
 by_cases h2 : i + 1 < S.length
 ·rw [List.drop_eq_getElem_cons h2, List.getD_eq_getElem?_getD, List.getElem?_eq_getElem h2, decide_eq_true h2]
  simp only [List.isPrefixOf, Option.getD_some, Bool.true_and, Bool.and_true]
  rw [Bool.eq_iff_iff]
  simp only [Bool.and_eq_true, beq_iff_eq]
  constructor
  ·rintro ⟨h3, h4⟩; exact ⟨h3.symm, h4.symm⟩
  ·rintro ⟨h3, h4⟩; exact ⟨h3.symm, h4.symm⟩
 ·rw [List.drop_eq_nil_of_le (by omega), decide_eq_false h2]
  simp [List.isPrefixOf]
theorem RAt.s0 {W : World} {X : Nat} {v : Value} {st : St} (h : RAt W X v st) (v' : Value) : RAt (W.setCell ⟨X, 0, none⟩ v') X v' st := Go.Proofs.YtcbfbefpbjmglaaGreatDoorT.heap_setCell_same h
theorem not_row2 {W : World} {b : Nat} {x y : Value} (h : W.heap[b]? = some (.cells #[x, y] 63 (0, 0))) {base k : Nat} {v : Value} {xs : List Value} (hr : W.ownsRow base 55 6 v k xs) : v.ownBlock ≠ some b := by
 rcases hr.2 with ⟨rfl, _⟩ | ⟨g, cap, cur, rfl, _, hgb, _⟩
 ·simp [Value.ownBlock]
 ·intro e'
  obtain rfl : g = b := by simpa [Value.ownBlock] using e'
  have := h.symm.trans hgb
  simp at this
theorem line_calls (X base : Nat) (N : Int) (S : List UInt8) (st : St) (out : List TokP) (v : Value) (w : World) (hx : RAt w X v st) (hrow : w.ownsRow base 55 6 v out.length (toksC out)) (hbX : base ≤ X) (hS : S.length < 1099511627776) (hout : out.length ≤ 20000)
  (R : List TokP × St × Int) (HR : Aside (refL N (S.length + 1) S (begin_ st) out = R)) :
  Calls Tryz.prog 97 #[.pointer (some ⟨X, 0, none⟩), .agg #[.int .i64 N, .string (bstr S)]] w fun e w' => ∃ v', e = .returned (.int .i64 R.2.2) ∧ RAt w' X v' R.2.1 ∧ w'.ownsRow base 55 6 v' R.1.length (toksC R.1) ∧ Below base w w' := by
 obtain ⟨bx, hbx⟩ : ∃ b, w.heap.size = b := ⟨_, rfl⟩
 obtain ⟨W1, hW1⟩ : ∃ W1, w.alloc (.cells #[.int .i64 N, .string (bstr S)] 63) = W1 := ⟨_, rfl⟩
 have hB1 : Below w.heap.size w W1 := by rw [← hW1]; exact below_new _
 have hb1 : W1.heap[bx]? = some (.cells #[.int .i64 N, .string (bstr S)] 63 (0, 0)) := by rw [← hW1, ← hbx]; exact World.alloc_heap_new _ _
 have hx1 : RAt W1 X v st := (hB1.block X hx.lt).trans hx
 have hr1 : W1.ownsRow base 55 6 v out.length (toksC out) := by rw [← hW1]; exact hrow.alloc _
 have hbw : base ≤ w.heap.size := by have := hx.lt; omega
 have hBb : Below base w W1 := hB1.mono hbw
 have hXb : X ≠ bx := by have := hx.lt; omega
 obtain ⟨FR, hFR⟩ : ∃ FR : (Nat → Value) → Value → Value → Act, FR = fun u z5 z6 => { tmps := #[.pointer (some ⟨X, 0, none⟩), .agg #[.int .i64 N, .string (bstr S)], undef, .pointer (some ⟨bx, 0, none⟩), (u 4), z5, z6, (u 7), (u 8), (u 9), (u 10), (u 11), (u 12), (u 13), (u 14), (u 15), (u 16), (u 17), (u 18), (u 19), (u 20), (u 21), (u 22), (u 23), (u 24), (u 25), (u 26), (u 27), (u 28), (u 29), (u 30), (u 31), (u 32), (u 33), (u 34), (u 35), (u 36), (u 37), (u 38), (u 39), (u 40), (u 41), (u 42), (u 43), (u 44), (u 45), (u 46), (u 47), (u 48), (u 49), (u 50), (u 51), (u 52), (u 53), (u 54), (u 55), (u 56), (u 57), (u 58), (u 59), (u 60), (u 61), (u 62), (u 63), (u 64), (u 65), (u 66), (u 67), (u 68), (u 69), (u 70), (u 71), (u 72), (u 73), (u 74), (u 75), (u 76), (u 77), (u 78), (u 79), (u 80), (u 81), (u 82), (u 83), (u 84), (u 85), (u 86), (u 87), (u 88), (u 89), (u 90), (u 91), (u 92), (u 93), (u 94), (u 95), (u 96), (u 97), (u 98), (u 99), (u 100), (u 101), (u 102), (u 103), (u 104), (u 105), (u 106), (u 107), (u 108), (u 109), (u 110), (u 111), (u 112), (u 113), (u 114), (u 115), (u 116), (u 117), (u 118), (u 119), (u 120), (u 121), (u 122), (u 123), (u 124), (u 125), (u 126), (u 127), (u 128), (u 129), (u 130), (u 131), (u 132), (u 133), (u 134), (u 135), (u 136), (u 137), (u 138), (u 139), (u 140), (u 141), (u 142), (u 143), (u 144), (u 145), (u 146), (u 147), (u 148), (u 149), (u 150), (u 151), (u 152), (u 153), (u 154), (u 155), (u 156), (u 157), (u 158), (u 159), (u 160), (u 161), (u 162), (u 163)], defers := [] } := ⟨_, rfl⟩
 have HFR := hid hFR
 clear hFR
 have HPX : ∀ (Z : World → Prop) (PP : Act → World → Prop) (t : Array Value) (W : World), PP = (fun a W => (∃ u z6, a = FR u (.string (bstr S)) z6) ∧ Z W) →
   ({ tmps := t, defers := [] } : Act) = FR (fun k => t.getD k undef) (.string (bstr S)) (t.getD 6 undef) → Z W → PP { tmps := t, defers := [] } W := fun Z PP t W e h1 h2 => by rw [e]; exact ⟨⟨_, _, h1⟩, h2⟩
 have HPX := hid HPX
 have HB := hid (And.intro hb1 (And.intro hx1 (And.intro hr1 (And.intro hBb (And.intro hXb hx)))))
 obtain ⟨hl0, hl1⟩ := cell_two hb1
 clear hx1 hr1 hBb hb1 hx hrow hB1 hbw
 have HW := hid hW1
 have HBX := hid hbx
 rw [HBX.out] at *
 go_enter Tryz.func97, Tryz.ntmps97
 refine wp_seq_of (fun a W => (∃ u z5 z6, a = FR u z5 z6) ∧ W = W1) ?_ ?_
 ·obtain ⟨PP, hPP⟩ : ∃ PP : Act → World → Prop, PP = (fun a W => (∃ u z5 z6, a = FR u z5 z6) ∧ W = W1) := ⟨_, rfl⟩
  rw [← hPP]
  have HPP := hid hPP
  clear hPP
  go_wp2
  rw [HPP.out]
  refine ⟨⟨fun k => if k = 4 then .int .i64 0 else undef, undef, undef, ?_⟩, rfl⟩
  rw [HFR.out]
  rfl
 rintro a0 W0 ⟨⟨u, z5, z6, rfl⟩, rfl⟩
 refine wp_seq_of (fun a W => (∃ u z6, a = FR u (.string (bstr S)) z6) ∧ W = W0) ?_ ?_
 ·obtain ⟨PP, hPP⟩ : ∃ PP : Act → World → Prop, PP = (fun a W => (∃ u z6, a = FR u (.string (bstr S)) z6) ∧ W = W0) := ⟨_, rfl⟩
  rw [← hPP, HFR.out]
  have HPP := hid hPP
  clear hPP
  go_wp2
  refine HPX.out (fun W => W = W0) _ _ _ HPP.out ?_ rfl
  rw [HFR.out]
  rfl
 rintro a0 W0' ⟨⟨u, z6, rfl⟩, rfl⟩
 have hx1 := HB.out.2.1
 have hr1 := HB.out.2.2.1
 obtain ⟨c0, c1, c2, c3, c4⟩ := hx1.c
 have hfz := hx1.fz
 obtain ⟨Z, hZ⟩ : ∃ Z : World → Prop, Z = fun W => RAt W X v (begin_ st) ∧ W.ownsRow base 55 6 v out.length (toksC out) ∧ Below base w W ∧ W.heap[bx]? = some (.cells #[.int .i64 N, .string (bstr S)] 63 (0, 0)) := ⟨_, rfl⟩
 have HZ := hid hZ
 clear hZ hx1 hr1
 refine wp_seq_of (fun a W => (∃ u z6, a = FR u (.string (bstr S)) z6) ∧ Z W) ?_ ?_
 ·obtain ⟨PP, hPP⟩ : ∃ PP : Act → World → Prop, PP = (fun a W => (∃ u z6, a = FR u (.string (bstr S)) z6) ∧ Z W) := ⟨_, rfl⟩
  rw [← hPP, HFR.out]
  have HPP := hid hPP
  clear hPP
  cases hop : st.op with
  | true =>
   rw [hop] at c3
   have HOP := hid hop
   clear hop
   go_wp2
   refine HPX.out Z _ _ _ HPP.out ?_ ?_
   ·rw [HFR.out]
    rfl
   ·rw [HZ.out]
    refine ⟨?_, HB.out.2.2.1, HB.out.2.2.2.1, HB.out.1⟩
    have := HB.out.2.1
    unfold begin_; rw [HOP.out]; exact this
  | false =>
   rw [hop] at c3
   have HOP := hid hop
   clear hop
   go_wp2
   refine HPX.out Z _ _ _ HPP.out ?_ ?_
   ·rw [HFR.out]
    rfl
   ·rw [HZ.out]
    refine ⟨?_, ?_, ?_, ?_⟩
    ·have := (HB.out.2.1.s2 true).s1 false
     unfold begin_; rw [HOP.out] at this ⊢; exact this
    ·exact RAt.row (RAt.s2 HB.out.2.1 true) (RAt.row HB.out.2.1 HB.out.2.2.1)
    ·exact (HB.out.2.2.2.1.setCell (p := ⟨X, 2, none⟩) hbX _).setCell (p := ⟨X, 1, none⟩) hbX _
    ·exact (Below.heap_setCell _ ⟨X, 1, none⟩ _ bx (Ne.symm HB.out.2.2.2.2.1)).trans ((Below.heap_setCell _ ⟨X, 2, none⟩ _ bx (Ne.symm HB.out.2.2.2.2.1)).trans HB.out.1)
 clear c0 c1 c2 c3 c4 hfz hl0 hl1
 rintro a0 W1 ⟨⟨u, z6, rfl⟩, hz⟩
 rw [HZ.out] at hz
 obtain ⟨PL, hPL⟩ : ∃ PL : Act → World → Prop, PL = fun a W => (∃ u z6, a = FR u (.string (bstr S)) z6) ∧ Z W := ⟨_, rfl⟩
 have hsb : (bstr S).size < 1099511627776 := by rw [bstr_size]; exact hS
 have hss := bstr_size S
 rw [HFR.out]
 go_wp2
 obtain ⟨I, hI⟩ : ∃ I : Nat → Act → World → Prop, I = fun g a W => ∃ (u : Nat → Value) (i : Nat) (st1 : St) (out1 : List TokP) (v1 : Value), a = FR u (.string (bstr S)) (.int .i64 (i : Int)) ∧ i ≤ S.length ∧ S.length < i + g ∧ RAt W X v1 st1 ∧ W.ownsRow base 55 6 v1 out1.length (toksC out1) ∧ Below base w W ∧ W.heap[bx]? = some (.cells #[.int .i64 N, .string (bstr S)] 63 (0, 0)) ∧ out1.length ≤ 20000 ∧ refL N g (S.drop i) st1 out1 = R := ⟨_, rfl⟩
 have HI := hid hI
 clear hI
 refine wp_loop_ghost_k I (S.length + 1) ?_ ?_
 ·rw [HI.out]
  refine ⟨u, 0, begin_ st, out, v, ?_, by omega, by omega, hz.1, hz.2.1, hz.2.2.1, hz.2.2.2, hout, HR.out⟩
  rw [HFR.out]
  rfl
 intro g a2 W2 hI2 J K hJ hK
 rw [HI.out] at hI2
 obtain ⟨u2, i, st1, out1, v1, rfl, hi, hg, hx1, hr1, hb1, hbx1, ho1, hR⟩ := hI2
 obtain ⟨g, rfl⟩ : ∃ g', g = g' + 1 := ⟨g - 1, by omega⟩
 have hend : ∀ (t : Array Value) (W : World) (j : Nat) (st2 : St) (out2 : List TokP) (v2 : Value), ({ tmps := t, defers := [] } : Act) = FR (fun k => t.getD k undef) (.string (bstr S)) (.int .i64 (j : Int)) → j ≤ S.length → i < j → RAt W X v2 st2 → W.ownsRow base 55 6 v2 out2.length (toksC out2) → Below base w W → W.heap[bx]? = some (.cells #[.int .i64 N, .string (bstr S)] 63 (0, 0)) → out2.length ≤ 20000 → refL N g (S.drop j) st2 out2 = R → K { tmps := t, defers := [] } W := fun t W j st2 out2 v2 e1 e2 e3 e4 e5 e6 e7 e8 e9 =>
  hK _ _ (Handed.intro g (by omega) (hJ _ _ _ (by rw [HI.out]; exact ⟨_, j, st2, out2, v2, e1, e2, by omega, e4, e5, e6, e7, e8, e9⟩)))
 have HEND := hid hend
 clear hend hJ hK hz
 obtain ⟨c0, c1, c2, c3, c4⟩ := hx1.c
 have hfz := hx1.fz
 have HS := hid (And.intro hx1 (And.intro hr1 (And.intro hb1 (And.intro hbx1 ho1))))
 clear hx1 hr1 hb1 hbx1 ho1
 by_cases hil : i < S.length
 ·have hi1 : (i : Int) < ((bstr S).size : Int) := by rw [hss]; omega
  have hne : S.drop i ≠ [] := by rw [Ne, List.drop_eq_nil_iff]; omega
  have hb0 := at_get (bstr S) i (by rw [hss]; exact hil)
  obtain ⟨c, hc⟩ : ∃ c, at_ (bstr S) i = c := ⟨_, rfl⟩
  rw [hc] at hb0
  have hp2 : ∀ a b : UInt8, Lib.hasPrefix (S.drop i) [a, b] = (decide (i + 1 < S.length) && (c == a && at_ (bstr S) (i + 1) == b)) := fun a b => by rw [pre2 S i a b hil, hc]
  have hhd : (S.drop i).headD 0 = c := by
   rw [List.drop_eq_getElem_cons hil, List.headD_cons, ← hc, at_bstr, List.getD_eq_getElem?_getD, List.getElem?_eq_getElem hil]; rfl
  rw [refL, if_neg hne, hhd, List.drop_drop, List.drop_drop] at hR
  have HP2 := hid (And.intro hp2 (And.intro hhd hc))
  clear hp2 hhd hc hne
  cases hop : st1.op with
  | true =>
   rw [hop] at c3
   rw [if_pos hop, HP2.out.1] at hR
   have HOP := hid hop
   have HRR := hid hR
   clear hop hR
   by_cases h2 : i + 1 < S.length
   ·have hi2 : (i : Int) + 1 < ((bstr S).size : Int) := by rw [hss]; omega
    have hb2 := at_get (bstr S) (i + 1) (by rw [hss]; exact h2)
    obtain ⟨d, hd⟩ : ∃ d, at_ (bstr S) (i + 1) = d := ⟨_, rfl⟩
    rw [hd] at hb2
    have HD := hid hd
    clear hd
    by_cases h42 : c = 42
    ·subst h42
     by_cases h47 : d = 47
     ·subst h47
      rw [HFR.out]
      go_wp2
      have hbX2 : ¬ bx = X := Ne.symm HB.out.2.2.2.2.1
      refine HEND.out _ _ (i + 2) { st1 with op := false, sp := true } out1 v1 ?_ (by omega) (by omega) (RAt.s1 (RAt.s3 HS.out.1 false) true) (RAt.row (RAt.s3 HS.out.1 false) (RAt.row HS.out.1 HS.out.2.1)) ((HS.out.2.2.1.setCell (p := ⟨X, 3, none⟩) hbX _).setCell (p := ⟨X, 1, none⟩) hbX _) ((Below.heap_setCell _ ⟨X, 1, none⟩ _ bx hbX2).trans ((Below.heap_setCell _ ⟨X, 3, none⟩ _ bx hbX2).trans HS.out.2.2.2.1)) HS.out.2.2.2.2 ?_
      ·rw [HFR.out]
       rfl
      ·have hr := HRR.out
       rw [if_pos (by rw [HD.out, decide_eq_true h2]; rfl)] at hr
       exact hr
     ·have n47 : ¬ ((d.toNat : Int) = 47) := fun hh => h47 ((byte_eq d 47 (by omega)).1 hh)
      rw [HFR.out]
      go_wp2
      refine HEND.out _ _ (i + 1) { st1 with sp := true } out1 v1 ?_ (by omega) (by omega) (RAt.s1 HS.out.1 true) (RAt.row HS.out.1 HS.out.2.1) (HS.out.2.2.1.setCell (p := ⟨X, 1, none⟩) hbX _) ((Below.heap_setCell _ ⟨X, 1, none⟩ _ bx (Ne.symm HB.out.2.2.2.2.1)).trans HS.out.2.2.2.1) HS.out.2.2.2.2 ?_
      ·rw [HFR.out]
       rfl
      ·have hr := HRR.out
       rw [if_neg (by rw [HD.out, beq_eq_false_iff_ne.2 h47]; simp)] at hr
       exact hr
    ·have n42 : ¬ ((c.toNat : Int) = 42) := fun hh => h42 ((byte_eq c 42 (by omega)).1 hh)
     rw [HFR.out]
     go_wp2
     refine HEND.out _ _ (i + 1) { st1 with sp := true } out1 v1 ?_ (by omega) (by omega) (RAt.s1 HS.out.1 true) (RAt.row HS.out.1 HS.out.2.1) (HS.out.2.2.1.setCell (p := ⟨X, 1, none⟩) hbX _) ((Below.heap_setCell _ ⟨X, 1, none⟩ _ bx (Ne.symm HB.out.2.2.2.2.1)).trans HS.out.2.2.2.1) HS.out.2.2.2.2 ?_
     ·rw [HFR.out]
      rfl
     ·have hr := HRR.out
      rw [if_neg (by rw [beq_eq_false_iff_ne.2 h42]; simp)] at hr
      exact hr
   ·have hi2 : ¬ ((i : Int) + 1 < ((bstr S).size : Int)) := by rw [hss]; omega
    rw [HFR.out]
    go_wp2
    refine HEND.out _ _ (i + 1) { st1 with sp := true } out1 v1 ?_ (by omega) (by omega) (RAt.s1 HS.out.1 true) (RAt.row HS.out.1 HS.out.2.1) (HS.out.2.2.1.setCell (p := ⟨X, 1, none⟩) hbX _) ((Below.heap_setCell _ ⟨X, 1, none⟩ _ bx (Ne.symm HB.out.2.2.2.2.1)).trans HS.out.2.2.2.1) HS.out.2.2.2.2 ?_
    ·rw [HFR.out]
     rfl
    ·have hr := HRR.out
     rw [if_neg (by rw [decide_eq_false h2]; simp)] at hr
     exact hr
  | false =>
   rw [hop] at c3
   rw [if_neg (by rw [hop]; decide), HP2.out.1, HP2.out.1] at hR
   have HPY : ∀ (Z : World → Prop) (PP : Act → World → Prop) (t : Array Value) (W : World), PP = (fun a W => (∃ u, a = FR u (.string (bstr S)) (.int .i64 (i : Int))) ∧ Z W) →
     ({ tmps := t, defers := [] } : Act) = FR (fun k => t.getD k undef) (.string (bstr S)) (.int .i64 (i : Int)) → Z W → PP { tmps := t, defers := [] } W := fun Z PP t W e h1 h2 => by rw [e]; exact ⟨⟨_, h1⟩, h2⟩
   have HPY := hid HPY
   have HOP := hid hop
   have HRR := hid hR
   clear hop hR
   refine wp_seq_of (fun a W => (∃ u, a = FR u (.string (bstr S)) (.int .i64 (i : Int))) ∧ (fun W => W = W2) W) ?_ ?_
   ·obtain ⟨PP, hPP⟩ : ∃ PP : Act → World → Prop, PP = (fun a W => (∃ u, a = FR u (.string (bstr S)) (.int .i64 (i : Int))) ∧ (fun W => W = W2) W) := ⟨_, rfl⟩
    rw [← hPP, HFR.out]
    have HPP := hid hPP
    clear hPP
    go_wp2
    refine HPY.out (fun W => W = W2) _ _ _ HPP.out ?_ (rfl)
    rw [HFR.out]
    rfl
   rintro a_W4 W4 ⟨⟨uW4, rfl⟩, rfl⟩
   refine wp_block ?_
   refine wp_seq_of (fun a W => (∃ u, a = FR u (.string (bstr S)) (.int .i64 (i : Int))) ∧ (fun W => W = W4) W) ?_ ?_
   ·obtain ⟨PP, hPP⟩ : ∃ PP : Act → World → Prop, PP = (fun a W => (∃ u, a = FR u (.string (bstr S)) (.int .i64 (i : Int))) ∧ (fun W => W = W4) W) := ⟨_, rfl⟩
    rw [← hPP, HFR.out]
    have HPP := hid hPP
    clear hPP
    go_wp2
    refine HPY.out (fun W => W = W4) _ _ _ HPP.out ?_ (rfl)
    rw [HFR.out]
    rfl
   rintro a_W5 W5 ⟨⟨uW5, rfl⟩, rfl⟩
   have hbl : ∀ W : World, Calls Tryz.prog 106 #[.int .u8 (c.toNat : Int)] W fun e w' => e = .returned (.bool (isB c)) ∧ ∃ n, w' = W.drewN n := fun W => (burinref02_blank.calls _ _ W (blank_eq c)).mono fun e w' h => ⟨h.1, by obtain ⟨n, hn⟩ := h.2; exact ⟨n, hn⟩⟩
   by_cases hB : isB c = true
   ·rw [hB] at hbl
    have HBB := hid hB
    clear hB
    refine wp_seq_of (fun a W => False) ?_ (fun a W h => h.elim)
    rw [HFR.out]
    obtain ⟨PP, hPP⟩ : ∃ PP : Act → World → Prop, PP = (fun a W => False) := ⟨_, rfl⟩
    rw [← hPP]
    clear hPP
    go_wp2_with (first | (go_at_call 106; refine (hbl _).mono ?_; rintro e w' ⟨rfl, n, rfl⟩))
    refine HEND.out _ _ (i + 1) { st1 with sp := true } out1 v1 ?_ (by omega) (by omega) (RAt.s1 (show RAt (W5.drewN n) X v1 st1 from HS.out.1) true) (RAt.row (show RAt (W5.drewN n) X v1 st1 from HS.out.1) (row_drewN HS.out.2.1 n)) ((Go.Proofs.YtcbfbefpbjmglaaGreatDoorT.bl_drewN HS.out.2.2.1 n).setCell (p := ⟨X, 1, none⟩) hbX _) ((Below.heap_setCell _ ⟨X, 1, none⟩ _ bx (Ne.symm HB.out.2.2.2.2.1)).trans HS.out.2.2.2.1) HS.out.2.2.2.2 ?_
    ·rw [HFR.out]
     rfl
    ·have hr := HRR.out
     rw [if_pos HBB.out] at hr
     exact hr
   ·have hB : isB c = false := by simpa using hB
    rw [hB] at hbl
    have hr := HRR.out
    rw [if_neg (by simp [hB])] at hr
    have HRR := hid hr
    clear hr
    clear hB
    refine wp_seq_of (fun a W => (∃ u, a = FR u (.string (bstr S)) (.int .i64 (i : Int))) ∧ (fun W => ∃ n, W = W5.drewN n) W) ?_ ?_
    ·obtain ⟨PP, hPP⟩ : ∃ PP : Act → World → Prop, PP = (fun a W => (∃ u, a = FR u (.string (bstr S)) (.int .i64 (i : Int))) ∧ (fun W => ∃ n, W = W5.drewN n) W) := ⟨_, rfl⟩
     rw [← hPP, HFR.out]
     have HPP := hid hPP
     clear hPP
     go_wp2_with (first | (go_at_call 106; refine (hbl _).mono ?_; rintro e w' ⟨rfl, n, rfl⟩))
     refine HPY.out (fun W => ∃ n, W = W5.drewN n) _ _ _ HPP.out ?_ (⟨_, rfl⟩)
     rw [HFR.out]
     rfl
    rintro a_W6 W6 ⟨⟨uW6, rfl⟩, hz6⟩
    have hx6 : RAt W6 X v1 st1 := by obtain ⟨n, rfl⟩ := hz6; exact HS.out.1
    have hr6 : W6.ownsRow base 55 6 v1 out1.length (toksC out1) := by obtain ⟨n, rfl⟩ := hz6; exact row_drewN HS.out.2.1 n
    have hb6 : Below base w W6 := by obtain ⟨n, rfl⟩ := hz6; exact Go.Proofs.YtcbfbefpbjmglaaGreatDoorT.bl_drewN HS.out.2.2.1 n
    have hk6 : W6.heap[bx]? = some (.cells #[.int .i64 N, .string (bstr S)] 63 (0, 0)) := by obtain ⟨n, rfl⟩ := hz6; exact HS.out.2.2.2.1
    clear hz6 c0 c1 c2 c3 c4 hfz
    by_cases hno : i + 1 < S.length ∧ c = 47 ∧ at_ (bstr S) (i + 1) = 47
    ·obtain ⟨h2, rfl, hd⟩ := hno
     have hi2 : (i : Int) + 1 < ((bstr S).size : Int) := by rw [hss]; omega
     have hb2 := at_get (bstr S) (i + 1) (by rw [hss]; exact h2)
     rw [hd] at hb2
     have hR : R = (out1, st1, 0) := by
      have hr := HRR.out
      rw [if_pos (by rw [hd, decide_eq_true h2]; rfl)] at hr
      exact hr.symm
     clear hd
     have HRE := hid hR
     clear hR
     rw [HFR.out]
     go_wp2
     go_ret
     rw [HRE.out]
     exact ⟨v1, rfl, hx6, hr6, hb6⟩
    have hr := HRR.out
    rw [if_neg (by
     intro h
     rw [Bool.and_eq_true, Bool.and_eq_true, decide_eq_true_eq, beq_iff_eq, beq_iff_eq] at h
     exact hno h)] at hr
    have HRR := hid hr
    clear hr
    refine wp_seq_of (fun a W => (∃ u, a = FR u (.string (bstr S)) (.int .i64 (i : Int))) ∧ (fun W => W = W6) W) ?_ ?_
    ·obtain ⟨PP, hPP⟩ : ∃ PP : Act → World → Prop, PP = (fun a W => (∃ u, a = FR u (.string (bstr S)) (.int .i64 (i : Int))) ∧ (fun W => W = W6) W) := ⟨_, rfl⟩
     rw [← hPP, HFR.out]
     have HPP := hid hPP
     clear hPP
     by_cases h2 : i + 1 < S.length
     ·have hi2 : (i : Int) + 1 < ((bstr S).size : Int) := by rw [hss]; omega
      have hb2 := at_get (bstr S) (i + 1) (by rw [hss]; exact h2)
      obtain ⟨d, hd⟩ : ∃ d, at_ (bstr S) (i + 1) = d := ⟨_, rfl⟩
      rw [hd] at hb2
      by_cases h47 : c = 47
      ·have hdn : ¬ d = 47 := fun hh => hno ⟨h2, h47, by rw [hd]; exact hh⟩
       have nd : ¬ ((d.toNat : Int) = 47) := fun hh => hdn ((byte_eq d 47 (by omega)).1 hh)
       subst h47
       clear hno
       go_wp2
       refine HPY.out (fun W => W = W6) _ _ _ HPP.out ?_ rfl
       rw [HFR.out]
       rfl
      ·have nc : ¬ ((c.toNat : Int) = 47) := fun hh => h47 ((byte_eq c 47 (by omega)).1 hh)
       clear hno
       go_wp2
       refine HPY.out (fun W => W = W6) _ _ _ HPP.out ?_ rfl
       rw [HFR.out]
       rfl
     ·have hi2 : ¬ ((i : Int) + 1 < ((bstr S).size : Int)) := by rw [hss]; omega
      clear hno
      go_wp2
      refine HPY.out (fun W => W = W6) _ _ _ HPP.out ?_ rfl
      rw [HFR.out]
      rfl
    rintro a_W7 W7 ⟨⟨uW7, rfl⟩, rfl⟩
    clear hno
    by_cases hno : i + 1 < S.length ∧ c = 47 ∧ at_ (bstr S) (i + 1) = 42
    ·obtain ⟨h2, rfl, hd⟩ := hno
     have hi2 : (i : Int) + 1 < ((bstr S).size : Int) := by rw [hss]; omega
     have hb2 := at_get (bstr S) (i + 1) (by rw [hss]; exact h2)
     rw [hd] at hb2
     have hR := HRR.out
     rw [if_pos (by rw [hd, decide_eq_true h2]; rfl)] at hR
     have HRE := hid hR
     clear hR hd
     obtain ⟨c0, c1, c2, c3, c4⟩ := hx6.c
     have hfz := hx6.fz
     obtain ⟨hl0, hl1⟩ := cell_two hk6
     have hbX2 : ¬ bx = X := Ne.symm HB.out.2.2.2.2.1
     refine wp_seq_of (fun a W => False) ?_ (fun a W h => h.elim)
     rw [HFR.out]
     obtain ⟨PP, hPP⟩ : ∃ PP : Act → World → Prop, PP = (fun a W => False) := ⟨_, rfl⟩
     rw [← hPP]
     clear hPP
     have HF := hid (And.intro hx6 (And.intro hr6 (And.intro hb6 hk6)))
     clear hx6 hr6 hb6 hk6
     go_wp2
     refine HEND.out _ _ (i + 2) { st1 with op := true, fr := N } out1 v1 ?_ (by omega) (by omega) (RAt.s4 (RAt.s3 HF.out.1 true) N) (RAt.row (RAt.s3 HF.out.1 true) (RAt.row HF.out.1 HF.out.2.1)) ((HF.out.2.2.1.setCell (p := ⟨X, 3, none⟩) hbX _).setCell (p := ⟨X, 4, none⟩) hbX _) ((Below.heap_setCell _ ⟨X, 4, none⟩ _ bx hbX2).trans ((Below.heap_setCell _ ⟨X, 3, none⟩ _ bx hbX2).trans HF.out.2.2.2)) HS.out.2.2.2.2 ?_
     ·rw [HFR.out]
      rfl
     ·exact HRE.out
    have hr := HRR.out
    rw [if_neg (by
     intro h
     rw [Bool.and_eq_true, Bool.and_eq_true, decide_eq_true_eq, beq_iff_eq, beq_iff_eq] at h
     exact hno h)] at hr
    have HRR := hid hr
    clear hr
    refine wp_seq_of (fun a W => (∃ u, a = FR u (.string (bstr S)) (.int .i64 (i : Int))) ∧ (fun W => W = W7) W) ?_ ?_
    ·obtain ⟨PP, hPP⟩ : ∃ PP : Act → World → Prop, PP = (fun a W => (∃ u, a = FR u (.string (bstr S)) (.int .i64 (i : Int))) ∧ (fun W => W = W7) W) := ⟨_, rfl⟩
     rw [← hPP, HFR.out]
     have HPP := hid hPP
     clear hPP
     by_cases h2 : i + 1 < S.length
     ·have hi2 : (i : Int) + 1 < ((bstr S).size : Int) := by rw [hss]; omega
      have hb2 := at_get (bstr S) (i + 1) (by rw [hss]; exact h2)
      obtain ⟨d, hd⟩ : ∃ d, at_ (bstr S) (i + 1) = d := ⟨_, rfl⟩
      rw [hd] at hb2
      by_cases h47 : c = 47
      ·have hdn : ¬ d = 42 := fun hh => hno ⟨h2, h47, by rw [hd]; exact hh⟩
       have nd : ¬ ((d.toNat : Int) = 42) := fun hh => hdn ((byte_eq d 42 (by omega)).1 hh)
       subst h47
       clear hno
       go_wp2
       refine HPY.out (fun W => W = W7) _ _ _ HPP.out ?_ rfl
       rw [HFR.out]
       rfl
      ·have nc : ¬ ((c.toNat : Int) = 47) := fun hh => h47 ((byte_eq c 47 (by omega)).1 hh)
       clear hno
       go_wp2
       refine HPY.out (fun W => W = W7) _ _ _ HPP.out ?_ rfl
       rw [HFR.out]
       rfl
     ·have hi2 : ¬ ((i : Int) + 1 < ((bstr S).size : Int)) := by rw [hss]; omega
      clear hno
      go_wp2
      refine HPY.out (fun W => W = W7) _ _ _ HPP.out ?_ rfl
      rw [HFR.out]
      rfl
    rintro a_W8 W8 ⟨⟨uW8, rfl⟩, rfl⟩
    clear hno
    have hne8 : S.drop i ≠ [] := by rw [Ne, List.drop_eq_nil_iff]; omega
    have hcl := first_eq (S.drop i) hne8 (by rw [List.length_drop]; omega)
    have hle := nextP_le (S.drop i) hne8
    obtain ⟨⟨K1, N1⟩, hq⟩ : ∃ q, nextP (bstr (S.drop i)) = q := ⟨_, rfl⟩
    have hr := HRR.out
    rw [hq] at hcl hle hr
    simp only at hcl hle hr
    have HRR := hid hr
    clear hr
    have hcall := fun W => burinref02_first.calls _ (bstr (S.drop i)) _ _ W hcl
    have HCALL := hid hcall
    have hbe : (bstr S).extract i S.length = bstr (S.drop i) := by have := bext S i; rwa [bstr_size] at this
    clear hcl hq hcall hne8
    rw [HFR.out]
    go_wp2_with (fail)
    refine (HCALL.out _).mono ?_
    rintro e9 W9 ⟨rfl, hB9⟩
    have hx9 : RAt W9 X v1 st1 := (hB9.block X hx6.lt).trans hx6
    have hr9 := hr6.kept (grown_of_below hB9) (by by_cases e : v1.ownBlock = none; exact .inl e; exact .inr e)
    have hb9 := hb6.trans (hB9.mono (by have := hx6.lt; omega))
    have hk9 := (hB9.block bx (Array.getElem?_eq_some_iff.1 hk6).1).trans hk6
    obtain ⟨c0, c1, c2, c3, c4⟩ := hx9.c
    have hfz := hx9.fz
    obtain ⟨hl0, hl1⟩ := cell_two hk9
    clear hx6 hr6 hb6 hk6 hB9 HCALL
    have HF := hid (And.intro hx9 (And.intro hr9 (And.intro hb9 hk9)))
    obtain ⟨p4, c4', rfl⟩ : ∃ p4 c4, v1 = .slice p4 out1.length c4 := by
     rcases hr9.2 with ⟨rfl, h0⟩ | ⟨g, cap, _, rfl, _⟩
     ·exact ⟨none, 0, by rw [h0]⟩
     ·exact ⟨_, _, rfl⟩
    clear hx9 hr9 hb9 hk9
    by_cases hn0 : N1 = 0
    ·subst hn0
     have hR := HRR.out
     rw [if_pos rfl] at hR
     have HRE := hid hR
     clear hR
     go_wp2
     go_ret
     rw [← HRE.out]
     exact ⟨_, rfl, HF.out.1, HF.out.2.1, HF.out.2.2.1⟩
    ·have hR := HRR.out
     rw [if_neg hn0] at hR
     have hn1 : ¬ ((N1 : Int) = 0) := by omega
     by_cases h20 : (20000 : Int) ≤ out1.length
     ·rw [if_pos (by omega)] at hR
      have HRE := hid hR
      clear hR
      go_wp2
      go_ret
      rw [← HRE.out]
      exact ⟨_, rfl, HF.out.1, HF.out.2.1, HF.out.2.2.1⟩
     ·rw [if_neg (by omega)] at hR
      have HRE := hid hR
      clear hR
      go_wp2
      rename_i Kb ha
      have hn1 : ¬ ((N1 : Int) = 0) := by omega
      have hle1 : N1 ≤ S.length - i := by rw [List.length_drop] at hle; exact hle
      have hle2 : (i : Int) + (N1 : Int) ≤ ((bstr S).size : Int) := by rw [hss]; omega
      have hle4 : (i : Int) + (N1 : Int) ≤ (S.length : Int) := by omega
      have hle3 : (i : Int) ≤ (i : Int) + (N1 : Int) := by omega
      have hex : (bstr S).extract i (i + N1) = bstr ((S.drop i).take N1) := by
       apply ByteArray.ext
       rw [ByteArray.data_extract]
       apply Array.ext'
       simp [bstr, List.extract_eq_take_drop, Nat.add_sub_cancel_left]
      have info55 : (Tryz.prog.info? 55).map (fun i => (i.zero, i.size, i.bytes)) = some (some (.agg #[.int .i64 0, .string ⟨#[]⟩, .string ⟨#[]⟩, .int .i64 0, .bool false, .bool false]), 6, 56) := by kernel_rfl
      obtain ⟨i0, hi0, hz0, hz1, hz2⟩ := info_parts info55
      have hbs : base ≤ W9.heap.size := by have := HF.out.1.lt; omega
      have hz9 : (0 : Int) ≤ (i : Int) := Int.natCast_nonneg _
      have hwr : IntKind.i64.wrap ((i : Int) + (N1 : Int)) = (i : Int) + (N1 : Int) := by rw [IntKind.wrap_i64]; omega
      have htn : ((i : Int) + (N1 : Int)).toNat = i + N1 := by omega
      have hz8 : (0 : Int) ≤ (i : Int) + (N1 : Int) := by omega
      have hX9 := HF.out.1.lt
      clear info55 hle
      have hno := HF.out.1.not_row HF.out.2.1
      have hblk := (Array.getElem?_eq_some_iff.1 HF.out.2.2.2).1
      have hne2 : (Value.slice p4 out1.length c4').ownBlock ≠ some bx := not_row2 HF.out.2.2.2 HF.out.2.1
      have hbk : ∀ o b, b < W9.heap.size → (W9.alloc o).heap[b]? = W9.heap[b]? := fun o b h => ((Below.refl W9.heap.size W9).alloc (Nat.le_refl _) o).block b h
      have hc0 : ∀ o, (W9.alloc o).cell? ⟨X, 0, none⟩ = some (.slice p4 out1.length c4') := fun o => (World.cell?_of_block (hbk _ X hX9)).trans c0
      have hend : ∀ (t : Array Value) (w1 : World) (gg cap : Nat), { tmps := t, defers := [] } = FR (fun k => t.getD k undef) (.string (bstr S)) (.int .i64 (i : Int)) → t.getD 8 undef = .int .i64 (N1 : Int) →
        w1.ownsRow base 55 6 (.slice (some ⟨gg, 0, none⟩) (out1.length + 1) cap) (out1.length + 1) (toksC out1 ++ [.int .i64 K1, .string (bstr ((S.drop i).take N1)), .string ⟨#[]⟩, .int .i64 N, .bool st1.sp, .bool st1.fs]) →
        (W9.alloc (.cells #[.int .i64 K1, .string (bstr ((S.drop i).take N1)), .string ⟨#[]⟩, .int .i64 N, .bool st1.sp, .bool st1.fs] 55)).drew.grownBy w1 (Value.slice p4 out1.length c4').ownBlock →
        Kb { tmps := t, defers := [] } (w1.setCell ⟨X, 0, none⟩ (.slice (some ⟨gg, 0, none⟩) (out1.length + 1) cap)) := by
       intro t w1 gg cap ht h8 hown1 hgrow
       have hx1 : RAt w1 X (.slice p4 out1.length c4') st1 := (hgrow.block X (by simp; omega) (Ne.symm hno)).trans ((hbk _ X hX9).trans HF.out.1)
       have hk1 := (hgrow.block bx (by simp; omega) (Ne.symm hne2)).trans ((hbk _ bx hblk).trans HF.out.2.2.2)
       have hBa := HF.out.2.2.1.alloc hbs (.cells #[.int .i64 K1, .string (bstr ((S.drop i).take N1)), .string ⟨#[]⟩, .int .i64 N, .bool st1.sp, .bool st1.fs] 55)
       have hB1 : Below base w w1 := Below.grown (w := (W9.alloc (.cells #[.int .i64 K1, .string (bstr ((S.drop i).take N1)), .string ⟨#[]⟩, .int .i64 N, .bool st1.sp, .bool st1.fs] 55)).drew) ⟨hBa.os, hBa.tape, hBa.output, hBa.size, hBa.block⟩ hgrow (by simp; omega) (own_base HF.out.2.1)
       have hown2 := RAt.row (i := 0) (u := .slice (some ⟨gg, 0, none⟩) (out1.length + 1) cap) hx1 hown1
       have hx2 := RAt.s0 hx1 (.slice (some ⟨gg, 0, none⟩) (out1.length + 1) cap)
       have hB2 := hB1.setCell (p := ⟨X, 0, none⟩) hbX (.slice (some ⟨gg, 0, none⟩) (out1.length + 1) cap)
       have hk2 := (Below.heap_setCell w1 ⟨X, 0, none⟩ (.slice (some ⟨gg, 0, none⟩) (out1.length + 1) cap) bx (Ne.symm hXb)).trans hk1
       obtain ⟨W2, hW2⟩ : ∃ W2, w1.setCell ⟨X, 0, none⟩ (.slice (some ⟨gg, 0, none⟩) (out1.length + 1) cap) = W2 := ⟨_, rfl⟩
       rw [hW2] at hown2 hx2 hB2 hk2 ⊢
       clear hx1 hk1 hBa hB1 hown1 hgrow hW2 hbk hc0 c0 c1 c2 c3 c4 hfz hl0 hl1 hex
       obtain ⟨d0, d1, d2, d3, d4⟩ := hx2.c
       have hfz := hx2.fz
       have HF2 := hid (And.intro hx2 (And.intro hown2 (And.intro hB2 hk2)))
       clear hx2 hown2 hB2 hk2
       obtain ⟨u, hu⟩ : ∃ u : Nat → Value, (fun k => t.getD k undef) = u := ⟨_, rfl⟩
       have h8' : u 8 = .int .i64 (N1 : Int) := by rw [← hu]; exact h8
       rw [ht, hu, HFR.out]
       clear hu ht h8
       dsimp only
       rw [h8']
       refine ha _ _ ?_
       go_wp2
       refine HEND.out _ _ (i + N1) { st1 with sp := false, fs := false } (out1 ++ [{ kind := K1, s := List.take N1 (List.drop i S), line := N, sp := st1.sp, fs := st1.fs }]) (.slice (some ⟨gg, 0, none⟩) (out1.length + 1) cap) ?_ (by omega) (by omega) (RAt.s2 (RAt.s1 HF2.out.1 false) false) ?_ ?_ ?_ ?_ ?_
       ·rw [HFR.out]
        simp [← h8']
       ·rw [List.length_append, toksC_snoc]
        exact RAt.row (RAt.s1 HF2.out.1 false) (RAt.row HF2.out.1 HF2.out.2.1)
       ·exact (HF2.out.2.2.1.setCell (p := ⟨X, 1, none⟩) hbX _).setCell (p := ⟨X, 2, none⟩) hbX _
       ·exact (Below.heap_setCell _ ⟨X, 2, none⟩ _ bx (Ne.symm hXb)).trans ((Below.heap_setCell _ ⟨X, 1, none⟩ _ bx (Ne.symm hXb)).trans HF2.out.2.2.2)
       ·simp; omega
       ·rw [← HRE.out, List.drop_drop]
      clear HEND
      have HEN := hid hend
      clear hend
      refine start_ (n := 28) (S := fun w' => w'.cell? ⟨X, 0, none⟩ = some (.slice p4 out1.length c4') ∧ w'.cell? ⟨X, 1, none⟩ = some (.bool st1.sp) ∧ w'.cell? ⟨X, 2, none⟩ = some (.bool st1.fs) ∧ w'.cell? ⟨bx, 0, none⟩ = some (.int .i64 N)) (ds := [27]) (fl 0 28) (by kernel_rfl) rfl rfl ⟨c0, c1, c2, hl0⟩ (fun hHeld => ?_)
      refine pu 0 128 (fl 1 27) ?_
      refine pu 1 129 (fl 2 26) ?_
      refine pu 2 130 (fl 3 25) ?_
      refine pu 3 131 (fl 4 24) ?_
      refine pu 5 133 #[true, true, true, true, false, true, false, false, false, false, false, false, false, false, false, false, false, false, false, false, false, false, false, false, false, false, false, false] ?_
      refine pu 6 134 #[true, true, true, true, false, true, true, false, false, false, false, false, false, false, false, false, false, false, false, false, false, false, false, false, false, false, false, false] ?_
      refine pu 7 135 #[true, true, true, true, false, true, true, true, false, false, false, false, false, false, false, false, false, false, false, false, false, false, false, false, false, false, false, false] ?_
      refine pu 8 136 #[true, true, true, true, false, true, true, true, true, false, false, false, false, false, false, false, false, false, false, false, false, false, false, false, false, false, false, false] ?_
      refine pu 9 137 #[true, true, true, true, false, true, true, true, true, true, false, false, false, false, false, false, false, false, false, false, false, false, false, false, false, false, false, false] ?_
      refine pu 10 138 #[true, true, true, true, false, true, true, true, true, true, true, false, false, false, false, false, false, false, false, false, false, false, false, false, false, false, false, false] ?_
      refine pu 11 139 #[true, true, true, true, false, true, true, true, true, true, true, true, false, false, false, false, false, false, false, false, false, false, false, false, false, false, false, false] ?_
      refine pu 12 140 #[true, true, true, true, false, true, true, true, true, true, true, true, true, false, false, false, false, false, false, false, false, false, false, false, false, false, false, false] ?_
      refine pu 14 142 #[true, true, true, true, false, true, true, true, true, true, true, true, true, false, true, false, false, false, false, false, false, false, false, false, false, false, false, false] ?_
      refine pu 15 143 #[true, true, true, true, false, true, true, true, true, true, true, true, true, false, true, true, false, false, false, false, false, false, false, false, false, false, false, false] ?_
      refine pu 16 144 #[true, true, true, true, false, true, true, true, true, true, true, true, true, false, true, true, true, false, false, false, false, false, false, false, false, false, false, false] ?_
      refine pu 18 146 #[true, true, true, true, false, true, true, true, true, true, true, true, true, false, true, true, true, false, true, false, false, false, false, false, false, false, false, false] ?_
      refine pu 19 147 #[true, true, true, true, false, true, true, true, true, true, true, true, true, false, true, true, true, false, true, true, false, false, false, false, false, false, false, false] ?_
      refine pu 20 148 #[true, true, true, true, false, true, true, true, true, true, true, true, true, false, true, true, true, false, true, true, true, false, false, false, false, false, false, false] ?_
      refine tk 4 132 #[true, true, true, true, true, true, true, true, true, true, true, true, true, false, true, true, true, false, true, true, true, false, false, false, false, false, false, false] rfl rfl hHeld (by rintro w' ⟨s0, s1, s2, s3⟩; go_simp; with_reducible rfl) ?_
      refine tk 13 141 #[true, true, true, true, true, true, true, true, true, true, true, true, true, true, true, true, true, false, true, true, true, false, false, false, false, false, false, false] rfl rfl hHeld (by rintro w' ⟨s0, s1, s2, s3⟩; go_simp; with_reducible rfl) ?_
      refine tk 17 145 (fl 21 7) rfl rfl hHeld (by rintro w' ⟨s0, s1, s2, s3⟩; go_simp; with_reducible rfl) ?_
      refine tk 21 149 (fl 22 6) rfl rfl hHeld (by rintro w' ⟨s0, s1, s2, s3⟩; go_simp; with_reducible rfl) ?_
      refine pu 22 150 (fl 23 5) ?_
      refine one_ (i := 23) (N := some 151) (fl 24 4) rfl rfl (by kernel_rfl) (by decide) (fun K hK => ?_)
      refine value_ (w1 := ?_) (v := ?_) (by rfl) rfl ?_ ?_
      rotate_left 2
      ·go_simp
       constructor
       ·rfl
       ·rfl
      refine hK.out _ _ ⟨((World.cell?_of_block (hbk _ X hX9)).trans c0), ((World.cell?_of_block (hbk _ X hX9)).trans c1), ((World.cell?_of_block (hbk _ X hX9)).trans c2), ((World.cell?_of_block (hbk _ bx hblk)).trans hl0)⟩ (fun hHeld => ?_)
      clear hK K
      refine norm_ (a' := ?_) ?_ ?_
      rotate_left
      ·show Act.put _ (some 151) _ = _
       simp only [Act.put, sT, sZ, sS, i64_w, i32_w]
       rfl
      refine one_ (i := 24) (N := some 152) (fl 25 3) rfl rfl (by kernel_rfl) (by decide) (fun K hK => ?_)
      refine step_append_lies _ (by rfl) _ _ _ (by rfl) base 55 i0 _ 6 56 Tryz.underlying31 hi0 hz0 hz1 hz2 rfl (by omega) _ _ _ (by rfl) ((HF.out.2.1.alloc _).drew) ⟨W9.heap.size, 0, none⟩ 1 1 [.int .i64 K1, .string (bstr ((S.drop i).take N1)), .string ⟨#[]⟩, .int .i64 N, .bool st1.sp, .bool st1.fs] (by rfl) (by rfl) (World.news_of_block (cs := #[.int .i64 K1, .string (bstr ((S.drop i).take N1)), .string ⟨#[]⟩, .int .i64 N, .bool st1.sp, .bool st1.fs]) (t := 55) (fr := (0, 0)) (heap_alloc_new W9 _)) (by simp [Value.oneCell']) (by omega) (by simp [maxLen]; omega) (by omega) (by simp; omega) (W9.heap.size + 1) (by simp) ?_
      intro gg cap w1 hown1 hgrow hat hlt
      have hw0 : w1.cell? ⟨X, 0, none⟩ = some (.slice p4 out1.length c4') := (hgrow.cell_far _ (by simp; omega) (Ne.symm hno)).trans ((World.cell?_of_block (hbk _ X hX9)).trans c0)
      have hw4 : w1.frozen? ⟨X, 0, none⟩ = false := (hgrow.frozen_far _ (by simp; omega) (Ne.symm hno)).trans ((World.frozen?_of_block (hbk _ X hX9)).trans (hfz 0))
      refine hK.out _ _ ⟨hw0, ((hgrow.cell_far _ (by simp; omega) (Ne.symm hno)).trans ((World.cell?_of_block (hbk _ X hX9)).trans c1)), ((hgrow.cell_far _ (by simp; omega) (Ne.symm hno)).trans ((World.cell?_of_block (hbk _ X hX9)).trans c2)), ((hgrow.cell_far _ (by simp; omega) (Ne.symm hne2)).trans ((World.cell?_of_block (hbk _ bx hblk)).trans hl0))⟩ (fun hHeld => ?_)
      clear hK K
      refine norm_ (a' := ?_) ?_ ?_
      rotate_left
      ·show Act.put _ (some 152) _ = _
       simp only [Act.put, sT, sZ, sS, i64_w, i32_w]
       rfl
      refine pu 25 153 (fl 26 2) ?_
      refine pu 26 154 (fl 27 1) ?_
      refine last_ (i := 27) (N := none) (fl 28 0) rfl rfl (by kernel_rfl) (by decide) (fun K hK => ?_)
      refine skip_ (w1 := ?_) (by rfl) rfl ?_ ?_
      rotate_left
      ·go_simp
       rfl
      refine hK.out _ _ ?_
      clear hK K
      refine done_ (by kernel_rfl) ?_
      refine HEN.out _ w1 gg cap ?_ rfl hown1 hgrow
      rw [HFR.out]
      rfl
 ·have hi1 : ¬ ((i : Int) < ((bstr S).size : Int)) := by rw [hss]; omega
  have hnil : S.drop i = [] := List.drop_eq_nil_of_le (by omega)
  rw [refL, if_pos hnil] at hR
  subst hR
  rw [HFR.out]
  go_wp2
  go_ret
  exact ⟨rfl, v1, HS.out.1, HS.out.2.1, HS.out.2.2.1⟩
end Go.Proofs.YtcbfbefpbjmglaaGreatDoor.PureF
