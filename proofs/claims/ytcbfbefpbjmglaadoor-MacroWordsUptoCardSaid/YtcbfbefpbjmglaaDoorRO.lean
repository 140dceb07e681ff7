import Derived.Test.YtcbfbefpbjmglaaDoorRN
namespace Go.Proofs.YtcbfbefpbjmglaaDoor.PureF
open Go.RowKit Go.Lib Go.Proofs.YtcbfbefpbjmglaaDoorT Go.Proofs.YtcbfbefpbjmglaaDoor.PA Go.Proofs.YtcbfbefpbjmglaaDoorW.PrintWords Go.Proofs.YtcbfbefpbjmglaaDoorW.PrintLast Go.Proofs.YtcbfbefpbjmglaaDoorW.PrintMore
set_option linter.unusedVariables false
set_option linter.unusedSimpArgs false
def refX : List (Int × List UInt8) → St → List TokP → List TokP × Int × Int
 | [], st, out => if st.op then ([], 20, st.fr) else (out, 0, 0)
 | (N, S) :: r, st, out => if (refL N (S.length + 1) S (begin_ st) out).2.2 = 0 then refX r (refL N (S.length + 1) S (begin_ st) out).2.1 (refL N (S.length + 1) S (begin_ st) out).1 else ([], (refL N (S.length + 1) S (begin_ st) out).2.2, N)
theorem refL_len (N : Int) : ∀ (k : Nat) (m : List UInt8) (st : St) (out : List TokP), out.length ≤ 20000 → (refL N k m st out).1.length ≤ 20000
 | 0, _, _, _, h => h
 | k + 1, m, st, out, h => by
  unfold refL
  repeat' split
  all_goals first
   | exact h
   | exact refL_len N k _ _ _ h
   | (refine refL_len N k _ _ _ ?_; rw [List.length_append, List.length_singleton]; omega)
theorem refX_eq : ∀ (L : List (Int × List UInt8)) (st : St) (out : List TokP), out.length ≤ 20000 → refX L st out = lexF L out st
 | [], st, out, h => rfl
 | (N, S) :: r, st, out, h => by
  obtain ⟨h1, h2⟩ := refL_eq N (S.length + 1) S (begin_ st) out (by omega) h
  have hsk : sk N S (begin_ st) = skipP N (S.length + 1) S (begin_ st) := rfl
  rw [hsk] at h1 h2
  unfold refX lexF
  rw [show (lineP N S st) = toksL N (skipP N (S.length + 1) S (begin_ st)).1 (skipP N (S.length + 1) S (begin_ st)).2 from rfl]
  rw [h1]
  by_cases hz : (foldT out (toksL N (skipP N (S.length + 1) S (begin_ st)).1 (skipP N (S.length + 1) S (begin_ st)).2).1).2 = 0
  ·rw [if_pos hz, if_pos hz]
   obtain ⟨h3, h4⟩ := h2 hz
   have hl := refL_len N (S.length + 1) S (begin_ st) out h
   rw [h3] at hl
   rw [h3, h4]
   exact refX_eq r _ _ hl
  ·rw [if_neg hz, if_neg hz]
set_option maxRecDepth 100000 in
set_option maxHeartbeats 4000000 in
theorem reflex_calls (A : Option Addr) (c : Nat) (L : List (Int × List UInt8)) (w : World) (hL : ∀ x ∈ L, x.2.length < 1099511627776) (hLn : L.length < 9223372036854775806)
  (hA : 0 < L.length → ∃ ad, A = some ad ∧ ∀ i x, L[i]? = some x → w.cell? (ad.add (i * 2)) = some (.int .i64 x.1) ∧ w.cell? ⟨(ad.add (i * 2)).block, (ad.add (i * 2)).off + 1, none⟩ = some (.string (bstr x.2)))
  (R : List TokP × Int × Int) (HR : Aside (refX L st0 [] = R)) :
  Calls Tryd.prog 80 #[.slice A L.length c] w fun e w' => ∃ v, e = .returned (.tuple #[v, .int .i64 R.2.1, .int .i64 R.2.2]) ∧ w'.ownsRow w.heap.size 48 6 v R.1.length (toksC R.1) ∧ Below w.heap.size w w' := by
 obtain ⟨X, hX⟩ : ∃ X, w.heap.size = X := ⟨_, rfl⟩
 obtain ⟨W1, hW1⟩ : ∃ W1, w.alloc (.cells #[.slice none 0 0, .bool false, .bool false, .bool false, .int .i64 0] 124) = W1 := ⟨_, rfl⟩
 have hB1 : Below X w W1 := by rw [← hW1, ← hX]; exact below_new _
 have hx1 : RAt W1 X (.slice none 0 0) st0 := by rw [← hW1, ← hX]; exact World.alloc_heap_new _ _
 obtain ⟨FR, hFR⟩ : ∃ FR : (Nat → Value) → Value → Act, FR = fun u z6 => { tmps := #[.slice A L.length c, undef, .slice none 0 0, .int .i64 0, .int .i64 0, .pointer (some ⟨X, 0, none⟩), z6, (u 7), (u 8), .pointer (some ⟨X, 0, none⟩), (u 10), (u 11), (u 12), (u 13), (u 14), (u 15), (u 16), (u 17), (u 18), (u 19), (u 20), (u 21), (u 22), (u 23), (u 24), (u 25), (u 26), (u 27), (u 28), (u 29), (u 30), (u 31), (u 32), (u 33), (u 34), (u 35), (u 36), (u 37), (u 38), (u 39), (u 40), (u 41)], defers := [] } := ⟨_, rfl⟩
 have HFR := hid hFR
 clear hFR
 obtain ⟨I, hI⟩ : ∃ I : Nat → Act → World → Prop, I = fun g a W => ∃ (u : Nat → Value) (j : Nat) (st1 : St) (out1 : List TokP) (v1 : Value), a = FR u (.int .i64 (j : Int)) ∧ j ≤ L.length ∧ L.length < j + g ∧ RAt W X v1 st1 ∧ W.ownsRow X 48 6 v1 out1.length (toksC out1) ∧ Below X w W ∧ out1.length ≤ 20000 ∧ refX (L.drop j) st1 out1 = R := ⟨_, rfl⟩
 have HU : ∀ (t : Array Value) (W : World) (g j : Nat) (st1 : St) (out1 : List TokP) (v1 : Value), ({ tmps := t, defers := [] } : Act) = FR (fun k => t.getD k undef) (.int .i64 (j : Int)) → j ≤ L.length → L.length < j + g → RAt W X v1 st1 → W.ownsRow X 48 6 v1 out1.length (toksC out1) → Below X w W → out1.length ≤ 20000 → refX (L.drop j) st1 out1 = R → I g { tmps := t, defers := [] } W := by
  rw [hI]
  exact fun t W g j st1 out1 v1 h1 h2 h3 h4 h5 h6 h7 h8 => ⟨_, j, st1, out1, v1, h1, h2, h3, h4, h5, h6, h7, h8⟩
 have HU := hid HU
 have HI := hid hI
 clear hI
 have hcell : ∀ (j : Nat) (x : Int × List UInt8), L[j]? = some x → ∃ ad, A = some ad ∧ ∀ W, Below X w W → W.cell? (ad.add (j * 2)) = some (.int .i64 x.1) ∧ W.cell? ⟨(ad.add (j * 2)).block, (ad.add (j * 2)).off + 1, none⟩ = some (.string (bstr x.2)) := by
  intro j x hj
  have hjl := (List.getElem?_eq_some_iff.1 hj).1
  obtain ⟨ad, e, h⟩ := hA (by omega)
  obtain ⟨h0, h1⟩ := h j x hj
  have b0 := World.block_lt_of_cell? w _ h0
  have b1 := World.block_lt_of_cell? w _ h1
  refine ⟨ad, e, fun W hB => ⟨(World.cell?_of_block (hB.block _ (by omega))).trans h0, (World.cell?_of_block (hB.block _ (by show _ < X; omega))).trans h1⟩⟩
 have HC := hid (And.intro hcell hL)
 have HB1 := hid (And.intro hB1 (And.intro hx1 hX))
 clear hcell hL hA hB1 hx1
 rw [hX]
 go_enter Tryd.func80, Tryd.ntmps80
 go_wp2
 try rw [hW1]
 try rw [hX]
 clear hX hW1
 refine wp_loop_ghost_k I (L.length + 1) ?_ ?_
 ·refine HU.out _ _ _ 0 st0 [] (.slice none 0 0) ?_ (by omega) (by omega) HB1.out.2.1 (World.ownsRow_nil _ _ _ _) HB1.out.1 (by simp) (by rw [List.drop_zero]; exact HR.out)
  rw [HFR.out]
  rfl
 intro g a2 W2 hI2 J K hJ hK
 rw [HI.out] at hI2
 obtain ⟨u, j, st1, out1, v1, rfl, hj, hg, hx2, hr2, hb2, ho1, hR⟩ := hI2
 obtain ⟨g, rfl⟩ : ∃ g', g = g' + 1 := ⟨g - 1, by omega⟩
 by_cases hjl : j < L.length
 ·have hlt : (j : Int) < (L.length : Int) := by omega
  obtain ⟨⟨N, S⟩, hLj⟩ : ∃ x, L[j]? = some x := ⟨_, List.getElem?_eq_getElem hjl⟩
  obtain ⟨ad, rfl, hcells⟩ := HC.out.1 j (N, S) hLj
  have hS : S.length < 1099511627776 := HC.out.2 (N, S) (List.mem_of_getElem? hLj)
  have hdrop : L.drop j = (N, S) :: L.drop (j + 1) := by rw [List.drop_eq_getElem_cons hjl]; rw [List.getElem?_eq_getElem hjl] at hLj; rw [Option.some.inj hLj]
  rw [hdrop, refX] at hR
  obtain ⟨R2, hR2⟩ : ∃ R2, refL N (S.length + 1) S (begin_ st1) out1 = R2 := ⟨_, rfl⟩
  rw [hR2] at hR
  have hlen : R2.1.length ≤ 20000 := by rw [← hR2]; exact refL_len N _ _ _ _ ho1
  have hcall := line_calls X X N S st1 out1 v1 W2 hx2 hr2 (Nat.le_refl _) hS ho1 R2 (hid hR2)
  obtain ⟨hc0, hc1⟩ := hcells W2 hb2
  have HCALL := hid hcall
  have HST := hid (And.intro hb2 (And.intro hcells (And.intro hlen (And.intro hJ hK))))
  have HRR := hid hR
  clear hcall hb2 hcells hlen hJ hK hR hx2 hr2 hR2 hdrop hLj hS
  rw [HFR.out]
  go_wp2_with (fail)
  refine HCALL.out.mono ?_
  rintro e W3 ⟨v2, rfl, hx3, hr3, hb3⟩
  have hb4 := HST.out.1.trans hb3
  obtain ⟨hd0, hd1⟩ := HST.out.2.1 W3 hb4
  have HS3 := hid (And.intro hx3 (And.intro hr3 hb4))
  clear hx3 hr3 hb3 hb4 HCALL hc0 hc1
  by_cases hz : R2.2.2 = 0
  ·have hR := HRR.out
   rw [if_pos hz] at hR
   have HRE := hid hR
   rw [hz]
   clear hR hz hd0 hd1
   go_wp2
   refine HST.out.2.2.2.2 _ _ (Handed.intro g (by omega) (HST.out.2.2.2.1 _ _ _ ?_))
   refine HU.out _ _ _ (j + 1) R2.2.1 R2.1 v2 ?_ (by omega) (by omega) HS3.out.1 HS3.out.2.1 HS3.out.2.2 HST.out.2.2.1 HRE.out
   rw [HFR.out]
   rfl
  ·have hR := HRR.out
   rw [if_neg hz] at hR
   have HRE := hid hR
   clear hR
   have hzb : (R2.2.2 != 0) = true := bne_iff_ne.2 hz
   go_wp2
   go_quiet (fail)
   go_wp2
   go_ret3
   rw [← HRE.out]
   exact ⟨_, rfl, World.ownsRow_nil _ _ _ _, bl_drewN HS3.out.2.2 _⟩
 ·have hlt : ¬ ((j : Int) < (L.length : Int)) := by omega
  have hnil : L.drop j = [] := List.drop_eq_nil_of_le (by omega)
  rw [hnil] at hR
  obtain ⟨c0, c1, c2, c3, c4⟩ := hx2.c
  have hfz := hx2.fz
  obtain ⟨p4, c4', rfl⟩ : ∃ p4 c4, v1 = .slice p4 out1.length c4 := by
   rcases hr2.2 with ⟨rfl, h0⟩ | ⟨g, cap, _, rfl, _⟩
   ·exact ⟨none, 0, by rw [h0]⟩
   ·exact ⟨_, _, rfl⟩
  have HS3 := hid (And.intro hx2 (And.intro hr2 hb2))
  clear hx2 hr2 hb2
  rw [HFR.out]
  cases hop : st1.op with
  | true =>
   rw [hop] at c3
   rw [refX, if_pos hop] at hR
   have HRE := hid hR
   clear hR hop
   go_wp2
   go_quiet (fail)
   go_wp2
   go_ret3
   rw [← HRE.out]
   exact ⟨_, rfl, World.ownsRow_nil _ _ _ _, bl_drewN HS3.out.2.2 _⟩
  | false =>
   rw [hop] at c3
   rw [refX, if_neg (by rw [hop]; decide)] at hR
   have HRE := hid hR
   clear hR hop
   go_wp2
   go_ret3
   rw [← HRE.out]
   exact ⟨_, rfl, HS3.out.2.1, HS3.out.2.2⟩
end Go.Proofs.YtcbfbefpbjmglaaDoor.PureF
namespace Go.Proofs.YtcbfbefpbjmglaaDoor.PA
open Go.RowKit Go.Proofs.YtcbfbefpbjmglaaDoorT Go.Proofs.YtcbfbefpbjmglaaDoor.PureF Go.Proofs.YtcbfbefpbjmglaaDoorW.PrintWords Go.Proofs.YtcbfbefpbjmglaaDoorW.PrintLast Go.Proofs.YtcbfbefpbjmglaaDoorW.PrintMore
set_option linter.unusedVariables false
def burinref02_Lex.f (l0 : List S28) : Option (List S48 × Int × Int) := if fits l0 = true then some ((lexP (toL l0)).1.map toT, (lexP (toL l0)).2.1, (lexP (toL l0)).2.2) else none
theorem burinref02_Lex.calls (A0 : Option Addr) (c0 : Nat) (l0 : List (S28)) (r1 : List (S48)) (r2 r3 : Int) (w : World) (hr0 : Kd.C k28 w A0 l0.length l0) (hc0 : l0.length ≤ c0) (h : burinref02_Lex.f l0 = some (r1, r2, r3)) :
  Calls Tryd.prog 80 #[.slice A0 l0.length c0] w fun e w' => ∃ v0_ : Value, e = .returned (.tuple #[v0_, .int .i64 r2, .int .i64 r3]) ∧ Kd.R k48 48 w' w.heap.size (fun _ => True) v0_ r1 ∧ Below w.heap.size w w' := by
 unfold burinref02_Lex.f at h
 by_cases hs : fits l0 = true
 ·rw [if_pos hs] at h
  simp only [Option.some.injEq, Prod.mk.injEq] at h
  obtain ⟨rfl, rfl, rfl⟩ := h
  unfold fits at hs
  rw [Bool.and_eq_true, List.all_eq_true, decide_eq_true_eq] at hs
  have hl : (toL l0).length = l0.length := by simp [toL]
  rw [← hl]
  have hR : refX (toL l0) st0 [] = lexP (toL l0) := refX_eq (toL l0) st0 [] (by simp)
  refine (reflex_calls A0 c0 (toL l0) w (fun x hx => ?_) (by omega) (fun hp => ?_) (lexP (toL l0)) (hid hR)).mono ?_
  ·obtain ⟨y, hy, rfl⟩ := List.mem_map.1 hx
   have := hs.1 y hy
   rw [decide_eq_true_eq, Lib.size_eq] at this
   show y.f1.data.toList.length < _
   omega
  ·rw [hl] at hp
   obtain ⟨ad, e, _, _⟩ := at_T28 hr0 0 (by omega) (by omega)
   subst e
   refine ⟨ad, rfl, fun i x hx => ?_⟩
   have hi : i < l0.length := by rw [← hl]; exact (List.getElem?_eq_some_iff.1 hx).1
   obtain ⟨ad', e', h0, h1⟩ := at_T28 hr0 (i : Int) (by omega) (by omega)
   cases e'
   have hrd : x = ((rd_T28 l0 (i : Int)).f0, (rd_T28 l0 (i : Int)).f1.data.toList) := by
    have : (toL l0)[i]? = some (l0[i].f0, l0[i].f1.data.toList) := by simp [toL, hi]
    rw [this] at hx
    rw [← Option.some.inj hx]
    unfold rd_T28
    rw [List.getD_eq_getElem?_getD]; simp [hi]
   rw [hrd]
   exact ⟨h0, h1⟩
  ·rintro e w' ⟨v, rfl, hr, hb⟩
   exact ⟨v, rfl, R_of_toks hr, hb⟩
 ·rw [if_neg hs] at h; cases h
end Go.Proofs.YtcbfbefpbjmglaaDoor.PA
