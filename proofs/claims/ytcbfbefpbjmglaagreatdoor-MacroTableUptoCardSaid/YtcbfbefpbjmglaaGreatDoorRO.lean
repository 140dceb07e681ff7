import Derived.Test.YtcbfbefpbjmglaaGreatDoorZ
import Derived.Test.YtcbfbefpbjmglaaGreatDoorRN
import Derived.RangeFuncGives
import Derived.RangeFuncNested
import Derived.RangeFuncBound
import Derived.RangeFuncCalls
import Derived.RangeFuncLeaves
import Derived.RangeFuncBox
import Derived.RangeFuncWrites
import Derived.RangeFuncFrom
import Derived.OwnWalkIn
import Derived.Test.YtcbfbefpbjmglaaGreatDoorMF
import Derived.RangeFuncKeeps
import Derived.Shelf.Abstract
import Derived.WalkKit
import Derived.TacticsInMore
import Derived.LoopNIn
import Derived.LoopIn
import Derived.Shelf.RegionOpen
set_option maxRecDepth 100000
set_option linter.unusedSimpArgs false
set_option linter.unusedVariables false
namespace Go.Proofs.YtcbfbefpbjmglaaGreatDoor.PureF
open Go.RowKit Go.Lib YtcbfbefpbjmglaaGreatDoorT PA YtcbfbefpbjmglaaGreatDoorW PrintWords PrintLast PrintMore
def refX : List (Int × List UInt8) → St → List TokP → List TokP × Int × Int
 | [], st, out => if st.op then ([], 20, st.fr) else (out, 0, 0)
 | (N, S) :: r, st, out => if (refL N (S.length + 1) S (begin_ st) out).2.2 = 0 then refX r (refL N (S.length + 1) S (begin_ st) out).2.1 (refL N (S.length + 1) S (begin_ st) out).1 else ([], (refL N (S.length + 1) S (begin_ st) out).2.2, N)
theorem refL_len (N : Int) : ∀ (k : Nat) (m : List UInt8) (st : St) (out : List TokP), out.length ≤ 20000 → (refL N k m st out).1.length ≤ 20000
 | 0, _, _, _, h => h
 | k + 1, m, st, out, h => by
  unfold refL
  repeat' split
  all_goals first
   | exact h
   | exact refL_len N k _ _ _ h
   | (refine refL_len N k _ _ _ ?_; rw [List.length_append, List.length_singleton]; omega)
theorem refX_eq : ∀ (L : List (Int × List UInt8)) (st : St) (out : List TokP), out.length ≤ 20000 → refX L st out = lexF L out st
 | [], st, out, h => rfl
 | (N, S) :: r, st, out, h => by
  obtain ⟨h1, h2⟩ := refL_eq N (S.length + 1) S (begin_ st) out (by omega) h
  have hsk : sk N S (begin_ st) = skipP N (S.length + 1) S (begin_ st) := rfl
  rw [hsk] at h1 h2
  unfold refX lexF
  rw [show (lineP N S st) = toksL N (skipP N (S.length + 1) S (begin_ st)).1 (skipP N (S.length + 1) S (begin_ st)).2 from rfl]
  rw [h1]
  by_cases hz : (foldT out (toksL N (skipP N (S.length + 1) S (begin_ st)).1 (skipP N (S.length + 1) S (begin_ st)).2).1).2 = 0
  ·rw [if_pos hz, if_pos hz]
   obtain ⟨h3, h4⟩ := h2 hz
   have hl := refL_len N (S.length + 1) S (begin_ st) out h
   rw [h3] at hl
   rw [h3, h4]
   exact refX_eq r _ _ hl
  ·rw [if_neg hz, if_neg hz]
set_option maxHeartbeats 4000000 in
theorem reflex_calls (A : Option Addr) (c : Nat) (L : List (Int × List UInt8)) (w : World) (hL : ∀ x ∈ L, x.2.length < 1099511627776) (hLn : L.length < 9223372036854775806)
  (hA : 0 < L.length → ∃ ad, A = some ad ∧ ∀ i x, L[i]? = some x → w.cell? (ad.add (i * 2)) = some (.int .i64 x.1) ∧ w.cell? ⟨(ad.add (i * 2)).block, (ad.add (i * 2)).off + 1, none⟩ = some (.string (bstr x.2)))
  (R : List TokP × Int × Int) (HR : Aside (refX L st0 [] = R)) :
  Calls Tryz.prog 77 #[.slice A L.length c] w fun e w' => ∃ v, e = .returned (.tuple #[v, .int .i64 R.2.1, .int .i64 R.2.2]) ∧ w'.ownsRow w.heap.size 55 6 v R.1.length (toksC R.1) ∧ Below w.heap.size w w' := by
 obtain ⟨X, hX⟩ : ∃ X, w.heap.size = X := ⟨_, rfl⟩
 obtain ⟨W1, hW1⟩ : ∃ W1, w.alloc (.cells #[.slice none 0 0, .bool false, .bool false, .bool false, .int .i64 0] 143) = W1 := ⟨_, rfl⟩
 have hB1 : Below X w W1 := by rw [← hW1, ← hX]; exact below_new _
 have hx1 : RAt W1 X (.slice none 0 0) st0 := by rw [← hW1, ← hX]; exact World.alloc_heap_new _ _
 obtain ⟨FR, hFR⟩ : ∃ FR : (Nat → Value) → Value → Act, FR = fun u z6 => { tmps := #[.slice A L.length c, undef, .slice none 0 0, .int .i64 0, .int .i64 0, .pointer (some ⟨X, 0, none⟩), z6, (u 7), (u 8), .pointer (some ⟨X, 0, none⟩), (u 10), (u 11), (u 12), (u 13), (u 14), (u 15), (u 16), (u 17), (u 18), (u 19), (u 20), (u 21), (u 22), (u 23), (u 24), (u 25), (u 26), (u 27), (u 28), (u 29), (u 30), (u 31), (u 32), (u 33), (u 34), (u 35), (u 36), (u 37), (u 38), (u 39), (u 40), (u 41)], defers := [] } := ⟨_, rfl⟩
 have HFR := hid hFR
 clear hFR
 obtain ⟨I, hI⟩ : ∃ I : Nat → Act → World → Prop, I = fun g a W => ∃ (u : Nat → Value) (j : Nat) (st1 : St) (out1 : List TokP) (v1 : Value), a = FR u (.int .i64 (j : Int)) ∧ j ≤ L.length ∧ L.length < j + g ∧ RAt W X v1 st1 ∧ W.ownsRow X 55 6 v1 out1.length (toksC out1) ∧ Below X w W ∧ out1.length ≤ 20000 ∧ refX (L.drop j) st1 out1 = R := ⟨_, rfl⟩
 have HU : ∀ (t : Array Value) (W : World) (g j : Nat) (st1 : St) (out1 : List TokP) (v1 : Value), ({ tmps := t, defers := [] } : Act) = FR (fun k => t.getD k undef) (.int .i64 (j : Int)) → j ≤ L.length → L.length < j + g → RAt W X v1 st1 → W.ownsRow X 55 6 v1 out1.length (toksC out1) → Below X w W → out1.length ≤ 20000 → refX (L.drop j) st1 out1 = R → I g { tmps := t, defers := [] } W := by
  rw [hI]
  exact fun t W g j st1 out1 v1 h1 h2 h3 h4 h5 h6 h7 h8 => ⟨_, j, st1, out1, v1, h1, h2, h3, h4, h5, h6, h7, h8⟩
 have HU := hid HU
 have HI := hid hI
 clear hI
 have hcell : ∀ (j : Nat) (x : Int × List UInt8), L[j]? = some x → ∃ ad, A = some ad ∧ ∀ W, Below X w W → W.cell? (ad.add (j * 2)) = some (.int .i64 x.1) ∧ W.cell? ⟨(ad.add (j * 2)).block, (ad.add (j * 2)).off + 1, none⟩ = some (.string (bstr x.2)) := by
  intro j x hj
  have hjl := (List.getElem?_eq_some_iff.1 hj).1
  obtain ⟨ad, e, h⟩ := hA (by omega)
  obtain ⟨h0, h1⟩ := h j x hj
  have b0 := cl w _ h0
  have b1 := cl w _ h1
  refine ⟨ad, e, fun W hB => ⟨(World.cell?_of_block (hB.block _ (by omega))).trans h0, (World.cell?_of_block (hB.block _ (by show _ < X; omega))).trans h1⟩⟩
 have HC := hid (And.intro hcell hL)
 have HB1 := hid (And.intro hB1 (And.intro hx1 hX))
 clear hcell hL hA hB1 hx1
 rw [hX]
 go_enter Tryz.func77, Tryz.ntmps77
 go_wp2
 try rw [hW1]
 try rw [hX]
 clear hX hW1
 refine wp_loop_ghost_k I (L.length + 1) ?_ ?_
 ·refine HU.out _ _ _ 0 st0 [] (.slice none 0 0) ?_ (by omega) (by omega) HB1.out.2.1 (World.ownsRow_nil _ _ _ _) HB1.out.1 (by simp) (by rw [List.drop_zero]; exact HR.out)
  rw [HFR.out]
  rfl
 intro g a2 W2 hI2 J K hJ hK
 rw [HI.out] at hI2
 obtain ⟨u, j, st1, out1, v1, rfl, hj, hg, hx2, hr2, hb2, ho1, hR⟩ := hI2
 obtain ⟨g, rfl⟩ : ∃ g', g = g' + 1 := ⟨g - 1, by omega⟩
 by_cases hjl : j < L.length
 ·have hlt : (j : Int) < (L.length : Int) := by omega
  obtain ⟨⟨N, S⟩, hLj⟩ : ∃ x, L[j]? = some x := ⟨_, List.getElem?_eq_getElem hjl⟩
  obtain ⟨ad, rfl, hcells⟩ := HC.out.1 j (N, S) hLj
  have hS : S.length < 1099511627776 := HC.out.2 (N, S) (List.mem_of_getElem? hLj)
  have hdrop : L.drop j = (N, S) :: L.drop (j + 1) := by rw [List.drop_eq_getElem_cons hjl]; rw [List.getElem?_eq_getElem hjl] at hLj; rw [Option.some.inj hLj]
  rw [hdrop, refX] at hR
  obtain ⟨R2, hR2⟩ : ∃ R2, refL N (S.length + 1) S (begin_ st1) out1 = R2 := ⟨_, rfl⟩
  rw [hR2] at hR
  have hlen : R2.1.length ≤ 20000 := by rw [← hR2]; exact refL_len N _ _ _ _ ho1
  have hcall := line_calls X X N S st1 out1 v1 W2 hx2 hr2 (Nat.le_refl _) hS ho1 R2 (hid hR2)
  obtain ⟨hc0, hc1⟩ := hcells W2 hb2
  have HCALL := hid hcall
  have HST := hid (And.intro hb2 (And.intro hcells (And.intro hlen (And.intro hJ hK))))
  have HRR := hid hR
  clear hcall hb2 hcells hlen hJ hK hR hx2 hr2 hR2 hdrop hLj hS
  rw [HFR.out]
  go_wp2_with (fail)
  refine HCALL.out.mono ?_
  rintro e W3 ⟨v2, rfl, hx3, hr3, hb3⟩
  have hb4 := HST.out.1.trans hb3
  obtain ⟨hd0, hd1⟩ := HST.out.2.1 W3 hb4
  have HS3 := hid (And.intro hx3 (And.intro hr3 hb4))
  clear hx3 hr3 hb3 hb4 HCALL hc0 hc1
  by_cases hz : R2.2.2 = 0
  ·have hR := HRR.out
   rw [if_pos hz] at hR
   have HRE := hid hR
   rw [hz]
   clear hR hz hd0 hd1
   go_wp2
   refine HST.out.2.2.2.2 _ _ (Handed.intro g (by omega) (HST.out.2.2.2.1 _ _ _ ?_))
   refine HU.out _ _ _ (j + 1) R2.2.1 R2.1 v2 ?_ (by omega) (by omega) HS3.out.1 HS3.out.2.1 HS3.out.2.2 HST.out.2.2.1 HRE.out
   rw [HFR.out]
   rfl
  ·have hR := HRR.out
   rw [if_neg hz] at hR
   have HRE := hid hR
   clear hR
   have hzb : (R2.2.2 != 0) = true := bne_iff_ne.2 hz
   go_wp2
   go_quiet (fail)
   go_wp2
   go_ret3
   rw [← HRE.out]
   exact ⟨_, rfl, World.ownsRow_nil _ _ _ _, bl_drewN HS3.out.2.2 _⟩
 ·have hlt : ¬ ((j : Int) < (L.length : Int)) := by omega
  have hnil : L.drop j = [] := List.drop_eq_nil_of_le (by omega)
  rw [hnil] at hR
  obtain ⟨c0, c1, c2, c3, c4⟩ := hx2.c
  have hfz := hx2.fz
  obtain ⟨p4, c4', rfl⟩ : ∃ p4 c4, v1 = .slice p4 out1.length c4 := by
   rcases hr2.2 with ⟨rfl, h0⟩ | ⟨g, cap, _, rfl, _⟩
   ·exact ⟨none, 0, by rw [h0]⟩
   ·exact ⟨_, _, rfl⟩
  have HS3 := hid (And.intro hx2 (And.intro hr2 hb2))
  clear hx2 hr2 hb2
  rw [HFR.out]
  cases hop : st1.op with
  | true =>
   rw [hop] at c3
   rw [refX, if_pos hop] at hR
   have HRE := hid hR
   clear hR hop
   go_wp2
   go_quiet (fail)
   go_wp2
   go_ret3
   rw [← HRE.out]
   exact ⟨_, rfl, World.ownsRow_nil _ _ _ _, bl_drewN HS3.out.2.2 _⟩
  | false =>
   rw [hop] at c3
   rw [refX, if_neg (by rw [hop]; decide)] at hR
   have HRE := hid hR
   clear hR hop
   go_wp2
   go_ret3
   rw [← HRE.out]
   exact ⟨_, rfl, HS3.out.2.1, HS3.out.2.2⟩
end Go.Proofs.YtcbfbefpbjmglaaGreatDoor.PureF
namespace Go.Proofs.YtcbfbefpbjmglaaGreatDoor.PA
open Go.RowKit YtcbfbefpbjmglaaGreatDoorT PureF YtcbfbefpbjmglaaGreatDoorW PrintWords PrintLast PrintMore
def burinref02_Lex.f (l0 : List S63) : Option (List S55 × Int × Int) := if fits l0 = true then some ((lexP (toL l0)).1.map toT, (lexP (toL l0)).2.1, (lexP (toL l0)).2.2) else none
theorem burinref02_Lex.calls (A0 : Option Addr) (c0 : Nat) (l0 : List (S63)) (r1 : List (S55)) (r2 r3 : Int) (w : World) (hr0 : Kd.C k63 w A0 l0.length l0) (hc0 : l0.length ≤ c0) (h : burinref02_Lex.f l0 = some (r1, r2, r3)) :
  Calls Tryz.prog 77 #[.slice A0 l0.length c0] w fun e w' => ∃ v0_ : Value, e = .returned (.tuple #[v0_, .int .i64 r2, .int .i64 r3]) ∧ Kd.R k55 55 w' w.heap.size (fun _ => True) v0_ r1 ∧ Below w.heap.size w w' := by
 unfold burinref02_Lex.f at h
 by_cases hs : fits l0 = true
 ·rw [if_pos hs] at h
  simp only [Option.some.injEq, Prod.mk.injEq] at h
  obtain ⟨rfl, rfl, rfl⟩ := h
  unfold fits at hs
  rw [Bool.and_eq_true, List.all_eq_true, decide_eq_true_eq] at hs
  have hl : (toL l0).length = l0.length := by simp [toL]
  rw [← hl]
  have hR : refX (toL l0) st0 [] = lexP (toL l0) := refX_eq (toL l0) st0 [] (by simp)
  refine (reflex_calls A0 c0 (toL l0) w (fun x hx => ?_) (by omega) (fun hp => ?_) (lexP (toL l0)) (hid hR)).mono ?_
  ·obtain ⟨y, hy, rfl⟩ := List.mem_map.1 hx
   have := hs.1 y hy
   rw [decide_eq_true_eq, Lib.size_eq] at this
   show y.f1.data.toList.length < _
   omega
  ·rw [hl] at hp
   obtain ⟨ad, e, _, _⟩ := at_T63 hr0 0 (by omega) (by omega)
   subst e
   refine ⟨ad, rfl, fun i x hx => ?_⟩
   have hi : i < l0.length := by rw [← hl]; exact (List.getElem?_eq_some_iff.1 hx).1
   obtain ⟨ad', e', h0, h1⟩ := at_T63 hr0 (i : Int) (by omega) (by omega)
   cases e'
   have hrd : x = ((rd_T63 l0 (i : Int)).f0, (rd_T63 l0 (i : Int)).f1.data.toList) := by
    have : (toL l0)[i]? = some (l0[i].f0, l0[i].f1.data.toList) := by simp [toL, hi]
    rw [this] at hx
    rw [← Option.some.inj hx]
    unfold rd_T63
    rw [List.getD_eq_getElem?_getD]; simp [hi]
   rw [hrd]
   exact ⟨h0, h1⟩
  ·rintro e w' ⟨v, rfl, hr, hb⟩
   exact ⟨v, rfl, R_of_toks hr, hb⟩
 ·rw [if_neg hs] at h; cases h
end Go.Proofs.YtcbfbefpbjmglaaGreatDoor.PA
namespace Go.Proofs.YtcbfbefpbjmglaaGreatDoor.Mac
open Go.RowKit
def SeqSt {α : Type} (F : Fence) (n : Nat) (P : Program) (g : Nat) (lb : Array Value) (encs : α → Array Value) (Kp St : World → World → Prop) (S Sp : List α → Prop) (N : Nat) (w : World) : Prop :=
 ∀ (l : Nat) (J Jx : List α → World → Prop) (W : World), Below w.heap.size w W → AbidesFrom W.heap.size J → AbidesFrom W.heap.size Jx → (∀ s A B, J s A → St A B → J s B) →
  (∀ pre x W1, J pre W1 → pre.length < N → YieldAt F (n - 1) P l (encs x) W1 fun e W' =>
   (e = .returned (.bool true) ∧ J (pre ++ [x]) W' ∧ Kp W1 W') ∨ (e = .returned (.bool false) ∧ Jx (pre ++ [x]) W')) →
  J [] W → CallsIn F n P g (#[.func (.yield l) #[] #[]] ++ lb) W fun e W' => (∃ v, e = .returned v) ∧ ((∃ xs, S xs ∧ J xs W') ∨ (∃ pre, Sp pre ∧ Jx pre W'))
variable {F : Fence} {n : Nat} {P : Program}
def leftE {α : Type} (B id : Nat) (Kp : World → World → Prop) (I Ix : List α → World → Prop) (xs : List α) (W : World) : Exit → Act → World → Prop
 | .normal, _, W' => KeepsFrom B W W' ∧ Kp W W' ∧ I xs W'
 | .exit i, _, W' => i = id ∧ KeepsFrom B W W' ∧ Ix xs W'
 | _, _, _ => False
theorem wpIn_range_st {α : Type} {g : Operand} {ps : Array Tmp} {assign body : Code} {Q : Exit → Act → World → Prop} {a : Act} {w : World}
  (hro : F.round = none) (h1 : 1 ≤ n) {gf : Nat} {lb : Array Value} (hg : a.eval g = .func (.func gf) #[] lb) (hFg : F.fn gf) (eg : ∀ args w, (callFunc gf args).run P w = .ok (.enter gf args) w)
  {encs : α → Array Value} {Kp St : World → World → Prop} {S Sp : List α → Prop} {N : Nat} (hKt : ∀ {A B C : World}, Kp A B → Kp B C → Kp A C) (hKb : ∀ (W : World) (l : Nat) (o : Obj), w.heap.size ≤ l → Kp W (W.putObj l o))
  (hSt : ∀ A B, St A B → ∀ k, w.heap.size ≤ k → B.heap[k]? = A.heap[k]?) (hseq : SeqSt F (n - 1) P gf lb encs Kp St S Sp N w) (hps : ∀ x, (encs x).size = ps.size)
  (I Ix : List α → World → Prop) (hI : OwnFrom w.heap.size I) (hIx : OwnFrom w.heap.size Ix) (hIS : ∀ s A B, I s A → St A B → I s B) (h0 : I [] w) (id : Nat) (Mid : α → Act → World → Prop) (hMid : ∀ x a', OwnFrom w.heap.size (fun (_ : Unit) W => Mid x a' W))
  (hassign : ∀ (l : Nat) (pre : List α) (x : α) (W : World) (K : Act → World → Prop), I pre W → (∀ a' W', KeepsFrom w.heap.size W W' → Kp W W' → I pre W' → Mid x a' W' → K a' W') →
   assign.wpIn (F.inRound l) (n - 1 - 1) P (Exit.then K (fun _ _ _ => False)) { tmps := (ps.zip (encs x)).foldl (fun t (p, v) => t.setIfInBounds p v) a.tmps, defers := [] } W)
  (hbody : ∀ (l : Nat) (pre : List α) (x : α) (a' : Act) (W : World), I pre W → Mid x a' W → pre.length < N → body.wpIn (F.inRound l) (n - 1 - 1) P (leftE w.heap.size id Kp I Ix (pre ++ [x]) W) a' W)
  (hdone : ∀ (D : Nat) (xs : List α) (W : World), w.heap.size ≤ D → S xs → I xs W → W.heap[D]? = some (.deferred (some [])) → Q .normal { a with defers := { target := .collected D, args := #[] } :: a.defers } W)
  (hstop : ∀ (D : Nat) (pre : List α) (W : World), w.heap.size ≤ D → Sp pre → Ix pre W → W.heap[D]? = some (.deferred (some [])) → Q (.exit id) { a with defers := { target := .collected D, args := #[] } :: a.defers } W) :
  (Code.rangeFunc g ps assign body).wpIn F n P Q a w := by
 refine wpIn_rangeFunc fun fn hfn => ?_
 rw [hro]
 let D := w.heap.size
 let L := w.heap.size + 1
 let R : LoopState → Option Code → Loop := fun st pe => { state := st, pending := pe, fn, tmps := a.tmps, params := ps, assign, body, defers := D }
 obtain ⟨W1, hW1⟩ : ∃ W1, (w.alloc (.deferred (some []))).alloc (.loop (R .ready none)) = W1 := ⟨_, rfl⟩
 have hL1 : W1.heap[L]? = some (.loop (R .ready none)) := by
  rw [← hW1]; have := World.alloc_heap_new (w.alloc (.deferred (some []))) (.loop (R .ready none)); rwa [World.size_alloc] at this
 have hD1 : W1.heap[D]? = some (.deferred (some [])) := by
  rw [← hW1]; exact (Below.heap_alloc _ _ _ (by simp [D])).trans (World.alloc_heap_new w _)
 have hB1 : Below w.heap.size w W1 := by
  rw [← hW1]; exact ((Below.refl _ w).alloc (Nat.le_refl _) _).alloc (by simp) _
 have hg0 : w.grownBy W1 none := ⟨hB1.os, hB1.tape, hB1.output, hB1.size, fun i hi _ => hB1.block i hi⟩
 have hI1 : I [] W1 := hI _ _ _ none h0 hg0 (fun r e => by cases e)
 have hsz : W1.heap.size = w.heap.size + 2 := by rw [← hW1]; simp
 have walkc : ∀ {A : World} {row : Option Nat}, (∀ r, row = some r → W1.heap.size ≤ r ∧ ∃ o : Obj, A.heap[r]? = some o ∧ o.isWalk = true) → ∀ r, row = some r → w.heap.size ≤ r ∧ ∃ o : Obj, A.heap[r]? = some o ∧ o.isCells = false :=
  fun hr r e => by obtain ⟨hle, o, ho, hw⟩ := hr r e; exact ⟨by omega, o, ho, Obj.not_cells_of_walk hw⟩
 refine ⟨L, [{ target := .collected D, args := #[] }], W1, { target := .fn (.func gf) lb, args := #[.func (.yield L) #[] #[]] }, W1, gf, #[.func (.yield L) #[] #[]] ++ lb, W1, ?_, ?_, ?_, ?_, fun _ => h1, ?_⟩
 ·rw [← hW1]; exact run_enterLoop_outer _ _ _ _ _
 ·simp only [resolve, hg]; simp [go_sem]
 ·intro f' hf'; simp [Target.leads] at hf'; subst hf'; exact hFg
 ·simp [invoke, go_sem, eg]
 ·refine (hseq L (fun pre W => I pre W ∧ W.heap[L]? = some (.loop (R .ready none)) ∧ W.heap[D]? = some (.deferred (some [])))
   (fun pre W => Ix pre W ∧ W.heap[L]? = some (.loop (R .done (some (.exit id)))) ∧ W.heap[D]? = some (.deferred (some []))) W1 hB1 ?_ ?_ ?_ ?_ ⟨hI1, hL1, hD1⟩).mono ?_
  ·rintro s A B row ⟨hs, hl, hd⟩ hg' hr
   exact ⟨hI s A B row hs hg' (walkc hr), (grownBy_keeps hg' (fun r e => (hr r e).2) hl rfl).trans hl, (grownBy_keeps hg' (fun r e => (hr r e).2) hd rfl).trans hd⟩
  ·rintro s A B row ⟨hs, hl, hd⟩ hg' hr
   exact ⟨hIx s A B row hs hg' (walkc hr), (grownBy_keeps hg' (fun r e => (hr r e).2) hl rfl).trans hl, (grownBy_keeps hg' (fun r e => (hr r e).2) hd rfl).trans hd⟩
  ·rintro s A B ⟨hs, hl, hd⟩ hst
   exact ⟨hIS s A B hs hst, (hSt A B hst L (by simp [L])).trans hl, (hSt A B hst D (Nat.le_refl _)).trans hd⟩
  ·rintro pre x W ⟨hi, hl, hd⟩ hlen
   refine ⟨fn, _, assign, body, run_yield hl (by simp [R, hps]), roundIn_of_wpIn hfn (hassign L pre x W _ hi ?_)⟩
   intro a' W' hk hb hi' hm
   have hl' := hk.same _ _ (by simp [L]) hl rfl
   have hd' := hk.same _ _ (Nat.le_refl _) hd rfl
   have hLt' : L < W'.heap.size := (Array.getElem?_eq_some_iff.1 hl').1
   refine ⟨_, run_beginRound hl' rfl, ?_⟩
   have hl2 : (W'.putObj L (.loop { R .ready none with state := .busy })).heap[L]? = some (.loop { R .ready none with state := .busy }) := World.putObj_heap_same hLt'
   have hd2 : (W'.putObj L (.loop { R .ready none with state := .busy })).heap[D]? = some (.deferred (some [])) := (World.putObj_heap_other (by omega)).trans hd'
   refine wpIn_mono (hbody L pre x a' _ (hI.putObj _ hi' (by omega) hl' rfl) ((hMid x a').putObj (s := ()) _ hm (by omega) hl' rfl) hlen) ?_
   intro e a3 W3 hp
   cases e with
   | normal =>
    obtain ⟨hk3, hb3, hi3⟩ := hp
    have hl3 := hk3.same _ _ (by simp [L]) hl2 rfl
    have hd3 := hk3.same _ _ (Nat.le_refl _) hd2 rfl
    refine ⟨_, _, run_endRound none hl3, .inl ⟨rfl, ⟨hI.putObj _ hi3 (by omega) hl3 rfl, World.putObj_heap_same (Array.getElem?_eq_some_iff.1 hl3).1, (World.putObj_heap_other (by omega)).trans hd3⟩, ?_⟩⟩
    exact hKt (hKt (hKt hb (hKb _ _ _ (by omega))) hb3) (hKb _ _ _ (by omega))
   | exit i =>
    obtain ⟨rfl, hk3, hi3⟩ := hp
    have hl3 := hk3.same _ _ (by simp [L]) hl2 rfl
    have hd3 := hk3.same _ _ (Nat.le_refl _) hd2 rfl
    exact ⟨_, _, run_endRound (some (.exit i)) hl3, .inr ⟨rfl, hIx.putObj _ hi3 (by omega) hl3 rfl, World.putObj_heap_same (Array.getElem?_eq_some_iff.1 hl3).1, (World.putObj_heap_other (by omega)).trans hd3⟩⟩
   | ret => exact hp.elim
   | goto t => exact hp.elim
   | panic ch => exact hp.elim
   | outgrown => exact hp.elim
  ·rintro e W2 ⟨⟨v, rfl⟩, (⟨xs, hS, hi, hl, hd⟩ | ⟨pre, hSp, hi, hl, hd⟩)⟩
   ·exact ⟨none, _, run_endLoop hl (by simp [R]), hdone D xs _ (Nat.le_refl _) hS (hI.putObj _ hi (by omega) hl rfl) ((World.putObj_heap_other (by omega)).trans hd)⟩
   ·exact ⟨some (.exit id), _, run_endLoop hl (by simp [R]), wpIn_exit (hstop D pre _ (Nat.le_refl _) hSp (hIx.putObj _ hi (by omega) hl rfl) ((World.putObj_heap_other (by omega)).trans hd))⟩
end Go.Proofs.YtcbfbefpbjmglaaGreatDoor.Mac
namespace Go.Proofs.YtcbfbefpbjmglaaGreatDoor.Mac
open Go.RowKit MapFun PA YtcbfbefpbjmglaaGreatDoorT YtcbfbefpbjmglaaGreatDoorW PrintWords PrintLast PrintMore
attribute [local go_sem] Oper.semAt_some
def els : List S55 → List (S55 × ByteArray)
 | t :: e :: r => (t, e.f1) :: els r
 | _ => [(z55, ⟨#[]⟩)]
def encE (x : S55 × ByteArray) : Array Value := #[.agg #[.int .i64 x.1.f0, .string x.1.f1, .string x.1.f2, .int .i64 x.1.f3, .bool x.1.f4, .bool x.1.f5], .string x.2]
theorem els_len : ∀ l : List S55, (els l).length = l.length / 2 + 1
 | [] => rfl
 | [_] => by simp [els]
 | t :: e :: r => by rw [els, List.length_cons, els_len r, List.length_cons, List.length_cons]; omega
theorem els_drop (l : List S55) : ∀ i, 2 * i ≤ l.length → els (l.drop (2 * i)) = (els l).drop i := by
 intro i
 induction i generalizing l with
 | zero => intro _; rfl
 | succ i ih =>
  intro h
  match l, h with
  | t :: e :: r, h =>
   rw [show 2 * (i + 1) = 2 * i + 1 + 1 by omega, List.drop_succ_cons, List.drop_succ_cons, ih r (by simp at h; omega)]
   rw [show els (t :: e :: r) = (t, e.f1) :: els r from rfl, List.drop_succ_cons]
  | [_], h => simp at h; omega
  | [], h => simp at h
def KeepM (M : Nat → Prop) (N0 : Nat) (W W' : World) : Prop := ∀ k, k < N0 → ¬ M k → W'.heap[k]? = W.heap[k]?
theorem KeepM.trans {M : Nat → Prop} {N0 : Nat} {A B C : World} (h : KeepM M N0 A B) (k : KeepM M N0 B C) : KeepM M N0 A C := fun j h1 h2 => (k j h1 h2).trans (h j h1 h2)
theorem KeepM.refl (M : Nat → Prop) (N0 : Nat) (W : World) : KeepM M N0 W W := fun _ _ _ => rfl
theorem KeepM.below {M : Nat → Prop} {N0 : Nat} {W W' : World} (h : Below N0 W W') : KeepM M N0 W W' := fun k hk _ => h.block k hk
def lenAt (b : Nat) (W : World) : Nat := match W.cell? ⟨b, 0, none⟩ with | some (Value.slice _ m _) => m | _ => 0
theorem lenAt_eq {b : Nat} {W : World} {A : Option Addr} {m c : Nat} (h : W.heap[b]? = some (.cells #[.slice A m c] 31 (0, 0))) : lenAt b W = m := by
 unfold lenAt; rw [bC h 0]; rfl
def InM (M : Nat → Prop) (N0 b : Nat) (A : Option Addr) (n : Nat) : Prop := ∀ ad, A = some ad → 0 < n → ad.block < N0 ∧ ¬ M ad.block ∧ ad.block ≠ b
def StB (b : Nat) (A B : World) : Prop := ∃ v, B = A.setCell ⟨b, 0, none⟩ v
theorem add_blockE (a : Addr) (n : Nat) : (a.add n).block = a.block := by unfold Addr.add; split <;> rfl
theorem C_keepM {M : Nat → Prop} {N0 b : Nat} {W W' : World} {A : Option Addr} {l : List S55} (h : Kd.C k55 W A l.length l) (hA : InM M N0 b A l.length) (hk : KeepM M N0 W W') : Kd.C k55 W' A l.length l := by
 refine ⟨h.1, h.2.1, fun hn => ?_⟩
 obtain ⟨ad, ha, hr⟩ := h.2.2 hn
 obtain ⟨b1, b2, _⟩ := hA ad ha hn
 refine ⟨ad, ha, fun j p hj => ?_⟩
 obtain ⟨c, h1, h2, h3⟩ := hr j p hj
 refine ⟨c, h1, h2, fun i u hu => ?_⟩
 have := h3 i u hu
 rw [← this]
 exact World.cell?_of_block (by rw [add_blockE]; exact hk _ b1 b2)
theorem pre_snoc {α : Type} {E : List α} {i : Nat} {x : α} (h : E[i]? = some x) : E.take i ++ [x] <+: E := by
 obtain ⟨hi, he⟩ := List.getElem?_eq_some_iff.1 h
 have : E.take (i + 1) = E.take i ++ [x] := by rw [List.take_succ_eq_append_getElem hi, he]
 rw [← this]
 exact List.take_prefix _ _
theorem listed_rel {M : Nat → Prop} {N0 b c' i : Nat} {J : List (S55 × ByteArray) → World → Prop} {l L : List S55} {wr W3 : World} {ad : Addr} {x : S55 × ByteArray} (hl : l.length ≤ 1000000) (hC : Kd.C k55 wr (some ad) L.length L) (hA : InM M N0 b (some ad) L.length) (hb3 : W3.heap[b]? = some (.cells #[.slice (some ad) L.length c'] 31 (0, 0)))
  (hlt : 1 < L.length) (hc : L.length ≤ c') (hcm : True) (hL : l.drop (2 * i) = L) (hi : 2 * i ≤ l.length) (hj : J ((els l).take i ++ [x]) W3) (hk : KeepM M N0 wr.drew W3) (hg : (els l)[i]? = some x) (hJS : ∀ s A B, J s A → StB b A B → J s B) (hwr : lenAt b wr = L.length) :
  (∃ (i : Nat) (A' : Option Addr) (d : Nat), 2 * i ≤ l.length ∧ (W3.setCell ⟨b, 0, none⟩ (.slice (if c' = 2 then some ad else some ⟨ad.block, ad.off + 12, none⟩) (L.length - 2) (c' - 2))).heap[b]? = some (.cells #[.slice A' (l.drop (2 * i)).length d] 31 (0, 0)) ∧
   Kd.C k55 (W3.setCell ⟨b, 0, none⟩ (.slice (if c' = 2 then some ad else some ⟨ad.block, ad.off + 12, none⟩) (L.length - 2) (c' - 2))) A' (l.drop (2 * i)).length (l.drop (2 * i)) ∧ InM M N0 b A' (l.drop (2 * i)).length ∧ (l.drop (2 * i)).length ≤ d ∧ True ∧
   J ((els l).take i) (W3.setCell ⟨b, 0, none⟩ (.slice (if c' = 2 then some ad else some ⟨ad.block, ad.off + 12, none⟩) (L.length - 2) (c' - 2)))) ∧
  lenAt b (W3.setCell ⟨b, 0, none⟩ (.slice (if c' = 2 then some ad else some ⟨ad.block, ad.off + 12, none⟩) (L.length - 2) (c' - 2))) < lenAt b wr := by
 have hd : l.drop (2 * (i + 1)) = L.drop 2 := by rw [← hL, List.drop_drop]; congr 1
 have hdl : (L.drop 2).length = L.length - 2 := List.length_drop
 have hll : L.length = l.length - 2 * i := by rw [← hL, List.length_drop]
 have hput := bU hb3 0 (.slice (if c' = 2 then some ad else some ⟨ad.block, ad.off + 12, none⟩) (L.length - 2) (c' - 2)) rfl
 have eA : (if c' = 2 then (some ad : Option Addr) else (some ad).map (·.add (2 * k55.sz))) = (if c' = 2 then some ad else some ⟨ad.block, ad.off + 12, none⟩) := by
  split
  ·rfl
  ·rfl
 have hC3 : Kd.C k55 W3 (some ad) L.length L := C_keepM (Kd.C_below hC (bD (Below.refl _ _))) hA hk
 have hC4 := Kd.C_drop (m := 2) hC3 (by omega) hc
 rw [eA] at hC4
 have hA4 : InM M N0 b (if c' = 2 then some ad else some ⟨ad.block, ad.off + 12, none⟩) (L.drop 2).length := by
  intro a ha hp
  obtain ⟨h1, h2, h3⟩ := hA ad rfl (by omega)
  split at ha
  ·cases ha; exact ⟨h1, h2, h3⟩
  ·cases ha; exact ⟨h1, h2, h3⟩
 have hlen : lenAt b (W3.setCell ⟨b, 0, none⟩ (.slice (if c' = 2 then some ad else some ⟨ad.block, ad.off + 12, none⟩) (L.length - 2) (c' - 2))) = L.length - 2 := lenAt_eq hput
 obtain ⟨hi', he⟩ := List.getElem?_eq_some_iff.1 hg
 have htk : (els l).take (i + 1) = (els l).take i ++ [x] := by rw [List.take_succ_eq_append_getElem hi', he]
 refine ⟨⟨i + 1, (if c' = 2 then some ad else some ⟨ad.block, ad.off + 12, none⟩), c' - 2, by omega, ?_, ?_, ?_, ?_, ?_, ?_⟩, by rw [hlen, hwr]; omega⟩
 ·rw [hd, hdl]; exact hput
 ·rw [hd]
  exact C_keepM (M := (· = b)) (N0 := W3.heap.size) (b := b) hC4 (fun a ha hp => by
   have h1 := hA4 a ha hp
   have hbk : a.block < W3.heap.size := by
    obtain ⟨ad', ha', hr⟩ := hC4.2.2 hp
    rw [ha] at ha'; cases ha'
    obtain ⟨cc, e1, e2, e3⟩ := hr 0 _ (List.getElem?_eq_getElem (by omega))
    have hcc : ∃ u, cc[0]? = some u := by
     have : 0 < cc.length := by rw [e1]; decide
     exact ⟨_, List.getElem?_eq_getElem this⟩
    obtain ⟨u, hu⟩ := hcc
    have := cl W3 _ (e3 0 u hu)
    rwa [add_blockE] at this
   exact ⟨hbk, h1.2.2, h1.2.2⟩) (fun k _ hk => Below.heap_setCell W3 ⟨b, 0, none⟩ _ k hk)
 ·rw [hd]; exact hA4
 ·rw [hd, hdl]; omega
 ·exact trivial
 ·rw [htk]; exact hJS _ _ _ hj ⟨_, rfl⟩
set_option maxHeartbeats 1000000 in
theorem listed1 (n : Nat) (hn : 3 ≤ n) (w : World) (M : Nat → Prop) (N0 b : Nat) (hb : b < N0) (hbM : ¬ M b) (hN0 : N0 ≤ w.heap.size) (A : Option Addr) (c : Nat) (l : List S55) (hl : l.length ≤ 1000000) (hB : Kd.C k55 w A l.length l) (hA : InM M N0 b A l.length) (hc : l.length ≤ c) (hcm : True) (h1 : w.heap[b]? = some (.cells #[.slice A l.length c] 31 (0, 0))) :
  SeqSt Fence.wide n Tryz.prog 50 #[.pointer (some ⟨b, 0, none⟩)] encE (KeepM M N0) (StB b) (fun xs => xs = els l) (fun pre => pre <+: els l) (els l).length w := by
 intro y J Jx W hW hJ hJx hJS hY h0
 show CallsIn Fence.wide n Tryz.prog 50 #[.func (.yield y) #[] #[], .pointer (some ⟨b, 0, none⟩)] W _
 refine callsIn_of_wp Tryz.func50 rfl trivial ?_ rfl
 simp only [Tryz.ntmps50, List.size_toArray, List.length_cons, List.length_nil, Nat.reduceAdd, Nat.reduceSub, Array.replicate_succ, Array.replicate_zero, List.push_toArray, List.append_toArray, List.nil_append, List.cons_append]
 have q1 := (hW.block b (blk_lt h1)).trans h1
 have hC := Kd.C_below hB hW
 have HY := Lib.hid hY
 have HB := Lib.hid (And.intro q1 hC)
 have H0 := Lib.hid h0
 have HJ := Lib.hid hJ
 have HJS := Lib.hid hJS
 have HWs := Lib.hid hW.size
 clear hJ hJx hJS hY h0 hB hC q1 h1 hW
 gi_wp2
 gi_loopw [16] (fun _ W1 => ∃ (i : Nat) (A' : Option Addr) (c' : Nat), 2 * i ≤ l.length ∧ W1.heap[b]? = some (.cells #[.slice A' (l.drop (2 * i)).length c'] 31 (0, 0)) ∧ Kd.C k55 W1 A' (l.drop (2 * i)).length (l.drop (2 * i)) ∧ InM M N0 b A' (l.drop (2 * i)).length ∧ (l.drop (2 * i)).length ≤ c' ∧ True ∧ J ((els l).take i) W1) (fun _ W1 => lenAt b W1)
 case atStart => exact ⟨0, A, c, by omega, HB.out.1, HB.out.2, hA, hc, hcm, H0.out⟩
 case round =>
  obtain ⟨i, A', c', hi, hb1, hC1, hA1, hc1, hcm1, hj⟩ := hrel
  have c0 := bC hb1 0
  have hbl := blk_lt hb1
  have hb1lt := lenAt_eq hb1
  obtain ⟨L, hL⟩ : ∃ L, l.drop (2 * i) = L := ⟨_, rfl⟩
  rw [hL] at hb1 hC1 hA1 hc1 c0 hb1lt
  have hLl : L.length ≤ 1000000 := by rw [← hL, List.length_drop]; omega
  by_cases hlt : 1 < L.length
  ·have d1 : decide ((L.length : Int) > 1) = true := decide_eq_true (by omega)
   have d2 : (L.length : Int) > 1 := by omega
   obtain ⟨ad, had, a0, a1, a2, a3, a4, a5⟩ := at_T55 hC1 0 (by omega) (by omega)
   obtain ⟨ad', had', b0, b1, b2, b3, b4, b5⟩ := at_T55 hC1 1 (by omega) (by omega)
   subst had
   cases had'
   obtain ⟨t, ht⟩ : ∃ t, rT L 0 = t := ⟨_, rfl⟩
   obtain ⟨e, he⟩ : ∃ e, rT L 1 = e := ⟨_, rfl⟩
   rw [ht] at a0 a1 a2 a3 a4 a5
   rw [he] at b1
   obtain ⟨f0, f1, f2, f3, f4, f5⟩ := t
   obtain ⟨x, hx⟩ : ∃ x, e.f1 = x := ⟨_, rfl⟩
   rw [hx] at b1
   have hg : (els l)[i]? = some (⟨f0, f1, f2, f3, f4, f5⟩, x) := by
    have h2 := els_drop l i hi
    rw [hL] at h2
    match L, hlt, ht, he, h2 with
    | t :: e' :: r, _, ht, he, h2 =>
     rw [els] at h2
     have h3 : ((els l).drop i)[0]? = some (t, e'.f1) := by rw [← h2]; rfl
     rw [List.getElem?_drop, Nat.add_zero] at h3
     have e1 : t = ⟨f0, f1, f2, f3, f4, f5⟩ := ht
     have e2 : e' = e := he
     rw [h3, e1, e2, hx]
   clear b0 b2 b3 b4 b5
   have b1' : wr.cell? ⟨ad.block, ad.off + 6 + 1, none⟩ = some (.string x) := b1
   clear b1
   simp only [Int.toNat_zero, Nat.zero_mul, Addr.add, if_true] at a0 a1 a2 a3 a4 a5
   have hlen : ((els l).take i).length < (els l).length := by
    have := (List.getElem?_eq_some_iff.1 hg).1
    rw [List.length_take]; omega
   have hmx : Tryz.prog.follows .mixedOrders = true := by kernel_rfl
   have hL0 : 0 < L.length := by omega
   have hjd := HJ.out _ wr wr.drew none hj ⟨rfl, rfl, rfl, Nat.le_refl _, fun _ _ _ => rfl⟩ (fun r e => by cases e)
   obtain ⟨fn, tmps, assign, body, hy, hR⟩ := HY.out ((els l).take i) (⟨f0, f1, f2, f3, f4, f5⟩, x) wr.drew hjd hlen
   simp only [encE] at hy hR
   have hR1 := RoundIn.mono (R' := fun e W' => ∃ v : Bool, e = .returned (.bool v) ∧ Hid ((v = true → J ((els l).take i ++ [(⟨f0, f1, f2, f3, f4, f5⟩, x)]) W' ∧ KeepM M N0 wr.drew W') ∧ (v = false → Jx ((els l).take i ++ [(⟨f0, f1, f2, f3, f4, f5⟩, x)]) W'))) hR (fun e W' h => by
    rcases h with ⟨h1, h2, h3⟩ | ⟨h1, h2⟩
    ·exact ⟨true, h1, Lib.hid ⟨fun _ => ⟨h2, h3⟩, fun h => by cases h⟩⟩
    ·exact ⟨false, h1, Lib.hid ⟨fun h => (by cases h), fun _ => h2⟩⟩)
   have HR := Lib.hid hR1
   have HG := Lib.hid (And.intro hg hlen)
   have HI := Lib.hid (And.intro hb1 (And.intro hC1 hA1))
   clear hR hR1 hg hlen hjd hj hb1 hC1 hA1
   gi_wp2
   gi_region_with (refine ⟨fun _ => by omega, HR.out.mono ?_⟩; rintro e W3 ⟨v, rfl, hv⟩)
   all_goals
    have HV := Lib.hid hv
    clear hv
    cases v with
    | false =>
     clear c0
     gi_wp2
     refine bodyPost_ret (results_none rfl _ _ _) rfl ?_
     exact ⟨⟨_, rfl⟩, .inr ⟨_, pre_snoc HG.out.1, HV.out.2 (by first | exact rfl | trivial)⟩⟩
    | true =>
     have hb3 : W3.heap[b]? = some (.cells #[.slice (some ad) L.length c'] 31 (0, 0)) := ((HV.out.1 rfl).2 b hb hbM).trans HI.out.1
     have c3 : W3.cell? ⟨b, 0, none⟩ = some (.slice (some ad) L.length c') := bC hb3 0
     have f3 : W3.frozen? ⟨b, 0, none⟩ = false := by simp [World.frozen?, hb3]
     have HB3 := Lib.hid hb3
     clear hb3 c0
     have HJ3 := Lib.hid (HV.out.1 rfl)
     clear HV
     gi_wp2
     exact listed_rel hl HI.out.2.1 HI.out.2.2 HB3.out hlt hc1 hcm1 hL hi HJ3.out.1 (HJ3.out.2) HG.out.1 HJS.out hb1lt
  ·have d1 : decide ((L.length : Int) > 1) = false := decide_eq_false (by omega)
   have d2 : ¬ (L.length : Int) > 1 := by omega
   have hel : (els l).drop i = [(z55, ⟨#[]⟩)] := by
    rw [← els_drop l i hi, hL]
    match L, hlt with
    | [], _ => rfl
    | [_], _ => rfl
    | _ :: _ :: _, h => exact absurd h (by simp)
   have hil : i < (els l).length := Nat.lt_of_not_le fun h => by rw [List.drop_eq_nil_of_le h] at hel; cases hel
   have hg : (els l)[i]? = some (z55, ⟨#[]⟩) := by
    have : ((els l).drop i)[0]? = some (z55, ⟨#[]⟩) := by rw [hel]; rfl
    rwa [List.getElem?_drop, Nat.add_zero] at this
   have hlen : ((els l).take i).length < (els l).length := by rw [List.length_take]; omega
   obtain ⟨fn, tmps, assign, body, hy, hR⟩ := HY.out ((els l).take i) (z55, ⟨#[]⟩) wr hj hlen
   simp only [encE, z55] at hy hR
   have hR1 := RoundIn.mono (R' := fun e W' => ∃ v : Bool, e = .returned (.bool v) ∧ Hid ((v = true → J ((els l).take i ++ [(z55, ⟨#[]⟩)]) W') ∧ (v = false → Jx ((els l).take i ++ [(z55, ⟨#[]⟩)]) W'))) hR (fun e W' h => by
    rcases h with ⟨h1, h2, h3⟩ | ⟨h1, h2⟩
    ·exact ⟨true, h1, Lib.hid ⟨fun _ => h2, fun h => by cases h⟩⟩
    ·exact ⟨false, h1, Lib.hid ⟨fun h => (by cases h), fun _ => h2⟩⟩)
   have HR := Lib.hid hR1
   have HG := Lib.hid (And.intro hg (And.intro hlen hel))
   clear hR hR1 hg hlen hj hb1 hC1 hA1 hel
   gi_wp2
   refine ⟨fun _ => by omega, HR.out.mono ?_⟩
   rintro e W3 ⟨v, rfl, hv⟩
   have HV := Lib.hid hv
   clear hv
   have htk : (els l).take i ++ [(z55, ⟨#[]⟩)] = els l := by
    rw [← HG.out.2.2, List.take_append_drop]
   have HT := Lib.hid htk
   clear htk
   gi_wp2
   refine ⟨rfl, _, results_none rfl _ _ _, ⟨_, rfl⟩, ?_⟩
   cases v with
   | true => exact .inl ⟨_, HT.out, HV.out.1 rfl⟩
   | false => exact .inr ⟨_, pre_snoc HG.out.1, HV.out.2 rfl⟩
end Go.Proofs.YtcbfbefpbjmglaaGreatDoor.Mac
