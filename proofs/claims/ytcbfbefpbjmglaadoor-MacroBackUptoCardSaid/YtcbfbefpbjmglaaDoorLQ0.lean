import Derived.Test.YtcbfbefpbjmglaaDoorH2
import Derived.Test.YtcbfbefpbjmglaaDoorA7
import Derived.Test.YtcbfbefpbjmglaaDoorA3
import Derived.Deep.AppendLies
namespace Go.Proofs.YtcbfbefpbjmglaaDoorT
set_option linter.unusedVariables false
set_option linter.unusedSimpArgs false
open Go.RowKit Go.Lib
set_option linter.unusedVariables false
theorem at_bstr (l : List UInt8) (i : Nat) : at_ (bstr l) i = l.getD i 0 := rfl
theorem upto_on (on : Nat → Bool) : ∀ k i j, i ≤ j → j < upto on k i → on j = true
 | 0, i, j, h, h2 => by simp [upto] at h2; omega
 | k + 1, i, j, h, h2 => by
  unfold upto at h2
  by_cases hh : on i = true
  ·rw [if_pos hh] at h2
   by_cases e : i = j
   ·subst e; exact hh
   ·exact upto_on on k (i + 1) j (by omega) h2
  ·rw [if_neg hh] at h2; omega
theorem upto_ge (on : Nat → Bool) : ∀ k i, i ≤ upto on k i
 | 0, i => Nat.le_refl _
 | k + 1, i => by
  unfold upto
  split
  ·have := upto_ge on k (i + 1); omega
  ·exact Nat.le_refl _
theorem quo_gt (s : ByteArray) : ∀ k i, quo s k i ≠ 0 → i < quo s k i
 | 0, i, h => absurd rfl h
 | k + 1, i, h => by
  unfold quo at h ⊢
  by_cases h1 : s.size ≤ i
  ·rw [if_pos h1] at h; exact absurd rfl h
  ·rw [if_neg h1] at h ⊢
   by_cases h2 : at_ s i = 92
   ·rw [if_pos h2] at h ⊢
    have := quo_gt s k (i + 2) h; omega
   ·rw [if_neg h2] at h ⊢
    by_cases h3 : at_ s i = at_ s 0
    ·rw [if_pos h3]; omega
    ·rw [if_neg h3] at h ⊢
     have := quo_gt s k (i + 1) h; omega
theorem quo_fuel (s : ByteArray) (i : Nat) : ∀ d k, s.size ≤ i + k → quo s (k + d) i = quo s k i
 | 0, k, h => rfl
 | d + 1, k, h => by rw [← Nat.add_assoc, quo_more s (k + d) i (by omega), quo_fuel s i d k h]
theorem hasPrefix_iff (l p : List UInt8) : Lib.hasPrefix l p = true ↔ p <+: l := by
 unfold Lib.hasPrefix
 exact List.isPrefixOf_iff_prefix
end Go.Proofs.YtcbfbefpbjmglaaDoorT
namespace Go.Proofs.YtcbfbefpbjmglaaDoorT
set_option linter.unusedVariables false
set_option linter.unusedSimpArgs false
open Go.RowKit Go.Lib
set_option linter.unusedVariables false
def Fresh (m : List UInt8) : Prop := Lib.hasPrefix m [47, 47] = false ∧ Lib.hasPrefix m [47, 42] = false ∧ isB (m.headD 0) = false
theorem skipP_fresh (line : Int) : ∀ k l st, l.length < k → (skipP line k l st).1 ≠ [] → Fresh (skipP line k l st).1 ∧ (skipP line k l st).2.op = false
 | 0, l, st, h, _ => by omega
 | k + 1, l, st, h, hne => by
  unfold skipP at hne ⊢
  by_cases hl : l = []
  ·rw [if_pos hl] at hne; exact absurd rfl hne
  ·rw [if_neg hl] at hne ⊢
   have hpos : 0 < l.length := List.length_pos_iff.2 hl
   by_cases ho : st.op = true
   ·rw [if_pos ho] at hne ⊢
    have := cut_lt hl
    exact skipP_fresh line k _ _ (by omega) hne
   ·rw [if_neg ho] at hne ⊢
    by_cases h1 : Lib.hasPrefix l [47, 47] = true
    ·rw [if_pos h1] at hne; exact absurd rfl hne
    ·rw [if_neg h1] at hne ⊢
     by_cases h2 : Lib.hasPrefix l [47, 42] = true
     ·rw [if_pos h2] at hne ⊢
      exact skipP_fresh line k _ _ (by simp only [List.length_drop]; omega) hne
     ·rw [if_neg h2] at hne ⊢
      by_cases h3 : isB (l.headD 0) = true
      ·rw [if_pos h3] at hne ⊢
       exact skipP_fresh line k _ _ (by simp only [List.length_drop]; omega) hne
      ·rw [if_neg h3] at hne ⊢
       exact ⟨⟨by simpa using h1, by simpa using h2, by simpa using h3⟩, by simpa using ho⟩
theorem skipP_of_fresh (line : Int) (k : Nat) (m : List UInt8) (st : St) (hm : m ≠ []) (hf : Fresh m) (ho : st.op = false) : skipP line (k + 1) m st = (m, st) := by
 unfold skipP
 rw [if_neg hm, if_neg (by rw [ho]; decide), if_neg (by rw [hf.1]; decide), if_neg (by rw [hf.2.1]; decide), if_neg (by rw [hf.2.2]; decide)]
theorem skipP_nil (line : Int) (k : Nat) (st : St) : skipP line k [] st = ([], st) := by cases k <;> simp [skipP]
def Good (t : TokP) : Prop := ∃ m, m ≠ [] ∧ Fresh m ∧ (nextP (bstr m)).2 ≠ 0 ∧ t.s = m.take (nextP (bstr m)).2 ∧ t.kind = (nextP (bstr m)).1
theorem toksL_good (line : Int) : ∀ (j : Nat) (m : List UInt8) (st : St), m.length ≤ j → (m ≠ [] → Fresh m) → ∀ t ∈ (toksL line m st).1, t.s ≠ [] → Good t := by
 intro j
 induction j with
 | zero =>
  intro m st h _ t ht
  obtain rfl : m = [] := List.eq_nil_of_length_eq_zero (by omega)
  rw [toksL_nil] at ht; cases ht
 | succ j ih =>
  intro m st h hf t ht hts
  by_cases hm : m = []
  ·subst hm; rw [toksL_nil] at ht; cases ht
  ·by_cases h0 : (nextP (bstr m)).2 = 0
   ·rw [toksL_zero line m st hm h0] at ht
    simp only [List.mem_singleton] at ht
    subst ht
    exact absurd rfl hts
   ·rw [toksL_cons line m st hm h0] at ht
    have hlt := after_lt line m st hm h0
    rcases List.mem_cons.1 ht with rfl | ht
    ·exact ⟨m, hm, hf hm, h0, rfl, rfl⟩
    ·refine ih _ _ (by omega) (fun hne => ?_) t ht hts
     exact (skipP_fresh line _ _ _ (by omega) hne).1
theorem lineP_good (line : Int) (S : List UInt8) (st : St) : ∀ t ∈ (lineP line S st).1, t.s ≠ [] → Good t := by
 unfold lineP
 refine toksL_good line _ _ _ (Nat.le_refl _) (fun hne => ?_)
 exact (skipP_fresh line _ _ _ (by omega) hne).1
theorem foldT_ok : ∀ (l out o : List TokP), foldT out l = (o, 0) → o = out ++ l ∧ ∀ t ∈ l, t.s ≠ []
 | [], out, o, h => by
  simp only [foldT, Prod.mk.injEq, and_true] at h
  exact ⟨by rw [h, List.append_nil], fun t ht => by cases ht⟩
 | x :: l, out, o, h => by
  rw [foldT] at h
  by_cases h1 : x.s = []
  ·rw [if_pos h1] at h; cases h
  ·rw [if_neg h1] at h
   by_cases h2 : out.length = 20000
   ·rw [if_pos h2] at h; cases h
   ·rw [if_neg h2] at h
    obtain ⟨h3, h4⟩ := foldT_ok l _ _ h
    refine ⟨by rw [h3, List.append_assoc]; rfl, fun t ht => ?_⟩
    rcases List.mem_cons.1 ht with rfl | ht
    ·exact h1
    ·exact h4 t ht
end Go.Proofs.YtcbfbefpbjmglaaDoorT
namespace Go.Proofs.YtcbfbefpbjmglaaDoorT
set_option linter.unusedVariables false
set_option linter.unusedSimpArgs false
open Go.RowKit Go.Lib
set_option linter.unusedVariables false
def StB (a b : St) : Prop := a.op = b.op ∧ (a.op = true → a.sp = b.sp ∧ a.fs = b.fs)
def allT : List (Int × List UInt8) → St → List TokP
 | [], _ => []
 | (N, S) :: r, st => (lineP N S st).1 ++ allT r (lineP N S st).2
def endS : List (Int × List UInt8) → St → St
 | [], st => st
 | (N, S) :: r, st => endS r (lineP N S st).2
theorem foldT_all : ∀ (l out : List TokP), (∀ t ∈ l, t.s ≠ []) → out.length + l.length ≤ 20000 → foldT out l = (out ++ l, 0)
 | [], out, _, _ => by simp [foldT]
 | x :: l, out, h, hl => by
  rw [foldT, if_neg (h x (by simp)), if_neg (by simp only [List.length_cons] at hl; omega), foldT_all l (out ++ [x]) (fun t ht => h t (by simp [ht])) (by simp only [List.length_append, List.length_cons, List.length_nil] at hl ⊢; omega)]
  simp
theorem lexF_ok : ∀ (l : List (Int × List UInt8)) (out : List TokP) (st : St), (lexF l out st).2.1 = 0 → out.length ≤ 20000 →
  lexF l out st = (out ++ allT l st, 0, 0) ∧ (endS l st).op = false ∧ (∀ t ∈ allT l st, t.s ≠ []) ∧ out.length + (allT l st).length ≤ 20000
 | [], out, st, h, hl => by
  unfold lexF at h ⊢
  by_cases ho : st.op = true
  ·rw [if_pos ho] at h; cases h
  ·rw [if_neg ho]
   exact ⟨by simp [allT], (show st.op = false by simpa using ho), fun t ht => (by cases ht), by simpa [allT] using hl⟩
 | (N, S) :: r, out, st, h, hl => by
  unfold lexF at h ⊢
  by_cases h0 : (foldT out (lineP N S st).1).2 = 0
  ·rw [if_pos h0] at h ⊢
   obtain ⟨o, ho⟩ : ∃ o, foldT out (lineP N S st).1 = (o, 0) := ⟨_, by rw [← h0]⟩
   have hlen := foldT_len _ _ _ _ ho hl
   obtain ⟨h1, h2⟩ := foldT_ok _ _ _ ho
   rw [ho] at h ⊢
   obtain ⟨g1, g2, g3, g4⟩ := lexF_ok r o (lineP N S st).2 h hlen
   refine ⟨?_, g2, fun t ht => ?_, ?_⟩
   ·show lexF r o _ = _
    rw [g1, h1, List.append_assoc]; rfl
   ·rcases List.mem_append.1 ht with ht | ht
    ·exact h2 t ht
    ·exact g3 t ht
   ·rw [h1] at g4
    simp only [allT, List.length_append] at g4 ⊢
    omega
  ·rw [if_neg h0] at h
   exact absurd h h0
theorem lexP_len (x : List (Int × List UInt8)) : (lexP x).1.length ≤ 20000 := by
 by_cases h : (lexP x).2.1 = 0
 ·obtain ⟨a1, _, _, a4⟩ := lexF_ok x [] st0 h (by simp)
  unfold lexP
  rw [a1]
  simpa using a4
 ·have : ∀ (l : List (Int × List UInt8)) (out : List TokP) (st : St), (lexF l out st).2.1 ≠ 0 → (lexF l out st).1 = [] := by
   intro l
   induction l with
   | nil =>
    intro out st hh
    unfold lexF at hh ⊢
    by_cases ho : st.op = true
    ·rw [if_pos ho]
    ·rw [if_neg ho] at hh; exact absurd rfl hh
   | cons p r ih =>
    intro out st hh
    obtain ⟨N, S⟩ := p
    unfold lexF at hh ⊢
    by_cases h0 : (foldT out (lineP N S st).1).2 = 0
    ·rw [if_pos h0] at hh ⊢; exact ih _ _ hh
    ·rw [if_neg h0]
  unfold lexP at h ⊢
  rw [this _ _ _ h]
  simp
end Go.Proofs.YtcbfbefpbjmglaaDoorT
namespace Go.Proofs.YtcbfbefpbjmglaaDoorT
set_option linter.unusedVariables false
set_option linter.unusedSimpArgs false
open Go.RowKit Go.Lib
set_option linter.unusedVariables false
end Go.Proofs.YtcbfbefpbjmglaaDoorT
namespace Go.Proofs.YtcbfbefpbjmglaaDoor.PureF
open Go.RowKit Go.Lib Go.Proofs.YtcbfbefpbjmglaaDoorT Go.Proofs.YtcbfbefpbjmglaaDoor.PA Go.Proofs.YtcbfbefpbjmglaaDoorW.PrintWords Go.Proofs.YtcbfbefpbjmglaaDoorW.PrintLast Go.Proofs.YtcbfbefpbjmglaaDoorW.PrintMore
set_option linter.unusedVariables false
set_option linter.unusedSimpArgs false
def RAt (W : World) (X : Nat) (v : Value) (st : St) : Prop := W.heap[X]? = some (.cells #[v, .bool st.sp, .bool st.fs, .bool st.op, .int .i64 st.fr] 124 (0, 0))
theorem RAt.c {W : World} {X : Nat} {v : Value} {st : St} (h : RAt W X v st) : W.cell? ⟨X, 0, none⟩ = some v ∧ W.cell? ⟨X, 1, none⟩ = some (.bool st.sp) ∧ W.cell? ⟨X, 2, none⟩ = some (.bool st.fs) ∧ W.cell? ⟨X, 3, none⟩ = some (.bool st.op) ∧ W.cell? ⟨X, 4, none⟩ = some (.int .i64 st.fr) := by
 refine ⟨?_, ?_, ?_, ?_, ?_⟩ <;> simp [World.cell?, show W.heap[X]? = _ from h]
theorem RAt.fz {W : World} {X : Nat} {v : Value} {st : St} (h : RAt W X v st) (i : Nat) : W.frozen? ⟨X, i, none⟩ = false := by simp [World.frozen?, show W.heap[X]? = _ from h]
theorem RAt.lt {W : World} {X : Nat} {v : Value} {st : St} (h : RAt W X v st) : X < W.heap.size := (Array.getElem?_eq_some_iff.1 h).1
theorem RAt.s1 {W : World} {X : Nat} {v : Value} {st : St} (h : RAt W X v st) (b : Bool) : RAt (W.setCell ⟨X, 1, none⟩ (.bool b)) X v { st with sp := b } := Go.Proofs.YtcbfbefpbjmglaaDoorT.heap_setCell_same h
theorem RAt.s2 {W : World} {X : Nat} {v : Value} {st : St} (h : RAt W X v st) (b : Bool) : RAt (W.setCell ⟨X, 2, none⟩ (.bool b)) X v { st with fs := b } := Go.Proofs.YtcbfbefpbjmglaaDoorT.heap_setCell_same h
theorem RAt.s3 {W : World} {X : Nat} {v : Value} {st : St} (h : RAt W X v st) (b : Bool) : RAt (W.setCell ⟨X, 3, none⟩ (.bool b)) X v { st with op := b } := Go.Proofs.YtcbfbefpbjmglaaDoorT.heap_setCell_same h
theorem RAt.not_row {W : World} {X : Nat} {v0 : Value} {st : St} (h : RAt W X v0 st) {base k : Nat} {v : Value} {xs : List Value} (hr : W.ownsRow base 48 6 v k xs) : v.ownBlock ≠ some X := by
 rcases hr.2 with ⟨rfl, _⟩ | ⟨g, cap, cur, rfl, _, hgb, _⟩
 ·simp [Value.ownBlock]
 ·intro e'
  obtain rfl : g = X := by simpa [Value.ownBlock] using e'
  have := (show W.heap[g]? = _ from h).symm.trans hgb
  simp at this
theorem grown_setCell (W : World) (b i : Nat) (v : Value) : W.grownBy (W.setCell ⟨b, i, none⟩ v) (some b) :=
 ⟨rfl, rfl, rfl, by rw [size_setCell]; exact Nat.le_refl _, fun k hk hn => Below.heap_setCell W ⟨b, i, none⟩ v k (fun e => hn (by rw [e]))⟩
theorem RAt.row {W : World} {X i : Nat} {v0 u : Value} {st : St} (h : RAt W X v0 st) {base k : Nat} {v : Value} {xs : List Value} (hr : W.ownsRow base 48 6 v k xs) : (W.setCell ⟨X, i, none⟩ u).ownsRow base 48 6 v k xs :=
 hr.kept (grown_setCell W X i u) (.inr (h.not_row hr))
theorem RAt.s0 {W : World} {X : Nat} {v : Value} {st : St} (h : RAt W X v st) (v' : Value) : RAt (W.setCell ⟨X, 0, none⟩ v') X v' st := Go.Proofs.YtcbfbefpbjmglaaDoorT.heap_setCell_same h
end Go.Proofs.YtcbfbefpbjmglaaDoor.PureF
namespace Go.Proofs.YtcbfbefpbjmglaaDoor.PureF
open Go.RowKit Go.Lib Go.Proofs.YtcbfbefpbjmglaaDoorT Go.Proofs.YtcbfbefpbjmglaaDoor.PA Go.Proofs.YtcbfbefpbjmglaaDoorW.PrintWords Go.Proofs.YtcbfbefpbjmglaaDoorW.PrintLast Go.Proofs.YtcbfbefpbjmglaaDoorW.PrintMore
set_option linter.unusedVariables false
set_option linter.unusedSimpArgs false
end Go.Proofs.YtcbfbefpbjmglaaDoor.PureF
namespace Go.Proofs.YtcbfbefpbjmglaaDoor.PA
open Go.RowKit Go.Proofs.YtcbfbefpbjmglaaDoorT Go.Proofs.YtcbfbefpbjmglaaDoor.PureF Go.Proofs.YtcbfbefpbjmglaaDoorW.PrintWords Go.Proofs.YtcbfbefpbjmglaaDoorW.PrintLast Go.Proofs.YtcbfbefpbjmglaaDoorW.PrintMore
set_option linter.unusedVariables false
def burinref02_Lex.f (l0 : List S28) : Option (List S48 × Int × Int) := if fits l0 = true then some ((lexP (toL l0)).1.map toT, (lexP (toL l0)).2.1, (lexP (toL l0)).2.2) else none
end Go.Proofs.YtcbfbefpbjmglaaDoor.PA
