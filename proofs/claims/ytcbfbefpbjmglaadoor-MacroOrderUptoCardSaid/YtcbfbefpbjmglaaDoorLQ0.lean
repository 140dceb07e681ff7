import Derived.Test.YtcbfbefpbjmglaaDoorH2
import Derived.Test.YtcbfbefpbjmglaaDoorA7
import Derived.Test.YtcbfbefpbjmglaaDoorA3
import Derived.Deep.AppendLies
namespace Go.Proofs.YtcbfbefpbjmglaaDoorT
set_option linter.unusedVariables false
set_option linter.unusedSimpArgs false
open Go.RowKit Go.Lib
set_option linter.unusedVariables false
end Go.Proofs.YtcbfbefpbjmglaaDoorT
namespace Go.Proofs.YtcbfbefpbjmglaaDoorT
set_option linter.unusedVariables false
set_option linter.unusedSimpArgs false
open Go.RowKit Go.Lib
set_option linter.unusedVariables false
theorem foldT_ok : ∀ (l out o : List TokP), foldT out l = (o, 0) → o = out ++ l ∧ ∀ t ∈ l, t.s ≠ []
 | [], out, o, h => by
  simp only [foldT, Prod.mk.injEq, and_true] at h
  exact ⟨by rw [h, List.append_nil], fun t ht => by cases ht⟩
 | x :: l, out, o, h => by
  rw [foldT] at h
  by_cases h1 : x.s = []
  ·rw [if_pos h1] at h; cases h
  ·rw [if_neg h1] at h
   by_cases h2 : out.length = 20000
   ·rw [if_pos h2] at h; cases h
   ·rw [if_neg h2] at h
    obtain ⟨h3, h4⟩ := foldT_ok l _ _ h
    refine ⟨by rw [h3, List.append_assoc]; rfl, fun t ht => ?_⟩
    rcases List.mem_cons.1 ht with rfl | ht
    ·exact h1
    ·exact h4 t ht
theorem toksL_short (line : Int) : ∀ (j : Nat) (m : List UInt8) (st : St), m.length ≤ j → ∀ t ∈ (toksL line m st).1, t.s.length ≤ m.length := by
 intro j
 induction j with
 | zero =>
  intro m st h t ht
  obtain rfl : m = [] := List.eq_nil_of_length_eq_zero (by omega)
  rw [toksL_nil] at ht; cases ht
 | succ j ih =>
  intro m st h t ht
  by_cases hm : m = []
  ·subst hm; rw [toksL_nil] at ht; cases ht
  ·by_cases h0 : (nextP (bstr m)).2 = 0
   ·rw [toksL_zero line m st hm h0] at ht
    simp only [List.mem_singleton] at ht
    subst ht
    exact Nat.zero_le _
   ·rw [toksL_cons line m st hm h0] at ht
    have hlt := after_lt line m st hm h0
    rcases List.mem_cons.1 ht with rfl | ht
    ·show (m.take _).length ≤ _
     rw [List.length_take]; omega
    ·have := ih _ _ (by omega) t ht
     omega
theorem lineP_short (line : Int) (S : List UInt8) (st : St) : ∀ t ∈ (lineP line S st).1, t.s.length ≤ S.length := by
 intro t ht
 have := toksL_short line _ _ _ (Nat.le_refl _) t ht
 have := skipP_len line (S.length + 1) S (begin_ st)
 omega
end Go.Proofs.YtcbfbefpbjmglaaDoorT
namespace Go.Proofs.YtcbfbefpbjmglaaDoorT
set_option linter.unusedVariables false
set_option linter.unusedSimpArgs false
open Go.RowKit Go.Lib
set_option linter.unusedVariables false
def StB (a b : St) : Prop := a.op = b.op ∧ (a.op = true → a.sp = b.sp ∧ a.fs = b.fs)
def allT : List (Int × List UInt8) → St → List TokP
 | [], _ => []
 | (N, S) :: r, st => (lineP N S st).1 ++ allT r (lineP N S st).2
def endS : List (Int × List UInt8) → St → St
 | [], st => st
 | (N, S) :: r, st => endS r (lineP N S st).2
theorem lexF_ok : ∀ (l : List (Int × List UInt8)) (out : List TokP) (st : St), (lexF l out st).2.1 = 0 → out.length ≤ 20000 →
  lexF l out st = (out ++ allT l st, 0, 0) ∧ (endS l st).op = false ∧ (∀ t ∈ allT l st, t.s ≠ []) ∧ out.length + (allT l st).length ≤ 20000
 | [], out, st, h, hl => by
  unfold lexF at h ⊢
  by_cases ho : st.op = true
  ·rw [if_pos ho] at h; cases h
  ·rw [if_neg ho]
   exact ⟨by simp [allT], (show st.op = false by simpa using ho), fun t ht => (by cases ht), by simpa [allT] using hl⟩
 | (N, S) :: r, out, st, h, hl => by
  unfold lexF at h ⊢
  by_cases h0 : (foldT out (lineP N S st).1).2 = 0
  ·rw [if_pos h0] at h ⊢
   obtain ⟨o, ho⟩ : ∃ o, foldT out (lineP N S st).1 = (o, 0) := ⟨_, by rw [← h0]⟩
   have hlen := foldT_len _ _ _ _ ho hl
   obtain ⟨h1, h2⟩ := foldT_ok _ _ _ ho
   rw [ho] at h ⊢
   obtain ⟨g1, g2, g3, g4⟩ := lexF_ok r o (lineP N S st).2 h hlen
   refine ⟨?_, g2, fun t ht => ?_, ?_⟩
   ·show lexF r o _ = _
    rw [g1, h1, List.append_assoc]; rfl
   ·rcases List.mem_append.1 ht with ht | ht
    ·exact h2 t ht
    ·exact g3 t ht
   ·rw [h1] at g4
    simp only [allT, List.length_append] at g4 ⊢
    omega
  ·rw [if_neg h0] at h
   exact absurd h h0
theorem lexP_len (x : List (Int × List UInt8)) : (lexP x).1.length ≤ 20000 := by
 by_cases h : (lexP x).2.1 = 0
 ·obtain ⟨a1, _, _, a4⟩ := lexF_ok x [] st0 h (by simp)
  unfold lexP
  rw [a1]
  simpa using a4
 ·have : ∀ (l : List (Int × List UInt8)) (out : List TokP) (st : St), (lexF l out st).2.1 ≠ 0 → (lexF l out st).1 = [] := by
   intro l
   induction l with
   | nil =>
    intro out st hh
    unfold lexF at hh ⊢
    by_cases ho : st.op = true
    ·rw [if_pos ho]
    ·rw [if_neg ho] at hh; exact absurd rfl hh
   | cons p r ih =>
    intro out st hh
    obtain ⟨N, S⟩ := p
    unfold lexF at hh ⊢
    by_cases h0 : (foldT out (lineP N S st).1).2 = 0
    ·rw [if_pos h0] at hh ⊢; exact ih _ _ hh
    ·rw [if_neg h0]
  unfold lexP at h ⊢
  rw [this _ _ _ h]
  simp
end Go.Proofs.YtcbfbefpbjmglaaDoorT
namespace Go.Proofs.YtcbfbefpbjmglaaDoorT
set_option linter.unusedVariables false
set_option linter.unusedSimpArgs false
open Go.RowKit Go.Lib
set_option linter.unusedVariables false
end Go.Proofs.YtcbfbefpbjmglaaDoorT
namespace Go.Proofs.YtcbfbefpbjmglaaDoor.PureF
open Go.RowKit Go.Lib Go.Proofs.YtcbfbefpbjmglaaDoorT Go.Proofs.YtcbfbefpbjmglaaDoor.PA Go.Proofs.YtcbfbefpbjmglaaDoorW.PrintWords Go.Proofs.YtcbfbefpbjmglaaDoorW.PrintLast Go.Proofs.YtcbfbefpbjmglaaDoorW.PrintMore
set_option linter.unusedVariables false
set_option linter.unusedSimpArgs false
def RAt (W : World) (X : Nat) (v : Value) (st : St) : Prop := W.heap[X]? = some (.cells #[v, .bool st.sp, .bool st.fs, .bool st.op, .int .i64 st.fr] 124 (0, 0))
theorem RAt.c {W : World} {X : Nat} {v : Value} {st : St} (h : RAt W X v st) : W.cell? ⟨X, 0, none⟩ = some v ∧ W.cell? ⟨X, 1, none⟩ = some (.bool st.sp) ∧ W.cell? ⟨X, 2, none⟩ = some (.bool st.fs) ∧ W.cell? ⟨X, 3, none⟩ = some (.bool st.op) ∧ W.cell? ⟨X, 4, none⟩ = some (.int .i64 st.fr) := by
 refine ⟨?_, ?_, ?_, ?_, ?_⟩ <;> simp [World.cell?, show W.heap[X]? = _ from h]
theorem RAt.fz {W : World} {X : Nat} {v : Value} {st : St} (h : RAt W X v st) (i : Nat) : W.frozen? ⟨X, i, none⟩ = false := by simp [World.frozen?, show W.heap[X]? = _ from h]
theorem RAt.lt {W : World} {X : Nat} {v : Value} {st : St} (h : RAt W X v st) : X < W.heap.size := (Array.getElem?_eq_some_iff.1 h).1
theorem RAt.s1 {W : World} {X : Nat} {v : Value} {st : St} (h : RAt W X v st) (b : Bool) : RAt (W.setCell ⟨X, 1, none⟩ (.bool b)) X v { st with sp := b } := Go.Proofs.YtcbfbefpbjmglaaDoorT.heap_setCell_same h
theorem RAt.s2 {W : World} {X : Nat} {v : Value} {st : St} (h : RAt W X v st) (b : Bool) : RAt (W.setCell ⟨X, 2, none⟩ (.bool b)) X v { st with fs := b } := Go.Proofs.YtcbfbefpbjmglaaDoorT.heap_setCell_same h
theorem RAt.s3 {W : World} {X : Nat} {v : Value} {st : St} (h : RAt W X v st) (b : Bool) : RAt (W.setCell ⟨X, 3, none⟩ (.bool b)) X v { st with op := b } := Go.Proofs.YtcbfbefpbjmglaaDoorT.heap_setCell_same h
theorem RAt.s4 {W : World} {X : Nat} {v : Value} {st : St} (h : RAt W X v st) (b : Int) : RAt (W.setCell ⟨X, 4, none⟩ (.int .i64 b)) X v { st with fr := b } := Go.Proofs.YtcbfbefpbjmglaaDoorT.heap_setCell_same h
theorem RAt.not_row {W : World} {X : Nat} {v0 : Value} {st : St} (h : RAt W X v0 st) {base k : Nat} {v : Value} {xs : List Value} (hr : W.ownsRow base 48 6 v k xs) : v.ownBlock ≠ some X := by
 rcases hr.2 with ⟨rfl, _⟩ | ⟨g, cap, cur, rfl, _, hgb, _⟩
 ·simp [Value.ownBlock]
 ·intro e'
  obtain rfl : g = X := by simpa [Value.ownBlock] using e'
  have := (show W.heap[g]? = _ from h).symm.trans hgb
  simp at this
theorem grown_setCell (W : World) (b i : Nat) (v : Value) : W.grownBy (W.setCell ⟨b, i, none⟩ v) (some b) :=
 ⟨rfl, rfl, rfl, by rw [size_setCell]; exact Nat.le_refl _, fun k hk hn => Below.heap_setCell W ⟨b, i, none⟩ v k (fun e => hn (by rw [e]))⟩
theorem RAt.row {W : World} {X i : Nat} {v0 u : Value} {st : St} (h : RAt W X v0 st) {base k : Nat} {v : Value} {xs : List Value} (hr : W.ownsRow base 48 6 v k xs) : (W.setCell ⟨X, i, none⟩ u).ownsRow base 48 6 v k xs :=
 hr.kept (grown_setCell W X i u) (.inr (h.not_row hr))
theorem RAt.s0 {W : World} {X : Nat} {v : Value} {st : St} (h : RAt W X v st) (v' : Value) : RAt (W.setCell ⟨X, 0, none⟩ v') X v' st := Go.Proofs.YtcbfbefpbjmglaaDoorT.heap_setCell_same h
end Go.Proofs.YtcbfbefpbjmglaaDoor.PureF
namespace Go.Proofs.YtcbfbefpbjmglaaDoor.PureF
open Go.RowKit Go.Lib Go.Proofs.YtcbfbefpbjmglaaDoorT Go.Proofs.YtcbfbefpbjmglaaDoor.PA Go.Proofs.YtcbfbefpbjmglaaDoorW.PrintWords Go.Proofs.YtcbfbefpbjmglaaDoorW.PrintLast Go.Proofs.YtcbfbefpbjmglaaDoorW.PrintMore
set_option linter.unusedVariables false
set_option linter.unusedSimpArgs false
end Go.Proofs.YtcbfbefpbjmglaaDoor.PureF
namespace Go.Proofs.YtcbfbefpbjmglaaDoor.PA
open Go.RowKit Go.Proofs.YtcbfbefpbjmglaaDoorT Go.Proofs.YtcbfbefpbjmglaaDoor.PureF Go.Proofs.YtcbfbefpbjmglaaDoorW.PrintWords Go.Proofs.YtcbfbefpbjmglaaDoorW.PrintLast Go.Proofs.YtcbfbefpbjmglaaDoorW.PrintMore
set_option linter.unusedVariables false
def burinref02_Lex.f (l0 : List S28) : Option (List S48 × Int × Int) := if fits l0 = true then some ((lexP (toL l0)).1.map toT, (lexP (toL l0)).2.1, (lexP (toL l0)).2.2) else none
end Go.Proofs.YtcbfbefpbjmglaaDoor.PA
