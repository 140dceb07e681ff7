import Derived.Test.YtcbfbefpbjmglaaGreatDoorA2
import Derived.Test.YtcbfbefpbjmglaaGreatDoorA3
import Derived.Test.YtcbfbefpbjmglaaGreatDoorA6
set_option linter.unusedSimpArgs false
set_option linter.unusedVariables false
namespace Go.Proofs.YtcbfbefpbjmglaaGreatDoor.Mac
open Go.RowKit PA YtcbfbefpbjmglaaGreatDoorW PrintWords PrintLast PrintMore
def bareTok (i : Nat) (t : S55) : S55 := ⟨t.f0, t.f1, ⟨#[]⟩, 0, t.f4 && decide (0 < i), false⟩
def bareFrom : Nat → List S55 → List S55
 | _, [] => []
 | i, t :: r => bareTok i t :: bareFrom (i + 1) r
def bareP (l : List S55) : List S55 := bareFrom 0 l
theorem bareFrom_len : ∀ i l, (bareFrom i l).length = l.length
 | _, [] => rfl
 | i, t :: r => by rw [bareFrom, List.length_cons, List.length_cons, bareFrom_len (i + 1) r]
theorem rd_at {l : List S55} {i : Nat} (h : i < l.length) : rT l (i : Int) = l[i] := by
 unfold rT; rw [List.getD_eq_getElem?_getD]; simp [h]
theorem bare_loop (l : List S55) (hl : l.length ≤ 1000000) : ∀ d k i acc, i + d = l.length → acc.length = i → d < k → macro_bare.l0 k acc l (l.length : Int) (i : Int) = some (acc ++ bareFrom i (l.drop i))
 | 0, k, i, acc, h1, h2, h3 => by
  obtain ⟨k, rfl⟩ : ∃ m, k = m + 1 := ⟨k - 1, by omega⟩
  simp only [macro_bare.l0]
  rw [if_neg (by omega), List.drop_eq_nil_of_le (by omega), bareFrom, List.append_nil]
 | d + 1, k, i, acc, h1, h2, h3 => by
  obtain ⟨k, rfl⟩ : ∃ m, k = m + 1 := ⟨k - 1, by omega⟩
  have hi : i < l.length := by omega
  have hd : l.drop i = l[i] :: l.drop (i + 1) := List.drop_eq_getElem_cons hi
  have hw : wrap64 ((i : Int) + 1) = ((i + 1 : Nat) : Int) := by unfold wrap64; omega
  simp only [macro_bare.l0]
  rw [if_pos (by omega), if_pos (by omega), if_pos (by omega), rd_at hi, hw, hd, bareFrom]
  have key : ∀ t : S55, t = bareTok i l[i] → macro_bare.l0 k (acc ++ [t]) l (l.length : Int) ((i + 1 : Nat) : Int) = some (acc ++ bareTok i l[i] :: bareFrom (i + 1) (l.drop (i + 1))) := by
   intro t ht
   subst ht
   rw [bare_loop l hl d k (i + 1) _ (by omega) (by simp [h2]) (by omega), List.append_assoc]; rfl
  by_cases h4 : l[i].f4 = true
  ·rw [if_pos h4, if_pos (by omega)]
   refine key _ ?_
   unfold bareTok
   rw [h4, Bool.true_and]
   congr 1
   rw [Bool.eq_iff_iff, decide_eq_true_eq, decide_eq_true_eq]; omega
  ·rw [if_neg h4, if_pos (by omega)]
   refine key _ ?_
   unfold bareTok
   rw [Bool.not_eq_true] at h4
   rw [h4, Bool.false_and]
theorem bare_f (l : List S55) (hl : l.length ≤ 1000000) : macro_bare.f (l.length + 1) l = some (bareP l) := by
 unfold macro_bare.f
 have := bare_loop l hl l.length (l.length + 1) 0 [] (by omega) rfl (by omega)
 simpa [bareP] using this
def tokEq (a b : S55) : Bool := a.f0 == b.f0 && (a.f1.toList == b.f1.toList && (a.f2.toList == b.f2.toList && (a.f3 == b.f3 && (a.f4 == b.f4 && a.f5 == b.f5))))
def toksEq : List S55 → List S55 → Bool
 | [], [] => true
 | a :: l, b :: r => tokEq a b && toksEq l r
 | _, _ => false
theorem toksEq_len : ∀ {a b : List S55}, toksEq a b = true → a.length = b.length
 | [], [], _ => rfl
 | a :: l, b :: r, h => by rw [toksEq, Bool.and_eq_true] at h; rw [List.length_cons, List.length_cons, toksEq_len h.2]
 | [], _ :: _, h => by cases h
 | _ :: _, [], h => by cases h
theorem tokEq_not (a b : S55) : (!((a.f0) == (b.f0)) || (!(((a.f1).toList) == ((b.f1).toList)) || (!(((a.f2).toList) == ((b.f2).toList)) || (!((a.f3) == (b.f3)) || (!((a.f4) == (b.f4)) || (!((a.f5) == (b.f5)))))))) = !tokEq a b := by
 unfold tokEq
 cases a.f0 == b.f0 <;> cases a.f1.toList == b.f1.toList <;> cases a.f2.toList == b.f2.toList <;> cases a.f3 == b.f3 <;> cases a.f4 == b.f4 <;> cases a.f5 == b.f5 <;> rfl
theorem equal_loop (a b : List S55) (hab : a.length = b.length) (hl : a.length ≤ 1000000) : ∀ d k i, i + d = a.length → d < k → api_Tok_38.l0 k a b (a.length : Int) (i : Int) = some (toksEq (a.drop i) (b.drop i))
 | 0, k, i, h1, h3 => by
  obtain ⟨k, rfl⟩ : ∃ m, k = m + 1 := ⟨k - 1, by omega⟩
  simp only [api_Tok_38.l0]
  rw [if_neg (by omega), List.drop_eq_nil_of_le (by omega), List.drop_eq_nil_of_le (by omega), toksEq]
 | d + 1, k, i, h1, h3 => by
  obtain ⟨k, rfl⟩ : ∃ m, k = m + 1 := ⟨k - 1, by omega⟩
  have hi : i < a.length := by omega
  have hw : wrap64 ((i : Int) + 1) = ((i + 1 : Nat) : Int) := by unfold wrap64; omega
  simp only [api_Tok_38.l0]
  rw [if_pos (by omega), if_pos (by omega), if_pos (by omega), if_pos (by omega), rd_at hi, rd_at (hab ▸ hi), hw, List.drop_eq_getElem_cons hi, List.drop_eq_getElem_cons (l := b) (by omega), toksEq, tokEq_not]
  cases tokEq a[i] b[i] with
  | true => rw [if_neg (by decide), Bool.true_and]; exact equal_loop a b hab hl d k (i + 1) (by omega) (by omega)
  | false => rw [if_pos (by decide), Bool.false_and]
theorem toksEq_ne : ∀ {a b : List S55}, a.length ≠ b.length → toksEq a b = false := by
 intro a b h
 cases he : toksEq a b with
 | false => rfl
 | true => exact absurd (toksEq_len he) h
theorem equal_f (a b : List S55) (hl : a.length ≤ 1000000) : api_Tok_38.f (a.length + 1) a b = some (toksEq a b) := by
 unfold api_Tok_38.f
 by_cases hab : a.length = b.length
 ·rw [if_pos (by omega)]
  have := equal_loop a b hab hl a.length (a.length + 1) 0 (by omega) (by omega)
  simpa using this
 ·rw [if_neg (by omega), toksEq_ne hab]
end Go.Proofs.YtcbfbefpbjmglaaGreatDoor.Mac
