import Derived.Test.YtcbfbefpbjmglaaGreatDoorPRc
import Derived.Test.YtcbfbefpbjmglaaGreatDoorM2
import Derived.Test.YtcbfbefpbjmglaaGreatDoorPR2
import Derived.Test.YtcbfbefpbjmglaaGreatDoorPR4
set_option maxRecDepth 100000
set_option linter.unusedSimpArgs false
set_option linter.unusedVariables false
namespace Go.Proofs.YtcbfbefpbjmglaaGreatDoor.Mac
open Go.RowKit Go.Lib PA YtcbfbefpbjmglaaGreatDoorT YtcbfbefpbjmglaaGreatDoorW PrintWords PrintLast PrintMore
def spellD : Nat → List S55 → List UInt8
 | _, [] => []
 | i, x :: r => Sp.sepOf (i == 0) x ++ x.f1.data.toList ++ spellD (i + 1) r
theorem spell_items : ∀ (l : List S55) (i : Nat) (L : List S55), L.drop i = l → Sp.spellN ((List.range' i l.length).map fun j => (j, L.getD j z55)) = spellD i l
 | [], i, L, h => rfl
 | x :: r, i, L, h => by
  have hi : i < L.length := by
   rcases Nat.lt_or_ge i L.length with h' | h'
   ·exact h'
   ·rw [List.drop_eq_nil_of_le h'] at h; cases h
  have h2 := List.drop_eq_getElem_cons hi
  rw [h] at h2
  have hx : L.getD i z55 = x := by rw [List.getD_eq_getElem?_getD, List.getElem?_eq_getElem hi]; exact (List.cons.inj h2).1.symm
  rw [List.length_cons, List.range'_succ, List.map_cons, hx]
  show Sp.sepOf (i == 0) x ++ x.f1.data.toList ++ Sp.spellN _ = _
  rw [spell_items r (i + 1) L (List.cons.inj h2).2.symm]
  rfl
theorem spell_eq (l : List S55) : Sp.spellN (Sp.itemsOf l) = spellD 0 l := by
 rw [← spell_items l 0 l rfl]
 unfold Sp.itemsOf Sp.upto
 rw [List.range_eq_range']
def numsB (l : List UInt8) : List Int := l.map fun c => (c.toNat : Int)
theorem strOf_numsB (l : List UInt8) : strOfNums (numsB l) = ⟨l.toArray⟩ := by
 unfold strOfNums numsB
 rw [List.map_map, List.map_congr_left (g := id) (fun c _ => by simp), List.map_id]
theorem spell_loop (L : List S55) (hL : L.length ≤ 60000000) (hS : ∀ x ∈ L, x.f1.size ≤ 1048576) : ∀ (r : List S55) (i k : Nat) (acc : List UInt8), L.drop i = r → 2 * r.length < k → acc.length ≤ i * 1048577 →
  burinref02_Spell.l0 k L (numsB acc) (i : Int) = some ⟨(acc ++ spellD i r).toArray⟩
 | [], i, k, acc, h, hk, ha => by
  obtain ⟨k, rfl⟩ : ∃ k', k = k' + 1 := ⟨k - 1, by omega⟩
  have hi : L.length ≤ i := by
   rcases Nat.lt_or_ge i L.length with h' | h'
   ·have := congrArg List.length h; rw [List.length_drop] at this; simp at this; omega
   ·exact h'
  unfold burinref02_Spell.l0
  rw [if_neg (by omega), strOf_numsB]
  simp [spellD]
 | x :: r, i, k, acc, h, hk, ha => by
  rw [List.length_cons] at hk
  obtain ⟨k, rfl⟩ : ∃ k', k = k' + 1 + 1 := ⟨k - 2, by omega⟩
  have hi : i < L.length := by
   rcases Nat.lt_or_ge i L.length with h' | h'
   ·exact h'
   ·rw [List.drop_eq_nil_of_le h'] at h; cases h
  have h2 := List.drop_eq_getElem_cons hi
  rw [h] at h2
  have hx : rT L (i : Int) = x := by unfold rT; rw [List.getD_eq_getElem?_getD, Int.toNat_natCast, List.getElem?_eq_getElem hi]; exact (List.cons.inj h2).1.symm
  have hxm : x.f1.size ≤ 1048576 := hS x (by rw [← (List.cons.inj h2).1.symm]; exact List.getElem_mem hi)
  have hw : wrap64 ((i : Int) + 1) = ((i + 1 : Nat) : Int) := by unfold wrap64; omega
  have hsz := Lib.size_eq x.f1
  have ih := fun (sep : List UInt8) (hs : sep.length ≤ 1) => spell_loop L hL hS r (i + 1) k (acc ++ sep ++ x.f1.data.toList) (List.cons.inj h2).2.symm (by omega) (by rw [List.length_append, List.length_append]; omega)
  have hn : ∀ (sep : List UInt8), numsB (acc ++ sep ++ x.f1.data.toList) = numsB acc ++ numsB sep ++ bytesOf x.f1 := fun sep => by simp [numsB, bytesOf]
  have hla : (numsB acc).length = acc.length := by simp [numsB]
  have h6 : i ≤ 60000000 := by omega
  have hda : acc.length ≤ 62914620000000 := by omega
  unfold burinref02_Spell.l0
  rw [if_pos (by omega), hx]
  by_cases h0 : i = 0
  ·subst h0
   rw [if_neg (by omega)]
   unfold burinref02_Spell.j1
   rw [if_neg (by decide), if_neg (by omega), if_pos (by omega), if_pos (by omega), hx, if_pos (by rw [hla]; omega), hw]
   have := ih [] (by simp)
   rw [hn] at this
   simp only [numsB, List.map_nil, List.append_nil] at this ⊢
   rw [this]
   simp [spellD, Sp.sepOf]
  ·rw [if_pos (by omega), if_pos (by omega)]
   have hib : (i == 0) = false := by simpa using h0
   unfold burinref02_Spell.j1
   cases h5 : x.f5 with
   | true =>
    rw [if_pos rfl, if_pos (by rw [hla]; omega), Option.bind_some, if_pos (by omega), if_pos (by omega), hx, if_pos (by rw [List.length_append, hla]; simp; omega), hw]
    have := ih [10] (by simp)
    rw [hn] at this
    rw [show numsB acc ++ [10] ++ bytesOf x.f1 = numsB acc ++ numsB [10] ++ bytesOf x.f1 from rfl, this]
    simp [spellD, Sp.sepOf, hib, h5]
   | false =>
    rw [if_neg (by decide), if_pos (by omega), if_pos (by omega), if_pos (by omega), hx]
    cases h4 : x.f4 with
    | true =>
     rw [if_pos rfl, if_pos (by rw [hla]; omega), Option.bind_some, if_pos (by rw [List.length_append, hla]; simp; omega), hw]
     have := ih [32] (by simp)
     rw [hn] at this
     rw [show numsB acc ++ [32] ++ bytesOf x.f1 = numsB acc ++ numsB [32] ++ bytesOf x.f1 from rfl, this]
     simp [spellD, Sp.sepOf, hib, h5, h4]
    | false =>
     rw [if_neg (by decide), if_pos (by rw [hla]; omega), hw]
     have := ih [] (by simp)
     rw [hn] at this
     simp only [numsB, List.map_nil, List.append_nil] at this ⊢
     rw [this]
     simp [spellD, Sp.sepOf, hib, h5, h4]
end Go.Proofs.YtcbfbefpbjmglaaGreatDoor.Mac
namespace Go.Proofs.YtcbfbefpbjmglaaGreatDoor.Mac
open Go.RowKit Go.Lib PA YtcbfbefpbjmglaaGreatDoorT YtcbfbefpbjmglaaGreatDoorW PrintWords PrintLast PrintMore
theorem lexP_toks (N : Int) (S : List UInt8) (h : (lexP [(N, S)]).2.1 = 0) : (lexP [(N, S)]).1 = (lineP N S st0).1 ∧ (∀ t ∈ (lineP N S st0).1, t.s ≠ []) ∧ (lineP N S st0).1.length ≤ 20000 := by
 have hlen := lexP_len [(N, S)]
 have hu : lexP [(N, S)] = if (foldT [] (lineP N S st0).1).2 = 0 then (if (lineP N S st0).2.op then ([], 20, (lineP N S st0).2.fr) else ((foldT [] (lineP N S st0).1).1, 0, 0)) else ([], (foldT [] (lineP N S st0).1).2, N) := rfl
 by_cases hz : (foldT [] (lineP N S st0).1).2 = 0
 ·obtain ⟨o, ho⟩ : ∃ o, foldT [] (lineP N S st0).1 = (o, 0) := ⟨(foldT [] (lineP N S st0).1).1, by rw [← hz]⟩
  obtain ⟨h1, h2⟩ := foldT_ok _ _ _ ho
  rw [List.nil_append] at h1
  rw [hu, if_pos hz] at h hlen ⊢
  cases hop : (lineP N S st0).2.op with
  | true => rw [hop, if_pos rfl] at h; cases h
  | false =>
   rw [hop, if_neg (by decide)] at hlen
   rw [if_neg (by decide), ho]
   rw [ho] at hlen
   exact ⟨h1, h2, by rw [← h1]; exact hlen⟩
 ·rw [hu, if_neg hz] at h
  exact absurd h hz
theorem cut_suffix (l p : List UInt8) : (Lib.cut l p).2.1 <:+ l := by
 unfold Lib.cut
 split
 ·exact List.drop_suffix _ _
 ·exact List.nil_suffix
theorem skipP_suffix (line : Int) : ∀ k l st, (skipP line k l st).1 <:+ l
 | 0, l, st => List.nil_suffix
 | k + 1, l, st => by
  unfold skipP
  split
  ·exact List.nil_suffix
  ·split
   ·exact (skipP_suffix line k _ _).trans (cut_suffix _ _)
   ·split
    ·exact List.nil_suffix
    ·split
     ·exact (skipP_suffix line k _ _).trans (List.drop_suffix _ _)
     ·split
      ·exact (skipP_suffix line k _ _).trans (List.drop_suffix _ _)
      ·exact List.suffix_refl _
theorem one_text (S : List UInt8) (t : TokP) (h : (lexP [(1, S)]).2.1 = 0) (h1 : (lexP [(1, S)]).1 = [t]) (hl : t.s.length = S.length) : t.s = S := by
 obtain ⟨e1, e2, _⟩ := lexP_toks 1 S h
 rw [h1] at e1
 rw [← e1] at e2
 have hm := skipP_suffix 1 (S.length + 1) S (begin_ st0)
 have hlp : lineP 1 S st0 = toksL 1 (skipP 1 (S.length + 1) S (begin_ st0)).1 (skipP 1 (S.length + 1) S (begin_ st0)).2 := rfl
 rw [hlp] at e1
 generalize (skipP 1 (S.length + 1) S (begin_ st0)).1 = m at hm e1
 generalize (skipP 1 (S.length + 1) S (begin_ st0)).2 = st at e1
 by_cases h0 : m = []
 ·subst h0; rw [toksL_nil] at e1; cases e1
 ·by_cases hn : (nextP (bstr m)).2 = 0
  ·rw [toksL_zero _ _ _ h0 hn] at e1
   have := (List.cons.inj e1).1
   exact absurd (by rw [this]) (e2 t (by simp))
  ·rw [toksL_cons _ _ _ h0 hn] at e1
   have ht := (List.cons.inj e1).1
   have hts : t.s = m.take (nextP (bstr m)).2 := by rw [ht]
   have hml := hm.length_le
   have htl : t.s.length ≤ m.length := by rw [hts, List.length_take]; omega
   have hmS : m = S := hm.eq_of_length (by omega)
   subst hmS
   rw [hts] at hl ⊢
   rw [List.length_take] at hl
   exact List.take_of_length_le (by omega)
def oneP (s : ByteArray) : Option TokP :=
 if (lexP [(1, s.data.toList)]).2.1 = 0 then
  match (lexP [(1, s.data.toList)]).1 with
  | [t] => if t.s = s.data.toList then some t else none
  | _ => none
 else none
def nameR (s : ByteArray) : Bool := match oneP s with
 | some t => t.kind == 1
 | none => false
theorem toList_bstr (l : List UInt8) : (bstr l).toList = l := by
 rw [ByteArray.toList_eq]; rfl
theorem size_bstr (l : List UInt8) : (bstr l).size = l.length := rfl
theorem rlex_one (s : ByteArray) (h : s.size < 4294967281) : burinref02_Lex.f [⟨1, s⟩] = some ((lexP [(1, s.data.toList)]).1.map toT, (lexP [(1, s.data.toList)]).2.1, (lexP [(1, s.data.toList)]).2.2) := lex_one s h
theorem one_cases (s : ByteArray) : (∃ t, oneP s = some t ∧ (lexP [(1, s.data.toList)]).2.1 = 0 ∧ (lexP [(1, s.data.toList)]).1 = [t] ∧ t.s = s.data.toList) ∨ (oneP s = none ∧ ∀ t, (lexP [(1, s.data.toList)]).2.1 = 0 → (lexP [(1, s.data.toList)]).1 = [t] → t.s.length ≠ s.size) := by
 unfold oneP
 by_cases hz : (lexP [(1, s.data.toList)]).2.1 = 0
 ·rw [if_pos hz]
  match hL : (lexP [(1, s.data.toList)]).1 with
  | [] => exact .inr ⟨rfl, fun t _ h => by cases h⟩
  | [t] =>
   by_cases hs : t.s = s.data.toList
   ·exact .inl ⟨t, by simp only [hs, if_true], hz, rfl, hs⟩
   ·refine .inr ⟨by simp only [hs, if_false], fun t' _ h hl => ?_⟩
    cases h
    exact hs (one_text _ t hz hL (by rw [hl]; exact Lib.size_eq s))
  | t :: u :: r => exact .inr ⟨rfl, fun t _ h => by cases h⟩
 ·rw [if_neg hz]
  exact .inr ⟨rfl, fun t h => absurd h hz⟩
theorem rname_f (s : ByteArray) (h : s.size < 4294967281) : burinref03_isName.f s = some (nameR s) := by
 unfold burinref03_isName.f burinref02_One.f
 rw [rlex_one s h, Option.bind_some]
 unfold nameR
 rcases one_cases s with ⟨t, h1, h2, h3, h4⟩ | ⟨h1, h2⟩
 ·rw [h1, h2, h3]
  simp only [List.map_cons, List.map_nil, List.length_cons, List.length_nil]
  rw [if_pos trivial, if_pos (by rfl), if_pos (by decide), show rT [toT t] 0 = toT t from rfl]
  rw [if_pos (by show ((bstr t.s).size : Int) = _; rw [size_bstr, h4, Lib.size_eq])]
  rw [Option.bind_some, if_pos rfl]
  show some (((t.kind : Int)) == 1) = some (t.kind == 1)
  congr 1
  rw [Bool.eq_iff_iff, beq_iff_eq, beq_iff_eq]; omega
 ·rw [h1]
  by_cases hz : (lexP [(1, s.data.toList)]).2.1 = 0
  ·simp only [hz, if_true]
   match hL : (lexP [(1, s.data.toList)]).1 with
   | [] => rfl
   | [t] =>
    simp only [List.map_cons, List.map_nil, List.length_cons, List.length_nil]
    rw [if_pos (by rfl), if_pos (by decide), show rT [toT t] 0 = toT t from rfl]
    rw [if_neg (by show ¬ ((bstr t.s).size : Int) = _; rw [size_bstr]; have := h2 t hz hL; omega)]
    rfl
   | t :: u :: r =>
    simp only [List.map_cons, List.length_cons]
    rw [if_neg (by omega)]
    rfl
  ·simp only [hz, if_false]
   rfl
theorem isNameP_eq (s : ByteArray) (h : s.size < 4294967281) : isNameP s = (nameR s && !(s.toList == restL)) := by
 have hf := isName_f s h
 have key : macro_isName.f s = some (nameR s && !(s.toList == restL)) := by
  unfold macro_isName.f token_One.f
  rw [lex_one s h, Option.bind_some]
  unfold nameR
  rcases one_cases s with ⟨t, h1, h2, h3, h4⟩ | ⟨h1, h2⟩
  ·rw [h1, h2, h3]
   simp only [List.map_cons, List.map_nil, List.length_cons, List.length_nil]
   rw [if_pos trivial, if_pos (by rfl), if_pos (by decide), show rT [toT t] 0 = toT t from rfl]
   rw [if_pos (by show (bstr t.s).toList = _; rw [toList_bstr, h4, ByteArray.toList_eq])]
   rw [Option.bind_some, if_pos rfl]
   show (if (t.kind : Int) = 1 then _ else _) = _
   by_cases hk : t.kind = 1
   ·rw [if_pos (by omega), hk]; rfl
   ·rw [if_neg (by omega), show (t.kind == 1) = false from beq_eq_false_iff_ne.2 hk]; rfl
  ·rw [h1]
   by_cases hz : (lexP [(1, s.data.toList)]).2.1 = 0
   ·simp only [hz, if_true]
    match hL : (lexP [(1, s.data.toList)]).1 with
    | [] => rfl
    | [t] =>
     simp only [List.map_cons, List.map_nil, List.length_cons, List.length_nil]
     rw [if_pos (by rfl), if_pos (by decide), show rT [toT t] 0 = toT t from rfl]
     rw [if_neg (by show ¬ (bstr t.s).toList = _; rw [toList_bstr, ByteArray.toList_eq]; intro e; exact h2 t hz hL (by rw [e, Lib.size_eq]))]
     rfl
    | t :: u :: r =>
     simp only [List.map_cons, List.length_cons]
     rw [if_neg (by omega)]
     rfl
   ·simp only [hz, if_false]
    rfl
 rw [hf] at key
 exact Option.some.inj key
end Go.Proofs.YtcbfbefpbjmglaaGreatDoor.Mac
namespace Go.Proofs.YtcbfbefpbjmglaaGreatDoor.Mac
open Go.RowKit Go.Lib PA YtcbfbefpbjmglaaGreatDoorT YtcbfbefpbjmglaaGreatDoorW PrintWords PrintLast PrintMore
theorem same_loop (a b : List S55) (hab : a.length = b.length) (hl : a.length ≤ 1000000) : ∀ d k i, i + d = a.length → d < k → burinref02_Same.l0 k a b (i : Int) = some (toksEq (a.drop i) (b.drop i))
 | 0, k, i, h1, h3 => by
  obtain ⟨k, rfl⟩ : ∃ m, k = m + 1 := ⟨k - 1, by omega⟩
  simp only [burinref02_Same.l0]
  rw [if_neg (by omega), List.drop_eq_nil_of_le (by omega), List.drop_eq_nil_of_le (by omega), toksEq]
 | d + 1, k, i, h1, h3 => by
  obtain ⟨k, rfl⟩ : ∃ m, k = m + 1 := ⟨k - 1, by omega⟩
  have hi : i < a.length := by omega
  have hw : wrap64 ((i : Int) + 1) = ((i + 1 : Nat) : Int) := by unfold wrap64; omega
  simp only [burinref02_Same.l0]
  rw [if_pos (by omega), if_pos (by omega), if_pos (by omega), rd_at hi, rd_at (hab ▸ hi), hw, List.drop_eq_getElem_cons hi, List.drop_eq_getElem_cons (l := b) (by omega), toksEq, tokEq_not]
  cases tokEq a[i] b[i] with
  | true => rw [if_neg (by decide), Bool.true_and]; exact same_loop a b hab hl d k (i + 1) (by omega) (by omega)
  | false => rw [if_pos (by decide), Bool.false_and]
theorem same_f (k : Nat) (a b : List S55) (hl : a.length ≤ 1000000) (hk : a.length < k) : burinref02_Same.f k a b = some (toksEq a b) := by
 unfold burinref02_Same.f
 by_cases hab : a.length = b.length
 ·rw [if_pos (by omega)]
  have := same_loop a b hab hl a.length k 0 (by omega) hk
  simpa using this
 ·rw [if_neg (by omega), toksEq_ne hab]
theorem spell_f (k : Nat) (l : List S55) (hL : l.length ≤ 60000000) (hS : ∀ x ∈ l, x.f1.size ≤ 1048576) (hk : 2 * l.length < k) : burinref02_Spell.f k l = some (spellB l) := by
 unfold burinref02_Spell.f
 have := spell_loop l hL hS l 0 k [] rfl hk (by simp)
 rw [show (numsB [] : List Int) = [] from rfl] at this
 unfold spellB
 rw [spell_eq]
 simpa using this
def speltP (body : List S55) : Bool := toksEq body (bareP body) && (decide ((lexS body).2.1 = 0) && toksEq body (bareP ((lexS body).1.map toT)))
theorem spellB_size (body : List S55) (h1 : body.length ≤ 2000) (h2 : ∀ x ∈ body, x.f1.size ≤ 1048576) : (spellB body).size < 4294967281 := by
 have : (spellB body).size = (Sp.spellN (Sp.itemsOf body)).length := rfl
 rw [this]
 have hi : ∀ x ∈ Sp.itemsOf body, x.2.f1.size ≤ 1048576 := by
  intro x hx
  obtain ⟨j, hj, rfl⟩ := List.mem_map.1 hx
  show (body.getD j z55).f1.size ≤ _
  rw [List.getD_eq_getElem?_getD]
  by_cases hjl : j < body.length
  ·rw [List.getElem?_eq_getElem hjl]; exact h2 _ (List.getElem_mem hjl)
  ·rw [List.getElem?_eq_none (by omega)]; show (0 : Nat) ≤ _; omega
 have := Sp.spellN_len 1048576 (Sp.itemsOf body) hi
 have hl : (Sp.itemsOf body).length = body.length := by simp [Sp.itemsOf, Sp.upto]
 rw [hl] at this
 have : body.length * (1048576 + 1) ≤ 2000 * 1048577 := Nat.mul_le_mul h1 (Nat.le_refl _)
 omega
theorem spelt_f (k : Nat) (hk : 25000 ≤ k) (body : List S55) (h1 : body.length ≤ 500) (h2 : ∀ x ∈ body, x.f1.size ≤ 1048576) : burinref03_spelt.f k body = some (speltP body) := by
 unfold burinref03_spelt.f burinref03_Bare.f
 rw [if_pos (by omega), Option.bind_some, same_f k _ _ (by omega) (by omega), Option.bind_some]
 unfold speltP
 cases toksEq body (bareP body) with
 | false => rfl
 | true =>
  rw [if_pos rfl, spell_f k body (by omega) h2 (by omega), Option.bind_some, Bool.true_and]
  have hlex : burinref02_Lex.f [⟨1, spellB body⟩] = some ((lexS body).1.map toT, (lexS body).2.1, (lexS body).2.2) := rlex_one _ (spellB_size body (by omega) h2)
  have hlen : (lexS body).1.length ≤ 20000 := lexP_len _
  rw [hlex, Option.bind_some]
  by_cases hz : (lexS body).2.1 = 0
  ·rw [if_pos hz, if_pos (by rw [List.length_map]; omega), Option.bind_some, same_f k _ _ (by omega) (by omega), Option.bind_some, decide_eq_true hz, Bool.true_and]
  ·rw [if_neg hz, decide_eq_false hz, Bool.false_and]
theorem contB_drop (ps : List ByteArray) (s : ByteArray) (i : Nat) (h : i < ps.length) : contB (ps.drop i) s = (decide (s.toList = ps[i].toList) || contB (ps.drop (i + 1)) s) := by
 rw [List.drop_eq_getElem_cons h, contB]
theorem param_loop (nm : ByteArray) (fn more : Bool) (ps : List ByteArray) (body : List S55) (kd : Int) (s s2 : ByteArray) (ln : Int) (b4 b5 : Bool) (hps : ps.length ≤ 1000000) : ∀ d k i, i + d = ps.length → d < k →
  ∃ v, burinref03_param.l0 k (i : Int) nm fn ps more body kd s s2 ln b4 b5 = some v ∧ decide (v < 0) = !(decide (kd = 1) && (contB (ps.drop i) s || (more && isRest s)))
 | 0, k, i, h1, h3 => by
  obtain ⟨k, rfl⟩ : ∃ m, k = m + 1 := ⟨k - 1, by omega⟩
  simp only [burinref03_param.l0]
  rw [if_neg (by omega), List.drop_eq_nil_of_le (by omega)]
  cases more with
  | false =>
   rw [if_neg (by decide)]
   exact ⟨_, rfl, by simp [contB]⟩
  | true =>
   rw [if_pos rfl]
   by_cases hk : kd = 1
   ·rw [if_pos hk]
    by_cases hr : s.toList = ([95, 95, 86, 65, 95, 65, 82, 71, 83, 95, 95] : List UInt8)
    ·rw [if_pos hr]
     refine ⟨_, rfl, ?_⟩
     rw [decide_eq_true hk, show isRest s = true from beq_iff_eq.2 hr, decide_eq_false (by omega)]; simp [contB]
    ·rw [if_neg hr]
     refine ⟨_, rfl, ?_⟩
     rw [show isRest s = false from beq_eq_false_iff_ne.2 hr]; simp [contB]
   ·rw [if_neg hk]
    exact ⟨_, rfl, by simp [hk]⟩
 | d + 1, k, i, h1, h3 => by
  obtain ⟨k, rfl⟩ : ∃ m, k = m + 1 := ⟨k - 1, by omega⟩
  have hi : i < ps.length := by omega
  have hw : wrap64 ((i : Int) + 1) = ((i + 1 : Nat) : Int) := by unfold wrap64; omega
  simp only [burinref03_param.l0]
  rw [if_pos (by omega), hw, rdB_at hi, contB_drop ps s i hi]
  have ih := param_loop nm fn more ps body kd s s2 ln b4 b5 hps d k (i + 1) (by omega) (by omega)
  by_cases hk : kd = 1
  ·rw [if_pos hk, if_pos (by omega)]
   by_cases he : s.toList = ps[i].toList
   ·rw [if_pos he]
    exact ⟨_, rfl, by rw [decide_eq_true he, decide_eq_true hk, decide_eq_false (by omega)]; rfl⟩
   ·rw [if_neg he, decide_eq_false he, Bool.false_or]
    exact ih
  ·rw [if_neg hk]
   obtain ⟨v, e1, e2⟩ := ih
   exact ⟨v, e1, by rw [e2]; simp [hk]⟩
def isHH (s : ByteArray) : Bool := s.toList == [35, 35]
def isH (s : ByteArray) : Bool := s.toList == [35]
def hashOk (n i : Nat) (t : S55) : Bool := !(isHH t.f1 && (decide (i = 0) || decide (i + 1 = n)))
def loopTok (fn : Bool) (ps : List ByteArray) (more : Bool) (body : List S55) (i : Nat) (t : S55) : Bool :=
 if isRest t.f1 then more else if fn && isH t.f1 then paramB ps more body (i + 1) else true
def hashAll (n : Nat) : Nat → List S55 → Bool
 | _, [] => true
 | i, t :: r => hashOk n i t && hashAll n (i + 1) r
def loopAll (fn : Bool) (ps : List ByteArray) (more : Bool) (body : List S55) : Nat → List S55 → Bool
 | _, [] => true
 | i, t :: r => loopTok fn ps more body i t && loopAll fn ps more body (i + 1) r
theorem bodyTok_split (fn : Bool) (ps : List ByteArray) (more : Bool) (body : List S55) (i : Nat) (t : S55) : bodyTok fn ps more body i t = (hashOk body.length i t && loopTok fn ps more body i t) := by
 unfold bodyTok hashOk loopTok isRest isHH isH
 by_cases h1 : t.f1.toList = [35, 35]
 ·rw [h1]
  simp only [show (([35, 35] : List UInt8) == [35, 35]) = true from rfl, show (([35, 35] : List UInt8) == restL) = false from rfl, show (([35, 35] : List UInt8) == [35]) = false from rfl]
  simp
 ·have h1' : (t.f1.toList == [35, 35]) = false := beq_eq_false_iff_ne.2 h1
  rw [h1']
  by_cases h2 : t.f1.toList = [35]
  ·rw [h2]
   simp only [show (([35] : List UInt8) == restL) = false from rfl, show (([35] : List UInt8) == [35]) = true from rfl]
   cases fn <;> cases paramB ps more body (i + 1) <;> simp
  ·have h2' : (t.f1.toList == [35]) = false := beq_eq_false_iff_ne.2 h2
   rw [h2']
   cases t.f1.toList == restL <;> cases fn <;> simp
theorem bodyToks_split (fn : Bool) (ps : List ByteArray) (more : Bool) (body : List S55) : ∀ (l : List S55) (i : Nat), bodyToks fn ps more body i l = (hashAll body.length i l && loopAll fn ps more body i l)
 | [], i => rfl
 | t :: r, i => by
  rw [bodyToks, hashAll, loopAll, bodyTok_split, bodyToks_split fn ps more body r (i + 1)]
  cases hashOk body.length i t <;> cases loopTok fn ps more body i t <;> cases hashAll body.length (i + 1) r <;> cases loopAll fn ps more body (i + 1) r <;> rfl
theorem hashAll_iff (n : Nat) : ∀ (l : List S55) (i : Nat), hashAll n i l = true ↔ ∀ j (h : j < l.length), isHH l[j].f1 = true → ¬ (i + j = 0 ∨ i + j + 1 = n)
 | [], i => by simp [hashAll]
 | t :: r, i => by
  rw [hashAll, Bool.and_eq_true, hashAll_iff n r (i + 1)]
  constructor
  ·rintro ⟨h1, h2⟩ j hj hh
   cases j with
   | zero =>
    unfold hashOk at h1
    rw [show (t :: r)[0] = t from rfl] at hh
    rw [hh] at h1
    simp at h1
    omega
   | succ j =>
    have := h2 j (by simpa using hj) (by simpa using hh)
    omega
  ·intro h
   refine ⟨?_, fun j hj hh => ?_⟩
   ·unfold hashOk
    have := h 0 (by simp)
    simp only [List.getElem_cons_zero] at this
    cases hx : isHH t.f1 with
    | false => simp
    | true =>
     have := this hx
     simp
     omega
   ·have := h (j + 1) (by simpa using hj) (by simpa using hh)
    omega
theorem hashAll_ends (body : List S55) (h : 0 < body.length) : hashAll body.length 0 body = !(isHH body[0].f1 || isHH (body[body.length - 1]'(by omega)).f1) := by
 rw [Bool.eq_iff_iff, hashAll_iff]
 constructor
 ·intro hh
  have a := hh 0 h
  have b := hh (body.length - 1) (by omega)
  cases hx : isHH body[0].f1 with
  | true => exact absurd (.inl rfl) (a hx)
  | false =>
   cases hy : isHH (body[body.length - 1]'(by omega)).f1 with
   | true => exact absurd (.inr (by omega)) (b hy)
   | false => rfl
 ·intro hh j hj hx
  rw [Bool.not_eq_true', Bool.or_eq_false_iff] at hh
  rintro (h0 | h0)
  ·obtain rfl : j = 0 := by omega
   rw [hh.1] at hx; cases hx
  ·obtain rfl : j = body.length - 1 := by omega
   rw [hh.2] at hx; cases hx
end Go.Proofs.YtcbfbefpbjmglaaGreatDoor.Mac
namespace Go.Proofs.YtcbfbefpbjmglaaGreatDoor.Mac
open Go.RowKit Go.Lib PA YtcbfbefpbjmglaaGreatDoorT YtcbfbefpbjmglaaGreatDoorW PrintWords PrintLast PrintMore
def HK (ps : List ByteArray) (more : Bool) (body : List S55) : Prop := ∀ t ∈ body, (contB ps t.f1 || (more && isRest t.f1)) = true → t.f0 = 1
theorem body_loop (nm : ByteArray) (fn more : Bool) (ps : List ByteArray) (body : List S55) (hps : ps.length ≤ 1000000) (hn : body.length ≤ 500) (hk : HK ps more body) : ∀ d k i, i + d = body.length → 2 * d + ps.length + 4 ≤ k →
  burinref03_body.l0 k body (body.length : Int) (i : Int) nm fn ps more body = some (loopAll fn ps more body i (body.drop i))
 | 0, k, i, h1, h3 => by
  obtain ⟨k, rfl⟩ : ∃ m, k = m + 1 := ⟨k - 1, by omega⟩
  simp only [burinref03_body.l0]
  rw [if_neg (by omega), List.drop_eq_nil_of_le (by omega)]
  rfl
 | d + 1, k, i, h1, h3 => by
  obtain ⟨k, rfl⟩ : ∃ m, k = m + 1 + 1 := ⟨k - 2, by omega⟩
  have hi : i < body.length := by omega
  have hw : wrap64 ((i : Int) + 1) = ((i + 1 : Nat) : Int) := by unfold wrap64; omega
  have ih := body_loop nm fn more ps body hps hn hk d k (i + 1) (by omega) (by omega)
  rw [List.drop_eq_getElem_cons hi, loopAll]
  have hj2 : burinref03_body.j2 (k + 1) body (body.length : Int) (i : Int) false nm fn ps more body = some ((if fn && isH body[i].f1 then paramB ps more body (i + 1) else true) && loopAll fn ps more body (i + 1) (body.drop (i + 1))) := by
   simp only [burinref03_body.j2]
   rw [if_neg (by decide), hw]
   cases fn with
   | false => rw [if_neg (by decide), ih]; rfl
   | true =>
    rw [if_pos rfl, if_pos (by omega), if_pos (by omega), rd_at hi]
    by_cases hh : body[i].f1.toList = ([35] : List UInt8)
    ·rw [if_pos hh, show isH body[i].f1 = true from beq_iff_eq.2 hh]
     by_cases hl : i + 1 = body.length
     ·rw [if_pos (by omega)]
      have : paramB ps more body (i + 1) = false := by unfold paramB; rw [decide_eq_false (by omega), Bool.false_and]
      rw [this]; rfl
     ·rw [if_neg (by omega), if_pos (by omega), if_pos (by omega), rd_at (show i + 1 < body.length by omega)]
      obtain ⟨v, e1, e2⟩ := param_loop nm true more ps body (body[i + 1]'(by omega)).f0 (body[i + 1]'(by omega)).f1 (body[i + 1]'(by omega)).f2 (body[i + 1]'(by omega)).f3 (body[i + 1]'(by omega)).f4 (body[i + 1]'(by omega)).f5 hps ps.length k 0 (by omega) (by omega)
      have e1' : burinref03_param.f k nm true ps more body (body[i + 1]'(by omega)).f0 (body[i + 1]'(by omega)).f1 (body[i + 1]'(by omega)).f2 (body[i + 1]'(by omega)).f3 (body[i + 1]'(by omega)).f4 (body[i + 1]'(by omega)).f5 = some v := e1
      rw [e1', Option.bind_some, List.drop_zero] at *
      have hp : paramB ps more body (i + 1) = !decide (v < 0) := by
       unfold paramB
       rw [decide_eq_true (show i + 1 < body.length by omega), Bool.true_and, e2, Bool.not_not, List.getD_eq_getElem?_getD, List.getElem?_eq_getElem (show i + 1 < body.length by omega), Option.getD_some]
       cases hx : (contB ps (body[i + 1]'(by omega)).f1 || (more && isRest (body[i + 1]'(by omega)).f1)) with
       | false => simp
       | true => rw [hk _ (List.getElem_mem _) hx]; rfl
      rw [hp]
      by_cases hv : v < 0
      ·rw [if_pos hv, decide_eq_true hv]; rfl
      ·rw [if_neg hv, decide_eq_false hv, ih]; rfl
    ·rw [if_neg hh, show isH body[i].f1 = false from beq_eq_false_iff_ne.2 hh, ih]
     rfl
  simp only [burinref03_body.l0]
  rw [if_pos (by omega), if_pos (by omega), if_pos (by omega), rd_at hi]
  unfold loopTok
  by_cases hr : body[i].f1.toList = ([95, 95, 86, 65, 95, 65, 82, 71, 83, 95, 95] : List UInt8)
  ·rw [if_pos hr, show isRest body[i].f1 = true from beq_iff_eq.2 hr, if_pos rfl]
   cases more with
   | false =>
    simp only [burinref03_body.j2]
    rfl
   | true =>
    rw [show (!true) = false from rfl, hj2]
    have : isH body[i].f1 = false := by unfold isH; rw [hr]; rfl
    rw [this, Bool.and_false]
    rfl
  ·rw [if_neg hr, show isRest body[i].f1 = false from beq_eq_false_iff_ne.2 hr, if_neg (by decide), hj2]
theorem body_f (k : Nat) (hk0 : 26000 ≤ k) (nm : ByteArray) (fn more : Bool) (ps : List ByteArray) (body : List S55) (hps : ps.length ≤ 20) (h2 : ∀ x ∈ body, x.f1.size ≤ 1048576) (hk : speltP body = true → HK ps more body) :
  burinref03_body.f k nm fn ps more body = some (isBodyP fn ps more body) := by
 obtain ⟨k, rfl⟩ : ∃ m, k = m + 1 := ⟨k - 1, by omega⟩
 have hib : isBodyP fn ps more body = (decide (body.length ≤ 500) && (speltP body && bodyToks fn ps more body 0 body)) := by
  unfold isBodyP speltP
  cases decide (body.length ≤ 500) <;> cases toksEq body (bareP body) <;> cases decide ((lexS body).2.1 = 0) <;> cases toksEq body (bareP ((lexS body).1.map toT)) <;> rfl
 unfold burinref03_body.f
 by_cases hn : body.length ≤ 500
 ·rw [if_neg (by omega), spelt_f (k + 1) (by omega) body hn h2, Option.bind_some, hib, decide_eq_true hn, Bool.true_and]
  cases hs : speltP body with
  | false =>
   rw [if_neg (by decide)]
   simp only [burinref03_body.j0]
   rfl
  | true =>
   have hlp := body_loop nm fn more ps body (by omega) hn (hk hs) body.length k 0 (by omega) (by omega)
   rw [List.drop_zero] at hlp
   rw [if_pos rfl, Bool.true_and, bodyToks_split]
   by_cases h0 : 0 < body.length
   ·have hw : wrap64 ((body.length : Int) - 1) = ((body.length - 1 : Nat) : Int) := by unfold wrap64; omega
    have hr0 : rT body 0 = body[0] := rd_at (i := 0) h0
    rw [if_pos (by omega), if_pos (by omega), hr0, hashAll_ends body h0]
    by_cases hh : body[0].f1.toList = ([35, 35] : List UInt8)
    ·rw [if_pos hh, show isHH body[0].f1 = true from beq_iff_eq.2 hh]
     simp only [burinref03_body.j0]
     rfl
    ·rw [if_neg hh, show isHH body[0].f1 = false from beq_eq_false_iff_ne.2 hh, hw, if_pos (by omega), if_pos (by omega), rd_at (show body.length - 1 < body.length by omega), Bool.false_or]
     simp only [burinref03_body.j0]
     show (if isHH (body[body.length - 1]'(by omega)).f1 = true then _ else _) = _
     cases isHH (body[body.length - 1]'(by omega)).f1 with
     | true => rfl
     | false =>
      rw [if_neg (by decide)]
      exact hlp
   ·have hnil : body = [] := List.eq_nil_of_length_eq_zero (by omega)
    subst hnil
    rw [if_neg (by simp)]
    simp only [burinref03_body.j0]
    rw [if_neg (by decide)]
    exact hlp
 ·rw [if_pos (by omega), hib, decide_eq_false hn]
  simp only [burinref03_body.j0]
  rfl
theorem toksEq_mem : ∀ {a b : List S55}, toksEq a b = true → ∀ t ∈ a, ∃ u ∈ b, t.f0 = u.f0 ∧ t.f1.toList = u.f1.toList
 | [], [], _, t, ht => by cases ht
 | x :: l, y :: r, h, t, ht => by
  rw [toksEq, Bool.and_eq_true] at h
  rcases List.mem_cons.1 ht with rfl | ht
  ·have h1 := h.1
   unfold tokEq at h1
   simp only [Bool.and_eq_true, beq_iff_eq] at h1
   exact ⟨y, List.mem_cons_self, h1.1, h1.2.1⟩
  ·obtain ⟨u, h1, h2⟩ := toksEq_mem h.2 t ht
   exact ⟨u, List.mem_cons_of_mem _ h1, h2⟩
 | [], _ :: _, h, _, _ => by cases h
 | _ :: _, [], h, _, _ => by cases h
theorem bareFrom_mem0 : ∀ i l, ∀ t ∈ bareFrom i l, ∃ t' ∈ l, t.f0 = t'.f0 ∧ t.f1 = t'.f1
 | _, [], t, h => by cases h
 | i, a :: r, t, h => by
  rw [bareFrom] at h
  rcases List.mem_cons.1 h with h | h
  ·exact ⟨a, List.mem_cons_self, by rw [h]; exact ⟨rfl, rfl⟩⟩
  ·obtain ⟨t', h1, h2⟩ := bareFrom_mem0 (i + 1) r t h
   exact ⟨t', List.mem_cons_of_mem _ h1, h2⟩
theorem bytes_ext {a b : ByteArray} (h : a.toList = b.toList) : a = b := by
 rw [ByteArray.toList_eq, ByteArray.toList_eq] at h
 cases a; cases b
 congr 1
 exact Array.ext' h
theorem nameR_kind (N : Int) (S : List UInt8) (h : (lexP [(N, S)]).2.1 = 0) : ∀ u ∈ (lexP [(N, S)]).1, nameR (bstr u.s) = (u.kind == 1) := by
 obtain ⟨e1, e2, _⟩ := lexP_toks N S h
 rw [e1]
 intro u hu
 have hs := e2 u hu
 have hg := lineP_good N S st0 u hu hs
 have hl := lex_alone u hg hs
 unfold nameR oneP
 rw [show (bstr u.s).data.toList = u.s from rfl, hl]
 simp
theorem goodParams_mem : ∀ (ps seen : List ByteArray), goodParams seen ps = true → ∀ p ∈ ps, isNameP p = true
 | [], _, _, p, hp => by cases hp
 | x :: r, seen, h, p, hp => by
  rw [goodParams, Bool.and_eq_true, Bool.and_eq_true] at h
  rcases List.mem_cons.1 hp with rfl | hp
  ·exact h.1
  ·exact goodParams_mem r _ h.2.2 p hp
theorem contB_mem : ∀ (ps : List ByteArray) (s : ByteArray), contB ps s = true → s ∈ ps
 | [], _, h => by cases h
 | y :: l, s, h => by
  rw [contB, Bool.or_eq_true, decide_eq_true_eq] at h
  rcases h with h | h
  ·rw [bytes_ext h]; exact List.mem_cons_self
  ·exact List.mem_cons_of_mem _ (contB_mem l s h)
theorem nameR_rest : nameR ⟨restL.toArray⟩ = true := by decide +kernel
theorem hk_of (ps : List ByteArray) (more : Bool) (body : List S55) (hg : goodParams [] ps = true) (hz : ∀ p ∈ ps, p.size ≤ 1048576) (hs : speltP body = true) : HK ps more body := by
 intro t ht hc
 unfold speltP at hs
 simp only [Bool.and_eq_true, decide_eq_true_eq] at hs
 obtain ⟨u, hu, h0, h1⟩ := toksEq_mem hs.2.2 t ht
 obtain ⟨v, hv, g0, g1⟩ := bareFrom_mem0 0 _ u hu
 obtain ⟨x, hx, rfl⟩ := List.mem_map.1 hv
 have hk := nameR_kind 1 _ hs.2.1 x hx
 have htx : t.f1 = bstr x.s := bytes_ext (by rw [h1, g1]; rfl)
 have hn : nameR t.f1 = true := by
  rw [Bool.or_eq_true, Bool.and_eq_true] at hc
  rcases hc with hc | hc
  ·have hm := contB_mem _ _ hc
   have h1 := goodParams_mem ps [] hg _ hm
   rw [isNameP_eq _ (by have := hz _ hm; omega), Bool.and_eq_true] at h1
   exact h1.1
  ·have : t.f1 = ⟨restL.toArray⟩ := bytes_ext (by rw [beq_iff_eq.1 hc.2, ByteArray.toList_eq])
   rw [this]; exact nameR_rest
 rw [htx, hk, beq_iff_eq] at hn
 rw [h0, g0]
 show (x.kind : Int) = 1
 omega
end Go.Proofs.YtcbfbefpbjmglaaGreatDoor.Mac
namespace Go.Proofs.YtcbfbefpbjmglaaGreatDoor.Mac
open Go.RowKit Go.Lib PA YtcbfbefpbjmglaaGreatDoorT YtcbfbefpbjmglaaGreatDoorW PrintWords PrintLast PrintMore
def anyEq (l : List ByteArray) (p : ByteArray) : Bool := l.any fun y => decide (y.toList = p.toList)
theorem contB_anyEq (l : List ByteArray) (p : ByteArray) : contB l p = anyEq l p := by
 induction l with
 | nil => rfl
 | cons y l ih =>
  rw [contB, ih]
  unfold anyEq
  rw [List.any_cons]
  congr 1
  rw [Bool.eq_iff_iff, decide_eq_true_eq, decide_eq_true_eq]
  exact ⟨Eq.symm, Eq.symm⟩
theorem inner_loop (nm : ByteArray) (fn more : Bool) (ps : List ByteArray) (body : List S55) (i : Nat) (hi : i < ps.length) (hps : ps.length ≤ 16) (R : Option Bool) (K : Nat) (hR : ∀ k, K ≤ k → burinref03_Right.l0 k ((i + 1 : Nat) : Int) nm fn ps more body = R) : ∀ d k j, j + d = i → d + K + 2 ≤ k →
  burinref03_Right.l1 k (i : Int) (j : Int) nm fn ps more body = if anyEq ((ps.take i).drop j) ps[i] then some false else R
 | 0, k, j, h1, h3 => by
  obtain ⟨k, rfl⟩ : ∃ m, k = m + 1 := ⟨k - 1, by omega⟩
  have hw : wrap64 ((i : Int) + 1) = ((i + 1 : Nat) : Int) := by unfold wrap64; omega
  simp only [burinref03_Right.l1]
  rw [if_neg (by omega), hw, hR k (by omega), List.drop_eq_nil_of_le (by rw [List.length_take]; omega)]
  rfl
 | d + 1, k, j, h1, h3 => by
  obtain ⟨k, rfl⟩ : ∃ m, k = m + 1 := ⟨k - 1, by omega⟩
  have hw : wrap64 ((j : Int) + 1) = ((j + 1 : Nat) : Int) := by unfold wrap64; omega
  have hjl : j < (ps.take i).length := by rw [List.length_take]; omega
  simp only [burinref03_Right.l1]
  rw [if_pos (by omega), if_pos (by omega), if_pos (by omega), if_pos (by omega), if_pos (by omega), rdB_at (show j < ps.length by omega), rdB_at hi, hw, List.drop_eq_getElem_cons hjl]
  have he : (ps.take i)[j] = ps[j]'(by omega) := by rw [List.getElem_take]
  rw [he]
  unfold anyEq
  rw [List.any_cons]
  by_cases hq : (ps[j]'(by omega)).toList = ps[i].toList
  ·rw [if_pos hq, decide_eq_true hq]; rfl
  ·rw [if_neg hq, decide_eq_false hq, Bool.false_or]
   exact inner_loop nm fn more ps body i hi hps R K hR d k (j + 1) (by omega) (by omega)
theorem inner_found (nm : ByteArray) (fn more : Bool) (ps : List ByteArray) (body : List S55) (i : Nat) (hi : i < ps.length) (hps : ps.length ≤ 16) : ∀ d k j, j + d = i → d + 2 ≤ k → anyEq ((ps.take i).drop j) ps[i] = true →
  burinref03_Right.l1 k (i : Int) (j : Int) nm fn ps more body = some false
 | 0, k, j, h1, h3, ha => by
  rw [List.drop_eq_nil_of_le (by rw [List.length_take]; omega)] at ha
  cases ha
 | d + 1, k, j, h1, h3, ha => by
  obtain ⟨k, rfl⟩ : ∃ m, k = m + 1 := ⟨k - 1, by omega⟩
  have hw : wrap64 ((j : Int) + 1) = ((j + 1 : Nat) : Int) := by unfold wrap64; omega
  have hjl : j < (ps.take i).length := by rw [List.length_take]; omega
  have he : (ps.take i)[j] = ps[j]'(by omega) := by rw [List.getElem_take]
  rw [List.drop_eq_getElem_cons hjl, he] at ha
  unfold anyEq at ha
  rw [List.any_cons] at ha
  simp only [burinref03_Right.l1]
  rw [if_pos (by omega), if_pos (by omega), if_pos (by omega), if_pos (by omega), if_pos (by omega), rdB_at (show j < ps.length by omega), rdB_at hi, hw]
  by_cases hq : (ps[j]'(by omega)).toList = ps[i].toList
  ·rw [if_pos hq]
  ·rw [if_neg hq]
   rw [decide_eq_false hq, Bool.false_or] at ha
   exact inner_found nm fn more ps body i hi hps d k (j + 1) (by omega) (by omega) ha
theorem outer_loop (nm : ByteArray) (fn more : Bool) (ps : List ByteArray) (body : List S55) (hps : ps.length ≤ 16) (hz : ∀ p ∈ ps, p.size ≤ 1048576) (h2 : ∀ x ∈ body, x.f1.size ≤ 1048576) : ∀ d k i, i + d = ps.length → 50 * d + 27000 ≤ k → goodParams [] ps = goodParams (ps.take i).reverse (ps.drop i) →
  burinref03_Right.l0 k (i : Int) nm fn ps more body = some (goodParams [] ps && isBodyP fn ps more body)
 | 0, k, i, h1, h3, hg => by
  obtain ⟨k, rfl⟩ : ∃ m, k = m + 1 := ⟨k - 1, by omega⟩
  rw [List.drop_eq_nil_of_le (by omega), goodParams] at hg
  simp only [burinref03_Right.l0]
  rw [if_neg (by omega), body_f k (by omega) nm fn more ps body (by omega) h2 (hk_of ps more body hg hz), Option.bind_some, hg, Bool.true_and]
 | d + 1, k, i, h1, h3, hg => by
  obtain ⟨k, rfl⟩ : ∃ m, k = m + 1 + 1 := ⟨k - 2, by omega⟩
  have hi : i < ps.length := by omega
  have hsz : ps[i].size < 4294967281 := by have := hz _ (List.getElem_mem hi); omega
  have hga := goodParams_at ps (ps.take i).reverse i hi
  rw [hga] at hg
  have hrest : isNameP ps[i] = (nameR ps[i] && !(ps[i].toList == restL)) := isNameP_eq _ hsz
  simp only [burinref03_Right.l0]
  rw [if_pos (by omega), if_pos (by omega), rdB_at hi, rname_f _ hsz, Option.bind_some]
  cases hn : nameR ps[i] with
  | false =>
   rw [if_neg (by decide)]
   simp only [burinref03_Right.j2]
   rw [hn, Bool.false_and] at hrest
   rw [hg, hrest, Bool.false_and]; rfl
  | true =>
   rw [if_pos rfl]
   show burinref03_Right.j2 (k + 1) (i : Int) (ps[i].toList == restL) nm fn ps more body = _
   cases hv : ps[i].toList == restL with
   | true =>
    simp only [burinref03_Right.j2]
    rw [hn, hv] at hrest
    rw [hg, hrest]; rfl
   | false =>
    rw [hn, hv] at hrest
    have hrest : isNameP ps[i] = true := hrest
    rw [hrest, Bool.true_and] at hg
    simp only [burinref03_Right.j2]
    rw [if_neg (by decide)]
    have hcr : contB (ps.take i).reverse ps[i] = anyEq (ps.take i) ps[i] := by
     rw [contB_anyEq]; unfold anyEq; rw [List.any_reverse]
    rw [hcr] at hg
    cases ha : anyEq (ps.take i) ps[i] with
    | true =>
     rw [ha] at hg
     rw [hg]
     exact inner_found nm fn more ps body i hi hps i k 0 (by omega) (by omega) ha
    | false =>
     rw [ha, Bool.not_false, Bool.true_and] at hg
     have htr := take_rev ps i hi
     have hg2 : goodParams [] ps = goodParams (ps.take (i + 1)).reverse (ps.drop (i + 1)) := by rw [hg, htr]
     have := inner_loop nm fn more ps body i hi hps (some (goodParams [] ps && isBodyP fn ps more body)) (50 * d + 27000) (fun k hk => outer_loop nm fn more ps body hps hz h2 d k (i + 1) (by omega) hk hg2) i k 0 (by omega) (by omega)
     rw [List.drop_zero, ha, if_neg (by decide)] at this
     exact this
theorem rright_f (k : Nat) (hk : 30000 ≤ k) (nm : ByteArray) (fn more : Bool) (ps : List ByteArray) (body : List S55) (hd : DomM nm ps body) : burinref03_Right.f k nm fn ps more body = some (rightP nm fn ps more body) := by
 obtain ⟨hnm, hpl, hbl, hpz, hbz⟩ := hd
 obtain ⟨k, rfl⟩ : ∃ m, k = m + 1 := ⟨k - 1, by omega⟩
 have hn := isNameP_eq nm (by omega)
 have j0t : burinref03_Right.j0 (k + 1) true nm fn ps more body = some false := by simp only [burinref03_Right.j0]; rfl
 unfold burinref03_Right.f
 rw [rname_f nm (by omega), Option.bind_some]
 cases hr : nameR nm with
 | false =>
  rw [if_neg (by decide), j0t]
  rw [hr, Bool.false_and] at hn
  unfold rightP
  rw [hn, Bool.false_and]
 | true =>
  rw [if_pos rfl]
  by_cases hdf : nm.toList = ([100, 101, 102, 105, 110, 101, 100] : List UInt8)
  ·rw [if_pos hdf, j0t]
   unfold rightP
   rw [show (nm.toList == [100, 101, 102, 105, 110, 101, 100]) = true from beq_iff_eq.2 hdf]
   simp
  ·rw [if_neg hdf]
   have hdf' : (nm.toList == [100, 101, 102, 105, 110, 101, 100]) = false := beq_eq_false_iff_ne.2 hdf
   by_cases hva : nm.toList = ([95, 95, 86, 65, 95, 65, 82, 71, 83, 95, 95] : List UInt8)
   ·rw [if_pos hva, j0t]
    rw [hr, show (nm.toList == restL) = true from beq_iff_eq.2 hva] at hn
    unfold rightP
    rw [hn]; rfl
   ·rw [if_neg hva]
    rw [hr, show (nm.toList == restL) = false from beq_eq_false_iff_ne.2 hva] at hn
    have hn : isNameP nm = true := hn
    have hj0 : burinref03_Right.j0 (k + 1) (decide ((ps.length : Int) > 16)) nm fn ps more body = some (decide (ps.length ≤ 16) && (goodParams [] ps && isBodyP fn ps more body)) := by
     simp only [burinref03_Right.j0]
     by_cases h16 : ps.length ≤ 16
     ·rw [show decide ((ps.length : Int) > 16) = false from decide_eq_false (by omega), if_neg (by decide), decide_eq_true h16, Bool.true_and]
      exact outer_loop nm fn more ps body h16 hpz hbz ps.length k 0 (by omega) (by omega) rfl
     ·rw [show decide ((ps.length : Int) > 16) = true from decide_eq_true (by omega), if_pos rfl, decide_eq_false h16, Bool.false_and]
    unfold rightP
    rw [hn, hdf', Bool.not_false, Bool.true_and, Bool.true_and]
    cases fn with
    | true =>
     rw [if_pos rfl, hj0]
     rfl
    | false =>
     rw [if_neg (by decide)]
     by_cases h0 : 0 < ps.length
     ·rw [if_pos (by omega), j0t, decide_eq_true h0]
      cases more <;> simp
     ·rw [if_neg (by omega), decide_eq_false h0]
      cases more with
      | true => rw [if_pos rfl, j0t]; simp
      | false => rw [if_neg (by decide), hj0]; simp
end Go.Proofs.YtcbfbefpbjmglaaGreatDoor.Mac
