import Derived.Test.YtcbfbefpbjmglaaGreatDoorH2
import Derived.Test.YtcbfbefpbjmglaaGreatDoorA10
set_option linter.unusedSimpArgs false
set_option linter.unusedVariables false
namespace Go.Proofs.YtcbfbefpbjmglaaGreatDoorT
open Go.RowKit Go.Lib
theorem at_bstr (l : List UInt8) (i : Nat) : at_ (bstr l) i = l.getD i 0 := rfl
theorem at_take (l : List UInt8) (n i : Nat) (h : i < n) : at_ (bstr (l.take n)) i = at_ (bstr l) i := by
 rw [at_bstr, at_bstr, List.getD_eq_getElem?_getD, List.getD_eq_getElem?_getD, List.getElem?_take, if_pos h]
theorem upto_on (on : Nat → Bool) : ∀ k i j, i ≤ j → j < upto on k i → on j = true
 | 0, i, j, h, h2 => by simp [upto] at h2; omega
 | k + 1, i, j, h, h2 => by
  unfold upto at h2
  by_cases hh : on i = true
  ·rw [if_pos hh] at h2
   by_cases e : i = j
   ·subst e; exact hh
   ·exact upto_on on k (i + 1) j (by omega) h2
  ·rw [if_neg hh] at h2; omega
theorem upto_all (on : Nat → Bool) : ∀ k i, (∀ j, i ≤ j → j < i + k → on j = true) → upto on k i = i + k
 | 0, i, h => rfl
 | k + 1, i, h => by
  unfold upto
  rw [if_pos (h i (Nat.le_refl _) (by omega)), upto_all on k (i + 1) (fun j h1 h2 => h j (by omega) (by omega))]
  omega
theorem upto_ge (on : Nat → Bool) : ∀ k i, i ≤ upto on k i
 | 0, i => Nat.le_refl _
 | k + 1, i => by
  unfold upto
  split
  ·have := upto_ge on k (i + 1); omega
  ·exact Nat.le_refl _
theorem upto_pos (on : Nat → Bool) (k i : Nat) (hk : 0 < k) (h : on i = true) : i + 1 ≤ upto on k i := by
 obtain ⟨j, rfl⟩ : ∃ j, k = j + 1 := ⟨k - 1, by omega⟩
 unfold upto
 rw [if_pos h]
 exact upto_ge on j (i + 1)
theorem quo_gt (s : ByteArray) : ∀ k i, quo s k i ≠ 0 → i < quo s k i
 | 0, i, h => absurd rfl h
 | k + 1, i, h => by
  unfold quo at h ⊢
  by_cases h1 : s.size ≤ i
  ·rw [if_pos h1] at h; exact absurd rfl h
  ·rw [if_neg h1] at h ⊢
   by_cases h2 : at_ s i = 92
   ·rw [if_pos h2] at h ⊢
    have := quo_gt s k (i + 2) h; omega
   ·rw [if_neg h2] at h ⊢
    by_cases h3 : at_ s i = at_ s 0
    ·rw [if_pos h3]; omega
    ·rw [if_neg h3] at h ⊢
     have := quo_gt s k (i + 1) h; omega
theorem quo_fuel (s : ByteArray) (i : Nat) : ∀ d k, s.size ≤ i + k → quo s (k + d) i = quo s k i
 | 0, k, h => rfl
 | d + 1, k, h => by rw [← Nat.add_assoc, quo_more s (k + d) i (by omega), quo_fuel s i d k h]
theorem quo_take (s s' : ByteArray) (n : Nat) (hs : s'.size = n) (ha : ∀ j, j < n → at_ s' j = at_ s j) (hn : n ≠ 0) : ∀ k i, quo s k i = n → quo s' k i = n
 | 0, i, h => absurd h.symm hn
 | k + 1, i, h => by
  have hgt := quo_gt s (k + 1) i (by omega)
  rw [h] at hgt
  unfold quo at h ⊢
  rw [if_neg (by omega), ha i (by omega), ha 0 (by omega)]
  by_cases h1 : s.size ≤ i
  ·rw [if_pos h1] at h; exact absurd h.symm hn
  ·rw [if_neg h1] at h
   by_cases h2 : at_ s i = 92
   ·rw [if_pos h2] at h ⊢
    exact quo_take s s' n hs ha hn k _ h
   ·rw [if_neg h2] at h ⊢
    by_cases h3 : at_ s i = at_ s 0
    ·rw [if_pos h3] at h ⊢; exact h
    ·rw [if_neg h3] at h ⊢
     exact quo_take s s' n hs ha hn k _ h
theorem hasPrefix_iff (l p : List UInt8) : Lib.hasPrefix l p = true ↔ p <+: l := by
 unfold Lib.hasPrefix
 exact List.isPrefixOf_iff_prefix
theorem prefix_of_take {p m : List UInt8} {n : Nat} (h : Lib.hasPrefix (m.take n) p = true) : Lib.hasPrefix m p = true := by
 rw [hasPrefix_iff] at h ⊢
 exact h.trans (List.take_prefix n m)
theorem sgn_take (m : List UInt8) : ∀ (t : List (List UInt8)) (x : List UInt8), t.find? (fun x => Lib.hasPrefix m x) = some x → t.find? (fun y => Lib.hasPrefix (m.take x.length) y) = some x := by
 intro t
 induction t with
 | nil => intro x h; cases h
 | cons a t ih =>
  intro x h
  rw [List.find?_cons] at h ⊢
  cases ha : Lib.hasPrefix m a with
  | true =>
   rw [ha] at h
   simp only [Option.some.injEq] at h
   subst h
   have : m.take a.length = a := (List.prefix_iff_eq_take.1 ((hasPrefix_iff m a).1 ha)).symm
   rw [this, show Lib.hasPrefix a a = true from (hasPrefix_iff a a).2 (List.prefix_refl a)]
  | false =>
   rw [ha] at h
   cases hb : Lib.hasPrefix (m.take x.length) a with
   | true => rw [prefix_of_take hb] at ha; cases ha
   | false => exact ih x h
theorem sgn_none_take (m : List UInt8) (n : Nat) (t : List (List UInt8)) (h : t.find? (fun x => Lib.hasPrefix m x) = none) : t.find? (fun y => Lib.hasPrefix (m.take n) y) = none := by
 rw [List.find?_eq_none] at h ⊢
 intro x hx hp
 exact h x hx (prefix_of_take hp)
theorem nextP_take (m : List UInt8) (hm : m ≠ []) (h0 : (nextP (bstr m)).2 ≠ 0) : nextP (bstr (m.take (nextP (bstr m)).2)) = nextP (bstr m) := by
 have hle := nextP_le m hm
 have hpos : 0 < m.length := List.length_pos_iff.2 hm
 obtain ⟨n, hn⟩ : ∃ n, (nextP (bstr m)).2 = n := ⟨_, rfl⟩
 rw [hn] at h0 hle ⊢
 have hsz : (bstr (m.take n)).size = n := by rw [bstr_size, List.length_take]; omega
 have hms := bstr_size m
 have ha : ∀ j, j < n → at_ (bstr (m.take n)) j = at_ (bstr m) j := fun j hj => at_take m n j hj
 have ha0 := ha 0 (by omega)
 unfold nextP at hn ⊢
 rw [ha0]
 by_cases hL : isL (at_ (bstr m) 0) = true
 ·rw [if_pos hL] at hn ⊢
  rw [if_pos hL]
  try simp only at hn
  have h1 := upto_all (fun i => isW (at_ (bstr (m.take n)) i)) n 0 (fun j _ hj => by
   have := upto_on (fun i => isW (at_ (bstr m) i)) (bstr m).size 0 j (by omega) (by omega)
   show isW (at_ (bstr (m.take n)) j) = true
   rw [ha j (by omega)]; exact this)
  rw [hsz, h1, hn, Nat.zero_add]
 ·rw [if_neg hL] at hn ⊢
  rw [if_neg hL]
  by_cases hD : (isD (at_ (bstr m) 0) || (at_ (bstr m) 0 == 46 && (decide (1 < (bstr m).size) && isD (at_ (bstr m) 1)))) = true
  ·rw [if_pos hD] at hn
   rw [if_pos hD]
   try simp only at hn
   have hone : ∀ j, j < n → onN (bstr m) j = true := fun j hj => upto_on (onN (bstr m)) (bstr m).size 0 j (by omega) (by omega)
   have honp : ∀ j, j < n → onN (bstr (m.take n)) j = true := fun j hj => by
    have := hone j hj
    unfold onN at this ⊢
    rw [ha j hj, ha (j - 1) (by omega)]
    exact this
   have h1 := upto_all (onN (bstr (m.take n))) n 0 (fun j _ hj => honp j (by omega))
   have hD' : (isD (at_ (bstr m) 0) || (at_ (bstr m) 0 == 46 && (decide (1 < (bstr (m.take n)).size) && isD (at_ (bstr (m.take n)) 1)))) = true := by
    by_cases hd : isD (at_ (bstr m) 0) = true
    ·rw [hd]; rfl
    ·have hd : isD (at_ (bstr m) 0) = false := by simpa using hd
     rw [hd, Bool.false_or, Bool.and_eq_true, Bool.and_eq_true, decide_eq_true_eq] at hD
     obtain ⟨e1, e2, e3⟩ := hD
     have hon0 : onN (bstr m) 0 = true := by unfold onN; rw [e1]; simp
     have hon1 : onN (bstr m) 1 = true := by unfold onN isW; rw [e3]; simp
     have hn2 : 2 ≤ n := by
      obtain ⟨k, hk⟩ : ∃ k, (bstr m).size = k + 2 := ⟨(bstr m).size - 2, by omega⟩
      rw [← hn, hk]
      have : upto (onN (bstr m)) (k + 2) 0 = upto (onN (bstr m)) k 2 := by
       rw [upto, if_pos hon0, upto, if_pos hon1]
      rw [this]
      exact upto_ge _ _ _
     rw [e1, hsz, ha 1 (by omega), e3]
     simp; omega
   rw [if_pos hD', hsz, h1, hn, Nat.zero_add]
  ·rw [if_neg hD] at hn
   rw [if_neg hD]
   have hD' : ¬ (isD (at_ (bstr m) 0) || (at_ (bstr m) 0 == 46 && (decide (1 < (bstr (m.take n)).size) && isD (at_ (bstr (m.take n)) 1)))) = true := by
    intro h
    apply hD
    rw [Bool.or_eq_true] at h ⊢
    rcases h with h | h
    ·exact .inl h
    ·right
     rw [Bool.and_eq_true, Bool.and_eq_true, decide_eq_true_eq, hsz] at h
     obtain ⟨e1, e2, e3⟩ := h
     rw [ha 1 e2] at e3
     rw [Bool.and_eq_true, Bool.and_eq_true, decide_eq_true_eq]
     exact ⟨e1, by omega, e3⟩
   rw [if_neg hD']
   by_cases h34 : at_ (bstr m) 0 = 34
   ·rw [if_pos h34] at hn
    rw [if_pos h34, if_pos h34]
    try simp only at hn
    have := quo_take (bstr m) (bstr (m.take n)) n hsz ha h0 (bstr m).size 1 hn
    have hf := quo_fuel (bstr (m.take n)) 1 ((bstr m).size - n) n (by omega)
    rw [show n + ((bstr m).size - n) = (bstr m).size by omega, this] at hf
    rw [hsz, ← hf, hn]
   ·rw [if_neg h34] at hn
    rw [if_neg h34, if_neg h34]
    by_cases h39 : at_ (bstr m) 0 = 39
    ·rw [if_pos h39] at hn
     rw [if_pos h39, if_pos h39]
     try simp only at hn
     by_cases h2 : quo (bstr m) (bstr m).size 1 = 2
     ·rw [if_pos h2] at hn; exact absurd hn.symm h0
     ·rw [if_neg h2] at hn
      rw [if_neg h2]
      have := quo_take (bstr m) (bstr (m.take n)) n hsz ha h0 (bstr m).size 1 hn
      have hf := quo_fuel (bstr (m.take n)) 1 ((bstr m).size - n) n (by omega)
      rw [show n + ((bstr m).size - n) = (bstr m).size by omega, this] at hf
      rw [hsz, ← hf, hn, if_neg (by rw [← hn]; exact h2)]
    ·rw [if_neg h39] at hn
     rw [if_neg h39, if_neg h39]
     unfold sgn at hn ⊢
     show (match sgs.find? (fun x => Lib.hasPrefix (m.take n) x) with | some x => (5, x.length) | none => (6, 1)) = (match sgs.find? (fun x => Lib.hasPrefix m x) with | some x => (5, x.length) | none => (6, 1))
     change (match sgs.find? (fun x => Lib.hasPrefix m x) with | some x => ((5 : Nat), x.length) | none => (6, 1)).2 = n at hn
     cases hf : sgs.find? (fun x => Lib.hasPrefix m x) with
     | some x =>
      rw [hf] at hn
      try simp only at hn
      subst hn
      rw [sgn_take m sgs x hf]
     | none =>
      rw [sgn_none_take m n sgs hf]
end Go.Proofs.YtcbfbefpbjmglaaGreatDoorT
namespace Go.Proofs.YtcbfbefpbjmglaaGreatDoorT
open Go.RowKit Go.Lib
def Fresh (m : List UInt8) : Prop := Lib.hasPrefix m [47, 47] = false ∧ Lib.hasPrefix m [47, 42] = false ∧ isB (m.headD 0) = false
theorem skipP_fresh (line : Int) : ∀ k l st, l.length < k → (skipP line k l st).1 ≠ [] → Fresh (skipP line k l st).1 ∧ (skipP line k l st).2.op = false
 | 0, l, st, h, _ => by omega
 | k + 1, l, st, h, hne => by
  unfold skipP at hne ⊢
  by_cases hl : l = []
  ·rw [if_pos hl] at hne; exact absurd rfl hne
  ·rw [if_neg hl] at hne ⊢
   have hpos : 0 < l.length := List.length_pos_iff.2 hl
   by_cases ho : st.op = true
   ·rw [if_pos ho] at hne ⊢
    have := cut_lt hl
    exact skipP_fresh line k _ _ (by omega) hne
   ·rw [if_neg ho] at hne ⊢
    by_cases h1 : Lib.hasPrefix l [47, 47] = true
    ·rw [if_pos h1] at hne; exact absurd rfl hne
    ·rw [if_neg h1] at hne ⊢
     by_cases h2 : Lib.hasPrefix l [47, 42] = true
     ·rw [if_pos h2] at hne ⊢
      exact skipP_fresh line k _ _ (by simp only [List.length_drop]; omega) hne
     ·rw [if_neg h2] at hne ⊢
      by_cases h3 : isB (l.headD 0) = true
      ·rw [if_pos h3] at hne ⊢
       exact skipP_fresh line k _ _ (by simp only [List.length_drop]; omega) hne
      ·rw [if_neg h3] at hne ⊢
       exact ⟨⟨by simpa using h1, by simpa using h2, by simpa using h3⟩, by simpa using ho⟩
theorem skipP_of_fresh (line : Int) (k : Nat) (m : List UInt8) (st : St) (hm : m ≠ []) (hf : Fresh m) (ho : st.op = false) : skipP line (k + 1) m st = (m, st) := by
 unfold skipP
 rw [if_neg hm, if_neg (by rw [ho]; decide), if_neg (by rw [hf.1]; decide), if_neg (by rw [hf.2.1]; decide), if_neg (by rw [hf.2.2]; decide)]
theorem skipP_nil (line : Int) (k : Nat) (st : St) : skipP line k [] st = ([], st) := by cases k <;> simp [skipP]
theorem fresh_take {m : List UInt8} {n : Nat} (hn : 0 < n) (hm : m ≠ []) (h : Fresh m) : Fresh (m.take n) := by
 refine ⟨?_, ?_, ?_⟩
 ·cases hh : Lib.hasPrefix (m.take n) [47, 47] with
  | false => rfl
  | true => have := prefix_of_take hh; rw [h.1] at this; cases this
 ·cases hh : Lib.hasPrefix (m.take n) [47, 42] with
  | false => rfl
  | true => have := prefix_of_take hh; rw [h.2.1] at this; cases this
 ·obtain ⟨k, rfl⟩ : ∃ k, n = k + 1 := ⟨n - 1, by omega⟩
  cases m with
  | nil => exact absurd rfl hm
  | cons c r => exact h.2.2
def Good (t : TokP) : Prop := ∃ m, m ≠ [] ∧ Fresh m ∧ (nextP (bstr m)).2 ≠ 0 ∧ t.s = m.take (nextP (bstr m)).2 ∧ t.kind = (nextP (bstr m)).1
theorem toksL_good (line : Int) : ∀ (j : Nat) (m : List UInt8) (st : St), m.length ≤ j → (m ≠ [] → Fresh m) → ∀ t ∈ (toksL line m st).1, t.s ≠ [] → Good t := by
 intro j
 induction j with
 | zero =>
  intro m st h _ t ht
  obtain rfl : m = [] := List.eq_nil_of_length_eq_zero (by omega)
  rw [toksL_nil] at ht; cases ht
 | succ j ih =>
  intro m st h hf t ht hts
  by_cases hm : m = []
  ·subst hm; rw [toksL_nil] at ht; cases ht
  ·by_cases h0 : (nextP (bstr m)).2 = 0
   ·rw [toksL_zero line m st hm h0] at ht
    simp only [List.mem_singleton] at ht
    subst ht
    exact absurd rfl hts
   ·rw [toksL_cons line m st hm h0] at ht
    have hlt := after_lt line m st hm h0
    rcases List.mem_cons.1 ht with rfl | ht
    ·exact ⟨m, hm, hf hm, h0, rfl, rfl⟩
    ·refine ih _ _ (by omega) (fun hne => ?_) t ht hts
     exact (skipP_fresh line _ _ _ (by omega) hne).1
theorem lineP_good (line : Int) (S : List UInt8) (st : St) : ∀ t ∈ (lineP line S st).1, t.s ≠ [] → Good t := by
 unfold lineP
 refine toksL_good line _ _ _ (Nat.le_refl _) (fun hne => ?_)
 exact (skipP_fresh line _ _ _ (by omega) hne).1
theorem foldT_ok : ∀ (l out o : List TokP), foldT out l = (o, 0) → o = out ++ l ∧ ∀ t ∈ l, t.s ≠ []
 | [], out, o, h => by
  simp only [foldT, Prod.mk.injEq, and_true] at h
  exact ⟨by rw [h, List.append_nil], fun t ht => by cases ht⟩
 | x :: l, out, o, h => by
  rw [foldT] at h
  by_cases h1 : x.s = []
  ·rw [if_pos h1] at h; cases h
  ·rw [if_neg h1] at h
   by_cases h2 : out.length = 20000
   ·rw [if_pos h2] at h; cases h
   ·rw [if_neg h2] at h
    obtain ⟨h3, h4⟩ := foldT_ok l _ _ h
    refine ⟨by rw [h3, List.append_assoc]; rfl, fun t ht => ?_⟩
    rcases List.mem_cons.1 ht with rfl | ht
    ·exact h1
    ·exact h4 t ht
theorem toksL_short (line : Int) : ∀ (j : Nat) (m : List UInt8) (st : St), m.length ≤ j → ∀ t ∈ (toksL line m st).1, t.s.length ≤ m.length := by
 intro j
 induction j with
 | zero =>
  intro m st h t ht
  obtain rfl : m = [] := List.eq_nil_of_length_eq_zero (by omega)
  rw [toksL_nil] at ht; cases ht
 | succ j ih =>
  intro m st h t ht
  by_cases hm : m = []
  ·subst hm; rw [toksL_nil] at ht; cases ht
  ·by_cases h0 : (nextP (bstr m)).2 = 0
   ·rw [toksL_zero line m st hm h0] at ht
    simp only [List.mem_singleton] at ht
    subst ht
    exact Nat.zero_le _
   ·rw [toksL_cons line m st hm h0] at ht
    have hlt := after_lt line m st hm h0
    rcases List.mem_cons.1 ht with rfl | ht
    ·show (m.take _).length ≤ _
     rw [List.length_take]; omega
    ·have := ih _ _ (by omega) t ht
     omega
theorem lineP_short (line : Int) (S : List UInt8) (st : St) : ∀ t ∈ (lineP line S st).1, t.s.length ≤ S.length := by
 intro t ht
 have := toksL_short line _ _ _ (Nat.le_refl _) t ht
 have := skipP_len line (S.length + 1) S (begin_ st)
 omega
theorem lex_alone (t : TokP) (h : Good t) (hts : t.s ≠ []) : lexP [(1, t.s)] = ([⟨t.kind, t.s, 1, false, true⟩], 0, 0) := by
 obtain ⟨m, hm, hf, h0, hs, hk⟩ := h
 have hnt := nextP_take m hm h0
 have hle := nextP_le m hm
 have hpf := fresh_take (n := (nextP (bstr m)).2) (by omega) hm hf
 obtain ⟨p, hp⟩ : ∃ p, m.take (nextP (bstr m)).2 = p := ⟨_, rfl⟩
 have hpl : p.length = (nextP (bstr m)).2 := by rw [← hp, List.length_take]; omega
 rw [hp] at hnt hs hpf
 rw [hs] at hts ⊢
 have hb : begin_ st0 = ⟨false, 0, false, true⟩ := rfl
 have hsk : skipP 1 (p.length + 1) p ⟨false, 0, false, true⟩ = (p, ⟨false, 0, false, true⟩) := skipP_of_fresh 1 _ p _ hts hpf rfl
 have hn0 : (nextP (bstr p)).2 ≠ 0 := by rw [hnt]; exact h0
 have hdp : p.drop (nextP (bstr p)).2 = [] := by rw [hnt]; exact List.drop_eq_nil_of_le (by omega)
 have haf : after 1 p ⟨false, 0, false, true⟩ = ([], ⟨false, 0, false, false⟩) := by
  unfold after
  rw [hdp, skipP_nil]
 have hline : lineP 1 p st0 = ([⟨t.kind, p, 1, false, true⟩], ⟨false, 0, false, false⟩) := by
  unfold lineP
  rw [hb, hsk]
  show toksL 1 p ⟨false, 0, false, true⟩ = _
  rw [toksL_cons 1 p _ hts hn0, haf, toksL_nil, hnt, List.take_of_length_le (by omega), hk]
 unfold lexP lexF
 rw [hline]
 have : foldT [] [⟨t.kind, p, 1, false, true⟩] = ([⟨t.kind, p, 1, false, true⟩], 0) := by
  simp only [foldT, List.length_nil, List.nil_append]
  rw [if_neg hts, if_neg (by decide)]
 rw [this]
 rfl
theorem memS_iff (l : List UInt8) : memS l sgs = true ↔ l ∈ sgs := by
 unfold memS
 rw [List.any_eq_true]
 constructor
 ·rintro ⟨x, hx, he⟩
  rw [decide_eq_true_eq] at he
  exact he ▸ hx
 ·intro h
  exact ⟨l, h, by simp⟩
end Go.Proofs.YtcbfbefpbjmglaaGreatDoorT
namespace Go.Proofs.YtcbfbefpbjmglaaGreatDoorT
open Go.RowKit Go.Lib
def StB (a b : St) : Prop := a.op = b.op ∧ (a.op = true → a.sp = b.sp ∧ a.fs = b.fs)
def allT : List (Int × List UInt8) → St → List TokP
 | [], _ => []
 | (N, S) :: r, st => (lineP N S st).1 ++ allT r (lineP N S st).2
def endS : List (Int × List UInt8) → St → St
 | [], st => st
 | (N, S) :: r, st => endS r (lineP N S st).2
theorem lexF_ok : ∀ (l : List (Int × List UInt8)) (out : List TokP) (st : St), (lexF l out st).2.1 = 0 → out.length ≤ 20000 →
  lexF l out st = (out ++ allT l st, 0, 0) ∧ (endS l st).op = false ∧ (∀ t ∈ allT l st, t.s ≠ []) ∧ out.length + (allT l st).length ≤ 20000
 | [], out, st, h, hl => by
  unfold lexF at h ⊢
  by_cases ho : st.op = true
  ·rw [if_pos ho] at h; cases h
  ·rw [if_neg ho]
   exact ⟨by simp [allT], (show st.op = false by simpa using ho), fun t ht => (by cases ht), by simpa [allT] using hl⟩
 | (N, S) :: r, out, st, h, hl => by
  unfold lexF at h ⊢
  by_cases h0 : (foldT out (lineP N S st).1).2 = 0
  ·rw [if_pos h0] at h ⊢
   obtain ⟨o, ho⟩ : ∃ o, foldT out (lineP N S st).1 = (o, 0) := ⟨_, by rw [← h0]⟩
   have hlen := foldT_len _ _ _ _ ho hl
   obtain ⟨h1, h2⟩ := foldT_ok _ _ _ ho
   rw [ho] at h ⊢
   obtain ⟨g1, g2, g3, g4⟩ := lexF_ok r o (lineP N S st).2 h hlen
   refine ⟨?_, g2, fun t ht => ?_, ?_⟩
   ·show lexF r o _ = _
    rw [g1, h1, List.append_assoc]; rfl
   ·rcases List.mem_append.1 ht with ht | ht
    ·exact h2 t ht
    ·exact g3 t ht
   ·rw [h1] at g4
    simp only [allT, List.length_append] at g4 ⊢
    omega
  ·rw [if_neg h0] at h
   exact absurd h h0
theorem lexP_len (x : List (Int × List UInt8)) : (lexP x).1.length ≤ 20000 := by
 by_cases h : (lexP x).2.1 = 0
 ·obtain ⟨a1, _, _, a4⟩ := lexF_ok x [] st0 h (by simp)
  unfold lexP
  rw [a1]
  simpa using a4
 ·have : ∀ (l : List (Int × List UInt8)) (out : List TokP) (st : St), (lexF l out st).2.1 ≠ 0 → (lexF l out st).1 = [] := by
   intro l
   induction l with
   | nil =>
    intro out st hh
    unfold lexF at hh ⊢
    by_cases ho : st.op = true
    ·rw [if_pos ho]
    ·rw [if_neg ho] at hh; exact absurd rfl hh
   | cons p r ih =>
    intro out st hh
    obtain ⟨N, S⟩ := p
    unfold lexF at hh ⊢
    by_cases h0 : (foldT out (lineP N S st).1).2 = 0
    ·rw [if_pos h0] at hh ⊢; exact ih _ _ hh
    ·rw [if_neg h0]
  unfold lexP at h ⊢
  rw [this _ _ _ h]
  simp
end Go.Proofs.YtcbfbefpbjmglaaGreatDoorT
namespace Go.Proofs.YtcbfbefpbjmglaaGreatDoorT
open Go.RowKit Go.Lib
def refL (N : Int) : Nat → List UInt8 → St → List TokP → List TokP × St × Int
 | 0, _, st, out => (out, st, 0)
 | k + 1, m, st, out =>
  if m = [] then (out, st, 0)
  else if st.op then (if Lib.hasPrefix m [42, 47] then refL N k (m.drop 2) { st with op := false, sp := true } out else refL N k (m.drop 1) { st with sp := true } out)
  else if isB (m.headD 0) then refL N k (m.drop 1) { st with sp := true } out
  else if Lib.hasPrefix m [47, 47] then (out, st, 0)
  else if Lib.hasPrefix m [47, 42] then refL N k (m.drop 2) { st with op := true, fr := N } out
  else if (nextP (bstr m)).2 = 0 then (out, st, 21)
  else if 20000 ≤ out.length then (out, st, 22)
  else refL N k (m.drop (nextP (bstr m)).2) { st with sp := false, fs := false } (out ++ [⟨(nextP (bstr m)).1, m.take (nextP (bstr m)).2, N, st.sp, st.fs⟩])
theorem skipP_more (N : Int) : ∀ (k j : Nat) (l : List UInt8) (st : St), l.length < k → l.length < j → skipP N k l st = skipP N j l st := by
 intro k
 induction k with
 | zero => intro j l st h; omega
 | succ k ih =>
  intro j l st h hj
  obtain ⟨j, rfl⟩ : ∃ i, j = i + 1 := ⟨j - 1, by omega⟩
  unfold skipP
  by_cases hl : l = []
  ·rw [if_pos hl, if_pos hl]
  ·have hpos : 0 < l.length := List.length_pos_iff.2 hl
   have hc := cut_lt hl
   rw [if_neg hl, if_neg hl, ih j (Lib.cut l [42, 47]).2.1 _ (by omega) (by omega), ih j (l.drop 2) _ (by simp only [List.length_drop]; omega) (by simp only [List.length_drop]; omega), ih j (l.drop 1) _ (by simp only [List.length_drop]; omega) (by simp only [List.length_drop]; omega)]
def sk (N : Int) (m : List UInt8) (st : St) : List UInt8 × St := skipP N (m.length + 1) m st
theorem sk_eq (N : Int) (k : Nat) (m : List UInt8) (st : St) (h : m.length < k) : skipP N k m st = sk N m st := skipP_more N k _ m st h (by omega)
theorem sk_nil (N : Int) (st : St) : sk N [] st = ([], st) := skipP_nil N _ st
theorem sk_step (N : Int) (m : List UInt8) (st : St) (hm : m ≠ []) : sk N m st =
  if st.op then sk N (Lib.cut m [42, 47]).2.1 { st with sp := true, op := !(Lib.cut m [42, 47]).2.2 }
  else if Lib.hasPrefix m [47, 47] then ([], st)
  else if Lib.hasPrefix m [47, 42] then sk N (m.drop 2) { st with op := true, fr := N }
  else if isB (m.headD 0) then sk N (m.drop 1) { st with sp := true }
  else (m, st) := by
 have hpos : 0 < m.length := List.length_pos_iff.2 hm
 have hc := cut_lt hm
 show skipP N (m.length + 1) m st = _
 rw [skipP, if_neg hm, sk_eq N _ _ _ hc, sk_eq N m.length (m.drop 2) _ (by simp only [List.length_drop]; omega), sk_eq N m.length (m.drop 1) _ (by simp only [List.length_drop]; omega)]
theorem sk_open (N : Int) (m : List UInt8) (st : St) (hm : m ≠ []) (ho : st.op = true) :
  sk N m st = if Lib.hasPrefix m [42, 47] then sk N (m.drop 2) { st with op := false, sp := true } else sk N (m.drop 1) { st with sp := true } := by
 rw [sk_step N m st hm, if_pos ho]
 cases m with
 | nil => exact absurd rfl hm
 | cons c m =>
  by_cases hp : Lib.hasPrefix (c :: m) [42, 47] = true
  ·rw [if_pos hp]
   have hp' : List.isPrefixOf [42, 47] (c :: m) = true := hp
   have hi : Lib.index (c :: m) [42, 47] = 0 := by rw [Lib.index, if_pos hp']
   unfold Lib.cut
   rw [hi]
   rfl
  ·rw [if_neg hp]
   have hi : Lib.index (c :: m) [42, 47] = if Lib.index m [42, 47] = -1 then -1 else Lib.index m [42, 47] + 1 := by
    have hp' : ¬ List.isPrefixOf [42, 47] (c :: m) = true := hp
    rw [Lib.index, if_neg hp']
    by_cases h1 : Lib.index m [42, 47] = -1
    ·rw [if_pos h1, if_pos (beq_iff_eq.2 h1)]
    ·rw [if_neg h1, if_neg (by rw [beq_iff_eq]; exact h1)]
   have hge := Lib.index_ge m [42, 47]
   show _ = sk N m _
   by_cases h1 : Lib.index m [42, 47] = -1
   ·rw [if_pos h1] at hi
    have hc : Lib.cut (c :: m) [42, 47] = (c :: m, [], false) := by unfold Lib.cut; rw [hi]; rfl
    rw [hc]
    by_cases hm2 : m = []
    ·subst hm2
     rw [sk_nil, sk_nil]
     simp [ho]
    ·rw [sk_step N m _ hm2, if_pos (show ({ st with sp := true } : St).op = true from ho)]
     have hc2 : Lib.cut m [42, 47] = (m, [], false) := by unfold Lib.cut; rw [h1]; rfl
     rw [hc2]
   ·rw [if_neg h1] at hi
    obtain ⟨i, hii⟩ : ∃ i : Nat, Lib.index m [42, 47] = (i : Int) := ⟨(Lib.index m [42, 47]).toNat, (Int.toNat_of_nonneg (by omega)).symm⟩
    have hm2 : m ≠ [] := by
     rintro rfl
     rw [Lib.index] at h1
     exact h1 (by decide)
    have hc : Lib.cut (c :: m) [42, 47] = ((c :: m).take (i + 1), m.drop (i + 2), true) := by
     unfold Lib.cut
     rw [hi, hii, if_pos (by omega)]
     have : ((i : Int) + 1).toNat = i + 1 := by omega
     rw [this]
     rfl
    have hc2 : Lib.cut m [42, 47] = (m.take i, m.drop (i + 2), true) := by
     unfold Lib.cut
     rw [hii, if_pos (by omega), Int.toNat_natCast]
     rfl
    rw [hc, sk_step N m _ hm2, if_pos (show ({ st with sp := true } : St).op = true from ho), hc2]
theorem blank_no (m : List UInt8) (p : UInt8) (h : isB (m.headD 0) = true) : Lib.hasPrefix m [47, p] = false := by
 cases m with
 | nil => rfl
 | cons c m =>
  cases hh : Lib.hasPrefix (c :: m) [47, p] with
  | false => rfl
  | true =>
   rw [hasPrefix_iff] at hh
   obtain ⟨r, hr⟩ := hh
   simp only [List.cons_append, List.nil_append, List.cons.injEq] at hr
   rw [List.headD_cons, ← hr.1] at h
   cases h
theorem refL_eq (N : Int) : ∀ (k : Nat) (m : List UInt8) (st : St) (out : List TokP), m.length < k → out.length ≤ 20000 →
  (refL N k m st out).2.2 = (foldT out (toksL N (sk N m st).1 (sk N m st).2).1).2 ∧
  ((foldT out (toksL N (sk N m st).1 (sk N m st).2).1).2 = 0 → (refL N k m st out).1 = (foldT out (toksL N (sk N m st).1 (sk N m st).2).1).1 ∧ (refL N k m st out).2.1 = (toksL N (sk N m st).1 (sk N m st).2).2) := by
 intro k
 induction k with
 | zero => intro m st out h; omega
 | succ k ih =>
  intro m st out h hout
  unfold refL
  by_cases hm : m = []
  ·rw [if_pos hm, hm, sk_nil]
   exact ⟨rfl, fun _ => ⟨rfl, rfl⟩⟩
  ·have hpos : 0 < m.length := List.length_pos_iff.2 hm
   rw [if_neg hm]
   by_cases ho : st.op = true
   ·rw [if_pos ho, sk_open N m st hm ho]
    by_cases h1 : Lib.hasPrefix m [42, 47] = true
    ·rw [if_pos h1, if_pos h1]
     exact ih _ _ _ (by simp only [List.length_drop]; omega) hout
    ·rw [if_neg h1, if_neg h1]
     exact ih _ _ _ (by simp only [List.length_drop]; omega) hout
   ·rw [if_neg ho]
    have hsk := sk_step N m st hm
    rw [if_neg ho] at hsk
    by_cases hb : isB (m.headD 0) = true
    ·rw [if_pos hb]
     rw [if_neg (by rw [blank_no m 47 hb]; decide), if_neg (by rw [blank_no m 42 hb]; decide), if_pos hb] at hsk
     rw [hsk]
     exact ih _ _ _ (by simp only [List.length_drop]; omega) hout
    ·rw [if_neg hb]
     by_cases h1 : Lib.hasPrefix m [47, 47] = true
     ·rw [if_pos h1]
      rw [if_pos h1] at hsk
      rw [hsk, toksL_nil]
      exact ⟨rfl, fun _ => ⟨rfl, rfl⟩⟩
     ·rw [if_neg h1]
      rw [if_neg h1] at hsk
      by_cases h2 : Lib.hasPrefix m [47, 42] = true
      ·rw [if_pos h2]
       rw [if_pos h2] at hsk
       rw [hsk]
       exact ih _ _ _ (by simp only [List.length_drop]; omega) hout
      ·rw [if_neg h2]
       rw [if_neg h2, if_neg hb] at hsk
       rw [hsk]
       by_cases h0 : (nextP (bstr m)).2 = 0
       ·rw [if_pos h0, toksL_zero N m st hm h0]
        refine ⟨?_, fun hh => ?_⟩
        ·rw [foldT, if_pos rfl]
        ·rw [foldT, if_pos rfl] at hh; cases hh
       ·rw [if_neg h0, toksL_cons N m st hm h0]
        have hne : ¬ m.take (nextP (bstr m)).2 = [] := by
         intro hh
         rw [List.take_eq_nil_iff] at hh
         rcases hh with hh | hh
         ·exact h0 hh
         ·exact hm hh
        by_cases h20 : 20000 ≤ out.length
        ·rw [if_pos h20]
         refine ⟨?_, fun hh => ?_⟩
         ·rw [foldT, if_neg hne, if_pos (by omega)]
         ·rw [foldT, if_neg hne, if_pos (by omega)] at hh; cases hh
        ·rw [if_neg h20, foldT, if_neg hne, if_neg (by omega)]
         have := ih (m.drop (nextP (bstr m)).2) { st with sp := false, fs := false } (out ++ [⟨(nextP (bstr m)).1, m.take (nextP (bstr m)).2, N, st.sp, st.fs⟩]) (by simp only [List.length_drop]; omega) (by simp only [List.length_append, List.length_singleton]; omega)
         exact this
end Go.Proofs.YtcbfbefpbjmglaaGreatDoorT
namespace Go.Proofs.YtcbfbefpbjmglaaGreatDoor.PureF
open Go.RowKit Go.Lib YtcbfbefpbjmglaaGreatDoorT PA YtcbfbefpbjmglaaGreatDoorW PrintWords PrintLast PrintMore
theorem letter_eq (c : UInt8) : burinref02_letter.f (c.toNat : Int) = some (isL c) := by
 unfold burinref02_letter.f
 have hr : isL c = decide ((97 ≤ (c.toNat : Int) ∧ (c.toNat : Int) ≤ 122) ∨ (65 ≤ (c.toNat : Int) ∧ (c.toNat : Int) ≤ 90) ∨ (c.toNat : Int) = 95) := by
  unfold isL
  rw [Bool.eq_iff_iff]
  simp only [Bool.or_eq_true, Bool.and_eq_true, decide_eq_true_eq, beq_iff_eq]
  omega
 rw [hr]
 repeat' split
 all_goals first
  | (congr 1; symm; rw [decide_eq_true_eq]; omega)
  | (congr 1; rw [Bool.eq_iff_iff, beq_iff_eq, decide_eq_true_eq]; omega)
theorem digit_eq (c : UInt8) : burinref02_digit.f (c.toNat : Int) = some (isD c) := by
 unfold burinref02_digit.f
 have hr : isD c = decide (48 ≤ (c.toNat : Int) ∧ (c.toNat : Int) ≤ 57) := by
  unfold isD
  rw [Bool.eq_iff_iff]
  simp only [Bool.and_eq_true, decide_eq_true_eq]
  omega
 rw [hr]
 split
 ·congr 1; rw [Bool.eq_iff_iff, decide_eq_true_eq, decide_eq_true_eq]; omega
 ·congr 1; symm; rw [decide_eq_false_iff_not]; omega
theorem bt_eq (s : ByteArray) (i : Nat) (h : i < s.size) : bt s (i : Int) = ((at_ s i).toNat : Int) := by
 unfold bt
 rw [dif_pos (by simpa using h)]
 simp only [Int.toNat_natCast]
 rw [at_get s i h]
theorem wrap_succ (i : Nat) (h : i < 9223372036854775806) : wrap64 ((i : Int) + 1) = ((i + 1 : Nat) : Int) := by unfold wrap64; omega
theorem name_l0 (s : ByteArray) (hs : s.size < 9223372036854775800) (e : Nat) : ∀ d i : Nat, i + d = s.size → burinref02_name.l0 (d + 1 + e) s (i : Int) = some ((upto (fun i => isW (at_ s i)) d i : Nat) : Int) := by
 intro d
 induction d with
 | zero =>
  intro i h
  rw [show 0 + 1 + e = e + 1 by omega]
  unfold burinref02_name.l0
  rw [if_neg (by omega)]; rfl
 | succ d ih =>
  intro i h
  rw [show d + 1 + 1 + e = (d + 1 + e) + 1 by omega]
  unfold burinref02_name.l0
  rw [if_pos (by omega), if_pos (by omega), bt_eq s i (by omega), letter_eq, Option.bind_some, wrap_succ i (by omega), digit_eq, Option.bind_some, upto]
  unfold isW
  by_cases h1 : isL (at_ s i) = true
  ·rw [if_pos h1, h1, ih (i + 1) (by omega)]; rfl
  ·have h1 : isL (at_ s i) = false := by simpa using h1
   rw [h1]
   by_cases h2 : isD (at_ s i) = true
   ·rw [h2, ih (i + 1) (by omega)]; rfl
   ·have h2 : isD (at_ s i) = false := by simpa using h2
    rw [h2]; rfl
theorem name_eq (s : ByteArray) (hs : s.size < 9223372036854775800) (h0 : 0 < s.size) (e : Nat) : burinref02_name.f (s.size + 1 + e) s = some (if isL (at_ s 0) then ((upto (fun i => isW (at_ s i)) s.size 0 : Nat) : Int) else 0) := by
 unfold burinref02_name.f
 rw [if_neg (by omega), if_pos (by omega), show bt s 0 = bt s ((0 : Nat) : Int) from rfl, bt_eq s 0 h0, letter_eq, Option.bind_some, show s.size + 1 + e = (s.size + e) + 1 by omega, burinref02_name.j0]
 by_cases h1 : isL (at_ s 0) = true
 ·rw [h1]
  obtain ⟨n, hn⟩ : ∃ n, s.size = n + 1 := ⟨s.size - 1, by omega⟩
  have := name_l0 s hs e n 1 (by omega)
  rw [show s.size + e = n + 1 + e by omega]
  show burinref02_name.l0 (n + 1 + e) s ((1 : Nat) : Int) = _
  rw [this, hn, upto, if_pos (show isW (at_ s 0) = true by unfold isW; rw [h1]; rfl)]
  rfl
 ·have h1 : isL (at_ s 0) = false := by simpa using h1
  rw [h1]; rfl
theorem quote_l0 (s : ByteArray) (hs : s.size < 9223372036854775800) (h0 : 0 < s.size) (e : Nat) : ∀ d i : Nat, s.size ≤ i + d → i ≤ s.size + 1 → burinref02_quote.l0 (d + 1 + e) s (i : Int) = some ((quo s d i : Nat) : Int) := by
 intro d
 induction d with
 | zero =>
  intro i h _
  rw [show 0 + 1 + e = e + 1 by omega]
  unfold burinref02_quote.l0
  rw [if_neg (by omega)]; rfl
 | succ d ih =>
  intro i h hi
  rw [show d + 1 + 1 + e = (d + 1 + e) + 1 by omega]
  unfold burinref02_quote.l0 quo
  by_cases h1 : s.size ≤ i
  ·rw [if_neg (by omega), if_pos h1]; rfl
  ·rw [if_pos (by omega), if_pos (by omega), if_neg h1, bt_eq s i (by omega), show bt s 0 = bt s ((0 : Nat) : Int) from rfl, bt_eq s 0 h0, wrap_succ i (by omega), wrap_succ (i + 1) (by omega)]
   by_cases h2 : at_ s i = 92
   ·rw [if_pos (by rw [h2]; rfl), if_pos h2]
    exact ih (i + 2) (by omega) (by omega)
   ·rw [if_neg (fun hh => h2 (UInt8.toNat_inj.1 (by have : ((92 : UInt8).toNat : Int) = 92 := rfl; omega))), if_neg h2, if_pos (by omega)]
    by_cases h3 : at_ s i = at_ s 0
    ·rw [if_pos (by rw [h3]), if_pos h3]
    ·rw [if_neg (fun hh => h3 (UInt8.toNat_inj.1 (by omega))), if_neg h3]
     exact ih (i + 1) (by omega) (by omega)
theorem quote_eq (s : ByteArray) (hs : s.size < 9223372036854775800) (h0 : 0 < s.size) (e : Nat) : burinref02_quote.f (s.size + 1 + e) s = some ((quo s s.size 1 : Nat) : Int) :=
 quote_l0 s hs h0 e s.size 1 (by omega) (by omega)
end Go.Proofs.YtcbfbefpbjmglaaGreatDoor.PureF
namespace Go.Proofs.YtcbfbefpbjmglaaGreatDoor.PureF
open Go.RowKit Go.Lib YtcbfbefpbjmglaaGreatDoorT PA YtcbfbefpbjmglaaGreatDoorW PrintWords PrintLast PrintMore
theorem byte_eq (x : UInt8) (n : Nat) (hn : n < 256) : ((x.toNat : Int) = (n : Int)) ↔ x = UInt8.ofNat n := by
 constructor
 ·intro h
  apply UInt8.toNat_inj.1
  rw [UInt8.toNat_ofNat']
  omega
 ·rintro rfl
  rw [UInt8.toNat_ofNat']
  omega
theorem number_j6 (s : ByteArray) (i : Nat) (hi : i < s.size) (k : Nat) (hs : s.size < 9223372036854775800) (hpos : 0 < i) :
  burinref02_number.j6 (k + 1) s (i : Int) (isE (at_ s (i - 1))) = if onN s i then burinref02_number.l0 k s ((i + 1 : Nat) : Int) else some (i : Int) := by
 rw [burinref02_number.j6, if_pos (by omega), if_pos (by omega), bt_eq s i hi, letter_eq, Option.bind_some, wrap_succ i (by omega), digit_eq, Option.bind_some]
 unfold onN isW
 by_cases h1 : isL (at_ s i) = true
 ·rw [h1]; rfl
 ·have h1 : isL (at_ s i) = false := by simpa using h1
  rw [h1]
  by_cases h2 : isD (at_ s i) = true
  ·rw [h2]; rfl
  ·have h2 : isD (at_ s i) = false := by simpa using h2
   rw [h2, if_neg (by decide), if_neg (by decide)]
   by_cases h3 : at_ s i = 46
   ·rw [if_pos (by rw [h3]; rfl), h3]; rfl
   ·have e3 : ¬ (((at_ s i).toNat : Int) = 46) := fun hh => h3 ((byte_eq (at_ s i) 46 (by omega)).1 hh)
    rw [if_neg e3, show (at_ s i == 46) = false from beq_eq_false_iff_ne.2 h3]
    by_cases h4 : isE (at_ s (i - 1)) = true
    ·rw [h4, if_pos rfl]
     by_cases h5 : at_ s i = 43
     ·rw [if_pos (by rw [h5]; rfl), h5]
      simp [hpos]
     ·have e5 : ¬ (((at_ s i).toNat : Int) = 43) := fun hh => h5 ((byte_eq (at_ s i) 43 (by omega)).1 hh)
      rw [if_neg e5, show (at_ s i == 43) = false from beq_eq_false_iff_ne.2 h5]
      by_cases h6 : at_ s i = 45
      ·rw [if_pos (by rw [h6]; rfl), h6]
       simp [hpos]
      ·have e6 : ¬ (((at_ s i).toNat : Int) = 45) := fun hh => h6 ((byte_eq (at_ s i) 45 (by omega)).1 hh)
       rw [if_neg e6, show (at_ s i == 45) = false from beq_eq_false_iff_ne.2 h6]
       simp
    ·have h4 : isE (at_ s (i - 1)) = false := by simpa using h4
     rw [h4, if_neg (by decide)]
     simp
theorem number_l0 (s : ByteArray) (hs : s.size < 9223372036854775800) (e : Nat) : ∀ d i : Nat, 0 < i → i + d = s.size → burinref02_number.l0 (3 * d + 3 + e) s (i : Int) = some ((upto (onN s) d i : Nat) : Int) := by
 intro d
 induction d with
 | zero =>
  intro i hp h
  rw [show 3 * 0 + 3 + e = (e + 1) + 1 + 1 by omega, burinref02_number.l0, if_pos (by omega), decide_eq_false (by omega), burinref02_number.j5, if_neg (by decide)]
  rfl
 | succ d ih =>
  intro i hp h
  rw [show 3 * (d + 1) + 3 + e = ((3 * d + 3 + e) + 1) + 1 + 1 by omega, burinref02_number.l0, if_pos (by omega), decide_eq_true (by omega), burinref02_number.j5, if_pos rfl]
  have hw : wrap64 ((i : Int) - 1) = ((i - 1 : Nat) : Int) := by unfold wrap64; omega
  rw [hw, if_pos (by omega), if_pos (by omega), bt_eq s (i - 1) (by omega)]
  have key : ∀ b : Bool, b = isE (at_ s (i - 1)) → burinref02_number.j6 ((3 * d + 3 + e) + 1) s (i : Int) b = some ((upto (onN s) (d + 1) i : Nat) : Int) := fun b hb => by
   rw [hb, number_j6 s i (by omega) _ hs hp, upto]
   by_cases ho : onN s i = true
   ·rw [if_pos ho, if_pos ho]; exact ih (i + 1) (by omega) (by omega)
   ·rw [if_neg ho, if_neg ho]
  obtain ⟨p, hp'⟩ : ∃ p, at_ s (i - 1) = p := ⟨_, rfl⟩
  rw [hp'] at key ⊢
  unfold isE at key
  by_cases h1 : p = 101
  ·rw [if_pos (by rw [h1]; rfl)]; exact key _ (by rw [h1]; rfl)
  ·have e1 : ¬ ((p.toNat : Int) = 101) := fun hh => h1 ((byte_eq p 101 (by omega)).1 hh)
   rw [if_neg e1]
   by_cases h2 : p = 69
   ·rw [if_pos (by rw [h2]; rfl)]; exact key _ (by rw [h2]; rfl)
   ·have e2 : ¬ ((p.toNat : Int) = 69) := fun hh => h2 ((byte_eq p 69 (by omega)).1 hh)
    rw [if_neg e2]
    by_cases h3 : p = 112
    ·rw [if_pos (by rw [h3]; rfl)]; exact key _ (by rw [h3]; rfl)
    ·have e3 : ¬ ((p.toNat : Int) = 112) := fun hh => h3 ((byte_eq p 112 (by omega)).1 hh)
     rw [if_neg e3]
     refine key _ ?_
     rw [show (p == 101) = false from beq_eq_false_iff_ne.2 h1, show (p == 69) = false from beq_eq_false_iff_ne.2 h2, show (p == 112) = false from beq_eq_false_iff_ne.2 h3]
     rw [Bool.eq_iff_iff, beq_iff_eq]
     simp only [Bool.false_or, beq_iff_eq]
     exact byte_eq p 80 (by omega)
def isNum (s : ByteArray) : Bool := isD (at_ s 0) || (at_ s 0 == 46 && (decide (1 < s.size) && isD (at_ s 1)))
theorem number_eq (s : ByteArray) (hs : s.size < 9223372036854775800) (h0 : 0 < s.size) (e : Nat) : burinref02_number.f (3 * s.size + 7 + e) s = some (if isNum s then ((upto (onN s) s.size 0 : Nat) : Int) else 0) := by
 obtain ⟨n, hn⟩ : ∃ n, s.size = n + 1 := ⟨s.size - 1, by omega⟩
 have l1 := number_l0 s hs (6 + e) n 1 (by omega) (by omega)
 have lz : ∀ k, burinref02_number.l0 (k + 2) s 0 = some 0 := fun k => by
  rw [burinref02_number.l0, if_neg (by decide), burinref02_number.j5, if_neg (by decide)]
 unfold burinref02_number.f
 rw [if_pos (by omega), if_pos (by omega), show bt s 0 = bt s ((0 : Nat) : Int) from rfl, bt_eq s 0 h0, digit_eq, Option.bind_some, show 3 * s.size + 7 + e = (3 * n + 3 + (3 + e)) + 1 + 1 + 1 + 1 by omega, burinref02_number.j0]
 by_cases h1 : isD (at_ s 0) = true
 ·have n46 : ¬ (at_ s 0 = 46) := fun hh => by rw [hh] at h1; cases h1
  have hnum : isNum s = true := by unfold isNum; rw [h1]; rfl
  have hW : onN s 0 = true := by unfold onN isW; rw [h1]; simp
  have l2 := number_l0 s hs (3 + e) n 1 (by omega) (by omega)
  have e46 : ¬ (((at_ s 0).toNat : Int) = 46) := fun hh => n46 ((byte_eq (at_ s 0) 46 (by omega)).1 hh)
  have fin : burinref02_number.j2 (3 * n + 3 + (3 + e) + 1 + 1) s 1 false = some ((upto (onN s) s.size 0 : Nat) : Int) := by
   rw [burinref02_number.j2, if_neg (by decide), burinref02_number.j3, hn, upto, if_pos hW]
   exact l2
  rw [h1, if_pos rfl, burinref02_number.j1, hnum, if_pos rfl]
  by_cases hs1 : (s.size : Int) > 1
  ·rw [if_pos hs1, if_pos (by omega), show bt s 0 = bt s ((0 : Nat) : Int) from rfl, bt_eq s 0 h0, if_neg e46]
   exact fin
  ·rw [if_neg hs1]
   exact fin
 ·have h1 : isD (at_ s 0) = false := by simpa using h1
  rw [h1, if_neg (by decide), burinref02_number.j1]
  have nope : isNum s = false → burinref02_number.j2 (3 * n + 3 + (3 + e) + 1 + 1) s 0 false = some (if isNum s then ((upto (onN s) s.size 0 : Nat) : Int) else 0) := fun hf => by
   rw [hf, burinref02_number.j2, if_neg (by decide), burinref02_number.j3, show 3 * n + 3 + (3 + e) = (3 * n + 4 + e) + 2 by omega, lz]
   rfl
  by_cases hs1 : (s.size : Int) > 1
  ·rw [if_pos hs1, if_pos (by omega), show bt s 0 = bt s ((0 : Nat) : Int) from rfl, bt_eq s 0 h0]
   by_cases h46 : at_ s 0 = 46
   ·rw [if_pos (by rw [h46]; rfl), if_pos hs1, show bt s 1 = bt s ((1 : Nat) : Int) from rfl, bt_eq s 1 (by omega), digit_eq, Option.bind_some]
    by_cases h2 : isD (at_ s 1) = true
    ·have hnum : isNum s = true := by
      unfold isNum
      rw [h46, h2, decide_eq_true (show 1 < s.size by omega)]; rfl
     obtain ⟨j, hj⟩ : ∃ j, n = j + 1 := ⟨n - 1, by omega⟩
     have l3 := number_l0 s hs (6 + e) j 2 (by omega) (by omega)
     have o0 : onN s 0 = true := by unfold onN; rw [h46]; simp
     have o1 : onN s 1 = true := by unfold onN isW; rw [h2]; simp
     rw [h2, hnum, if_pos rfl, burinref02_number.j2, if_pos rfl, burinref02_number.j3, hn, hj, upto, if_pos o0, upto, if_pos o1, show 3 * (j + 1) + 3 + (3 + e) = 3 * j + 3 + (6 + e) by omega]
     exact l3
    ·have h2 : isD (at_ s 1) = false := by simpa using h2
     rw [h2]
     exact nope (by unfold isNum; rw [h1, h2]; simp)
   ·have e46 : ¬ (((at_ s 0).toNat : Int) = 46) := fun hh => h46 ((byte_eq (at_ s 0) 46 (by omega)).1 hh)
    rw [if_neg e46]
    exact nope (by unfold isNum; rw [h1, show (at_ s 0 == 46) = false from beq_eq_false_iff_ne.2 h46]; rfl)
  ·rw [if_neg hs1]
   exact nope (by unfold isNum; rw [h1, decide_eq_false (show ¬ 1 < s.size by omega)]; simp)
end Go.Proofs.YtcbfbefpbjmglaaGreatDoor.PureF
