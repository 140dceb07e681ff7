import Derived.Test.YtcbfbefpbjmglaaDoorPRc
namespace Go.Proofs.YtcbfbefpbjmglaaDoorT
open Go.RowKit Go.Lib
set_option linter.unusedVariables false
set_option linter.unusedSimpArgs false
inductive Chain : List UInt8 → List TokP → Prop
 | nil (z : List UInt8) : Chain z []
 | cons {z m : List UInt8} {t : TokP} {ts : List TokP} (hm : m ≠ []) (hf : Fresh m) (hk : nextP (bstr m) = (t.kind, t.s.length)) (ht : t.s = m.take t.s.length) (h0 : t.s ≠ [])
   (hz : t.fs = true ∨ t.sp = true ∨ z = m) (hr : Chain (m.drop t.s.length) ts) : Chain z (t :: ts)
theorem skipP_sp (line : Int) : ∀ k l st, st.sp = true → (skipP line k l st).2.sp = true
 | 0, l, st, h => h
 | k + 1, l, st, h => by
  unfold skipP
  split
  ·exact h
  ·split
   ·exact skipP_sp line k _ _ rfl
   ·split
    ·exact h
    ·split
     ·exact skipP_sp line k _ _ h
     ·split
      ·exact skipP_sp line k _ _ rfl
      ·exact h
theorem skipP_fs (line : Int) : ∀ k l st, (skipP line k l st).2.fs = st.fs
 | 0, l, st => rfl
 | k + 1, l, st => by
  unfold skipP
  split
  ·rfl
  ·split
   ·exact skipP_fs line k _ _
   ·split
    ·rfl
    ·split
     ·exact skipP_fs line k _ _
     ·split
      ·exact skipP_fs line k _ _
      ·rfl
theorem skipP_op (line : Int) : ∀ k l st, st.op = true → (skipP line k l st).1 ≠ [] → (skipP line k l st).2.sp = true
 | 0, l, st, h, hne => absurd rfl hne
 | k + 1, l, st, h, hne => by
  unfold skipP at hne ⊢
  by_cases hl : l = []
  ·rw [if_pos hl] at hne; exact absurd rfl hne
  ·rw [if_neg hl, if_pos h] at hne ⊢
   exact skipP_sp line k _ _ rfl
theorem skipP_adj (line : Int) : ∀ k l st, st.op = false → (skipP line k l st).1 ≠ [] → (skipP line k l st).2.sp = true ∨ l = (skipP line k l st).1
 | 0, l, st, h, hne => absurd rfl hne
 | k + 1, l, st, h, hne => by
  unfold skipP at hne ⊢
  by_cases hl : l = []
  ·rw [if_pos hl] at hne; exact absurd rfl hne
  ·rw [if_neg hl, if_neg (by rw [h]; decide)] at hne ⊢
   by_cases h1 : Lib.hasPrefix l [47, 47] = true
   ·rw [if_pos h1] at hne; exact absurd rfl hne
   ·rw [if_neg h1] at hne ⊢
    by_cases h2 : Lib.hasPrefix l [47, 42] = true
    ·rw [if_pos h2] at hne ⊢
     exact .inl (skipP_op line k _ _ rfl hne)
    ·rw [if_neg h2] at hne ⊢
     by_cases h3 : isB (l.headD 0) = true
     ·rw [if_pos h3] at hne ⊢
      exact .inl (skipP_sp line k _ _ rfl)
     ·rw [if_neg h3]; exact .inr rfl
theorem toksL_chain (line : Int) (rest : List TokP) (hrest : ∀ z, Chain z rest) : ∀ (j : Nat) (m : List UInt8) (st : St) (z : List UInt8), m.length ≤ j → (m ≠ [] → Fresh m) → (∀ t ∈ (toksL line m st).1, t.s ≠ []) →
  (m ≠ [] → st.fs = true ∨ st.sp = true ∨ z = m) → Chain z ((toksL line m st).1 ++ rest) := by
 intro j
 induction j with
 | zero =>
  intro m st z h _ _ _
  obtain rfl : m = [] := List.eq_nil_of_length_eq_zero (by omega)
  exact hrest z
 | succ j ih =>
  intro m st z h hf hn hz
  by_cases hm : m = []
  ·subst hm; exact hrest z
  ·by_cases h0 : (nextP (bstr m)).2 = 0
   ·rw [toksL_zero line m st hm h0] at hn
    exact absurd rfl (hn _ (List.mem_singleton.2 rfl))
   ·have hlt := after_lt line m st hm h0
    have hle := nextP_le m hm
    rw [toksL_cons line m st hm h0] at hn ⊢
    have hlen : (m.take (nextP (bstr m)).2).length = (nextP (bstr m)).2 := by rw [List.length_take]; omega
    refine Chain.cons hm (hf hm) (by rw [hlen]) (by rw [hlen]) (hn _ (List.mem_cons_self)) (hz hm) ?_
    rw [hlen]
    refine ih _ _ _ (by omega) (fun hne => (skipP_fresh line _ _ _ (by omega) hne).1) (fun t ht => hn t (List.mem_cons_of_mem _ ht)) (fun hne => ?_)
    by_cases ho : st.op = true
    ·exact .inr (.inl (skipP_op line _ _ _ ho hne))
    ·rcases skipP_adj line _ _ { st with sp := false, fs := false } (by simpa using ho) hne with e | e
     ·exact .inr (.inl e)
     ·exact .inr (.inr e)
theorem lineP_chain (line : Int) (rest : List TokP) (hrest : ∀ z, Chain z rest) (S : List UInt8) (st : St) (hn : ∀ t ∈ (lineP line S st).1, t.s ≠ []) (z : List UInt8) : Chain z ((lineP line S st).1 ++ rest) := by
 refine toksL_chain line rest hrest _ _ _ z (Nat.le_refl _) (fun hne => (skipP_fresh line _ _ _ (by omega) hne).1) hn (fun hne => ?_)
 by_cases ho : st.op = true
 ·right; left
  exact skipP_op line _ _ _ (by unfold begin_; rw [if_pos ho]; exact ho) hne
 ·left
  rw [skipP_fs]
  unfold begin_
  rw [if_neg ho]
end Go.Proofs.YtcbfbefpbjmglaaDoorT
namespace Go.Proofs.YtcbfbefpbjmglaaDoorT
open Go.RowKit Go.Lib
set_option linter.unusedVariables false
set_option linter.unusedSimpArgs false
def tailT : List TokP → List UInt8
 | [] => []
 | u :: r => (if u.sp then [32] else []) ++ u.s ++ tailT r
theorem getD_app_lt {a b : List UInt8} {i : Nat} (h : i < a.length) : (a ++ b).getD i 0 = a.getD i 0 := by
 rw [List.getD_eq_getElem?_getD, List.getD_eq_getElem?_getD, List.getElem?_append_left h]
theorem getD_app_ge {a b : List UInt8} {i : Nat} (h : a.length ≤ i) : (a ++ b).getD i 0 = b.getD (i - a.length) 0 := by
 rw [List.getD_eq_getElem?_getD, List.getD_eq_getElem?_getD, List.getElem?_append_right h]
theorem getD_take {m : List UInt8} {n i : Nat} (h : i < n) : (m.take n).getD i 0 = m.getD i 0 := by
 rw [List.getD_eq_getElem?_getD, List.getD_eq_getElem?_getD, List.getElem?_take, if_pos h]
theorem getD_drop {m : List UInt8} {n i : Nat} : (m.drop n).getD i 0 = m.getD (n + i) 0 := by
 rw [List.getD_eq_getElem?_getD, List.getD_eq_getElem?_getD, List.getElem?_drop]
theorem tail_one {z : List UInt8} {ts : List TokP} (h : Chain z ts) (hfs : ∀ u ∈ ts, u.fs = false) : (tailT ts).getD 0 0 = 0 ∨ (tailT ts).getD 0 0 = 32 ∨ (tailT ts).getD 0 0 = z.getD 0 0 := by
 cases h with
 | nil => exact .inl rfl
 | @cons _ m t r hm hf hk ht h0 hz hr =>
  right
  have hlen : 0 < t.s.length := List.length_pos_iff.2 h0
  rcases hz with e | e | e
  ·rw [hfs t List.mem_cons_self] at e; cases e
  ·left; show ((if t.sp then [32] else []) ++ t.s ++ tailT r).getD 0 0 = 32
   rw [e]; rfl
  ·subst e
   by_cases hs : t.sp = true
   ·left; show ((if t.sp then [32] else []) ++ t.s ++ tailT r).getD 0 0 = 32
    rw [hs]; rfl
   ·right; show ((if t.sp then [32] else []) ++ t.s ++ tailT r).getD 0 0 = _
    rw [if_neg hs, List.nil_append, getD_app_lt hlen, ht, getD_take hlen]
theorem tok_two {m : List UInt8} {t : TokP} {r : List TokP} (ht : t.s = m.take t.s.length) (h0 : t.s ≠ []) (hr : Chain (m.drop t.s.length) r) (hfs : ∀ u ∈ r, u.fs = false) :
  (t.s ++ tailT r).getD 0 0 = m.getD 0 0 ∧ ((t.s ++ tailT r).getD 1 0 = 0 ∨ (t.s ++ tailT r).getD 1 0 = 32 ∨ (t.s ++ tailT r).getD 1 0 = m.getD 1 0) := by
 have hlen : 0 < t.s.length := List.length_pos_iff.2 h0
 have hget : ∀ i, i < t.s.length → t.s.getD i 0 = m.getD i 0 := fun i hi => by
  have := getD_take (m := m) hi
  rw [← ht] at this; exact this
 refine ⟨by rw [getD_app_lt hlen, hget 0 hlen], ?_⟩
 by_cases h1 : 1 < t.s.length
 ·right; right
  rw [getD_app_lt h1, hget 1 h1]
 ·have e : t.s.length = 1 := by omega
  rw [getD_app_ge (by omega), e]
  rw [e] at hr
  have := tail_one hr hfs
  rw [getD_drop] at this
  exact this
theorem tail_two {z : List UInt8} {ts : List TokP} (h : Chain z ts) (hfs : ∀ u ∈ ts, u.fs = false) :
  (tailT ts).getD 0 0 = 0 ∨ (tailT ts).getD 0 0 = 32 ∨ ((tailT ts).getD 0 0 = z.getD 0 0 ∧ ((tailT ts).getD 1 0 = 0 ∨ (tailT ts).getD 1 0 = 32 ∨ (tailT ts).getD 1 0 = z.getD 1 0)) := by
 cases h with
 | nil => exact .inl rfl
 | @cons _ m t r hm hf hk ht h0 hz hr =>
  right
  by_cases hs : t.sp = true
  ·left; show ((if t.sp then [32] else []) ++ t.s ++ tailT r).getD 0 0 = 32
   rw [hs]; rfl
  ·right
   rcases hz with e | e | e
   ·rw [hfs t List.mem_cons_self] at e; cases e
   ·exact absurd e hs
   ·subst e
    have := tok_two ht h0 hr (fun u hu => hfs u (List.mem_cons_of_mem _ hu))
    have hT : tailT (t :: r) = t.s ++ tailT r := by show (if t.sp then [32] else []) ++ t.s ++ tailT r = _; rw [if_neg hs, List.nil_append]
    rw [hT]
    exact this
theorem tok_fresh {m : List UInt8} {t : TokP} {r : List TokP} (hm : m ≠ []) (hf : Fresh m) (ht : t.s = m.take t.s.length) (h0 : t.s ≠ []) (hr : Chain (m.drop t.s.length) r) (hfs : ∀ u ∈ r, u.fs = false) : Fresh (t.s ++ tailT r) := by
 obtain ⟨e0, e1⟩ := tok_two ht h0 hr hfs
 have two : ∀ a b : UInt8, a ≠ 0 → b ≠ 0 → b ≠ 32 → Lib.hasPrefix m [a, b] = false → Lib.hasPrefix (t.s ++ tailT r) [a, b] = false := fun a b ha hb hb2 h => by
  cases hp : Lib.hasPrefix (t.s ++ tailT r) [a, b] with
  | false => rfl
  | true =>
   have hz : ∀ c ∈ [a, b], c ≠ 0 := by intro c hc; rcases List.mem_cons.1 hc with rfl | hc; exact ha; rcases List.mem_cons.1 hc with rfl | hc; exact hb; cases hc
   rw [pre_at hz] at hp
   have p0 := hp 0 (by simp)
   have p1 := hp 1 (by simp)
   rw [at_bstr] at p0 p1
   simp at p0 p1
   have : Lib.hasPrefix m [a, b] = true := by
    rw [pre_at hz]
    intro j hj
    rw [at_bstr]
    match j, hj with
    | 0, _ => rw [← e0]; simpa using p0
    | 1, _ =>
     have q1 : (t.s ++ tailT r).getD 1 0 = b := by simpa using p1
     rw [q1] at e1
     rcases e1 with e | e | e
     ·exact absurd e hb
     ·exact absurd e hb2
     ·rw [← e]; rfl
   rw [this] at h; cases h
 refine ⟨two 47 47 (by decide) (by decide) (by decide) hf.1, two 47 42 (by decide) (by decide) (by decide) hf.2.1, ?_⟩
 have h3 := hf.2.2
 have hh : ∀ l : List UInt8, l.headD 0 = l.getD 0 0 := fun l => by cases l <;> rfl
 rw [hh] at h3 ⊢
 rw [e0]; exact h3
theorem skip_tail (N : Int) {z : List UInt8} {ts : List TokP} (h : Chain z ts) (hfs : ∀ u ∈ ts, u.fs = false) (k : Nat) (hk : (tailT ts).length < k) (st : St) (ho : st.op = false) (hs : st.sp = false) :
  (ts = [] ∧ skipP N k (tailT ts) st = ([], st)) ∨ (∃ u r, ts = u :: r ∧ skipP N k (tailT ts) st = (u.s ++ tailT r, { st with sp := u.sp })) := by
 cases h with
 | nil => left; exact ⟨rfl, skipP_nil N k st⟩
 | @cons _ m t r hm hf hkk ht h0 hz hr =>
  right
  refine ⟨t, r, rfl, ?_⟩
  have hfr := tok_fresh hm hf ht h0 hr (fun u hu => hfs u (List.mem_cons_of_mem _ hu))
  have hne : t.s ++ tailT r ≠ [] := by intro e; exact h0 (List.append_eq_nil_iff.1 e).1
  by_cases hsp : t.sp = true
  ·have hT : tailT (t :: r) = 32 :: (t.s ++ tailT r) := by show (if t.sp then [32] else []) ++ t.s ++ tailT r = _; rw [hsp]; rfl
   rw [hT] at hk ⊢
   rw [List.length_cons] at hk
   obtain ⟨k, rfl⟩ : ∃ k', k = k' + 1 + 1 := ⟨k - 2, by omega⟩
   rw [skipP, if_neg (by simp), if_neg (by rw [ho]; decide)]
   have n1 : Lib.hasPrefix (32 :: (t.s ++ tailT r)) [47, 47] = false := by unfold Lib.hasPrefix; simp [List.isPrefixOf]
   have n2 : Lib.hasPrefix (32 :: (t.s ++ tailT r)) [47, 42] = false := by unfold Lib.hasPrefix; simp [List.isPrefixOf]
   rw [if_neg (by rw [n1]; decide), if_neg (by rw [n2]; decide), if_pos (by rfl)]
   show skipP N (k + 1) (t.s ++ tailT r) { st with sp := true } = _
   rw [skipP_of_fresh N k _ { st with sp := true } hne hfr ho, hsp]
  ·have hT : tailT (t :: r) = t.s ++ tailT r := by show (if t.sp then [32] else []) ++ t.s ++ tailT r = _; rw [if_neg hsp, List.nil_append]
   have hsp : t.sp = false := by simpa using hsp
   rw [hT] at hk ⊢
   obtain ⟨k, rfl⟩ : ∃ k', k = k' + 1 := ⟨k - 1, by omega⟩
   rw [skipP_of_fresh N k _ st hne hfr ho, hsp]
   congr 1
   cases st
   simp only at hs
   subst hs; rfl
theorem relex (N : Int) : ∀ (ts : List TokP) (t : TokP) (z : List UInt8) (st : St), Chain z (t :: ts) → (∀ u ∈ ts, u.fs = false) → st.op = false →
  ∃ E : St, E.op = false ∧ toksL N (t.s ++ tailT ts) st = (⟨t.kind, t.s, N, st.sp, st.fs⟩ :: ts.map (fun u => ⟨u.kind, u.s, N, u.sp, false⟩), E) := by
 intro ts
 induction ts with
 | nil =>
  intro t z st h hfs ho
  cases h with
  | @cons _ m _ _ hm hf hk ht h0 hz hr =>
   have hlen : 0 < t.s.length := List.length_pos_iff.2 h0
   have hloc := nextP_loc m (t.s ++ tailT []) t.s.length t.kind hm hk (by omega) (fun j hj => by rw [at_bstr, at_bstr, getD_app_lt hj]; have := getD_take (m := m) hj; rw [← ht] at this; exact this) (by simp) (.inl (by rw [at_bstr, getD_app_ge (Nat.le_refl _)]; simp [tailT]))
   have hne : t.s ++ tailT [] ≠ [] := by intro e; exact h0 (List.append_eq_nil_iff.1 e).1
   refine ⟨{ st with sp := false, fs := false }, ho, ?_⟩
   ·rw [toksL_cons N _ st hne (by rw [hloc]; simp only; omega), hloc]
    unfold after
    rw [hloc]
    simp only
    rw [List.drop_left, List.take_left]
    show (_ :: (toksL N (skipP N _ [] _).1 (skipP N _ [] _).2).1, (toksL N (skipP N _ [] _).1 (skipP N _ [] _).2).2) = _
    rw [skipP_nil, toksL_nil]
    rfl
 | cons u ts ih =>
  intro t z st h hfs ho
  cases h with
  | @cons _ m _ _ hm hf hk ht h0 hz hr =>
   have hlen : 0 < t.s.length := List.length_pos_iff.2 h0
   have h2 := tail_two hr hfs
   have hloc := nextP_loc m (t.s ++ tailT (u :: ts)) t.s.length t.kind hm hk (by omega) (fun j hj => by rw [at_bstr, at_bstr, getD_app_lt hj]; have := getD_take (m := m) hj; rw [← ht] at this; exact this) (by simp) (by
    unfold Near
    rw [at_bstr, at_bstr, at_bstr, at_bstr, getD_app_ge (Nat.le_refl _), getD_app_ge (by omega), Nat.sub_self, show t.s.length + 1 - t.s.length = 1 by omega]
    rw [getD_drop, getD_drop, Nat.add_zero] at h2
    exact h2)
   have hne : t.s ++ tailT (u :: ts) ≠ [] := by intro e; exact h0 (List.append_eq_nil_iff.1 e).1
   have hsk := skip_tail N hr hfs ((tailT (u :: ts)).length + 1) (by omega) { st with sp := false, fs := false } ho rfl
   rcases hsk with ⟨e, _⟩ | ⟨u', r', e, hsk⟩
   ·cases e
   ·cases e
    obtain ⟨E, hE, hih⟩ := ih u (m.drop t.s.length) { op := st.op, fr := st.fr, sp := u.sp, fs := false } hr (fun v hv => hfs v (List.mem_cons_of_mem _ hv)) ho
    refine ⟨E, hE, ?_⟩
    rw [toksL_cons N _ st hne (by rw [hloc]; simp only; omega), hloc]
    unfold after
    rw [hloc]
    simp only
    rw [List.drop_left, List.take_left, hsk]
    simp only
    rw [hih]
    rfl
theorem relex_line (N : Int) (t : TokP) (ts : List TokP) (z : List UInt8) (st : St) (h : Chain z (t :: ts)) (hfs : ∀ u ∈ ts, u.fs = false) (ho : st.op = false) :
  ∃ E : St, E.op = false ∧ lineP N (t.s ++ tailT ts) st = (⟨t.kind, t.s, N, false, true⟩ :: ts.map (fun u => ⟨u.kind, u.s, N, u.sp, false⟩), E) := by
 have h' := h
 cases h' with
 | @cons _ m _ _ hm hf hk ht h0 hz hr =>
  have hfr := tok_fresh hm hf ht h0 hr hfs
  have hne : t.s ++ tailT ts ≠ [] := by intro e; exact h0 (List.append_eq_nil_iff.1 e).1
  unfold lineP begin_
  rw [if_neg (by rw [ho]; decide), skipP_of_fresh N _ _ { st with sp := false, fs := true } hne hfr ho]
  exact relex N ts t z { st with sp := false, fs := true } h hfs ho
end Go.Proofs.YtcbfbefpbjmglaaDoorT
namespace Go.Proofs.YtcbfbefpbjmglaaDoor.Mac
open Go.RowKit Go.Lib Go.Proofs.YtcbfbefpbjmglaaDoor.PA Go.Proofs.YtcbfbefpbjmglaaDoorT Go.Proofs.YtcbfbefpbjmglaaDoorW.PrintWords Go.Proofs.YtcbfbefpbjmglaaDoorW.PrintLast Go.Proofs.YtcbfbefpbjmglaaDoorW.PrintMore
set_option linter.unusedVariables false
set_option linter.unusedSimpArgs false
theorem nextP_one (m : List UInt8) (h : (nextP (bstr m)).1 = 1) : isL (m.getD 0 0) = true ∧ nextP (bstr m) = (1, upto (fun i => isW (at_ (bstr m) i)) (bstr m).size 0) := by
 unfold nextP at h ⊢
 by_cases h0 : isL (at_ (bstr m) 0) = true
 ·rw [if_pos h0]
  exact ⟨h0, rfl⟩
 ·rw [if_neg h0] at h
  split at h
  ·cases h
  ·split at h
   ·cases h
   ·split at h
    ·cases h
    ·exfalso
     unfold sgn at h
     split at h <;> cases h
theorem name_word (s : ByteArray) (h : nameR s = true) : isL (s.data.toList.getD 0 0) = true ∧ s.data.toList ≠ [] ∧ ∀ j, j < s.data.toList.length → isW (s.data.toList.getD j 0) = true := by
 unfold nameR at h
 rcases one_cases s with ⟨t, h1, h2, h3, h4⟩ | ⟨h1, _⟩
 ·rw [h1] at h
  have hk : t.kind = 1 := by simpa using h
  obtain ⟨e1, e2, _⟩ := lexP_toks 1 _ h2
  have hmem : t ∈ (lineP 1 s.data.toList st0).1 := by rw [← e1, h3]; simp
  obtain ⟨m, hm, hf, hn0, hs, hkk⟩ := lineP_good 1 _ st0 t hmem (e2 t hmem)
  rw [hk] at hkk
  obtain ⟨hl, hN⟩ := nextP_one m hkk.symm
  have hle := nextP_le m hm
  rw [← h4, hs]
  generalize hn : (nextP (bstr m)).2 = n at *
  have hnu : n = upto (fun i => isW (at_ (bstr m) i)) (bstr m).size 0 := by rw [← hn, hN]
  have hget : ∀ j, j < n → (m.take n).getD j 0 = m.getD j 0 := fun j hj => getD_take hj
  refine ⟨by rw [hget 0 (by omega)]; exact hl, ?_, fun j hj => ?_⟩
  ·intro e
   have := congrArg List.length e
   rw [List.length_take] at this
   simp at this
   rcases this with h | h
   ·omega
   ·exact hm h
  ·rw [List.length_take] at hj
   rw [hget j (by omega)]
   exact upto_on (fun i => isW (at_ (bstr m) i)) (bstr m).size 0 j (Nat.zero_le _) (by rw [← hnu]; omega)
 ·rw [h1] at h; cases h
theorem name_next (s rest : List UInt8) (h1 : isL (s.getD 0 0) = true) (h0 : s ≠ []) (hw : ∀ j, j < s.length → isW (s.getD j 0) = true) (hr : isW (rest.getD 0 0) = false) : nextP (bstr (s ++ rest)) = (1, s.length) := by
 have hlen : 0 < s.length := List.length_pos_iff.2 h0
 unfold nextP
 have e0 : at_ (bstr (s ++ rest)) 0 = s.getD 0 0 := by rw [at_bstr]; exact getD_app_lt hlen
 rw [e0, if_pos h1]
 congr 1
 refine upto_is _ _ _ _ (Nat.zero_le _) (by rw [bstr_size, List.length_append]; omega) (fun j _ hj => ?_) (fun hlt => ?_)
 ·rw [at_bstr, getD_app_lt hj]; exact hw j hj
 ·rw [at_bstr, getD_app_ge (Nat.le_refl _), Nat.sub_self]; exact hr
theorem isL_ne {c : UInt8} (h : isL c = true) : c ≠ 47 ∧ isB c = false := by
 unfold isL at h
 unfold isB
 refine ⟨fun e => by subst e; revert h; decide, ?_⟩
 cases hb : (c == 32 || c == 9 || c == 11 || c == 12) with
 | false => rfl
 | true =>
  simp only [Bool.or_eq_true, beq_iff_eq] at hb
  rcases hb with ((rfl | rfl) | rfl) | rfl <;> revert h <;> decide
theorem fresh_of (c : UInt8) (rest : List UInt8) (h1 : c ≠ 47) (h2 : isB c = false) : Fresh (c :: rest) := by
 have : (47 == c) = false := beq_eq_false_iff_ne.2 (fun e => h1 e.symm)
 refine ⟨?_, ?_, h2⟩
 ·unfold Lib.hasPrefix; simp [List.isPrefixOf, this]
 ·unfold Lib.hasPrefix; simp [List.isPrefixOf, this]
theorem name_fresh (s rest : List UInt8) (h1 : isL (s.getD 0 0) = true) (h0 : s ≠ []) : Fresh (s ++ rest) := by
 cases s with
 | nil => exact absurd rfl h0
 | cons c s =>
  obtain ⟨a, b⟩ := isL_ne h1
  exact fresh_of c (s ++ rest) a b
theorem next_open (rest : List UInt8) : nextP (bstr (40 :: rest)) = (5, 1) := by
 unfold nextP; rw [show at_ (bstr (40 :: rest)) 0 = 40 from rfl, if_neg (by decide), if_neg (by rw [show isD 40 = false by decide, show ((40 : UInt8) == 46) = false by decide]; simp), if_neg (by decide), if_neg (by decide)]; rfl
theorem next_close (rest : List UInt8) : nextP (bstr (41 :: rest)) = (5, 1) := by
 unfold nextP; rw [show at_ (bstr (41 :: rest)) 0 = 41 from rfl, if_neg (by decide), if_neg (by rw [show isD 41 = false by decide, show ((41 : UInt8) == 46) = false by decide]; simp), if_neg (by decide), if_neg (by decide)]; rfl
theorem next_comma (rest : List UInt8) : nextP (bstr (44 :: rest)) = (5, 1) := by
 unfold nextP; rw [show at_ (bstr (44 :: rest)) 0 = 44 from rfl, if_neg (by decide), if_neg (by rw [show isD 44 = false by decide, show ((44 : UInt8) == 46) = false by decide]; simp), if_neg (by decide), if_neg (by decide)]; rfl
theorem next_dots (rest : List UInt8) : nextP (bstr (46 :: 46 :: 46 :: rest)) = (5, 3) := by
 unfold nextP; rw [show at_ (bstr (46 :: 46 :: 46 :: rest)) 0 = 46 from rfl, show at_ (bstr (46 :: 46 :: 46 :: rest)) 1 = 46 from rfl, if_neg (by decide), if_neg (by rw [show isD 46 = false by decide]; simp), if_neg (by decide), if_neg (by decide)]; rfl
def closeT : TokP := ⟨5, [41], 0, false, false⟩
def commaT : TokP := ⟨5, [44], 0, false, false⟩
def openT : TokP := ⟨5, [40], 0, false, false⟩
def ptk (more : Bool) : Bool → List (List UInt8) → List TokP
 | f, [] => if more then [⟨5, [46, 46, 46], 0, !f, false⟩, closeT] else [closeT]
 | f, p :: r => ⟨1, p, 0, !f, false⟩ :: (if r.isEmpty && !more then [closeT] else commaT :: ptk more false r)
def bodyT : List TokP → List TokP
 | [] => []
 | t :: r => { t with sp := true, fs := false } :: r
theorem chain_body {L : List TokP} {z : List UInt8} (h : Chain z L) (z' : List UInt8) : Chain z' (bodyT L) := by
 cases h with
 | nil => exact Chain.nil z'
 | cons hm hf hk ht h0 hz hr => exact Chain.cons hm hf hk ht h0 (.inr (.inl rfl)) hr
def NameL (p : List UInt8) : Prop := isL (p.getD 0 0) = true ∧ p ≠ [] ∧ ∀ j, j < p.length → isW (p.getD j 0) = true
theorem chain_close {B : List TokP} (hB : ∀ z, Chain z B) : Chain (41 :: tailT B) (closeT :: B) :=
 Chain.cons (m := 41 :: tailT B) (by simp) (fresh_of 41 _ (by decide) (by decide)) (next_close _) rfl (by simp [closeT]) (.inr (.inr rfl)) (hB _)
theorem chain_ptk (more : Bool) {B : List TokP} (hB : ∀ z, Chain z B) : ∀ (ps : List (List UInt8)) (f : Bool) (z : List UInt8), (∀ p ∈ ps, NameL p) → (f = true → z = tailT (ptk more f ps ++ B)) → (f = false → ps ≠ [] ∨ more = true) → Chain z (ptk more f ps ++ B)
 | [], f, z, hp, hz, hf => by
  cases more with
  | true =>
   show Chain z (⟨5, [46, 46, 46], 0, !f, false⟩ :: closeT :: B)
   refine Chain.cons (m := 46 :: 46 :: 46 :: 41 :: tailT B) (by simp) (fresh_of 46 _ (by decide) (by decide)) (next_dots _) rfl (by simp) ?_ (chain_close hB)
   cases f with
   | false => exact .inr (.inl rfl)
   | true => exact .inr (.inr (hz rfl))
  | false =>
   cases f with
   | false => exact absurd (hf rfl) (by simp)
   | true =>
    rw [hz rfl]
    exact chain_close hB
 | p :: r, f, z, hp, hz, hf => by
  obtain ⟨n1, n2, n3⟩ := hp p List.mem_cons_self
  have hf' : ∀ m : List UInt8, (f = true → z = m) → (false = true ∨ (!f) = true ∨ z = m) := fun m h => by
   cases f with
   | false => exact .inr (.inl rfl)
   | true => exact .inr (.inr (h rfl))
  rw [ptk] at hz ⊢
  cases hr : (r.isEmpty && !more) with
  | true =>
   rw [hr, if_pos rfl] at hz
   rw [if_pos rfl]
   have ht : tailT ([closeT] ++ B) = 41 :: tailT B := rfl
   refine Chain.cons (m := p ++ 41 :: tailT B) (by simp) (name_fresh p _ n1 n2) (name_next p _ n1 n2 n3 (by show isW 41 = false; decide)) (by simp) n2 (hf' _ fun h => ?_) ?_
   ·have := hz h
    rw [this]
    subst h
    rfl
   ·rw [List.drop_left]
    exact chain_close hB
  | false =>
   rw [hr, if_neg (by decide)] at hz
   rw [if_neg (by decide)]
   have hne : r ≠ [] ∨ more = true := by
    cases r with
    | nil => right; simpa using hr
    | cons a b => left; simp
   refine Chain.cons (m := p ++ 44 :: tailT (ptk more false r ++ B)) (by simp) (name_fresh p _ n1 n2) (name_next p _ n1 n2 n3 (by show isW 44 = false; decide)) (by simp) n2 (hf' _ fun h => ?_) ?_
   ·have := hz h
    rw [this]
    subst h
    rfl
   ·rw [List.drop_left]
    refine Chain.cons (m := 44 :: tailT (ptk more false r ++ B)) (by simp) (fresh_of 44 _ (by decide) (by decide)) (next_comma _) rfl (by simp [commaT]) (.inr (.inr rfl)) ?_
    exact chain_ptk more hB r false _ (fun q hq => hp q (List.mem_cons_of_mem _ hq)) (fun h => by cases h) (fun _ => hne)
end Go.Proofs.YtcbfbefpbjmglaaDoor.Mac
namespace Go.Proofs.YtcbfbefpbjmglaaDoor.Mac
open Go.RowKit Go.Lib Go.Proofs.YtcbfbefpbjmglaaDoor.PA Go.Proofs.YtcbfbefpbjmglaaDoorT Go.Proofs.YtcbfbefpbjmglaaDoorW.PrintWords Go.Proofs.YtcbfbefpbjmglaaDoorW.PrintLast Go.Proofs.YtcbfbefpbjmglaaDoorW.PrintMore
set_option linter.unusedVariables false
set_option linter.unusedSimpArgs false
theorem chain_ne {z : List UInt8} {ts : List TokP} (h : Chain z ts) : ∀ t ∈ ts, t.s ≠ [] := by
 induction h with
 | nil => intro t ht; cases ht
 | cons hm hf hk ht h0 hz hr ih =>
  intro t ht'
  rcases List.mem_cons.1 ht' with rfl | ht'
  ·exact h0
  ·exact ih t ht'
def φ (u : TokP) : TokP := ⟨u.kind, u.s, 1, u.sp, false⟩
theorem lex_show (n : List UInt8) (hn : NameL n) (ts : List TokP) (hc : Chain (tailT ts) ts) (hfs : ∀ u ∈ ts, u.fs = false) (hnw : isW ((tailT ts).getD 0 0) = false) (hlen : ts.length < 20000) :
  lexP [(1, n ++ tailT ts)] = (⟨1, n, 1, false, true⟩ :: ts.map φ, 0, 0) := by
 obtain ⟨n1, n2, n3⟩ := hn
 have hch : Chain (n ++ tailT ts) ((⟨1, n, 0, false, false⟩ : TokP) :: ts) :=
  Chain.cons (m := n ++ tailT ts) (by simp [n2]) (name_fresh n _ n1 n2) (name_next n _ n1 n2 n3 hnw) (by simp) n2 (.inr (.inr rfl)) (by rw [List.drop_left]; exact hc)
 obtain ⟨E, hE, hl⟩ := relex_line 1 ⟨1, n, 0, false, false⟩ ts _ st0 hch hfs rfl
 have hne : ∀ t ∈ ((⟨1, n, 1, false, true⟩ : TokP) :: ts.map φ), t.s ≠ [] := by
  intro t ht
  rcases List.mem_cons.1 ht with rfl | ht
  ·exact n2
  ·obtain ⟨u, hu, rfl⟩ := List.mem_map.1 ht
   exact chain_ne hc u hu
 have hfd := foldT_all ((⟨1, n, 1, false, true⟩ : TokP) :: ts.map φ) [] hne (by simp; omega)
 have hu : lexP [(1, n ++ tailT ts)] = if (foldT [] (lineP 1 (n ++ tailT ts) st0).1).2 = 0 then (if (lineP 1 (n ++ tailT ts) st0).2.op then ([], 20, (lineP 1 (n ++ tailT ts) st0).2.fr) else ((foldT [] (lineP 1 (n ++ tailT ts) st0).1).1, 0, 0)) else ([], (foldT [] (lineP 1 (n ++ tailT ts) st0).1).2, 1) := rfl
 have hl' : lineP 1 (n ++ tailT ts) st0 = ((⟨1, n, 1, false, true⟩ : TokP) :: ts.map φ, E) := hl
 rw [hu, hl', hfd, if_pos rfl, hE, if_neg (by decide)]
 rfl
theorem toksL_nofs (line : Int) : ∀ (j : Nat) (m : List UInt8) (st : St), m.length ≤ j → st.fs = false → ∀ t ∈ (toksL line m st).1, t.fs = false
 | 0, m, st, hj, hs, t, ht => by
  rw [List.eq_nil_of_length_eq_zero (Nat.le_zero.1 hj), toksL_nil] at ht; cases ht
 | j + 1, m, st, hj, hs, t, ht => by
  by_cases h0 : m = []
  ·rw [h0, toksL_nil] at ht; cases ht
  ·by_cases hn : (nextP (bstr m)).2 = 0
   ·rw [toksL_zero _ _ _ h0 hn] at ht
    rw [List.mem_singleton.1 ht]; exact hs
   ·rw [toksL_cons _ _ _ h0 hn] at ht
    rcases List.mem_cons.1 ht with rfl | ht
    ·exact hs
    ·have := after_lt line m st h0 hn
     exact toksL_nofs line j _ _ (by omega) (by unfold after; rw [skipP_fs]) t ht
theorem line_tail (S : List UInt8) (t : TokP) (r : List TokP) (h : (lineP 1 S st0).1 = t :: r) : t.sp = t.sp ∧ ∀ u ∈ r, u.fs = false := by
 refine ⟨rfl, ?_⟩
 unfold lineP at h
 generalize (skipP 1 (S.length + 1) S (begin_ st0)).1 = m at h
 generalize (skipP 1 (S.length + 1) S (begin_ st0)).2 = st at h
 by_cases h0 : m = []
 ·rw [h0, toksL_nil] at h; cases h
 ·by_cases hn : (nextP (bstr m)).2 = 0
  ·rw [toksL_zero _ _ _ h0 hn] at h
   obtain ⟨_, rfl⟩ := List.cons.inj h
   intro u hu; cases hu
  ·rw [toksL_cons _ _ _ h0 hn] at h
   obtain ⟨_, rfl⟩ := List.cons.inj h
   exact toksL_nofs 1 _ _ _ (Nat.le_refl _) (by unfold after; rw [skipP_fs])
theorem tokEq_eq {a b : S48} (h : tokEq a b = true) : a = b := by
 unfold tokEq at h
 simp only [Bool.and_eq_true, beq_iff_eq] at h
 obtain ⟨h0, h1, h2, h3, h4, h5⟩ := h
 cases a; cases b
 simp only [S48.mk.injEq]
 exact ⟨h0, bytes_ext h1, bytes_ext h2, h3, h4, h5⟩
theorem toksEq_eq : ∀ {a b : List S48}, toksEq a b = true → a = b
 | [], [], _ => rfl
 | x :: l, y :: r, h => by
  rw [toksEq, Bool.and_eq_true] at h
  rw [tokEq_eq h.1, toksEq_eq h.2]
 | [], _ :: _, h => by cases h
 | _ :: _, [], h => by cases h
theorem bareFrom_φ : ∀ (i : Nat) (r : List TokP), bareFrom i (r.map fun u => toT (φ u)) = bareFrom i (r.map toT)
 | _, [] => rfl
 | i, u :: r => by
  rw [List.map_cons, List.map_cons, bareFrom, bareFrom, bareFrom_φ (i + 1) r]
  rfl
theorem bare_body (L : List TokP) : bareP ((bodyT L).map fun u => toT (φ u)) = bareP (L.map toT) := by
 cases L with
 | nil => rfl
 | cons t r =>
  show bareFrom 0 _ = bareFrom 0 _
  rw [bodyT, List.map_cons, List.map_cons, bareFrom, bareFrom, bareFrom_φ]
  congr 1
  unfold bareTok toT φ
  simp
theorem spell_tail : ∀ (r : List TokP) (i : Nat), spellD (i + 1) (bareFrom (i + 1) (r.map toT)) = tailT r
 | [], i => rfl
 | u :: r, i => by
  rw [List.map_cons, bareFrom, spellD, spell_tail r (i + 1), tailT]
  congr 1
  unfold Sp.sepOf bareTok toT
  simp
  rfl
def headT : List TokP → List UInt8
 | [] => []
 | t :: r => t.s ++ tailT r
theorem spell_body (L : List TokP) : spellD 0 (bareP (L.map toT)) = headT L := by
 cases L with
 | nil => rfl
 | cons t r =>
  show spellD 0 (bareFrom 0 _) = _
  rw [List.map_cons, bareFrom, spellD, spell_tail]
  show [] ++ t.s ++ tailT r = _
  rw [List.nil_append]
  rfl
def dotsB : List UInt8 := [46, 46, 46]
def itemsL (more : Bool) (ps : List (List UInt8)) : List (List UInt8) := ps ++ (if more then [dotsB] else [])
theorem tailT_app : ∀ a b : List TokP, tailT (a ++ b) = tailT a ++ tailT b
 | [], b => rfl
 | u :: a, b => by rw [List.cons_append, tailT, tailT, tailT_app a b]; simp
theorem join_two (x y sep : List UInt8) (r : List (List UInt8)) : Lib.join (x :: y :: r) sep = x ++ (sep ++ Lib.join (y :: r) sep) := by
 rw [Lib.join_cons, Lib.join_cons]
 unfold Lib.joinTail
 simp
theorem tail_ptk (more : Bool) : ∀ (ps : List (List UInt8)) (f : Bool), (f = false → ps ≠ [] ∨ more = true) → tailT (ptk more f ps) = (if f then [] else [32]) ++ (Lib.join (itemsL more ps) [44, 32] ++ [41])
 | [], f, hf => by
  cases more with
  | true => cases f <;> rfl
  | false =>
   cases f with
   | true => rfl
   | false => exact absurd (hf rfl) (by simp)
 | p :: r, f, hf => by
  have e1 : (if (!f) = true then ([32] : List UInt8) else []) = (if f then [] else [32]) := by cases f <;> rfl
  cases hr : (r.isEmpty && !more) with
  | true =>
   rw [show ptk more f (p :: r) = ⟨1, p, 0, !f, false⟩ :: [closeT] by rw [ptk, hr, if_pos rfl]]
   simp only [Bool.and_eq_true, List.isEmpty_iff, Bool.not_eq_true'] at hr
   obtain ⟨rfl, rfl⟩ := hr
   show (if (!f) = true then ([32] : List UInt8) else []) ++ p ++ [41] = _
   rw [e1]
   show _ = _ ++ (Lib.join [p] _ ++ [41])
   rw [Lib.join_one, List.append_assoc]
  | false =>
   rw [show ptk more f (p :: r) = ⟨1, p, 0, !f, false⟩ :: commaT :: ptk more false r by rw [ptk, hr, if_neg (by decide)]]
   have hne : r ≠ [] ∨ more = true := by
    cases r with
    | nil => right; simpa using hr
    | cons a b => left; simp
   have ih := tail_ptk more r false (fun _ => hne)
   show (if (!f) = true then ([32] : List UInt8) else []) ++ p ++ ([44] ++ tailT (ptk more false r)) = _
   rw [e1, ih]
   have hit : ∃ y q, itemsL more r = y :: q := by
    unfold itemsL
    cases r with
    | cons a b => exact ⟨_, _, rfl⟩
    | nil =>
     rcases hne with h | h
     ·exact absurd rfl h
     ·rw [h]; exact ⟨_, _, rfl⟩
   obtain ⟨y, q, hyq⟩ := hit
   have hit2 : itemsL more (p :: r) = p :: y :: q := by rw [← hyq]; rfl
   rw [hit2, join_two, hyq]
   simp
end Go.Proofs.YtcbfbefpbjmglaaDoor.Mac
