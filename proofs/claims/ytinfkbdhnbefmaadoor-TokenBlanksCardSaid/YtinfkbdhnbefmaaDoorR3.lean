import Derived.Test.YtinfkbdhnbefmaaDoorR2
namespace Go.Proofs.YtinfkbdhnbefmaaDoorT
open Go.RowKit Go.Lib
set_option linter.unusedVariables false
set_option linter.unusedSimpArgs false
/-! ### Tokens, spelt, are lexed to themselves -/
def tailT : List TokP → List UInt8
  | [] => []
  | u :: r => (if u.sp then [32] else []) ++ u.s ++ tailT r
theorem getD_app_lt {a b : List UInt8} {i : Nat} (h : i < a.length) : (a ++ b).getD i 0 = a.getD i 0 := by
  rw [List.getD_eq_getElem?_getD, List.getD_eq_getElem?_getD, List.getElem?_append_left h]
theorem getD_app_ge {a b : List UInt8} {i : Nat} (h : a.length ≤ i) : (a ++ b).getD i 0 = b.getD (i - a.length) 0 := by
  rw [List.getD_eq_getElem?_getD, List.getD_eq_getElem?_getD, List.getElem?_append_right h]
theorem getD_take {m : List UInt8} {n i : Nat} (h : i < n) : (m.take n).getD i 0 = m.getD i 0 := by
  rw [List.getD_eq_getElem?_getD, List.getD_eq_getElem?_getD, List.getElem?_take, if_pos h]
theorem getD_drop {m : List UInt8} {n i : Nat} : (m.drop n).getD i 0 = m.getD (n + i) 0 := by
  rw [List.getD_eq_getElem?_getD, List.getD_eq_getElem?_getD, List.getElem?_drop]
/-- The first byte behind a token. -/
theorem tail_one {z : List UInt8} {ts : List TokP} (h : Chain z ts) (hfs : ∀ u ∈ ts, u.fs = false) : (tailT ts).getD 0 0 = 0 ∨ (tailT ts).getD 0 0 = 32 ∨ (tailT ts).getD 0 0 = z.getD 0 0 := by
  cases h with
  | nil => exact .inl rfl
  | @cons _ m t r hm hf hk ht h0 hz hr =>
    right
    have hlen : 0 < t.s.length := List.length_pos_iff.2 h0
    rcases hz with e | e | e
    · rw [hfs t List.mem_cons_self] at e; cases e
    · left; show ((if t.sp then [32] else []) ++ t.s ++ tailT r).getD 0 0 = 32
      rw [e]; rfl
    · subst e
      by_cases hs : t.sp = true
      · left; show ((if t.sp then [32] else []) ++ t.s ++ tailT r).getD 0 0 = 32
        rw [hs]; rfl
      · right; show ((if t.sp then [32] else []) ++ t.s ++ tailT r).getD 0 0 = _
        rw [if_neg hs, List.nil_append, getD_app_lt hlen, ht, getD_take hlen]
/-- A token's first two bytes, with what is spelt behind it. -/
theorem tok_two {m : List UInt8} {t : TokP} {r : List TokP} (ht : t.s = m.take t.s.length) (h0 : t.s ≠ []) (hr : Chain (m.drop t.s.length) r) (hfs : ∀ u ∈ r, u.fs = false) :
    (t.s ++ tailT r).getD 0 0 = m.getD 0 0 ∧ ((t.s ++ tailT r).getD 1 0 = 0 ∨ (t.s ++ tailT r).getD 1 0 = 32 ∨ (t.s ++ tailT r).getD 1 0 = m.getD 1 0) := by
  have hlen : 0 < t.s.length := List.length_pos_iff.2 h0
  have hget : ∀ i, i < t.s.length → t.s.getD i 0 = m.getD i 0 := fun i hi => by
    have := getD_take (m := m) hi
    rw [← ht] at this; exact this
  refine ⟨by rw [getD_app_lt hlen, hget 0 hlen], ?_⟩
  by_cases h1 : 1 < t.s.length
  · right; right
    rw [getD_app_lt h1, hget 1 h1]
  · have e : t.s.length = 1 := by omega
    rw [getD_app_ge (by omega), e]
    rw [e] at hr
    have := tail_one hr hfs
    rw [getD_drop] at this
    exact this
theorem tail_two {z : List UInt8} {ts : List TokP} (h : Chain z ts) (hfs : ∀ u ∈ ts, u.fs = false) :
    (tailT ts).getD 0 0 = 0 ∨ (tailT ts).getD 0 0 = 32 ∨ ((tailT ts).getD 0 0 = z.getD 0 0 ∧ ((tailT ts).getD 1 0 = 0 ∨ (tailT ts).getD 1 0 = 32 ∨ (tailT ts).getD 1 0 = z.getD 1 0)) := by
  cases h with
  | nil => exact .inl rfl
  | @cons _ m t r hm hf hk ht h0 hz hr =>
    right
    by_cases hs : t.sp = true
    · left; show ((if t.sp then [32] else []) ++ t.s ++ tailT r).getD 0 0 = 32
      rw [hs]; rfl
    · right
      rcases hz with e | e | e
      · rw [hfs t List.mem_cons_self] at e; cases e
      · exact absurd e hs
      · subst e
        have := tok_two ht h0 hr (fun u hu => hfs u (List.mem_cons_of_mem _ hu))
        have hT : tailT (t :: r) = t.s ++ tailT r := by show (if t.sp then [32] else []) ++ t.s ++ tailT r = _; rw [if_neg hs, List.nil_append]
        rw [hT]
        exact this
theorem tok_fresh {m : List UInt8} {t : TokP} {r : List TokP} (hm : m ≠ []) (hf : Fresh m) (ht : t.s = m.take t.s.length) (h0 : t.s ≠ []) (hr : Chain (m.drop t.s.length) r) (hfs : ∀ u ∈ r, u.fs = false) : Fresh (t.s ++ tailT r) := by
  obtain ⟨e0, e1⟩ := tok_two ht h0 hr hfs
  have two : ∀ a b : UInt8, a ≠ 0 → b ≠ 0 → b ≠ 32 → Lib.hasPrefix m [a, b] = false → Lib.hasPrefix (t.s ++ tailT r) [a, b] = false := fun a b ha hb hb2 h => by
    cases hp : Lib.hasPrefix (t.s ++ tailT r) [a, b] with
    | false => rfl
    | true =>
      have hz : ∀ c ∈ [a, b], c ≠ 0 := by intro c hc; rcases List.mem_cons.1 hc with rfl | hc; exact ha; rcases List.mem_cons.1 hc with rfl | hc; exact hb; cases hc
      rw [pre_at hz] at hp
      have p0 := hp 0 (by simp)
      have p1 := hp 1 (by simp)
      rw [at_bstr] at p0 p1
      simp at p0 p1
      have : Lib.hasPrefix m [a, b] = true := by
        rw [pre_at hz]
        intro j hj
        rw [at_bstr]
        match j, hj with
        | 0, _ => rw [← e0]; simpa using p0
        | 1, _ =>
          have q1 : (t.s ++ tailT r).getD 1 0 = b := by simpa using p1
          rw [q1] at e1
          rcases e1 with e | e | e
          · exact absurd e hb
          · exact absurd e hb2
          · rw [← e]; rfl
      rw [this] at h; cases h
  refine ⟨two 47 47 (by decide) (by decide) (by decide) hf.1, two 47 42 (by decide) (by decide) (by decide) hf.2.1, ?_⟩
  have h3 := hf.2.2
  have hh : ∀ l : List UInt8, l.headD 0 = l.getD 0 0 := fun l => by cases l <;> rfl
  rw [hh] at h3 ⊢
  rw [e0]; exact h3
theorem skip_tail (N : Int) {z : List UInt8} {ts : List TokP} (h : Chain z ts) (hfs : ∀ u ∈ ts, u.fs = false) (k : Nat) (hk : (tailT ts).length < k) (st : St) (ho : st.op = false) (hs : st.sp = false) :
    (ts = [] ∧ skipP N k (tailT ts) st = ([], st)) ∨ (∃ u r, ts = u :: r ∧ skipP N k (tailT ts) st = (u.s ++ tailT r, { st with sp := u.sp })) := by
  cases h with
  | nil => left; exact ⟨rfl, skipP_nil N k st⟩
  | @cons _ m t r hm hf hkk ht h0 hz hr =>
    right
    refine ⟨t, r, rfl, ?_⟩
    have hfr := tok_fresh hm hf ht h0 hr (fun u hu => hfs u (List.mem_cons_of_mem _ hu))
    have hne : t.s ++ tailT r ≠ [] := by intro e; exact h0 (List.append_eq_nil_iff.1 e).1
    by_cases hsp : t.sp = true
    · have hT : tailT (t :: r) = 32 :: (t.s ++ tailT r) := by show (if t.sp then [32] else []) ++ t.s ++ tailT r = _; rw [hsp]; rfl
      rw [hT] at hk ⊢
      rw [List.length_cons] at hk
      obtain ⟨k, rfl⟩ : ∃ k', k = k' + 1 + 1 := ⟨k - 2, by omega⟩
      rw [skipP, if_neg (by simp), if_neg (by rw [ho]; decide)]
      have n1 : Lib.hasPrefix (32 :: (t.s ++ tailT r)) [47, 47] = false := by unfold Lib.hasPrefix; simp [List.isPrefixOf]
      have n2 : Lib.hasPrefix (32 :: (t.s ++ tailT r)) [47, 42] = false := by unfold Lib.hasPrefix; simp [List.isPrefixOf]
      rw [if_neg (by rw [n1]; decide), if_neg (by rw [n2]; decide), if_pos (by rfl)]
      show skipP N (k + 1) (t.s ++ tailT r) { st with sp := true } = _
      rw [skipP_of_fresh N k _ { st with sp := true } hne hfr ho, hsp]
    · have hT : tailT (t :: r) = t.s ++ tailT r := by show (if t.sp then [32] else []) ++ t.s ++ tailT r = _; rw [if_neg hsp, List.nil_append]
      have hsp : t.sp = false := by simpa using hsp
      rw [hT] at hk ⊢
      obtain ⟨k, rfl⟩ : ∃ k', k = k' + 1 := ⟨k - 1, by omega⟩
      rw [skipP_of_fresh N k _ st hne hfr ho, hsp]
      congr 1
      cases st
      simp only at hs
      subst hs; rfl
/-- A line that was spelt, lexed once more. -/
theorem relex (N : Int) : ∀ (ts : List TokP) (t : TokP) (z : List UInt8) (st : St), Chain z (t :: ts) → (∀ u ∈ ts, u.fs = false) → st.op = false →
    ∃ E : St, E.op = false ∧ toksL N (t.s ++ tailT ts) st = (⟨t.kind, t.s, N, st.sp, st.fs⟩ :: ts.map (fun u => ⟨u.kind, u.s, N, u.sp, false⟩), E) := by
  intro ts
  induction ts with
  | nil =>
    intro t z st h hfs ho
    cases h with
    | @cons _ m _ _ hm hf hk ht h0 hz hr =>
      have hlen : 0 < t.s.length := List.length_pos_iff.2 h0
      have hloc := nextP_loc m (t.s ++ tailT []) t.s.length t.kind hm hk (by omega) (fun j hj => by rw [at_bstr, at_bstr, getD_app_lt hj]; have := getD_take (m := m) hj; rw [← ht] at this; exact this) (by simp) (.inl (by rw [at_bstr, getD_app_ge (Nat.le_refl _)]; simp [tailT]))
      have hne : t.s ++ tailT [] ≠ [] := by intro e; exact h0 (List.append_eq_nil_iff.1 e).1
      refine ⟨{ st with sp := false, fs := false }, ho, ?_⟩
      · rw [toksL_cons N _ st hne (by rw [hloc]; simp only; omega), hloc]
        unfold after
        rw [hloc]
        simp only
        rw [List.drop_left, List.take_left]
        show (_ :: (toksL N (skipP N _ [] _).1 (skipP N _ [] _).2).1, (toksL N (skipP N _ [] _).1 (skipP N _ [] _).2).2) = _
        rw [skipP_nil, toksL_nil]
        rfl
  | cons u ts ih =>
    intro t z st h hfs ho
    cases h with
    | @cons _ m _ _ hm hf hk ht h0 hz hr =>
      have hlen : 0 < t.s.length := List.length_pos_iff.2 h0
      have h2 := tail_two hr hfs
      have hloc := nextP_loc m (t.s ++ tailT (u :: ts)) t.s.length t.kind hm hk (by omega) (fun j hj => by rw [at_bstr, at_bstr, getD_app_lt hj]; have := getD_take (m := m) hj; rw [← ht] at this; exact this) (by simp) (by
        unfold Near
        rw [at_bstr, at_bstr, at_bstr, at_bstr, getD_app_ge (Nat.le_refl _), getD_app_ge (by omega), Nat.sub_self, show t.s.length + 1 - t.s.length = 1 by omega]
        rw [getD_drop, getD_drop, Nat.add_zero] at h2
        exact h2)
      have hne : t.s ++ tailT (u :: ts) ≠ [] := by intro e; exact h0 (List.append_eq_nil_iff.1 e).1
      have hsk := skip_tail N hr hfs ((tailT (u :: ts)).length + 1) (by omega) { st with sp := false, fs := false } ho rfl
      rcases hsk with ⟨e, _⟩ | ⟨u', r', e, hsk⟩
      · cases e
      · cases e
        obtain ⟨E, hE, hih⟩ := ih u (m.drop t.s.length) { op := st.op, fr := st.fr, sp := u.sp, fs := false } hr (fun v hv => hfs v (List.mem_cons_of_mem _ hv)) ho
        refine ⟨E, hE, ?_⟩
        rw [toksL_cons N _ st hne (by rw [hloc]; simp only; omega), hloc]
        unfold after
        rw [hloc]
        simp only
        rw [List.drop_left, List.take_left, hsk]
        simp only
        rw [hih]
        rfl
theorem relex_line (N : Int) (t : TokP) (ts : List TokP) (z : List UInt8) (st : St) (h : Chain z (t :: ts)) (hfs : ∀ u ∈ ts, u.fs = false) (ho : st.op = false) :
    ∃ E : St, E.op = false ∧ lineP N (t.s ++ tailT ts) st = (⟨t.kind, t.s, N, false, true⟩ :: ts.map (fun u => ⟨u.kind, u.s, N, u.sp, false⟩), E) := by
  have h' := h
  cases h' with
  | @cons _ m _ _ hm hf hk ht h0 hz hr =>
    have hfr := tok_fresh hm hf ht h0 hr hfs
    have hne : t.s ++ tailT ts ≠ [] := by intro e; exact h0 (List.append_eq_nil_iff.1 e).1
    unfold lineP begin_
    rw [if_neg (by rw [ho]; decide), skipP_of_fresh N _ _ { st with sp := false, fs := true } hne hfr ho]
    exact relex N ts t z { st with sp := false, fs := true } h hfs ho
theorem chain_app {z : List UInt8} {b : List TokP} : ∀ {a : List TokP}, Chain z (a ++ b) → Chain z a ∧ ∃ z', Chain z' b := by
  intro a
  induction a generalizing z with
  | nil => intro h; exact ⟨Chain.nil z, z, h⟩
  | cons t a ih =>
    intro h
    cases h with
    | cons hm hf hk ht h0 hz hr =>
      obtain ⟨h1, h2⟩ := ih hr
      exact ⟨Chain.cons hm hf hk ht h0 hz h1, h2⟩
end Go.Proofs.YtinfkbdhnbefmaaDoorT
