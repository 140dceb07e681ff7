import Derived.Test.YtinfkbdhnbefmaaDoorR3
namespace Go.Proofs.YtinfkbdhnbefmaaDoorT
open Go.RowKit Go.Lib
set_option linter.unusedVariables false
set_option linter.unusedSimpArgs false
/-! ### Blanks more between tokens -/
/-- A text that is nothing but blanks. -/
def Blk (B : List UInt8) : Prop := ∀ (N : Int) (k : Nat) (x : List UInt8) (st : St), st.op = false → (B ++ x).length < k → ∃ (k' : Nat) (f : Int), x.length < k' ∧ skipP N k (B ++ x) st = skipP N k' x ⟨false, f, true, st.fs⟩
theorem blk_one (c : UInt8) (h : isB c = true) : Blk [c] := by
  intro N k x st ho hk
  have hc : c ≠ 47 := by rintro rfl; exact absurd h (by decide)
  rw [List.length_append, List.length_singleton] at hk
  obtain ⟨k, rfl⟩ : ∃ k', k = k' + 1 := ⟨k - 1, by omega⟩
  refine ⟨k, st.fr, by omega, ?_⟩
  have n1 : Lib.hasPrefix ([c] ++ x) [47, 47] = false := by unfold Lib.hasPrefix; simp [List.isPrefixOf, Ne.symm hc]
  have n2 : Lib.hasPrefix ([c] ++ x) [47, 42] = false := by unfold Lib.hasPrefix; simp [List.isPrefixOf, Ne.symm hc]
  rw [skipP, if_neg (by simp), if_neg (by rw [ho]; decide), if_neg (by rw [n1]; decide), if_neg (by rw [n2]; decide), if_pos (show isB (([c] ++ x).headD 0) = true from h)]
  cases st
  simp only at ho
  subst ho; rfl
theorem blk_app {A B : List UInt8} (hA : Blk A) (hB : Blk B) : Blk (A ++ B) := by
  intro N k x st ho hk
  rw [List.append_assoc] at hk ⊢
  obtain ⟨k1, f1, h1, e1⟩ := hA N k (B ++ x) st ho hk
  obtain ⟨k2, f2, h2, e2⟩ := hB N k1 x ⟨false, f1, true, st.fs⟩ rfl h1
  exact ⟨k2, f2, h2, e1.trans e2⟩
theorem blk_comment (C : List UInt8) (h : ∀ x, Lib.cut (C ++ [42, 47] ++ x) [42, 47] = (C, x, true)) : Blk ([47, 42] ++ C ++ [42, 47]) := by
  intro N k x st ho hk
  simp only [List.length_append, List.length_cons, List.length_nil] at hk
  obtain ⟨k, rfl⟩ : ∃ k', k = k' + 1 + 1 := ⟨k - 2, by omega⟩
  refine ⟨k, N, by omega, ?_⟩
  have hd : ([47, 42] ++ C ++ [42, 47] ++ x).drop 2 = C ++ [42, 47] ++ x := by simp
  have n1 : Lib.hasPrefix ([47, 42] ++ C ++ [42, 47] ++ x) [47, 47] = false := by unfold Lib.hasPrefix; simp [List.isPrefixOf]
  have n2 : Lib.hasPrefix ([47, 42] ++ C ++ [42, 47] ++ x) [47, 42] = true := by unfold Lib.hasPrefix; simp [List.isPrefixOf]
  rw [skipP, if_neg (by simp), if_neg (by rw [ho]; decide), if_neg (by rw [n1]; decide), if_pos n2, hd]
  rw [skipP, if_neg (by simp), if_pos rfl, h x]
  rfl
theorem cut_none (x : List UInt8) : Lib.cut ([] ++ [42, 47] ++ x) [42, 47] = ([], x, true) := by
  unfold Lib.cut
  have : Lib.index ([] ++ [42, 47] ++ x) [42, 47] = 0 := by simp [Lib.index, List.isPrefixOf]
  rw [this]; simp
theorem cut_quote (x : List UInt8) : Lib.cut ([32, 39, 32] ++ [42, 47] ++ x) [42, 47] = ([32, 39, 32], x, true) := by
  unfold Lib.cut
  have : Lib.index ([32, 39, 32] ++ [42, 47] ++ x) [42, 47] = 3 := by simp [Lib.index, List.isPrefixOf]
  rw [this]; simp
def blanks (k : Nat) : List UInt8 := match k with | 0 => [32] | 1 => [9] | 2 => [47, 42, 42, 47] | _ => [11, 12, 32, 47, 42, 32, 39, 32, 42, 47]
theorem blk_all (k : Nat) : Blk (blanks k) := by
  match k with
  | 0 => exact blk_one 32 (by decide)
  | 1 => exact blk_one 9 (by decide)
  | 2 => exact blk_comment [] cut_none
  | _ + 3 => exact blk_app (blk_one 11 (by decide)) (blk_app (blk_one 12 (by decide)) (blk_app (blk_one 32 (by decide)) (blk_comment [32, 39, 32] cut_quote)))
def endB : List UInt8 := [32, 47, 47, 32, 39, 32]
def tailB (B : List UInt8) : List TokP → List UInt8
  | [] => endB
  | u :: r => (if u.sp then 32 :: B else []) ++ u.s ++ tailB B r
/-- The first byte behind a token. -/
theorem tail_oneB {B : List UInt8} {z : List UInt8} {ts : List TokP} (h : Chain z ts) (hfs : ∀ u ∈ ts, u.fs = false) : (tailB B ts).getD 0 0 = 0 ∨ (tailB B ts).getD 0 0 = 32 ∨ (tailB B ts).getD 0 0 = z.getD 0 0 := by
  cases h with
  | nil => exact .inr (.inl rfl)
  | @cons _ m t r hm hf hk ht h0 hz hr =>
    right
    have hlen : 0 < t.s.length := List.length_pos_iff.2 h0
    rcases hz with e | e | e
    · rw [hfs t List.mem_cons_self] at e; cases e
    · left; show ((if t.sp then 32 :: B else []) ++ t.s ++ tailB B r).getD 0 0 = 32
      rw [e]; rfl
    · subst e
      by_cases hs : t.sp = true
      · left; show ((if t.sp then 32 :: B else []) ++ t.s ++ tailB B r).getD 0 0 = 32
        rw [hs]; rfl
      · right; show ((if t.sp then 32 :: B else []) ++ t.s ++ tailB B r).getD 0 0 = _
        rw [if_neg hs, List.nil_append, getD_app_lt hlen, ht, getD_take hlen]
/-- A token's first two bytes, with what is spelt behind it. -/
theorem tok_twoB {B : List UInt8} {m : List UInt8} {t : TokP} {r : List TokP} (ht : t.s = m.take t.s.length) (h0 : t.s ≠ []) (hr : Chain (m.drop t.s.length) r) (hfs : ∀ u ∈ r, u.fs = false) :
    (t.s ++ tailB B r).getD 0 0 = m.getD 0 0 ∧ ((t.s ++ tailB B r).getD 1 0 = 0 ∨ (t.s ++ tailB B r).getD 1 0 = 32 ∨ (t.s ++ tailB B r).getD 1 0 = m.getD 1 0) := by
  have hlen : 0 < t.s.length := List.length_pos_iff.2 h0
  have hget : ∀ i, i < t.s.length → t.s.getD i 0 = m.getD i 0 := fun i hi => by
    have := getD_take (m := m) hi
    rw [← ht] at this; exact this
  refine ⟨by rw [getD_app_lt hlen, hget 0 hlen], ?_⟩
  by_cases h1 : 1 < t.s.length
  · right; right
    rw [getD_app_lt h1, hget 1 h1]
  · have e : t.s.length = 1 := by omega
    rw [getD_app_ge (by omega), e]
    rw [e] at hr
    have := tail_oneB (B := B) hr hfs
    rw [getD_drop] at this
    exact this
theorem tail_twoB {B : List UInt8} {z : List UInt8} {ts : List TokP} (h : Chain z ts) (hfs : ∀ u ∈ ts, u.fs = false) :
    (tailB B ts).getD 0 0 = 0 ∨ (tailB B ts).getD 0 0 = 32 ∨ ((tailB B ts).getD 0 0 = z.getD 0 0 ∧ ((tailB B ts).getD 1 0 = 0 ∨ (tailB B ts).getD 1 0 = 32 ∨ (tailB B ts).getD 1 0 = z.getD 1 0)) := by
  cases h with
  | nil => exact .inr (.inl rfl)
  | @cons _ m t r hm hf hk ht h0 hz hr =>
    right
    by_cases hs : t.sp = true
    · left; show ((if t.sp then 32 :: B else []) ++ t.s ++ tailB B r).getD 0 0 = 32
      rw [hs]; rfl
    · right
      rcases hz with e | e | e
      · rw [hfs t List.mem_cons_self] at e; cases e
      · exact absurd e hs
      · subst e
        have := tok_twoB (B := B) ht h0 hr (fun u hu => hfs u (List.mem_cons_of_mem _ hu))
        have hT : tailB B (t :: r) = t.s ++ tailB B r := by show (if t.sp then 32 :: B else []) ++ t.s ++ tailB B r = _; rw [if_neg hs, List.nil_append]
        rw [hT]
        exact this
theorem tok_freshB {B : List UInt8} {m : List UInt8} {t : TokP} {r : List TokP} (hm : m ≠ []) (hf : Fresh m) (ht : t.s = m.take t.s.length) (h0 : t.s ≠ []) (hr : Chain (m.drop t.s.length) r) (hfs : ∀ u ∈ r, u.fs = false) : Fresh (t.s ++ tailB B r) := by
  obtain ⟨e0, e1⟩ := tok_twoB (B := B) ht h0 hr hfs
  have two : ∀ a b : UInt8, a ≠ 0 → b ≠ 0 → b ≠ 32 → Lib.hasPrefix m [a, b] = false → Lib.hasPrefix (t.s ++ tailB B r) [a, b] = false := fun a b ha hb hb2 h => by
    cases hp : Lib.hasPrefix (t.s ++ tailB B r) [a, b] with
    | false => rfl
    | true =>
      have hz : ∀ c ∈ [a, b], c ≠ 0 := by intro c hc; rcases List.mem_cons.1 hc with rfl | hc; exact ha; rcases List.mem_cons.1 hc with rfl | hc; exact hb; cases hc
      rw [pre_at hz] at hp
      have p0 := hp 0 (by simp)
      have p1 := hp 1 (by simp)
      rw [at_bstr] at p0 p1
      simp at p0 p1
      have : Lib.hasPrefix m [a, b] = true := by
        rw [pre_at hz]
        intro j hj
        rw [at_bstr]
        match j, hj with
        | 0, _ => rw [← e0]; simpa using p0
        | 1, _ =>
          have q1 : (t.s ++ tailB B r).getD 1 0 = b := by simpa using p1
          rw [q1] at e1
          rcases e1 with e | e | e
          · exact absurd e hb
          · exact absurd e hb2
          · rw [← e]; rfl
      rw [this] at h; cases h
  refine ⟨two 47 47 (by decide) (by decide) (by decide) hf.1, two 47 42 (by decide) (by decide) (by decide) hf.2.1, ?_⟩
  have h3 := hf.2.2
  have hh : ∀ l : List UInt8, l.headD 0 = l.getD 0 0 := fun l => by cases l <;> rfl
  rw [hh] at h3 ⊢
  rw [e0]; exact h3
theorem skip_end (N : Int) (k : Nat) (hk : endB.length < k) (st : St) (ho : st.op = false) : skipP N k endB st = ([], { st with sp := true }) := by
  have hk : 6 < k := hk
  obtain ⟨k, rfl⟩ : ∃ k', k = k' + 1 + 1 := ⟨k - 2, by omega⟩
  unfold endB
  rw [skipP, if_neg (by simp), if_neg (by rw [ho]; decide), if_neg (by decide), if_neg (by decide), if_pos (by decide)]
  show skipP N (k + 1) [47, 47, 32, 39, 32] { st with sp := true } = _
  rw [skipP, if_neg (by simp), if_neg (by show ¬ st.op = true; rw [ho]; decide), if_pos (by decide)]
theorem skip_tailB {B : List UInt8} (hB : Blk B) (N : Int) {z : List UInt8} {ts : List TokP} (h : Chain z ts) (hfs : ∀ u ∈ ts, u.fs = false) (k : Nat) (hk : (tailB B ts).length < k) (st : St) (ho : st.op = false) (hs : st.sp = false) :
    (ts = [] ∧ ∃ E : St, E.op = false ∧ skipP N k (tailB B ts) st = ([], E)) ∨ (∃ u r, ts = u :: r ∧ ∃ f, skipP N k (tailB B ts) st = (u.s ++ tailB B r, ⟨false, f, u.sp, st.fs⟩)) := by
  cases h with
  | nil => left; exact ⟨rfl, { st with sp := true }, ho, skip_end N k hk st ho⟩
  | @cons _ m t r hm hf hkk ht h0 hz hr =>
    right
    have hfr := tok_freshB (B := B) hm hf ht h0 hr (fun u hu => hfs u (List.mem_cons_of_mem _ hu))
    have hne : t.s ++ tailB B r ≠ [] := by intro e; exact h0 (List.append_eq_nil_iff.1 e).1
    by_cases hsp : t.sp = true
    · have hT : tailB B (t :: r) = ([32] ++ B) ++ (t.s ++ tailB B r) := by show (if t.sp then 32 :: B else []) ++ t.s ++ tailB B r = _; rw [hsp]; simp
      rw [hT] at hk ⊢
      obtain ⟨k', f, hk', e⟩ := blk_app (blk_one 32 (by decide)) hB N k (t.s ++ tailB B r) st ho hk
      obtain ⟨k'', rfl⟩ : ∃ j, k' = j + 1 := ⟨k' - 1, by omega⟩
      exact ⟨t, r, rfl, f, by rw [e, skipP_of_fresh N k'' _ _ hne hfr rfl, hsp]⟩
    · have hT : tailB B (t :: r) = t.s ++ tailB B r := by show (if t.sp then 32 :: B else []) ++ t.s ++ tailB B r = _; rw [if_neg hsp, List.nil_append]
      have hsp : t.sp = false := by simpa using hsp
      rw [hT] at hk ⊢
      obtain ⟨k, rfl⟩ : ∃ k', k = k' + 1 := ⟨k - 1, by omega⟩
      refine ⟨t, r, rfl, st.fr, ?_⟩
      rw [skipP_of_fresh N k _ st hne hfr ho, hsp]
      congr 1
      cases st
      simp only at hs ho
      subst hs; subst ho; rfl
theorem relexB {B : List UInt8} (hB : Blk B) (N : Int) : ∀ (ts : List TokP) (t : TokP) (z : List UInt8) (st : St), Chain z (t :: ts) → (∀ u ∈ ts, u.fs = false) → st.op = false →
    ∃ E : St, E.op = false ∧ toksL N (t.s ++ tailB B ts) st = (⟨t.kind, t.s, N, st.sp, st.fs⟩ :: ts.map (fun u => ⟨u.kind, u.s, N, u.sp, false⟩), E) := by
  intro ts
  induction ts with
  | nil =>
    intro t z st h hfs ho
    cases h with
    | @cons _ m _ _ hm hf hk ht h0 hz hr =>
      have hlen : 0 < t.s.length := List.length_pos_iff.2 h0
      have hloc := nextP_loc m (t.s ++ tailB B []) t.s.length t.kind hm hk (by omega) (fun j hj => by rw [at_bstr, at_bstr, getD_app_lt hj]; have := getD_take (m := m) hj; rw [← ht] at this; exact this) (by simp) (.inr (.inl (by rw [at_bstr, getD_app_ge (Nat.le_refl _)]; simp [tailB, endB])))
      have hne : t.s ++ tailB B [] ≠ [] := by intro e; exact h0 (List.append_eq_nil_iff.1 e).1
      have hsk := skip_end N ((tailB B []).length + 1) (by show 6 < 7; omega) { st with sp := false, fs := false } ho
      refine ⟨{ op := st.op, fr := st.fr, sp := true, fs := false }, ho, ?_⟩
      rw [toksL_cons N _ st hne (by rw [hloc]; simp only; omega), hloc]
      unfold after
      rw [hloc]
      simp only
      rw [List.drop_left, List.take_left]
      show (_ :: (toksL N (skipP N _ endB _).1 (skipP N _ endB _).2).1, (toksL N (skipP N _ endB _).1 (skipP N _ endB _).2).2) = _
      rw [show skipP N ((tailB B []).length + 1) endB { st with sp := false, fs := false } = _ from hsk, toksL_nil]
      rfl
  | cons u ts ih =>
    intro t z st h hfs ho
    cases h with
    | @cons _ m _ _ hm hf hk ht h0 hz hr =>
      have hlen : 0 < t.s.length := List.length_pos_iff.2 h0
      have h2 := tail_twoB (B := B) hr hfs
      have hloc := nextP_loc m (t.s ++ tailB B (u :: ts)) t.s.length t.kind hm hk (by omega) (fun j hj => by rw [at_bstr, at_bstr, getD_app_lt hj]; have := getD_take (m := m) hj; rw [← ht] at this; exact this) (by simp) (by
        unfold Near
        rw [at_bstr, at_bstr, at_bstr, at_bstr, getD_app_ge (Nat.le_refl _), getD_app_ge (by omega), Nat.sub_self, show t.s.length + 1 - t.s.length = 1 by omega]
        rw [getD_drop, getD_drop, Nat.add_zero] at h2
        exact h2)
      have hne : t.s ++ tailB B (u :: ts) ≠ [] := by intro e; exact h0 (List.append_eq_nil_iff.1 e).1
      have hsk := skip_tailB hB N hr hfs ((tailB B (u :: ts)).length + 1) (by omega) { st with sp := false, fs := false } ho rfl
      rcases hsk with ⟨e, _⟩ | ⟨u', r', e, f, hsk⟩
      · cases e
      · cases e
        obtain ⟨E, hE, hih⟩ := ih u (m.drop t.s.length) ⟨false, f, u.sp, false⟩ hr (fun v hv => hfs v (List.mem_cons_of_mem _ hv)) rfl
        refine ⟨E, hE, ?_⟩
        rw [toksL_cons N _ st hne (by rw [hloc]; simp only; omega), hloc]
        unfold after
        rw [hloc]
        simp only
        rw [List.drop_left, List.take_left, hsk]
        simp only
        rw [hih]
        rfl
/-- A line with blanks more, lexed. -/
theorem relex_lineB {B : List UInt8} (hB : Blk B) (N : Int) (t : TokP) (ts : List TokP) (z : List UInt8) (st : St) (h : Chain z (t :: ts)) (hfs : ∀ u ∈ ts, u.fs = false) (ho : st.op = false) :
    ∃ E : St, E.op = false ∧ lineP N (B ++ (t.s ++ tailB B ts)) st = (⟨t.kind, t.s, N, true, true⟩ :: ts.map (fun u => ⟨u.kind, u.s, N, u.sp, false⟩), E) := by
  have h' := h
  cases h' with
  | @cons _ m _ _ hm hf hk ht h0 hz hr =>
    have hfr := tok_freshB (B := B) hm hf ht h0 hr hfs
    have hne : t.s ++ tailB B ts ≠ [] := by intro e; exact h0 (List.append_eq_nil_iff.1 e).1
    unfold lineP begin_
    rw [if_neg (by rw [ho]; decide)]
    obtain ⟨k', f, hk', e⟩ := hB N ((B ++ (t.s ++ tailB B ts)).length + 1) (t.s ++ tailB B ts) { st with sp := false, fs := true } ho (by omega)
    obtain ⟨k'', rfl⟩ : ∃ j, k' = j + 1 := ⟨k' - 1, by omega⟩
    rw [e, skipP_of_fresh N k'' _ _ hne hfr rfl]
    exact relexB hB N ts t z ⟨false, f, true, true⟩ h hfs rfl
/-- No tokens: blanks alone. -/
theorem relex_none {B : List UInt8} (hB : Blk B) (N : Int) (st : St) (ho : st.op = false) : ∃ E : St, E.op = false ∧ lineP N (B ++ endB) st = ([], E) := by
  unfold lineP begin_
  rw [if_neg (by rw [ho]; decide)]
  obtain ⟨k', f, hk', e⟩ := hB N ((B ++ endB).length + 1) endB { st with sp := false, fs := true } ho (by omega)
  rw [e, skip_end N k' hk' _ rfl, toksL_nil]
  exact ⟨_, rfl, rfl⟩
end Go.Proofs.YtinfkbdhnbefmaaDoorT
