import Derived.Test.YtinfkbdhnbefmaaDoorR1
namespace Go.Proofs.YtinfkbdhnbefmaaDoorT
open Go.RowKit Go.Lib
set_option linter.unusedVariables false
set_option linter.unusedSimpArgs false
/-! ### What is known of the tokens of lines, one behind the other -/
inductive Chain : List UInt8 → List TokP → Prop
  | nil (z : List UInt8) : Chain z []
  | cons {z m : List UInt8} {t : TokP} {ts : List TokP} (hm : m ≠ []) (hf : Fresh m) (hk : nextP (bstr m) = (t.kind, t.s.length)) (ht : t.s = m.take t.s.length) (h0 : t.s ≠ [])
      (hz : t.fs = true ∨ t.sp = true ∨ z = m) (hr : Chain (m.drop t.s.length) ts) : Chain z (t :: ts)
theorem skipP_sp (line : Int) : ∀ k l st, st.sp = true → (skipP line k l st).2.sp = true
  | 0, l, st, h => h
  | k + 1, l, st, h => by
    unfold skipP
    split
    · exact h
    · split
      · exact skipP_sp line k _ _ rfl
      · split
        · exact h
        · split
          · exact skipP_sp line k _ _ h
          · split
            · exact skipP_sp line k _ _ rfl
            · exact h
theorem skipP_fs (line : Int) : ∀ k l st, (skipP line k l st).2.fs = st.fs
  | 0, l, st => rfl
  | k + 1, l, st => by
    unfold skipP
    split
    · rfl
    · split
      · exact skipP_fs line k _ _
      · split
        · rfl
        · split
          · exact skipP_fs line k _ _
          · split
            · exact skipP_fs line k _ _
            · rfl
theorem skipP_op (line : Int) : ∀ k l st, st.op = true → (skipP line k l st).1 ≠ [] → (skipP line k l st).2.sp = true
  | 0, l, st, h, hne => absurd rfl hne
  | k + 1, l, st, h, hne => by
    unfold skipP at hne ⊢
    by_cases hl : l = []
    · rw [if_pos hl] at hne; exact absurd rfl hne
    · rw [if_neg hl, if_pos h] at hne ⊢
      exact skipP_sp line k _ _ rfl
theorem skipP_adj (line : Int) : ∀ k l st, st.op = false → (skipP line k l st).1 ≠ [] → (skipP line k l st).2.sp = true ∨ l = (skipP line k l st).1
  | 0, l, st, h, hne => absurd rfl hne
  | k + 1, l, st, h, hne => by
    unfold skipP at hne ⊢
    by_cases hl : l = []
    · rw [if_pos hl] at hne; exact absurd rfl hne
    · rw [if_neg hl, if_neg (by rw [h]; decide)] at hne ⊢
      by_cases h1 : Lib.hasPrefix l [47, 47] = true
      · rw [if_pos h1] at hne; exact absurd rfl hne
      · rw [if_neg h1] at hne ⊢
        by_cases h2 : Lib.hasPrefix l [47, 42] = true
        · rw [if_pos h2] at hne ⊢
          exact .inl (skipP_op line k _ _ rfl hne)
        · rw [if_neg h2] at hne ⊢
          by_cases h3 : isB (l.headD 0) = true
          · rw [if_pos h3] at hne ⊢
            exact .inl (skipP_sp line k _ _ rfl)
          · rw [if_neg h3]; exact .inr rfl
theorem toksL_chain (line : Int) (rest : List TokP) (hrest : ∀ z, Chain z rest) : ∀ (j : Nat) (m : List UInt8) (st : St) (z : List UInt8), m.length ≤ j → (m ≠ [] → Fresh m) → (∀ t ∈ (toksL line m st).1, t.s ≠ []) →
    (m ≠ [] → st.fs = true ∨ st.sp = true ∨ z = m) → Chain z ((toksL line m st).1 ++ rest) := by
  intro j
  induction j with
  | zero =>
    intro m st z h _ _ _
    obtain rfl : m = [] := List.eq_nil_of_length_eq_zero (by omega)
    exact hrest z
  | succ j ih =>
    intro m st z h hf hn hz
    by_cases hm : m = []
    · subst hm; exact hrest z
    · by_cases h0 : (nextP (bstr m)).2 = 0
      · rw [toksL_zero line m st hm h0] at hn
        exact absurd rfl (hn _ (List.mem_singleton.2 rfl))
      · have hlt := after_lt line m st hm h0
        have hle := nextP_le m hm
        rw [toksL_cons line m st hm h0] at hn ⊢
        have hlen : (m.take (nextP (bstr m)).2).length = (nextP (bstr m)).2 := by rw [List.length_take]; omega
        refine Chain.cons hm (hf hm) (by rw [hlen]) (by rw [hlen]) (hn _ (List.mem_cons_self)) (hz hm) ?_
        rw [hlen]
        refine ih _ _ _ (by omega) (fun hne => (skipP_fresh line _ _ _ (by omega) hne).1) (fun t ht => hn t (List.mem_cons_of_mem _ ht)) (fun hne => ?_)
        by_cases ho : st.op = true
        · exact .inr (.inl (skipP_op line _ _ _ ho hne))
        · rcases skipP_adj line _ _ { st with sp := false, fs := false } (by simpa using ho) hne with e | e
          · exact .inr (.inl e)
          · exact .inr (.inr e)
theorem lineP_chain (line : Int) (rest : List TokP) (hrest : ∀ z, Chain z rest) (S : List UInt8) (st : St) (hn : ∀ t ∈ (lineP line S st).1, t.s ≠ []) (z : List UInt8) : Chain z ((lineP line S st).1 ++ rest) := by
  refine toksL_chain line rest hrest _ _ _ z (Nat.le_refl _) (fun hne => (skipP_fresh line _ _ _ (by omega) hne).1) hn (fun hne => ?_)
  by_cases ho : st.op = true
  · right; left
    exact skipP_op line _ _ _ (by unfold begin_; rw [if_pos ho]; exact ho) hne
  · left
    rw [skipP_fs]
    unfold begin_
    rw [if_neg ho]
theorem allT_chain : ∀ (L : List (Int × List UInt8)) (st : St), (∀ t ∈ allT L st, t.s ≠ []) → ∀ z, Chain z (allT L st)
  | [], st, _, z => Chain.nil z
  | (N, S) :: r, st, hn, z => by
    show Chain z ((lineP N S st).1 ++ allT r (lineP N S st).2)
    have hn1 : ∀ t ∈ (lineP N S st).1, t.s ≠ [] := fun t ht => hn t (List.mem_append.2 (.inl ht))
    have hn2 : ∀ t ∈ allT r (lineP N S st).2, t.s ≠ [] := fun t ht => hn t (List.mem_append.2 (.inr ht))
    exact lineP_chain N _ (allT_chain r _ hn2) S st hn1 z
/-- The first token is the first of its line. -/
theorem allT_head : ∀ (L : List (Int × List UInt8)) (st : St), (st.op = true → st.fs = true) → ∀ t r, allT L st = t :: r → t.fs = true
  | [], st, _, t, r, h => by cases h
  | (N, S) :: L, st, hs, t, r, h => by
    have hb : (begin_ st).fs = true := by
      unfold begin_
      by_cases ho : st.op = true
      · rw [if_pos ho]; exact hs ho
      · rw [if_neg ho]
    have h' : (lineP N S st).1 ++ allT L (lineP N S st).2 = t :: r := h
    unfold lineP at h'
    obtain ⟨m, hm⟩ : ∃ m, (skipP N (S.length + 1) S (begin_ st)).1 = m := ⟨_, rfl⟩
    have hfs := skipP_fs N (S.length + 1) S (begin_ st)
    obtain ⟨s2, hs2⟩ : ∃ s2, (skipP N (S.length + 1) S (begin_ st)).2 = s2 := ⟨_, rfl⟩
    rw [hs2] at hfs
    rw [hm, hs2] at h'
    by_cases hne : m = []
    · subst hne
      rw [toksL_nil] at h'
      exact allT_head L s2 (fun _ => by rw [hfs, hb]) t r h'
    · by_cases h0 : (nextP (bstr m)).2 = 0
      · rw [toksL_zero N m s2 hne h0] at h'
        have := (List.cons.inj h').1
        rw [← this]; show s2.fs = true
        rw [hfs, hb]
      · rw [toksL_cons N m s2 hne h0] at h'
        have := (List.cons.inj h').1
        rw [← this]; show s2.fs = true
        rw [hfs, hb]
end Go.Proofs.YtinfkbdhnbefmaaDoorT
