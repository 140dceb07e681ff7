import Derived.Test.YtinfkbdhnbefmaaDoorR5
import Derived.Test.YtinfkbdhnbefmaaDoorR6
namespace Go.Proofs.YtinfkbdhnbefmaaDoor.Bk
open Go.RowKit Go.Lib Go.Proofs.YtinfkbdhnbefmaaDoorT
set_option linter.unusedVariables false
set_option linter.unusedSimpArgs false
theorem toksL_fs (line : Int) : ∀ (j : Nat) (m : List UInt8) (st : St), m.length ≤ j → st.fs = false → ∀ t ∈ (toksL line m st).1, t.fs = false := by
  intro j
  induction j with
  | zero =>
    intro m st h _ t ht
    obtain rfl : m = [] := List.eq_nil_of_length_eq_zero (by omega)
    rw [toksL_nil] at ht; cases ht
  | succ j ih =>
    intro m st h hs t ht
    by_cases hm : m = []
    · subst hm; rw [toksL_nil] at ht; cases ht
    · by_cases h0 : (nextP (bstr m)).2 = 0
      · rw [toksL_zero line m st hm h0] at ht
        rw [List.mem_singleton.1 ht]; exact hs
      · rw [toksL_cons line m st hm h0] at ht
        have hlt := after_lt line m st hm h0
        rcases List.mem_cons.1 ht with rfl | ht
        · exact hs
        · exact ih _ _ (by omega) (skipP_fs line _ _ _) t ht
theorem lineP_fs (line : Int) (S : List UInt8) (st : St) (t : TokP) (r : List TokP) (h : (lineP line S st).1 = t :: r) : ∀ u ∈ r, u.fs = false := by
  unfold lineP at h
  obtain ⟨m, hm⟩ : ∃ m, (skipP line (S.length + 1) S (begin_ st)).1 = m := ⟨_, rfl⟩
  obtain ⟨s2, hs2⟩ : ∃ s2, (skipP line (S.length + 1) S (begin_ st)).2 = s2 := ⟨_, rfl⟩
  rw [hm, hs2] at h
  by_cases hne : m = []
  · subst hne; rw [toksL_nil] at h; cases h
  · by_cases h0 : (nextP (bstr m)).2 = 0
    · rw [toksL_zero line m s2 hne h0] at h
      rw [← (List.cons.inj h).2]; intro u hu; cases hu
    · rw [toksL_cons line m s2 hne h0] at h
      rw [← (List.cons.inj h).2]
      exact toksL_fs line _ _ _ (Nat.le_refl _) (skipP_fs line _ _ _)
/-- What is spelt, without the end. -/
def restB (B : List UInt8) : List TokP → List UInt8
  | [] => []
  | u :: r => (if u.sp then 32 :: B else []) ++ u.s ++ restB B r
def lineB (B : List UInt8) : List TokP → List UInt8
  | [] => B
  | t :: r => B ++ (t.s ++ restB B r)
theorem restB_end (B : List UInt8) : ∀ r : List TokP, restB B r ++ endB = tailB B r
  | [] => rfl
  | u :: r => by rw [restB, tailB, List.append_assoc, restB_end B r]
theorem restB_len (B : List UInt8) (hB : B.length ≤ 10) : ∀ r : List TokP, (restB B r).length ≤ 11 * r.length + tot r
  | [] => Nat.le_refl _
  | u :: r => by
    have ih := restB_len B hB r
    rw [restB, tot, List.length_append, List.length_append, List.length_cons]
    have : (if u.sp then 32 :: B else []).length ≤ 11 := by split <;> simp; omega
    omega
theorem tot_len : ∀ a : List TokP, (∀ t ∈ a, t.s ≠ []) → a.length ≤ tot a
  | [], _ => Nat.le_refl _
  | t :: r, h => by
    have ih := tot_len r (fun u hu => h u (List.mem_cons_of_mem _ hu))
    have := List.length_pos_iff.2 (h t List.mem_cons_self)
    rw [List.length_cons, tot]; omega
/-- **Blanks more make no difference.** -/
theorem blanks_law (S : List UInt8) (hS : S.length ≤ 1000) (a : List TokP) (n : Int) (h : lexP [(1, S)] = (a, 0, n)) (B : List UInt8) (hB : Blk B) (hBl : B.length ≤ 10) :
    (lineB B a).length ≤ 13000 ∧ a.length ≤ 1000 ∧ ∃ b m, lexP [(1, lineB B a ++ endB)] = (b, 0, m) ∧ AlL a b := by
  obtain ⟨e1, e2, e3, e4⟩ := lexF_ok [(1, S)] [] st0 (by show (lexP [(1, S)]).2.1 = 0; rw [h]) (by simp)
  have ha : a = allT [(1, S)] st0 := by
    have : lexP [(1, S)] = ([] ++ allT [(1, S)] st0, 0, 0) := e1
    rw [h] at this
    simpa using congrArg Prod.fst this
  rw [← ha] at e3 e4
  simp only [List.length_nil, Nat.zero_add] at e4
  have hch : Chain [] a := by rw [ha]; exact allT_chain _ st0 (by rw [← ha]; exact e3) []
  have hhd : ∀ t r, a = t :: r → t.fs = true := fun t r e => allT_head [(1, S)] st0 (fun h => by cases h) t r (by rw [← ha]; exact e)
  have hal : a = (lineP 1 S st0).1 := by rw [ha]; show (lineP 1 S st0).1 ++ [] = _; rw [List.append_nil]
  have htot : tot a ≤ 1000 := by
    have h1 := allT_tot [(1, S)] st0
    rw [← ha] at h1
    have h2 : totL [((1 : Int), S)] = S.length + 0 := rfl
    omega
  have hlen := tot_len a e3
  have hfin : ∀ (T : List UInt8) (b : List TokP), (∃ E : St, E.op = false ∧ lineP 1 T st0 = (b, E)) → AlL a b → ∃ b m, lexP [(1, T)] = (b, 0, m) ∧ AlL a b := by
    rintro T b ⟨E, hE, hl⟩ hab
    refine ⟨b, 0, ?_, hab⟩
    have hb : allT [((1 : Int), T)] st0 = b := by show (lineP 1 T st0).1 ++ [] = b; rw [hl, List.append_nil]
    have hop : (endS [((1 : Int), T)] st0).op = false := by show (lineP 1 T st0).2.op = false; rw [hl]; exact hE
    have hne : ∀ {a b : List TokP}, AlL a b → (∀ t ∈ a, t.s ≠ []) → ∀ t ∈ b, t.s ≠ [] := by
      intro a
      induction a with
      | nil => intro b hab _ t ht; cases b with | nil => cases ht | cons => exact hab.elim
      | cons x a ih =>
        intro b hab hx t ht
        cases b with
        | nil => cases ht
        | cons y b =>
          rcases List.mem_cons.1 ht with rfl | ht
          · rw [← hab.1.2.1]; exact hx x List.mem_cons_self
          · exact ih hab.2 (fun u hu => hx u (List.mem_cons_of_mem _ hu)) t ht
    have := lexF_all [((1 : Int), T)] [] st0 hop (by rw [hb]; exact hne hab e3) (by rw [hb, ← AlL_len hab]; simp; omega)
    rw [hb, List.nil_append] at this
    exact this
  cases ha2 : a with
  | nil =>
    subst ha2
    refine ⟨by show B.length ≤ 13000; omega, by simp, ?_⟩
    exact hfin _ [] (relex_none hB 1 st0 rfl) trivial
  | cons t r =>
    rw [ha2] at hch htot hlen hal
    have hrl := restB_len B hBl r
    rw [tot] at htot
    rw [List.length_cons, tot] at hlen
    have hfs : ∀ u ∈ r, u.fs = false := lineP_fs 1 S st0 t r hal.symm
    refine ⟨by show (B ++ (t.s ++ restB B r)).length ≤ 13000; rw [List.length_append, List.length_append]; omega, by rw [List.length_cons]; omega, ?_⟩
    rw [← ha2]
    have hT : lineB B a ++ endB = B ++ (t.s ++ tailB B r) := by rw [ha2]; show B ++ (t.s ++ restB B r) ++ endB = _; rw [List.append_assoc, List.append_assoc, restB_end]
    rw [hT]
    refine hfin _ _ (relex_lineB hB 1 t r [] st0 hch hfs rfl) ?_
    rw [ha2]
    exact ⟨⟨rfl, rfl, hhd t r ha2, fun e => by rw [hhd t r ha2] at e; cases e⟩, AlL_map 1 r hfs⟩
end Go.Proofs.YtinfkbdhnbefmaaDoor.Bk
