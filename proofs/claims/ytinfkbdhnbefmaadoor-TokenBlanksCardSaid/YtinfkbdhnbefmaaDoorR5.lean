import Derived.Test.YtinfkbdhnbefmaaDoorR4
namespace Go.Proofs.YtinfkbdhnbefmaaDoor.Bk
open Go.RowKit Go.Lib Go.Proofs.YtinfkbdhnbefmaaDoorT
open Go.Proofs.YtinfkbdhnbefmaaDoorU (phys numbered logical glue isEnd attach phys_ten phys_crlf phys_cr phys_plain isEnd_cases hasSuffix_app hasSuffix_iff)
set_option linter.unusedVariables false
set_option linter.unusedSimpArgs false
/-! ### A token's bytes are its line's -/
theorem skipP_mem (line : Int) : ∀ k l st, ∀ c ∈ (skipP line k l st).1, c ∈ l
  | 0, l, st, c, h => by cases h
  | k + 1, l, st, c, h => by
    unfold skipP at h
    split at h
    · cases h
    · split at h
      · have := skipP_mem line k _ _ c h
        unfold Lib.cut at this
        split at this
        · exact List.mem_of_mem_drop this
        · cases this
      · split at h
        · cases h
        · split at h
          · exact List.mem_of_mem_drop (skipP_mem line k _ _ c h)
          · split at h
            · exact List.mem_of_mem_drop (skipP_mem line k _ _ c h)
            · exact h
theorem toksL_mem (line : Int) : ∀ (j : Nat) (m : List UInt8) (st : St), m.length ≤ j → ∀ t ∈ (toksL line m st).1, ∀ c ∈ t.s, c ∈ m := by
  intro j
  induction j with
  | zero =>
    intro m st h t ht
    obtain rfl : m = [] := List.eq_nil_of_length_eq_zero (by omega)
    rw [toksL_nil] at ht; cases ht
  | succ j ih =>
    intro m st h t ht c hc
    by_cases hm : m = []
    · subst hm; rw [toksL_nil] at ht; cases ht
    · by_cases h0 : (nextP (bstr m)).2 = 0
      · rw [toksL_zero line m st hm h0] at ht
        rw [List.mem_singleton.1 ht] at hc; cases hc
      · rw [toksL_cons line m st hm h0] at ht
        have hlt := after_lt line m st hm h0
        rcases List.mem_cons.1 ht with rfl | ht
        · exact List.mem_of_mem_take hc
        · have := ih _ _ (by omega) t ht c hc
          exact List.mem_of_mem_drop (skipP_mem line _ _ _ c this)
theorem allT_mem : ∀ (L : List (Int × List UInt8)) (st : St), ∀ t ∈ allT L st, ∀ c ∈ t.s, ∃ x ∈ L, c ∈ x.2
  | [], st, t, h, _, _ => by cases h
  | (N, S) :: r, st, t, h, c, hc => by
    rcases List.mem_append.1 (show t ∈ (lineP N S st).1 ++ allT r (lineP N S st).2 from h) with h | h
    · exact ⟨(N, S), List.mem_cons_self, skipP_mem N _ _ _ c (toksL_mem N _ _ _ (Nat.le_refl _) t h c hc)⟩
    · obtain ⟨x, hx, hcx⟩ := allT_mem r _ t h c hc
      exact ⟨x, List.mem_cons_of_mem _ hx, hcx⟩
def tot : List TokP → Nat
  | [] => 0
  | t :: r => t.s.length + tot r
theorem tot_app : ∀ a b : List TokP, tot (a ++ b) = tot a + tot b
  | [], b => by simp [tot]
  | t :: a, b => by rw [List.cons_append, tot, tot_app a b, tot]; omega
theorem toksL_tot (line : Int) : ∀ (j : Nat) (m : List UInt8) (st : St), m.length ≤ j → tot (toksL line m st).1 ≤ m.length := by
  intro j
  induction j with
  | zero =>
    intro m st h
    obtain rfl : m = [] := List.eq_nil_of_length_eq_zero (by omega)
    rw [toksL_nil]; exact Nat.zero_le _
  | succ j ih =>
    intro m st h
    by_cases hm : m = []
    · subst hm; rw [toksL_nil]; exact Nat.zero_le _
    · by_cases h0 : (nextP (bstr m)).2 = 0
      · rw [toksL_zero line m st hm h0]; simp [tot]
      · rw [toksL_cons line m st hm h0]
        have hle := nextP_le m hm
        have hs := skipP_len line ((m.drop (nextP (bstr m)).2).length + 1) (m.drop (nextP (bstr m)).2) { st with sp := false, fs := false }
        have hlt := after_lt line m st hm h0
        have := ih (after line m st).1 (after line m st).2 (by omega)
        have h2 : (after line m st).1.length ≤ (m.drop (nextP (bstr m)).2).length := hs
        rw [List.length_drop] at h2
        show (m.take (nextP (bstr m)).2).length + tot _ ≤ _
        rw [List.length_take]
        omega
def totL : List (Int × List UInt8) → Nat
  | [] => 0
  | x :: r => x.2.length + totL r
theorem allT_tot : ∀ (L : List (Int × List UInt8)) (st : St), tot (allT L st) ≤ totL L
  | [], st => Nat.le_refl _
  | (N, S) :: r, st => by
    show tot ((lineP N S st).1 ++ allT r (lineP N S st).2) ≤ S.length + totL r
    rw [tot_app]
    have h1 := toksL_tot N _ (skipP N (S.length + 1) S (begin_ st)).1 (skipP N (S.length + 1) S (begin_ st)).2 (Nat.le_refl _)
    have h2 := skipP_len N (S.length + 1) S (begin_ st)
    have h3 := allT_tot r (lineP N S st).2
    have : tot (lineP N S st).1 ≤ S.length := Nat.le_trans h1 h2
    omega
def totN : List (List UInt8) → Nat
  | [] => 0
  | x :: r => x.length + totN r
theorem logical_tot : ∀ (xs : List (List UInt8)) (n : Nat), totL (linesI (logical n xs)) ≤ totN xs
  | [], n => Nat.le_refl _
  | x :: r, n => by
    have ih := logical_tot r (n + 1)
    unfold logical
    split
    · cases hl : logical (n + 1) r with
      | nil => show x.length + 0 ≤ x.length + totN r; omega
      | cons z t =>
        rw [hl] at ih
        have ih' : z.2.length + totL (linesI t) ≤ totN r := ih
        show (x.dropLast ++ z.2).length + totL (linesI t) ≤ x.length + totN r
        rw [List.length_append, List.length_dropLast]
        omega
    · show x.length + totL (linesI (logical (n + 1) r)) ≤ x.length + totN r
      omega
theorem phys_tot : ∀ (k : Nat) (l : List UInt8), l.length ≤ k → totN (phys l) ≤ l.length
  | _, [], _ => Nat.le_refl _
  | 0, b :: r, h => by simp at h
  | k + 1, b :: r, h => by
    rw [List.length_cons] at h ⊢
    cases hb : isEnd b with
    | true =>
      rcases isEnd_cases hb with rfl | rfl
      · cases r with
        | nil => rw [phys_cr (by simp)]; simp [totN, phys_nil]
        | cons d r =>
          by_cases hd : d = 10
          · subst hd
            rw [phys_crlf]
            have := phys_tot k r (by rw [List.length_cons] at h; omega)
            simp [totN]; omega
          · rw [phys_cr (by simpa using hd)]
            have := phys_tot k (d :: r) (by omega)
            simp [totN] at this ⊢; omega
      · rw [phys_ten]
        have := phys_tot k r (by omega)
        simp [totN]; omega
    | false =>
      rw [phys_plain r hb]
      have ih := phys_tot k r (by omega)
      cases hp : phys r with
      | nil => simp [attach, totN]
      | cons y B => rw [hp] at ih; simp [attach, totN] at ih ⊢; omega
theorem restT_len : ∀ r : List TokP, (∀ t ∈ r, t.s ≠ []) → (restT r).length ≤ 2 * tot r
  | [], _ => Nat.le_refl _
  | u :: r, h => by
    have ih := restT_len r (fun t ht => h t (List.mem_cons_of_mem _ ht))
    have h0 : 0 < u.s.length := List.length_pos_iff.2 (h u List.mem_cons_self)
    rw [restT, tot, List.length_append, List.length_append]
    have : (if u.fs then [10] else if u.sp then [32] else [] : List UInt8).length ≤ 1 := by cases u.fs <;> cases u.sp <;> simp
    omega
theorem spT_len (a : List TokP) (h : ∀ t ∈ a, t.s ≠ []) : (spT a).length ≤ 2 * tot a := by
  cases a with
  | nil => exact Nat.le_refl _
  | cons t r =>
    have := restT_len r (fun u hu => h u (List.mem_cons_of_mem _ hu))
    rw [spT, tot, List.length_append]
    omega
/-! ### A token ends in no backslash, but the one that is one -/
theorem quo_last (s : ByteArray) : ∀ k i n, quo s k i = n → n ≠ 0 → at_ s (n - 1) = at_ s 0
  | 0, i, n, h, hn => absurd h.symm hn
  | k + 1, i, n, h, hn => by
    unfold quo at h
    by_cases h1 : s.size ≤ i
    · rw [if_pos h1] at h; exact absurd h.symm hn
    · rw [if_neg h1] at h
      by_cases h2 : at_ s i = 92
      · rw [if_pos h2] at h; exact quo_last s k _ n h hn
      · rw [if_neg h2] at h
        by_cases h3 : at_ s i = at_ s 0
        · rw [if_pos h3] at h
          rw [← h, Nat.add_sub_cancel]; exact h3
        · rw [if_neg h3] at h; exact quo_last s k _ n h hn
theorem sgs_back : ∀ a ∈ sgs, ∀ c ∈ a, c ≠ 92 := by decide
theorem tok_last (m : List UInt8) (k n : Nat) (hm : m ≠ []) (hN : nextP (bstr m) = (k, n)) (h0 : n ≠ 0) (hb : at_ (bstr m) (n - 1) = 92) : n = 1 := by
  have hle := nextP_le m hm
  rw [hN] at hle
  simp only at hle
  have hms := bstr_size m
  unfold nextP at hN
  by_cases hL : isL (at_ (bstr m) 0) = true
  · rw [if_pos hL] at hN
    simp only [Prod.mk.injEq] at hN
    have := upto_on (fun i => isW (at_ (bstr m) i)) (bstr m).size 0 (n - 1) (by omega) (by rw [hN.2]; omega)
    simp only [hb] at this
    exact absurd this (by decide)
  · rw [if_neg hL] at hN
    by_cases hD : (isD (at_ (bstr m) 0) || (at_ (bstr m) 0 == 46 && (decide (1 < (bstr m).size) && isD (at_ (bstr m) 1)))) = true
    · rw [if_pos hD] at hN
      simp only [Prod.mk.injEq] at hN
      have := upto_on (onN (bstr m)) (bstr m).size 0 (n - 1) (by omega) (by rw [hN.2]; omega)
      unfold onN at this
      rw [hb] at this
      have e : isW 92 = false := by decide
      rw [e] at this
      simp at this
    · rw [if_neg hD] at hN
      by_cases h34 : at_ (bstr m) 0 = 34
      · rw [if_pos h34] at hN
        simp only [Prod.mk.injEq] at hN
        have := quo_last _ _ _ n hN.2 h0
        rw [hb, h34] at this
        exact absurd this (by decide)
      · rw [if_neg h34] at hN
        by_cases h39 : at_ (bstr m) 0 = 39
        · rw [if_pos h39] at hN
          simp only [Prod.mk.injEq] at hN
          by_cases h2 : quo (bstr m) (bstr m).size 1 = 2
          · rw [if_pos h2] at hN; exact absurd hN.2.symm h0
          · rw [if_neg h2] at hN
            have := quo_last _ _ _ n hN.2 h0
            rw [hb, h39] at this
            exact absurd this (by decide)
        · rw [if_neg h39] at hN
          unfold sgn at hN
          change (match sgs.find? (fun x => Lib.hasPrefix m x) with | some x => ((5 : Nat), x.length) | none => (6, 1)) = (k, n) at hN
          cases hf : sgs.find? (fun x => Lib.hasPrefix m x) with
          | some x =>
            rw [hf] at hN
            simp only [Prod.mk.injEq] at hN
            have hmem := List.mem_of_find?_eq_some hf
            have hp : Lib.hasPrefix m x = true := List.find?_some hf
            rw [pre_at (fun c hc => ((sgs_bytes x hmem).2 c hc).1)] at hp
            have := hp (n - 1) (by omega)
            rw [hb, List.getD_eq_getElem?_getD, List.getElem?_eq_getElem (by omega)] at this
            exact absurd this.symm (sgs_back x hmem _ (List.getElem_mem _))
          | none =>
            rw [hf] at hN
            simp only [Prod.mk.injEq] at hN
            exact hN.2.symm
theorem tok_suffix {z : List UInt8} {t : TokP} {ts : List TokP} (h : Chain z (t :: ts)) (hb : t.s ≠ [92]) : Lib.hasSuffix t.s [92] = false := by
  cases hs : Lib.hasSuffix t.s [92] with
  | false => rfl
  | true =>
    obtain ⟨y, hy⟩ := (hasSuffix_iff _).1 hs
    cases h with
    | @cons _ m _ _ hm hf hk ht h0 hz hr =>
      have hl : t.s.length = y.length + 1 := by rw [hy]; simp
      have hat : at_ (bstr m) (t.s.length - 1) = 92 := by
        have h1 : t.s.getD (t.s.length - 1) 0 = 92 := by rw [hl, hy]; simp
        have h2 := getD_take (m := m) (show t.s.length - 1 < t.s.length by omega)
        rw [← ht, h1] at h2
        rw [at_bstr]; exact h2.symm
      have := tok_last m t.kind t.s.length hm hk (by omega) hat
      have hy0 : y = [] := List.eq_nil_of_length_eq_zero (by omega)
      rw [hy0] at hy
      exact absurd hy hb
theorem tail_suffix : ∀ (ts : List TokP) (z : List UInt8), Chain z ts → (∀ t ∈ ts, t.s ≠ [92]) → ts ≠ [] → tailT ts ≠ [] ∧ Lib.hasSuffix (tailT ts) [92] = false
  | [], _, _, _, h => absurd rfl h
  | u :: r, z, h, hb, _ => by
    have h1 := tok_suffix h (hb u List.mem_cons_self)
    have hu : u.s ≠ [] := by cases h with | cons hm hf hk ht h0 hz hr => exact h0
    obtain ⟨_, z', hr⟩ := chain_app (a := [u]) h
    refine ⟨by intro e; rw [tailT] at e; exact hu (List.append_eq_nil_iff.1 (List.append_eq_nil_iff.1 e).1).2, ?_⟩
    rw [tailT]
    by_cases hr0 : r = []
    · subst hr0
      rw [tailT, List.append_nil, hasSuffix_app _ hu]; exact h1
    · obtain ⟨h2, h3⟩ := tail_suffix r z' hr (fun t ht => hb t (List.mem_cons_of_mem _ ht)) hr0
      rw [hasSuffix_app _ h2]; exact h3
theorem line_suffix {z : List UInt8} {g : TokP × List TokP} (h : Chain z (g.1 :: g.2)) (hb : g.1.s ≠ [92]) (hb2 : ∀ t ∈ g.2, t.s ≠ [92]) : Lib.hasSuffix (lineOf g) [92] = false := by
  unfold lineOf
  by_cases h0 : g.2 = []
  · rw [h0, tailT, List.append_nil]; exact tok_suffix h hb
  · obtain ⟨_, z', hr⟩ := chain_app (a := [g.1]) h
    obtain ⟨h2, h3⟩ := tail_suffix g.2 z' hr hb2 h0
    rw [hasSuffix_app _ h2]; exact h3
theorem tail_ok : ∀ (ts : List TokP), (∀ t ∈ ts, ok t.s) → ok (tailT ts)
  | [], _, c, hc => by cases hc
  | u :: r, h, c, hc => by
    rw [tailT] at hc
    rcases List.mem_append.1 hc with hc | hc
    · rcases List.mem_append.1 hc with hc | hc
      · cases hs : u.sp with
        | true => rw [hs] at hc; rw [List.mem_singleton.1 hc]; decide
        | false => rw [hs] at hc; cases hc
      · exact h u List.mem_cons_self c hc
    · exact tail_ok r (fun t ht => h t (List.mem_cons_of_mem _ ht)) c hc
theorem AlL_len : ∀ {a b : List TokP}, AlL a b → a.length = b.length
  | [], [], _ => rfl
  | x :: a, y :: b, h => by rw [List.length_cons, List.length_cons, AlL_len h.2]
  | [], _ :: _, h => h.elim
  | _ :: _, [], h => h.elim
/-- **A file's tokens, spelt, and lexed once more, are the same.** -/
theorem back (d : List UInt8) (hd : d.length ≤ 20000) (a : List TokP) (n : Int) (h : lexP (linesI (logical 1 (phys d))) = (a, 0, n)) (hb : ∀ t ∈ a, t.s ≠ [92]) :
    (spT a).length ≤ 40000 ∧ a.length ≤ 20000 ∧ tot a ≤ 20000 ∧ ∃ b m, lexP (linesI (logical 1 (phys (spT a)))) = (b, 0, m) ∧ AlL a b := by
  obtain ⟨L, hL⟩ : ∃ L, linesI (logical 1 (phys d)) = L := ⟨_, rfl⟩
  rw [hL] at h
  obtain ⟨e1, e2, e3, e4⟩ := lexF_ok L [] st0 (by show (lexP L).2.1 = 0; rw [h]) (by simp)
  have ha : a = allT L st0 := by
    have : lexP L = ([] ++ allT L st0, 0, 0) := e1
    rw [h] at this
    simpa using congrArg Prod.fst this
  rw [← ha] at e3 e4
  simp only [List.length_nil, Nat.zero_add] at e4
  have hch : Chain [] a := by rw [ha]; exact allT_chain L st0 (by rw [← ha]; exact e3) []
  have hhd : ∀ t r, a = t :: r → t.fs = true := fun t r e => allT_head L st0 (fun h => by cases h) t r (by rw [← ha]; exact e)
  have htot : tot a ≤ 20000 := by
    have h1 := allT_tot L st0
    rw [← ha] at h1
    have h2 := logical_tot (phys d) 1
    rw [hL] at h2
    have h3 := phys_tot d.length d (Nat.le_refl _)
    omega
  have hok : ∀ t ∈ a, ok t.s := fun t ht c hc => by
    rw [ha] at ht
    obtain ⟨x, hx, hcx⟩ := allT_mem L st0 t ht c hc
    rw [← hL] at hx
    obtain ⟨y, hy, rfl⟩ := List.mem_map.1 hx
    exact logical_no (phys d) 1 (phys_no d.length d (Nat.le_refl _)) y hy c hcx
  have hlen := spT_len a e3
  refine ⟨by omega, e4, htot, ?_⟩
  have hgr := grp_chain a.length a [] hch
  have hphys : phys (spT a) = (grp a.length a).map lineOf := by
    rw [spT_grp a.length a (Nat.le_refl _)]
    refine phys_join _ (fun x hx => ?_)
    obtain ⟨g, hg, rfl⟩ := List.mem_map.1 hx
    obtain ⟨_, _, g1, g2⟩ := hgr g hg
    refine ⟨fun e => e3 g.1 g1 (List.append_eq_nil_iff.1 e).1, fun c hc => ?_⟩
    rcases List.mem_append.1 (show c ∈ g.1.s ++ tailT g.2 from hc) with hc | hc
    · exact hok g.1 g1 c hc
    · exact tail_ok g.2 (fun t ht => hok t (g2 t ht)) c hc
  have hlog : logical 1 (phys (spT a)) = numbered 1 ((grp a.length a).map lineOf) := by
    rw [hphys]
    refine logical_plain _ 1 (fun x hx => ?_)
    obtain ⟨g, hg, rfl⟩ := List.mem_map.1 hx
    obtain ⟨⟨z', hc⟩, _, g1, g2⟩ := hgr g hg
    exact line_suffix hc (hb g.1 g1) (fun t ht => hb t (g2 t ht))
  rw [hlog]
  obtain ⟨r1, r2⟩ := allT_Rx (grp a.length a) 1 st0 (fun g hg => ⟨(hgr g hg).1, (hgr g hg).2.1⟩) rfl
  have hAl := AlL_Rx a.length a 1 (Nat.le_refl _) hhd
  have hAlen := AlL_len hAl
  refine ⟨Rx 1 (grp a.length a), 0, ?_, hAl⟩
  have hne : ∀ {a b : List TokP}, AlL a b → (∀ t ∈ a, t.s ≠ []) → ∀ t ∈ b, t.s ≠ [] := by
    intro a
    induction a with
    | nil => intro b hab _ t ht; cases b with | nil => cases ht | cons => exact hab.elim
    | cons x a ih =>
      intro b hab hx t ht
      cases b with
      | nil => cases ht
      | cons y b =>
        rcases List.mem_cons.1 ht with rfl | ht
        · rw [← hab.1.2.1]; exact hx x List.mem_cons_self
        · exact ih hab.2 (fun u hu => hx u (List.mem_cons_of_mem _ hu)) t ht
  have := lexF_all (linesI (numbered 1 ((grp a.length a).map lineOf))) [] st0 r2 (by rw [r1]; exact hne hAl e3) (by rw [r1]; simp; omega)
  rw [r1, List.nil_append] at this
  exact this
end Go.Proofs.YtinfkbdhnbefmaaDoor.Bk
