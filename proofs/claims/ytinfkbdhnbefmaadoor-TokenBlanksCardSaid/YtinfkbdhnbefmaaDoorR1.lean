import Derived.Test.YtinfkbdhnbefmaaDoorQ
namespace Go.Proofs.YtinfkbdhnbefmaaDoorT
open Go.RowKit Go.Lib
set_option linter.unusedVariables false
set_option linter.unusedSimpArgs false
/-! ### A token hangs on what stands behind it but little -/
theorem upto_stop (on : Nat → Bool) : ∀ k i, upto on k i < i + k → on (upto on k i) = false
  | 0, i, h => by unfold upto at h; omega
  | k + 1, i, h => by
    unfold upto at h ⊢
    by_cases hh : on i = true
    · rw [if_pos hh] at h ⊢
      exact upto_stop on k (i + 1) (by omega)
    · rw [if_neg hh]
      simpa using hh
theorem upto_is (on : Nat → Bool) (n : Nat) : ∀ k i, i ≤ n → n ≤ i + k → (∀ j, i ≤ j → j < n → on j = true) → (n < i + k → on n = false) → upto on k i = n
  | 0, i, h1, h2, _, _ => by unfold upto; omega
  | k + 1, i, h1, h2, h3, h4 => by
    unfold upto
    by_cases e : i = n
    · subst e
      rw [if_neg (by rw [h4 (by omega)]; decide)]
    · rw [if_pos (h3 i (Nat.le_refl _) (by omega))]
      exact upto_is on n k (i + 1) (by omega) (by omega) (fun j a b => h3 j (by omega) b) (fun h => h4 (by omega))
theorem at_end (l : List UInt8) (i : Nat) (h : l.length ≤ i) : at_ (bstr l) i = 0 := by
  rw [at_bstr, List.getD_eq_getElem?_getD, List.getElem?_eq_none h]; rfl
theorem quo_same (s s' : ByteArray) (n : Nat) (hs : n ≤ s'.size) (ha : ∀ j, j < n → at_ s' j = at_ s j) (hn : n ≠ 0) : ∀ k i, quo s k i = n → quo s' k i = n
  | 0, i, h => absurd h.symm hn
  | k + 1, i, h => by
    have hgt := quo_gt s (k + 1) i (by omega)
    rw [h] at hgt
    unfold quo at h ⊢
    rw [if_neg (by omega), ha i (by omega), ha 0 (by omega)]
    by_cases h1 : s.size ≤ i
    · rw [if_pos h1] at h; exact absurd h.symm hn
    · rw [if_neg h1] at h
      by_cases h2 : at_ s i = 92
      · rw [if_pos h2] at h ⊢
        exact quo_same s s' n hs ha hn k _ h
      · rw [if_neg h2] at h ⊢
        by_cases h3 : at_ s i = at_ s 0
        · rw [if_pos h3] at h ⊢; exact h
        · rw [if_neg h3] at h ⊢
          exact quo_same s s' n hs ha hn k _ h
theorem quo_any (s s' : ByteArray) (n : Nat) (hs : n ≤ s'.size) (ha : ∀ j, j < n → at_ s' j = at_ s j) (hn : n ≠ 0) (h : quo s s.size 1 = n) : quo s' s'.size 1 = n := by
  have h1 := quo_same s s' n hs ha hn s.size 1 h
  rcases Nat.le_total s.size s'.size with hc | hc
  · obtain ⟨d, hd⟩ : ∃ d, s'.size = s.size + d := ⟨s'.size - s.size, by omega⟩
    have hgt := quo_le s s.size 1
    -- more fuel leaves an answer
    have key : ∀ (k i : Nat), quo s' k i = n → quo s' (k + d) i = n := by
      intro k
      induction k with
      | zero => intro i hq; exact absurd hq.symm hn
      | succ k ih =>
        intro i hq
        rw [show k + 1 + d = k + d + 1 by omega]
        unfold quo at hq ⊢
        by_cases a1 : s'.size ≤ i
        · rw [if_pos a1] at hq; exact absurd hq.symm hn
        · rw [if_neg a1] at hq ⊢
          by_cases a2 : at_ s' i = 92
          · rw [if_pos a2] at hq ⊢; exact ih _ hq
          · rw [if_neg a2] at hq ⊢
            by_cases a3 : at_ s' i = at_ s' 0
            · rw [if_pos a3] at hq ⊢; exact hq
            · rw [if_neg a3] at hq ⊢; exact ih _ hq
    rw [hd]; exact key _ _ h1
  · obtain ⟨d, hd⟩ : ∃ d, s.size = s'.size + d := ⟨s.size - s'.size, by omega⟩
    have := quo_fuel s' 1 d s'.size (by omega)
    rw [← hd, h1] at this
    exact this.symm
theorem sgs_bytes : ∀ a ∈ sgs, a.length ≤ 3 ∧ ∀ c ∈ a, c ≠ 0 ∧ c ≠ 32 := by decide
theorem pre_at {l a : List UInt8} (hz : ∀ c ∈ a, c ≠ 0) : Lib.hasPrefix l a = true ↔ ∀ j, j < a.length → at_ (bstr l) j = a.getD j 0 := by
  rw [hasPrefix_iff]
  constructor
  · rintro ⟨r, rfl⟩ j hj
    rw [at_bstr, List.getD_eq_getElem?_getD, List.getElem?_append_left hj, ← List.getD_eq_getElem?_getD]
  · intro h
    rw [List.prefix_iff_eq_take]
    have hlen : a.length ≤ l.length := by
      rcases Nat.lt_or_ge l.length a.length with hlt | hge
      · have := h l.length hlt
        rw [at_end l _ (Nat.le_refl _), List.getD_eq_getElem?_getD, List.getElem?_eq_getElem hlt] at this
        exact absurd this.symm (hz _ (List.getElem_mem hlt))
      · exact hge
    apply List.ext_getElem
    · rw [List.length_take]; omega
    · intro i h1 h2
      have := h i h1
      rw [at_bstr, List.getD_eq_getElem?_getD, List.getElem?_eq_getElem (by omega), List.getD_eq_getElem?_getD, List.getElem?_eq_getElem h1] at this
      rw [List.getElem_take]
      exact this.symm
/-- What may stand behind a token's n bytes. -/
def Near (m' m : List UInt8) (n : Nat) : Prop :=
  at_ (bstr m') n = 0 ∨ at_ (bstr m') n = 32 ∨ (at_ (bstr m') n = at_ (bstr m) n ∧ (at_ (bstr m') (n + 1) = 0 ∨ at_ (bstr m') (n + 1) = 32 ∨ at_ (bstr m') (n + 1) = at_ (bstr m) (n + 1)))
theorem sgn_near {m m' : List UInt8} {n : Nat} (h0 : n ≠ 0) (ha : ∀ j, j < n → at_ (bstr m') j = at_ (bstr m) j) (hs : Near m' m n) {a : List UInt8} (hmem : a ∈ sgs) (hp : Lib.hasPrefix m' a = true) : Lib.hasPrefix m a = true := by
  obtain ⟨h3, hb⟩ := sgs_bytes a hmem
  have hz : ∀ c ∈ a, c ≠ 0 := fun c hc => (hb c hc).1
  rw [pre_at hz] at hp ⊢
  have nz : ∀ j, j < a.length → a.getD j 0 ≠ 0 ∧ a.getD j 0 ≠ 32 := fun j hj => by
    rw [List.getD_eq_getElem?_getD, List.getElem?_eq_getElem hj]
    exact hb _ (List.getElem_mem hj)
  intro j hj
  have hpj := hp j hj
  by_cases c1 : j < n
  · rw [← ha j c1]; exact hpj
  · by_cases c2 : j = n
    · subst c2
      obtain ⟨z1, z2⟩ := nz j hj
      rcases hs with e | e | ⟨e, _⟩
      · rw [e] at hpj; exact absurd hpj.symm z1
      · rw [e] at hpj; exact absurd hpj.symm z2
      · rw [← e]; exact hpj
    · have c3 : j = n + 1 := by omega
      subst c3
      obtain ⟨z1, z2⟩ := nz (n + 1) hj
      obtain ⟨y1, y2⟩ := nz n (by omega)
      have hpn := hp n (by omega)
      rcases hs with e | e | ⟨_, e⟩
      · rw [e] at hpn; exact absurd hpn.symm y1
      · rw [e] at hpn; exact absurd hpn.symm y2
      · rcases e with e | e | e
        · rw [e] at hpj; exact absurd hpj.symm z1
        · rw [e] at hpj; exact absurd hpj.symm z2
        · rw [← e]; exact hpj
theorem sgn_keep {m m' : List UInt8} {n : Nat} (h0 : n ≠ 0) (hl : n ≤ m'.length) (ha : ∀ j, j < n → at_ (bstr m') j = at_ (bstr m) j) (hs : Near m' m n) : ∀ (t : List (List UInt8)), (∀ a ∈ t, a ∈ sgs) →
    (∀ x, t.find? (fun x => Lib.hasPrefix m x) = some x → x.length = n → t.find? (fun x => Lib.hasPrefix m' x) = some x) ∧ (t.find? (fun x => Lib.hasPrefix m x) = none → t.find? (fun x => Lib.hasPrefix m' x) = none)
  | [], _ => ⟨fun x h => (by cases h), fun _ => rfl⟩
  | a :: t, hsub => by
    obtain ⟨i1, i2⟩ := sgn_keep h0 hl ha hs t (fun b hb => hsub b (List.mem_cons_of_mem _ hb))
    have hmem := hsub a List.mem_cons_self
    refine ⟨fun x h hx => ?_, fun h => ?_⟩
    · rw [List.find?_cons] at h ⊢
      cases hc : Lib.hasPrefix m a with
      | true =>
        rw [hc] at h
        simp only [Option.some.injEq] at h
        subst h
        have : Lib.hasPrefix m' a = true := by
          have hz : ∀ c ∈ a, c ≠ 0 := fun c hc => ((sgs_bytes a hmem).2 c hc).1
          rw [pre_at hz] at hc ⊢
          intro j hj
          rw [ha j (by omega)]; exact hc j hj
        rw [this]
      | false =>
        rw [hc] at h
        cases hc' : Lib.hasPrefix m' a with
        | true => rw [sgn_near h0 ha hs hmem hc'] at hc; cases hc
        | false => exact i1 x h hx
    · rw [List.find?_cons] at h ⊢
      cases hc : Lib.hasPrefix m a with
      | true => rw [hc] at h; cases h
      | false =>
        rw [hc] at h
        cases hc' : Lib.hasPrefix m' a with
        | true => rw [sgn_near h0 ha hs hmem hc'] at hc; cases hc
        | false => exact i2 h
/-- **A token hangs on itself and on the two bytes behind it, and blanks behind it do it no harm.** -/
theorem nextP_loc (m m' : List UInt8) (n k : Nat) (hm : m ≠ []) (hN : nextP (bstr m) = (k, n)) (h0 : n ≠ 0) (ha : ∀ j, j < n → at_ (bstr m') j = at_ (bstr m) j) (hl : n ≤ m'.length) (hs : Near m' m n) : nextP (bstr m') = (k, n) := by
  have hle := nextP_le m hm
  rw [hN] at hle
  simp only at hle
  have hms := bstr_size m
  have hms' := bstr_size m'
  have ha0 := ha 0 (by omega)
  have hwz : isW 0 = false := by decide
  have hw32 : isW 32 = false := by decide
  have hdz : isD 0 = false := by decide
  have hd32 : isD 32 = false := by decide
  unfold nextP at hN ⊢
  rw [ha0]
  by_cases hL : isL (at_ (bstr m) 0) = true
  · rw [if_pos hL] at hN ⊢
    simp only [Prod.mk.injEq] at hN ⊢
    refine ⟨hN.1, upto_is _ n _ 0 (by omega) (by omega) (fun j _ hj => ?_) (fun hlt => ?_)⟩
    · rw [ha j hj]
      exact upto_on (fun i => isW (at_ (bstr m) i)) (bstr m).size 0 j (by omega) (by rw [hN.2]; exact hj)
    · show isW (at_ (bstr m') n) = false
      rcases hs with e | e | ⟨e, _⟩
      · rw [e]; exact hwz
      · rw [e]; exact hw32
      · rw [e]
        by_cases c : n < m.length
        · have := upto_stop (fun i => isW (at_ (bstr m) i)) (bstr m).size 0 (by rw [hN.2]; omega)
          rw [hN.2] at this
          exact this
        · rw [at_end m n (by omega)]; exact hwz
  · rw [if_neg hL] at hN ⊢
    have hsz1 : at_ (bstr m) 0 = 46 → (decide (1 < (bstr m').size) && isD (at_ (bstr m') 1)) = (decide (1 < (bstr m).size) && isD (at_ (bstr m) 1)) ∨ n = 1 := fun e46 => by
      by_cases c : n = 1
      · exact .inr c
      · left
        rw [ha 1 (by omega), decide_eq_true (show 1 < (bstr m').size by omega), decide_eq_true (show 1 < (bstr m).size by omega)]
    by_cases hD : (isD (at_ (bstr m) 0) || (at_ (bstr m) 0 == 46 && (decide (1 < (bstr m).size) && isD (at_ (bstr m) 1)))) = true
    · rw [if_pos hD] at hN
      simp only [Prod.mk.injEq] at hN
      have hone : ∀ j, j < n → onN (bstr m) j = true := fun j hj => upto_on (onN (bstr m)) (bstr m).size 0 j (by omega) (by rw [hN.2]; exact hj)
      have hD' : (isD (at_ (bstr m) 0) || (at_ (bstr m) 0 == 46 && (decide (1 < (bstr m').size) && isD (at_ (bstr m') 1)))) = true := by
        by_cases hd : isD (at_ (bstr m) 0) = true
        · rw [hd]; rfl
        · have hd : isD (at_ (bstr m) 0) = false := by simpa using hd
          rw [hd, Bool.false_or, Bool.and_eq_true, Bool.and_eq_true, decide_eq_true_eq] at hD
          obtain ⟨e1, e2, e3⟩ := hD
          have hon0 : onN (bstr m) 0 = true := by unfold onN; rw [beq_iff_eq.1 e1]; simp
          have hon1 : onN (bstr m) 1 = true := by unfold onN isW; rw [e3]; simp
          have hn2 : 2 ≤ n := by
            obtain ⟨k2, hk2⟩ : ∃ k2, (bstr m).size = k2 + 2 := ⟨(bstr m).size - 2, by omega⟩
            rw [← hN.2, hk2]
            have : upto (onN (bstr m)) (k2 + 2) 0 = upto (onN (bstr m)) k2 2 := by
              rw [upto, if_pos hon0, upto, if_pos hon1]
            rw [this]
            exact upto_ge _ _ _
          rw [ha 1 (by omega), e1, e3, decide_eq_true (show 1 < (bstr m').size by omega)]
          simp
      rw [if_pos hD']
      simp only [Prod.mk.injEq]
      refine ⟨hN.1, upto_is _ n _ 0 (by omega) (by omega) (fun j _ hj => ?_) (fun hlt => ?_)⟩
      · have := hone j hj
        unfold onN at this ⊢
        rw [ha j hj, ha (j - 1) (by omega)]
        exact this
      · have hoz : ∀ c, c = 0 ∨ c = 32 → at_ (bstr m') n = c → onN (bstr m') n = false := by
          rintro c (rfl | rfl) e
          · unfold onN; rw [e, hwz]; simp
          · unfold onN; rw [e, hw32]; simp
        rcases hs with e | e | ⟨e, _⟩
        · exact hoz 0 (.inl rfl) e
        · exact hoz 32 (.inr rfl) e
        · by_cases c : n < m.length
          · have := upto_stop (onN (bstr m)) (bstr m).size 0 (by rw [hN.2]; omega)
            rw [hN.2] at this
            unfold onN at this ⊢
            rw [e, ha (n - 1) (by omega)]
            exact this
          · exact hoz 0 (.inl rfl) (by rw [e, at_end m n (by omega)])
    · rw [if_neg hD] at hN
      have hD' : ¬ (isD (at_ (bstr m) 0) || (at_ (bstr m) 0 == 46 && (decide (1 < (bstr m').size) && isD (at_ (bstr m') 1)))) = true := by
        intro h
        apply hD
        rw [Bool.or_eq_true] at h ⊢
        rcases h with h | h
        · exact .inl h
        · right
          rw [Bool.and_eq_true] at h ⊢
          refine ⟨h.1, ?_⟩
          rcases hsz1 (beq_iff_eq.1 h.1) with e | rfl
          · rw [← e]; exact h.2
          · have h2 := h.2
            rw [Bool.and_eq_true, decide_eq_true_eq] at h2 ⊢
            rcases hs with e | e | ⟨e, _⟩
            · rw [e, hdz] at h2; exact absurd h2.2 (by decide)
            · rw [e, hd32] at h2; exact absurd h2.2 (by decide)
            · rw [e] at h2
              refine ⟨?_, h2.2⟩
              rcases Nat.lt_or_ge 1 (bstr m).size with c | c
              · exact c
              · rw [at_end m 1 (by omega), hdz] at h2; exact absurd h2.2 (by decide)
      rw [if_neg hD']
      by_cases h34 : at_ (bstr m) 0 = 34
      · rw [if_pos h34] at hN ⊢
        simp only [Prod.mk.injEq] at hN ⊢
        exact ⟨hN.1, quo_any (bstr m) (bstr m') n (by omega) ha h0 hN.2⟩
      · rw [if_neg h34] at hN ⊢
        by_cases h39 : at_ (bstr m) 0 = 39
        · rw [if_pos h39] at hN ⊢
          simp only [Prod.mk.injEq] at hN ⊢
          by_cases h2 : quo (bstr m) (bstr m).size 1 = 2
          · rw [if_pos h2] at hN; exact absurd hN.2.symm h0
          · rw [if_neg h2] at hN
            have hq := quo_any (bstr m) (bstr m') n (by omega) ha h0 hN.2
            rw [hq, if_neg (by rw [← hN.2]; exact h2)]
            exact ⟨hN.1, rfl⟩
        · rw [if_neg h39] at hN ⊢
          unfold sgn at hN ⊢
          change (match sgs.find? (fun x => Lib.hasPrefix m x) with | some x => ((5 : Nat), x.length) | none => (6, 1)) = (k, n) at hN
          show (match sgs.find? (fun x => Lib.hasPrefix m' x) with | some x => ((5 : Nat), x.length) | none => (6, 1)) = (k, n)
          obtain ⟨i1, i2⟩ := sgn_keep h0 hl ha hs sgs (fun a h => h)
          cases hf : sgs.find? (fun x => Lib.hasPrefix m x) with
          | some x =>
            rw [hf] at hN
            simp only [Prod.mk.injEq] at hN
            rw [i1 x hf hN.2]
            simp only [Prod.mk.injEq]; exact hN
          | none =>
            rw [hf] at hN
            rw [i2 hf]; exact hN
end Go.Proofs.YtinfkbdhnbefmaaDoorT
