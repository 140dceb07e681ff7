import Derived.Test.YtinfkbdhnbefmaaDoorU
namespace Go.Proofs.YtinfkbdhnbefmaaDoorU
open Go.RowKit Go.Lib
set_option linter.unusedVariables false
set_option linter.unusedSimpArgs false

/-! ### Physical lines, byte by byte -/
def isEnd (b : UInt8) : Bool := b == 13 || b == 10
def attach (b : UInt8) : List (List UInt8) → List (List UInt8)
  | [] => [[b]]
  | h :: t => (b :: h) :: t
theorem indexAny_end {b : UInt8} {l : List UInt8} (h : isEnd b = true) : Lib.indexAny (b :: l) [13, 10] = 0 := by
  unfold isEnd at h; rw [Lib.indexAny]; split
  · rfl
  · rename_i hn; exact absurd h (by simp at hn ⊢; exact hn)
theorem indexAny_plain {b : UInt8} {l : List UInt8} (h : isEnd b = false) : Lib.indexAny (b :: l) [13, 10] = if Lib.indexAny l [13, 10] < 0 then -1 else Lib.indexAny l [13, 10] + 1 := by
  unfold isEnd at h; rw [Lib.indexAny]
  have hge := Lib.indexAny_ge [13, 10] l
  split
  · rename_i hn; simp at h hn; exact absurd hn (by simp [h.1, h.2])
  · split
    · rename_i h1; rw [beq_iff_eq.1 h1]; rfl
    · rename_i h1; rw [if_neg (fun e => h1 (beq_iff_eq.2 (by omega)))]
theorem cutLine_end {b : UInt8} {l : List UInt8} (h : isEnd b = true) : cutLine (b :: l) = ([], if b = 13 then Lib.trimPrefix l [10] else l) := by
  unfold cutLine; rw [indexAny_end h]; simp
theorem cutLine_plain {b : UInt8} {l : List UInt8} (h : isEnd b = false) : cutLine (b :: l) = (b :: (cutLine l).1, (cutLine l).2) := by
  unfold cutLine; rw [indexAny_plain h]
  by_cases hn : Lib.indexAny l [13, 10] < 0
  · simp [hn]
  · obtain ⟨j, hj⟩ : ∃ j : Nat, Lib.indexAny l [13, 10] = (j : Int) := ⟨_, (Int.toNat_of_nonneg (by omega)).symm⟩
    rw [if_neg hn, if_neg hn, hj, if_neg (by omega)]
    have : ((j : Int) + 1).toNat = j + 1 := by omega
    rw [this]; simp
theorem trimPrefix_ten (l : List UInt8) : Lib.trimPrefix (10 :: l) [10] = l := by simp [Lib.trimPrefix, Lib.hasPrefix]
theorem trimPrefix_not {l : List UInt8} (h : l.head? ≠ some 10) : Lib.trimPrefix l [10] = l := by
  cases l with
  | nil => rfl
  | cons b l => simp [Lib.trimPrefix, Lib.hasPrefix] at h ⊢; intro e; exact absurd e.symm h
theorem phys_ten (l : List UInt8) : phys (10 :: l) = [] :: phys l := by
  rw [phys_cons (by simp), cutLine_end (by decide)]; rfl
theorem phys_crlf (l : List UInt8) : phys (13 :: 10 :: l) = [] :: phys l := by
  rw [phys_cons (by simp), cutLine_end (by decide)]; simp [trimPrefix_ten]
theorem phys_cr {l : List UInt8} (h : l.head? ≠ some 10) : phys (13 :: l) = [] :: phys l := by
  rw [phys_cons (by simp), cutLine_end (by decide)]; simp [trimPrefix_not h]
theorem phys_plain {b : UInt8} (l : List UInt8) (h : isEnd b = false) : phys (b :: l) = attach b (phys l) := by
  rw [phys_cons (by simp), cutLine_plain h]
  by_cases hl : l = []
  · subst hl; rfl
  · rw [phys_cons hl]; rfl
theorem phys_ne {l : List UInt8} (h : l ≠ []) : phys l ≠ [] := by rw [phys_cons h]; simp
attribute [local irreducible] phys
theorem isEnd_cases {b : UInt8} (h : isEnd b = true) : b = 13 ∨ b = 10 := by simpa [isEnd] using h
theorem attach_append (b : UInt8) {A : List (List UInt8)} (B : List (List UInt8)) (h : A ≠ []) : attach b (A ++ B) = attach b A ++ B := by
  cases A with
  | nil => exact absurd rfl h
  | cons x A => rfl

/-! ### Logical lines, from the right -/
def glue (m : Nat) (a : List UInt8) : List (Nat × List UInt8) → List (Nat × List UInt8)
  | [] => [(m, a)]
  | (_, s) :: t => (m, a.dropLast ++ s) :: t
def logical : Nat → List (List UInt8) → List (Nat × List UInt8)
  | _, [] => []
  | n, x :: r => if Lib.hasSuffix x [92] = true then glue n x (logical (n + 1) r) else (n, x) :: logical (n + 1) r
theorem hasSuffix_iff (x : List UInt8) : Lib.hasSuffix x [92] = true ↔ ∃ y, x = y ++ [92] := by
  unfold Lib.hasSuffix; rw [List.isSuffixOf_iff_suffix]
  exact ⟨fun ⟨y, h⟩ => ⟨y, h.symm⟩, fun ⟨y, h⟩ => ⟨y, h.symm⟩⟩
theorem hasSuffix_snoc (x : List UInt8) : Lib.hasSuffix (x ++ [92]) [92] = true := (hasSuffix_iff _).2 ⟨x, rfl⟩
theorem hasSuffix_app (a : List UInt8) {x : List UInt8} (h : x ≠ []) : Lib.hasSuffix (a ++ x) [92] = Lib.hasSuffix x [92] := by
  rw [Bool.eq_iff_iff, hasSuffix_iff, hasSuffix_iff]
  constructor
  · rintro ⟨y, hy⟩
    obtain ⟨x', b, rfl⟩ : ∃ x' b, x = x' ++ [b] := ⟨_, _, (List.dropLast_concat_getLast h).symm⟩
    rw [← List.append_assoc] at hy
    obtain ⟨_, hb⟩ := List.append_inj' hy rfl
    exact ⟨x', by rw [hb]⟩
  · rintro ⟨y, rfl⟩; exact ⟨a ++ y, by simp⟩
theorem suffix_ne {x : List UInt8} (h : Lib.hasSuffix x [92] = true) : x ≠ [] := by
  obtain ⟨y, rfl⟩ := (hasSuffix_iff x).1 h; simp
theorem trimSuffix_dropLast {x : List UInt8} (h : Lib.hasSuffix x [92] = true) : Lib.trimSuffix x [92] = x.dropLast := by
  unfold Lib.trimSuffix; rw [if_pos h, List.dropLast_eq_take]; rfl
theorem fold_logical : ∀ (xs : List (List UInt8)) (n : Nat) (L : List (Nat × List UInt8)),
    ((numbered n xs).foldl lineStep (L, false)).1 = L ++ logical n xs ∧
    ∀ m a, Lib.hasSuffix a [92] = true → ((numbered n xs).foldl lineStep (L ++ [(m, a)], true)).1 = L ++ glue m a (logical n xs) := by
  intro xs
  induction xs with
  | nil => intro n L; exact ⟨by simp [numbered, logical], fun m a _ => rfl⟩
  | cons x r ih =>
    intro n L
    rw [numbered, List.foldl_cons, logical]
    constructor
    · have h1 : lineStep (L, false) (n, x) = (L ++ [(n, x)], Lib.hasSuffix x [92]) := rfl
      rw [h1]
      cases hx : Lib.hasSuffix x [92] with
      | true => rw [(ih (n + 1) L).2 n x hx, if_pos rfl]
      | false => rw [(ih (n + 1) (L ++ [(n, x)])).1, if_neg (by decide)]; simp
    · intro m a ha
      have h1 : lineStep (L ++ [(m, a)], true) (n, x) = (L ++ [(m, a.dropLast ++ x)], Lib.hasSuffix x [92]) := by
        simp [lineStep, trimSuffix_dropLast ha]
      rw [List.foldl_cons, h1]
      cases hx : Lib.hasSuffix x [92] with
      | true =>
        rw [(ih (n + 1) L).2 m (a.dropLast ++ x) (by rw [hasSuffix_app _ (suffix_ne hx)]; exact hx), if_pos rfl]
        cases logical (n + 1) r with
        | nil => rfl
        | cons y t =>
          show L ++ (m, (a.dropLast ++ x).dropLast ++ y.2) :: t = L ++ (m, a.dropLast ++ (x.dropLast ++ y.2)) :: t
          rw [List.dropLast_append_of_ne_nil (suffix_ne hx), List.append_assoc]
      | false => rw [(ih (n + 1) (L ++ [(m, a.dropLast ++ x)])).1, if_neg (by decide)]; simp [glue]
theorem lineFold_logical (xs : List (List UInt8)) (n : Nat) : (lineFold (numbered n xs)).1 = logical n xs := by
  have := (fold_logical xs n []).1
  simpa [lineFold] using this
theorem logical_ne {n : Nat} {xs : List (List UInt8)} (h : xs ≠ []) : logical n xs ≠ [] := by
  cases xs with
  | nil => exact absurd rfl h
  | cons x r =>
    rw [logical]; split
    · cases logical (n + 1) r <;> simp [glue]
    · simp
theorem glue_append (m : Nat) (a : List UInt8) {A : List (Nat × List UInt8)} (B : List (Nat × List UInt8)) (h : A ≠ []) : glue m a (A ++ B) = glue m a A ++ B := by
  cases A with
  | nil => exact absurd rfl h
  | cons x A => rfl
theorem logical_append (Q : List (List UInt8)) : ∀ (P : List (List UInt8)) (n : Nat), (∀ x, P.getLast? = some x → Lib.hasSuffix x [92] = false) → logical n (P ++ Q) = logical n P ++ logical (n + P.length) Q := by
  intro P
  induction P with
  | nil => intro n _; rfl
  | cons x r ih =>
    intro n h
    rw [List.cons_append, logical, logical]
    cases hx : Lib.hasSuffix x [92] with
    | true =>
      have hr : r ≠ [] := by
        rintro rfl; rw [h x rfl] at hx; cases hx
      rw [if_pos rfl, if_pos rfl, ih (n + 1) (fun y hy => h y (by rw [List.getLast?_cons, hy]; rfl)), glue_append _ _ _ (logical_ne hr), List.length_cons, show n + 1 + r.length = n + (r.length + 1) by omega]
    | false =>
      rw [if_neg (by decide), if_neg (by decide), List.cons_append]
      by_cases hr : r = []
      · subst hr; rfl
      · rw [ih (n + 1) (fun y hy => h y (by rw [List.getLast?_cons, hy]; rfl)), List.length_cons, show n + 1 + r.length = n + (r.length + 1) by omega]
def shift (k : Nat) (l : List (Nat × List UInt8)) : List (Nat × List UInt8) := l.map fun x => (x.1 + k, x.2)
theorem logical_shift (k : Nat) : ∀ (xs : List (List UInt8)) (n : Nat), logical (n + k) xs = shift k (logical n xs) := by
  intro xs
  induction xs with
  | nil => intro n; rfl
  | cons x r ih =>
    intro n
    rw [logical, logical, show n + k + 1 = (n + 1) + k by omega, ih (n + 1)]
    split
    · cases logical (n + 1) r with
      | nil => rfl
      | cons y t => rfl
    · rfl
theorem logical_bound : ∀ (xs : List (List UInt8)) (n : Nat), (logical n xs).length ≤ xs.length ∧ ∀ y ∈ logical n xs, n ≤ y.1 ∧ y.1 < n + xs.length := by
  intro xs
  induction xs with
  | nil => intro n; simp [logical]
  | cons x r ih =>
    intro n
    obtain ⟨h1, h2⟩ := ih (n + 1)
    rw [logical]; split
    · cases hl : logical (n + 1) r with
      | nil => simp [glue]
      | cons y t =>
        rw [hl] at h1 h2
        refine ⟨by simp [glue] at h1 ⊢; omega, ?_⟩
        intro z hz
        rcases List.mem_cons.1 hz with rfl | hz
        · exact ⟨Nat.le_refl _, by simp⟩
        · have := h2 z (List.mem_cons_of_mem _ hz); simp only [List.length_cons]; omega
    · refine ⟨by simp; exact h1, ?_⟩
      intro z hz
      rcases List.mem_cons.1 hz with rfl | hz
      · exact ⟨Nat.le_refl _, by simp⟩
      · have := h2 z hz; simp only [List.length_cons]; omega

/-! ### A splice more -/
def near : List (Nat × List UInt8) → List (Nat × List UInt8) → Prop
  | [], [] => True
  | a :: l, b :: m => (a.2 = b.2 ∧ (b.1 = a.1 ∨ b.1 = a.1 + 1)) ∧ near l m
  | _, _ => False
theorem near_refl : ∀ l, near l l
  | [] => trivial
  | a :: l => ⟨⟨rfl, .inl rfl⟩, near_refl l⟩
theorem near_shift : ∀ l, near l (shift 1 l)
  | [] => trivial
  | a :: l => ⟨⟨rfl, .inr rfl⟩, near_shift l⟩
theorem near_glue (m : Nat) (a : List UInt8) {l l' : List (Nat × List UInt8)} (h : near l l') : near (glue m a l) (glue m a l') := by
  cases l <;> cases l'
  · exact near_refl _
  · exact h.elim
  · exact h.elim
  · exact ⟨⟨by rw [h.1.1], .inl rfl⟩, h.2⟩
theorem near_splice (x y : List UInt8) (B : List (List UInt8)) (hxy : y = [] → Lib.hasSuffix x [92] = false) : ∀ (A : List (List UInt8)) (n : Nat),
    near (logical n (A ++ (x ++ y) :: B)) (logical n (A ++ (x ++ [92]) :: y :: B)) := by
  intro A
  induction A with
  | nil =>
    intro n
    have hs : Lib.hasSuffix (x ++ y) [92] = Lib.hasSuffix y [92] := by
      by_cases hy : y = []
      · subst hy; rw [List.append_nil, hxy rfl]; rfl
      · exact hasSuffix_app x hy
    show near (logical n ((x ++ y) :: B)) (logical n ((x ++ [92]) :: y :: B))
    rw [logical, logical, logical, hasSuffix_snoc, if_pos rfl, hs, show n + 1 + 1 = (n + 1) + 1 from rfl, logical_shift 1 B (n + 1)]
    cases hy : Lib.hasSuffix y [92] with
    | true =>
      have hne := suffix_ne hy
      rw [if_pos rfl, if_pos rfl]
      cases logical (n + 1) B with
      | nil => exact ⟨⟨by simp, .inl rfl⟩, trivial⟩
      | cons z t =>
        refine ⟨⟨?_, .inl rfl⟩, near_shift t⟩
        show (x ++ y).dropLast ++ z.2 = (x ++ [92]).dropLast ++ (y.dropLast ++ z.2)
        rw [List.dropLast_append_of_ne_nil hne, List.dropLast_concat, List.append_assoc]
    | false =>
      rw [if_neg (by decide), if_neg (by decide)]
      exact ⟨⟨by simp, .inl rfl⟩, near_shift _⟩
  | cons a A ih =>
    intro n
    rw [List.cons_append, List.cons_append, logical, logical]
    split
    · exact near_glue _ _ (ih (n + 1))
    · exact ⟨⟨rfl, .inl rfl⟩, ih (n + 1)⟩
theorem phys_head {l : List UInt8} (h : l ≠ []) : ∃ y B, phys l = y :: B ∧ (y = [] → ∃ b l', l = b :: l' ∧ isEnd b = true) := by
  cases l with
  | nil => exact absurd rfl h
  | cons b l =>
    cases hb : isEnd b with
    | true => exact ⟨_, _, phys_cons (by simp), fun _ => ⟨b, l, rfl, hb⟩⟩
    | false =>
      rw [phys_plain _ hb]
      cases phys l with
      | nil => exact ⟨_, _, rfl, fun e => by cases e⟩
      | cons z t => exact ⟨_, _, rfl, fun e => by cases e⟩
theorem phys_splice (q : List UInt8) (y : List UInt8) (B : List (List UInt8)) (hq : phys q = y :: B) : ∀ (p : List UInt8), p.getLast? ≠ some 13 →
    ∃ A x p0, p = p0 ++ x ∧ (A = [] → x = p) ∧ phys (p ++ q) = A ++ (x ++ y) :: B ∧ phys (p ++ [92, 10] ++ q) = A ++ (x ++ [92]) :: y :: B := by
  have key : ∀ (k : Nat) (p : List UInt8), p.length ≤ k → p.getLast? ≠ some 13 →
    ∃ A x p0, p = p0 ++ x ∧ (A = [] → x = p) ∧ phys (p ++ q) = A ++ (x ++ y) :: B ∧ phys (p ++ [92, 10] ++ q) = A ++ (x ++ [92]) :: y :: B := by
    intro k
    induction k with
    | zero =>
      intro p hk _
      obtain rfl : p = [] := List.eq_nil_of_length_eq_zero (by omega)
      refine ⟨[], [], [], rfl, fun _ => rfl, hq, ?_⟩
      show phys (92 :: 10 :: q) = _
      rw [phys_plain _ (by decide), phys_ten, hq]; rfl
    | succ k ih =>
      intro p hk hl
      cases p with
      | nil =>
        refine ⟨[], [], [], rfl, fun _ => rfl, hq, ?_⟩
        show phys (92 :: 10 :: q) = _
        rw [phys_plain _ (by decide), phys_ten, hq]; rfl
      | cons b p =>
        have tail : ∀ {c : UInt8} {r : List UInt8}, (c :: r).getLast? ≠ some 13 → r.getLast? ≠ some 13 := fun {c r} h e => h (by rw [List.getLast?_cons, e]; rfl)
        cases hb : isEnd b with
        | false =>
          obtain ⟨A, x, p0, e1, e2, e3, e4⟩ := ih p (by simp at hk; omega) (tail hl)
          show ∃ A x p0, _ ∧ _ ∧ phys (b :: (p ++ q)) = _ ∧ phys (b :: (p ++ [92, 10] ++ q)) = _
          rw [phys_plain _ hb, phys_plain _ hb, e3, e4]
          cases A with
          | nil => exact ⟨[], b :: x, [], by rw [e2 rfl]; rfl, fun _ => by rw [e2 rfl], rfl, rfl⟩
          | cons a A => exact ⟨(b :: a) :: A, x, b :: p0, by rw [e1]; rfl, fun e => (by cases e), rfl, rfl⟩
        | true =>
          rcases isEnd_cases hb with rfl | rfl
          · cases p with
            | nil => exact absurd rfl hl
            | cons c p =>
              by_cases hc : c = 10
              · subst hc
                obtain ⟨A, x, p0, e1, e2, e3, e4⟩ := ih p (by simp at hk; omega) (tail (tail hl))
                refine ⟨[] :: A, x, 13 :: 10 :: p0, by rw [e1]; rfl, fun e => (by cases e), ?_, ?_⟩
                · show phys (13 :: 10 :: (p ++ q)) = _
                  rw [phys_crlf, e3]; rfl
                · show phys (13 :: 10 :: (p ++ [92, 10] ++ q)) = _
                  rw [phys_crlf, e4]; rfl
              · obtain ⟨A, x, p0, e1, e2, e3, e4⟩ := ih (c :: p) (by simp at hk ⊢; omega) (tail hl)
                refine ⟨[] :: A, x, 13 :: p0, by rw [e1]; rfl, fun e => (by cases e), ?_, ?_⟩
                · show phys (13 :: (c :: p ++ q)) = _
                  rw [phys_cr (l := c :: p ++ q) (fun e => hc (Option.some.inj e)), e3]; rfl
                · show phys (13 :: (c :: p ++ [92, 10] ++ q)) = _
                  rw [phys_cr (l := c :: p ++ [92, 10] ++ q) (fun e => hc (by simpa using e)), e4]; rfl
          · obtain ⟨A, x, p0, e1, e2, e3, e4⟩ := ih p (by simp at hk; omega) (tail hl)
            refine ⟨[] :: A, x, 10 :: p0, by rw [e1]; rfl, fun e => (by cases e), ?_, ?_⟩
            · show phys (10 :: (p ++ q)) = _
              rw [phys_ten, e3]; rfl
            · show phys (10 :: (p ++ [92, 10] ++ q)) = _
              rw [phys_ten, e4]; rfl
  intro p
  exact key _ p (Nat.le_refl _)
theorem splice_near (p q : List UInt8) (hq : q ≠ []) (hp : p.getLast? ≠ some 13) (hb : ∀ b l, q = b :: l → isEnd b = true → p.getLast? ≠ some 92) (n : Nat) :
    near (logical n (phys (p ++ q))) (logical n (phys (p ++ [92, 10] ++ q))) := by
  obtain ⟨y, B, hyB, hy⟩ := phys_head hq
  obtain ⟨A, x, p0, e1, e2, e3, e4⟩ := phys_splice q y B hyB p hp
  rw [e3, e4]
  refine near_splice x y B (fun hy0 => ?_) A n
  obtain ⟨b, l, e, hbe⟩ := hy hy0
  have := hb b l e hbe
  cases hx : Lib.hasSuffix x [92] with
  | false => rfl
  | true =>
    obtain ⟨z, rfl⟩ := (hasSuffix_iff x).1 hx
    exact absurd (by rw [e1]; simp) this

/-! ### Both parts -/
theorem phys_parts (b : List UInt8) : ∀ (k : Nat) (a : List UInt8), a.length ≤ k → a.getLast? ≠ some 13 → ∃ P x p0, a = p0 ++ x ∧ (P = [] → x = a) ∧ phys (a ++ [10]) = P ++ [x] ∧ phys (a ++ [10] ++ b) = P ++ [x] ++ phys b := by
  intro k
  induction k with
  | zero =>
    intro a hk hl
    obtain rfl : a = [] := List.eq_nil_of_length_eq_zero (by omega)
    exact ⟨[], [], [], rfl, fun _ => rfl, (phys_ten []).trans (by rw [phys_nil]; rfl), phys_ten b⟩
  | succ k ih =>
    intro a hk hl
    have tail : ∀ {c : UInt8} {r : List UInt8}, (c :: r).getLast? ≠ some 13 → r.getLast? ≠ some 13 := fun {c r} h e => h (by rw [List.getLast?_cons, e]; rfl)
    cases a with
    | nil => exact ⟨[], [], [], rfl, fun _ => rfl, (phys_ten []).trans (by rw [phys_nil]; rfl), phys_ten b⟩
    | cons c a =>
      cases hc : isEnd c with
      | false =>
        obtain ⟨P, x, p0, e1, e0, e2, e3⟩ := ih a (by simp at hk; omega) (tail hl)
        show ∃ P x p0, _ ∧ _ ∧ phys (c :: (a ++ [10])) = _ ∧ phys (c :: (a ++ [10] ++ b)) = _
        rw [phys_plain _ hc, phys_plain _ hc, e2, e3]
        cases P with
        | nil =>
          exact ⟨[], c :: x, [], by rw [e0 rfl]; rfl, fun _ => by rw [e0 rfl], rfl, rfl⟩
        | cons z P => exact ⟨(c :: z) :: P, x, c :: p0, by rw [e1]; rfl, fun e => (by cases e), rfl, rfl⟩
      | true =>
        rcases isEnd_cases hc with rfl | rfl
        · cases a with
          | nil => exact absurd rfl hl
          | cons d a =>
            by_cases hd : d = 10
            · subst hd
              obtain ⟨P, x, p0, e1, e0, e2, e3⟩ := ih a (by simp at hk; omega) (tail (tail hl))
              refine ⟨[] :: P, x, 13 :: 10 :: p0, by rw [e1]; rfl, fun e => (by cases e), ?_, ?_⟩
              · show phys (13 :: 10 :: (a ++ [10])) = _
                rw [phys_crlf, e2]; rfl
              · show phys (13 :: 10 :: (a ++ [10] ++ b)) = _
                rw [phys_crlf, e3]; rfl
            · obtain ⟨P, x, p0, e1, e0, e2, e3⟩ := ih (d :: a) (by simp at hk ⊢; omega) (tail hl)
              refine ⟨[] :: P, x, 13 :: p0, by rw [e1]; rfl, fun e => (by cases e), ?_, ?_⟩
              · show phys (13 :: (d :: a ++ [10])) = _
                rw [phys_cr (l := d :: a ++ [10]) (fun e => hd (by simpa using e)), e2]; rfl
              · show phys (13 :: (d :: a ++ [10] ++ b)) = _
                rw [phys_cr (l := d :: a ++ [10] ++ b) (fun e => hd (by simpa using e)), e3]; rfl
        · obtain ⟨P, x, p0, e1, e0, e2, e3⟩ := ih a (by simp at hk; omega) (tail hl)
          refine ⟨[] :: P, x, 10 :: p0, by rw [e1]; rfl, fun e => (by cases e), ?_, ?_⟩
          · show phys (10 :: (a ++ [10])) = _
            rw [phys_ten, e2]; rfl
          · show phys (10 :: (a ++ [10] ++ b)) = _
            rw [phys_ten, e3]; rfl
end Go.Proofs.YtinfkbdhnbefmaaDoorU
