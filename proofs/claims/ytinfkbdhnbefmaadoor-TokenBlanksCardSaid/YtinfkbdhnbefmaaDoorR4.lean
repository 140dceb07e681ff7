import Derived.Test.YtinfkbdhnbefmaaDoorR3
import Derived.Test.YtinfkbdhnbefmaaDoorUP
namespace Go.Proofs.YtinfkbdhnbefmaaDoor.Bk
open Go.RowKit Go.Lib Go.Proofs.YtinfkbdhnbefmaaDoorT
open Go.Proofs.YtinfkbdhnbefmaaDoorU (phys numbered logical glue isEnd attach phys_ten phys_crlf phys_cr phys_plain isEnd_cases hasSuffix_app hasSuffix_iff)
set_option linter.unusedVariables false
set_option linter.unusedSimpArgs false
/-! ### A file's lines have no line ends in them -/
def ok (l : List UInt8) : Prop := ∀ c ∈ l, isEnd c = false
theorem phys_nil : phys [] = [] := rfl
theorem phys_no : ∀ (k : Nat) (l : List UInt8), l.length ≤ k → ∀ x ∈ phys l, ok x
  | _, [], _, x, hx => by rw [phys_nil] at hx; cases hx
  | 0, b :: r, h, x, hx => by simp at h
  | k + 1, b :: r, h, x, hx => by
    rw [List.length_cons] at h
    cases hb : isEnd b with
    | true =>
      rcases isEnd_cases hb with rfl | rfl
      · cases r with
        | nil =>
          rw [phys_cr (by simp)] at hx
          rcases List.mem_cons.1 hx with rfl | hx
          · intro c hc; cases hc
          · exact phys_no k [] (by simp) x hx
        | cons d r =>
          by_cases hd : d = 10
          · subst hd
            rw [phys_crlf] at hx
            rcases List.mem_cons.1 hx with rfl | hx
            · intro c hc; cases hc
            · exact phys_no k r (by rw [List.length_cons] at h; omega) x hx
          · rw [phys_cr (by simpa using hd)] at hx
            rcases List.mem_cons.1 hx with rfl | hx
            · intro c hc; cases hc
            · exact phys_no k (d :: r) (by omega) x hx
      · rw [phys_ten] at hx
        rcases List.mem_cons.1 hx with rfl | hx
        · intro c hc; cases hc
        · exact phys_no k r (by omega) x hx
    | false =>
      rw [phys_plain r hb] at hx
      have ih := phys_no k r (by omega)
      cases hp : phys r with
      | nil =>
        rw [hp] at hx
        have : x = [b] := by simpa [attach] using hx
        subst this
        intro c hc
        rw [List.mem_singleton.1 hc]; exact hb
      | cons y B =>
        rw [hp] at hx ih
        rcases List.mem_cons.1 (show x ∈ (b :: y) :: B from hx) with rfl | hx
        · intro c hc
          rcases List.mem_cons.1 hc with rfl | hc
          · exact hb
          · exact ih y List.mem_cons_self c hc
        · exact ih x (List.mem_cons_of_mem _ hx)
theorem logical_no : ∀ (xs : List (List UInt8)) (n : Nat), (∀ x ∈ xs, ok x) → ∀ y ∈ logical n xs, ok y.2
  | [], n, h, y, hy => by cases hy
  | x :: r, n, h, y, hy => by
    have ih := logical_no r (n + 1) (fun z hz => h z (List.mem_cons_of_mem _ hz))
    have hx := h x List.mem_cons_self
    unfold logical at hy
    split at hy
    · cases hl : logical (n + 1) r with
      | nil =>
        rw [hl] at hy
        have : y = (n, x) := by simpa [glue] using hy
        subst this; exact hx
      | cons z t =>
        rw [hl] at hy ih
        rcases List.mem_cons.1 (show y ∈ (n, x.dropLast ++ z.2) :: t from hy) with rfl | hy
        · intro c hc
          rcases List.mem_append.1 hc with hc | hc
          · exact hx c (List.dropLast_subset x hc)
          · exact ih z List.mem_cons_self c hc
        · exact ih y (List.mem_cons_of_mem _ hy)
    · rcases List.mem_cons.1 hy with rfl | hy
      · exact hx
      · exact ih y hy
/-! ### Lines, joined, come back -/
def joinN : List (List UInt8) → List UInt8
  | [] => []
  | [x] => x
  | x :: y :: r => x ++ 10 :: joinN (y :: r)
theorem phys_line : ∀ (x y : List UInt8), ok x → phys (x ++ 10 :: y) = x :: phys y
  | [], y, _ => phys_ten y
  | b :: x, y, h => by
    rw [List.cons_append, phys_plain _ (h b List.mem_cons_self), phys_line x y (fun c hc => h c (List.mem_cons_of_mem _ hc))]; rfl
theorem phys_last : ∀ (x : List UInt8), x ≠ [] → ok x → phys x = [x]
  | [], h, _ => absurd rfl h
  | [b], _, h => by rw [phys_plain _ (h b List.mem_cons_self)]; rfl
  | b :: c :: x, _, h => by
    rw [phys_plain _ (h b List.mem_cons_self), phys_last (c :: x) (by simp) (fun d hd => h d (List.mem_cons_of_mem _ hd))]; rfl
theorem phys_join : ∀ (ls : List (List UInt8)), (∀ x ∈ ls, x ≠ [] ∧ ok x) → phys (joinN ls) = ls
  | [], _ => rfl
  | [x], h => phys_last x (h x List.mem_cons_self).1 (h x List.mem_cons_self).2
  | x :: y :: r, h => by
    show phys (x ++ 10 :: joinN (y :: r)) = _
    rw [phys_line x _ (h x List.mem_cons_self).2, phys_join (y :: r) (fun z hz => h z (List.mem_cons_of_mem _ hz))]
theorem logical_plain : ∀ (ls : List (List UInt8)) (n : Nat), (∀ x ∈ ls, Lib.hasSuffix x [92] = false) → logical n ls = numbered n ls
  | [], n, _ => rfl
  | x :: r, n, h => by
    unfold logical
    rw [if_neg (by rw [h x List.mem_cons_self]; decide), logical_plain r (n + 1) (fun z hz => h z (List.mem_cons_of_mem _ hz))]
    rfl
/-! ### Tokens by lines -/
def nf (u : TokP) : Bool := !u.fs
def grp : Nat → List TokP → List (TokP × List TokP)
  | 0, _ => []
  | _ + 1, [] => []
  | k + 1, t :: r => (t, r.takeWhile nf) :: grp k (r.dropWhile nf)
def lineOf (g : TokP × List TokP) : List UInt8 := g.1.s ++ tailT g.2
def restT : List TokP → List UInt8
  | [] => []
  | u :: r => (if u.fs then [10] else if u.sp then [32] else []) ++ u.s ++ restT r
/-- Tokens' text. -/
def spT : List TokP → List UInt8
  | [] => []
  | t :: r => t.s ++ restT r
theorem restT_split : ∀ r : List TokP, restT r = tailT (r.takeWhile nf) ++ (if r.dropWhile nf = [] then [] else 10 :: spT (r.dropWhile nf))
  | [] => rfl
  | u :: r => by
    cases hf : u.fs with
    | true =>
      rw [List.takeWhile_cons_of_neg (by simp [nf, hf]), List.dropWhile_cons_of_neg (by simp [nf, hf]), if_neg (by simp)]
      simp [restT, tailT, spT, hf]
    | false =>
      rw [List.takeWhile_cons_of_pos (by simp [nf, hf]), List.dropWhile_cons_of_pos (by simp [nf, hf])]
      rw [restT, restT_split r, tailT]
      simp [hf]
theorem dropWhile_len (r : List TokP) : (r.dropWhile nf).length ≤ r.length := by
  have := congrArg List.length (List.takeWhile_append_dropWhile (p := nf) (l := r))
  rw [List.length_append] at this; omega
theorem grp_ne {k : Nat} {a : List TokP} (h : a.length ≤ k) (ha : a ≠ []) : ∃ g gs, grp k a = g :: gs := by
  cases a with
  | nil => exact absurd rfl ha
  | cons t r =>
    rw [List.length_cons] at h
    obtain ⟨k, rfl⟩ : ∃ k', k = k' + 1 := ⟨k - 1, by omega⟩
    exact ⟨_, _, rfl⟩
theorem spT_grp : ∀ (k : Nat) (a : List TokP), a.length ≤ k → spT a = joinN ((grp k a).map lineOf)
  | 0, a, h => by
    obtain rfl : a = [] := List.eq_nil_of_length_eq_zero (by omega)
    rfl
  | k + 1, [], _ => rfl
  | k + 1, t :: r, h => by
    rw [List.length_cons] at h
    have hd := dropWhile_len r
    have ih := spT_grp k (r.dropWhile nf) (by omega)
    show t.s ++ restT r = joinN (lineOf (t, r.takeWhile nf) :: (grp k (r.dropWhile nf)).map lineOf)
    rw [restT_split r]
    by_cases e : r.dropWhile nf = []
    · rw [if_pos e, e]
      have : grp k [] = [] := by cases k <;> rfl
      rw [this]
      simp [joinN, lineOf]
    · rw [if_neg e, ih]
      obtain ⟨g, gs, hg⟩ := grp_ne (show (r.dropWhile nf).length ≤ k by omega) e
      rw [hg]
      simp [joinN, lineOf]
theorem takeWhile_nf (r : List TokP) : ∀ u ∈ r.takeWhile nf, u.fs = false := fun u hu => by
  have := List.all_eq_true.1 (List.all_takeWhile (p := nf) (l := r)) u hu
  simpa [nf] using this
theorem grp_chain : ∀ (k : Nat) (a : List TokP) (z : List UInt8), Chain z a → ∀ g ∈ grp k a, (∃ z', Chain z' (g.1 :: g.2)) ∧ (∀ u ∈ g.2, u.fs = false) ∧ g.1 ∈ a ∧ ∀ u ∈ g.2, u ∈ a
  | 0, a, z, h, g, hg => by cases hg
  | k + 1, [], z, h, g, hg => by cases hg
  | k + 1, t :: r, z, h, g, hg => by
    have hsplit : t :: r = (t :: r.takeWhile nf) ++ r.dropWhile nf := by rw [List.cons_append, List.takeWhile_append_dropWhile]
    have hmem1 : ∀ u ∈ r.takeWhile nf, u ∈ r := fun u hu => by rw [← List.takeWhile_append_dropWhile (p := nf) (l := r)]; exact List.mem_append.2 (.inl hu)
    have hmem2 : ∀ u ∈ r.dropWhile nf, u ∈ r := fun u hu => by rw [← List.takeWhile_append_dropWhile (p := nf) (l := r)]; exact List.mem_append.2 (.inr hu)
    rw [hsplit] at h
    obtain ⟨h1, z', h2⟩ := chain_app h
    rcases List.mem_cons.1 (show g ∈ (t, r.takeWhile nf) :: grp k (r.dropWhile nf) from hg) with rfl | hg
    · exact ⟨⟨z, h1⟩, takeWhile_nf r, List.mem_cons_self, fun u hu => List.mem_cons_of_mem _ (hmem1 u hu)⟩
    · obtain ⟨a1, a2, a3, a4⟩ := grp_chain k _ z' h2 g hg
      exact ⟨a1, a2, List.mem_cons_of_mem _ (hmem2 _ a3), fun u hu => List.mem_cons_of_mem _ (hmem2 _ (a4 u hu))⟩
/-- What lexing makes of them. -/
def Rx : Nat → List (TokP × List TokP) → List TokP
  | _, [] => []
  | n, g :: gs => (⟨g.1.kind, g.1.s, (n : Int), false, true⟩ :: g.2.map (fun u => ⟨u.kind, u.s, (n : Int), u.sp, false⟩)) ++ Rx (n + 1) gs
def linesI (l : List (Nat × List UInt8)) : List (Int × List UInt8) := l.map fun y => ((y.1 : Int), y.2)
theorem allT_Rx : ∀ (gs : List (TokP × List TokP)) (n : Nat) (st : St), (∀ g ∈ gs, (∃ z, Chain z (g.1 :: g.2)) ∧ ∀ u ∈ g.2, u.fs = false) → st.op = false →
    allT (linesI (numbered n (gs.map lineOf))) st = Rx n gs ∧ (endS (linesI (numbered n (gs.map lineOf))) st).op = false
  | [], n, st, _, ho => ⟨rfl, ho⟩
  | g :: gs, n, st, h, ho => by
    obtain ⟨⟨z, hc⟩, hfs⟩ := h g List.mem_cons_self
    obtain ⟨E, hE, hl⟩ := relex_line (n : Int) g.1 g.2 z st hc hfs ho
    obtain ⟨i1, i2⟩ := allT_Rx gs (n + 1) E (fun x hx => h x (List.mem_cons_of_mem _ hx)) hE
    show (lineP (n : Int) (lineOf g) st).1 ++ allT (linesI (numbered (n + 1) (gs.map lineOf))) (lineP (n : Int) (lineOf g) st).2 = _ ∧ (endS (linesI (numbered (n + 1) (gs.map lineOf))) (lineP (n : Int) (lineOf g) st).2).op = false
    rw [show lineP (n : Int) (lineOf g) st = (_, E) from hl]
    simp only
    rw [i1]
    exact ⟨rfl, i2⟩
/-! ### Alike -/
def Al (x y : TokP) : Prop := x.kind = y.kind ∧ x.s = y.s ∧ x.fs = y.fs ∧ (x.fs = false → x.sp = y.sp)
def AlL : List TokP → List TokP → Prop
  | [], [] => True
  | x :: a, y :: b => Al x y ∧ AlL a b
  | _, _ => False
theorem AlL_app : ∀ {a a' b b' : List TokP}, AlL a a' → AlL b b' → AlL (a ++ b) (a' ++ b')
  | [], [], b, b', _, h => h
  | x :: a, y :: a', b, b', h1, h2 => ⟨h1.1, AlL_app h1.2 h2⟩
  | [], _ :: _, _, _, h, _ => h.elim
  | _ :: _, [], _, _, h, _ => h.elim
theorem AlL_map (n : Nat) : ∀ (l : List TokP), (∀ u ∈ l, u.fs = false) → AlL l (l.map (fun u => ⟨u.kind, u.s, (n : Int), u.sp, false⟩))
  | [], _ => trivial
  | u :: l, h => ⟨⟨rfl, rfl, h u List.mem_cons_self, fun _ => rfl⟩, AlL_map n l (fun v hv => h v (List.mem_cons_of_mem _ hv))⟩
theorem AlL_Rx : ∀ (k : Nat) (a : List TokP) (n : Nat), a.length ≤ k → (∀ t r, a = t :: r → t.fs = true) → AlL a (Rx n (grp k a))
  | 0, a, n, h, _ => by
    obtain rfl : a = [] := List.eq_nil_of_length_eq_zero (by omega)
    trivial
  | k + 1, [], n, _, _ => trivial
  | k + 1, t :: r, n, h, hh => by
    rw [List.length_cons] at h
    have hd := dropWhile_len r
    have ih := AlL_Rx k (r.dropWhile nf) (n + 1) (by omega) (fun t' r' e => by
      have := List.head?_dropWhile_not nf r
      rw [e] at this
      simpa [nf] using this)
    have hsplit : t :: r = (t :: r.takeWhile nf) ++ r.dropWhile nf := by rw [List.cons_append, List.takeWhile_append_dropWhile]
    have h1 : AlL (t :: r.takeWhile nf) (⟨t.kind, t.s, (n : Int), false, true⟩ :: (r.takeWhile nf).map (fun u => ⟨u.kind, u.s, (n : Int), u.sp, false⟩)) :=
      ⟨⟨rfl, rfl, hh t r rfl, fun e => by rw [hh t r rfl] at e; cases e⟩, AlL_map n _ (takeWhile_nf r)⟩
    have := AlL_app h1 ih
    rw [← hsplit] at this
    exact this
end Go.Proofs.YtinfkbdhnbefmaaDoor.Bk
