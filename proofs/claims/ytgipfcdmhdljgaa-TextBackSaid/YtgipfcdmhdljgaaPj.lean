import Derived.Test.YtgipfcdmhdljgaaPl
import Derived.Test.YtgipfcdmhdljgaaJ
namespace Go.Proofs.YtgipfcdmhdljgaaT
set_option linter.unusedVariables false
set_option linter.unusedSimpArgs false
open Go.RowKit Go.Lib
attribute [local irreducible] phys
def clean (s : List UInt8) : Prop := (∀ b ∈ s, isEnd b = false) ∧ Lib.hasSuffix s [92] = false
theorem phys_line : ∀ (S t : List UInt8), (∀ b ∈ S, isEnd b = false) → phys (S ++ 10 :: t) = S :: phys t
  | [], t, _ => phys_ten t
  | b :: S, t, h => by
    rw [List.cons_append, phys_plain _ (h b List.mem_cons_self), phys_line S t (fun c hc => h c (List.mem_cons_of_mem _ hc))]; rfl
theorem spl_left : ∀ n, spl (n + 1) = [92, 10] ++ spl n
  | 0 => rfl
  | n + 1 => by
    show spl (n + 1) ++ [92, 10] = [92, 10] ++ (spl n ++ [92, 10])
    rw [spl_left n, List.append_assoc]
theorem logical_line : ∀ (g : Nat) (S t : List UInt8) (m : Nat), clean S → logical m (phys (S ++ spl g ++ [10] ++ t)) = (m, S) :: logical (m + g + 1) (phys t)
  | 0, S, t, m, h => by
    rw [show S ++ spl 0 ++ [10] ++ t = S ++ 10 :: t by simp [spl], phys_line S t h.1, logical, h.2]; rfl
  | g + 1, S, t, m, h => by
    have e : S ++ spl (g + 1) ++ [10] ++ t = (S ++ [92]) ++ 10 :: ([] ++ spl g ++ [10] ++ t) := by rw [spl_left]; simp
    have hcl : ∀ b ∈ S ++ [92], isEnd b = false := fun b hb => by
      rcases List.mem_append.1 hb with hb | hb
      · exact h.1 b hb
      · simp only [List.mem_singleton] at hb; subst hb; rfl
    rw [e, phys_line _ _ hcl, logical, hasSuffix_snoc, if_pos rfl, logical_line g [] t (m + 1) ⟨by simp, rfl⟩]
    show (m, (S ++ [92]).dropLast ++ []) :: _ = _
    rw [List.dropLast_concat, List.append_nil, show m + 1 + g + 1 = m + (g + 1) + 1 by omega]
def chain : Int → List (Int × ByteArray) → Prop
  | _, [] => True
  | a, x :: r => x.1 = a ∧ clean x.2.data.toList ∧ x.2.size ≤ 100 ∧ (∀ y, r.head? = some y → a < y.1 ∧ y.1 - a ≤ 3) ∧ chain (a + 1 + gap a r) r
theorem gap_le {a : Int} {r : List (Int × ByteArray)} (h : ∀ y, r.head? = some y → a < y.1 ∧ y.1 - a ≤ 3) : gap a r ≤ 2 := by
  cases r with
  | nil => simp [gap]
  | cons y r => have := h y rfl; simp only [gap]; omega
theorem join_back : ∀ (l : List (Int × ByteArray)) (m : Nat), chain (m : Int) l → logical m (phys (joinR (m : Int) l)) = l.map (fun x => (x.1.toNat, x.2.data.toList))
  | [], m, _ => by rw [joinR, phys_nil]; rfl
  | x :: r, m, ⟨h1, h2, h3, h4, h5⟩ => by
    rw [joinR, logical_line _ _ _ m h2]
    have e : (m : Int) + 1 + (gap (m : Int) r : Int) = ((m + gap (m : Int) r + 1 : Nat) : Int) := by omega
    rw [e] at h5 ⊢
    rw [join_back r _ h5, List.map_cons, h1]; rfl
theorem join_len : ∀ (l : List (Int × ByteArray)) (a : Int), chain a l → (joinR a l).length ≤ 105 * l.length
  | [], _, _ => by simp [joinR]
  | x :: r, a, ⟨h1, h2, h3, h4, h5⟩ => by
    have := join_len r _ h5
    have hg := gap_le h4
    have hs : x.2.data.toList.length = x.2.size := (Lib.size_eq x.2).symm
    simp only [joinR, List.length_append, List.length_cons, List.length_nil, spl_len]; omega
end Go.Proofs.YtgipfcdmhdljgaaT
