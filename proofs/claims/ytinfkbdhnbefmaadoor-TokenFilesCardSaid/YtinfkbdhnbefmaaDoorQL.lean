/- The plain side of TokenLexes. -/
import Derived.Test.YtinfkbdhnbefmaaDoorPBx12
import Derived.Test.YtinfkbdhnbefmaaDoorQ
namespace Go.Proofs.YtinfkbdhnbefmaaDoor.PureL
open Go.RowKit Go.Proofs.YtinfkbdhnbefmaaDoorT Go.Proofs.YtinfkbdhnbefmaaDoor.PB Go.Proofs.YtinfkbdhnbefmaaDoorW.PrintWords Go.Proofs.YtinfkbdhnbefmaaDoorW.PrintLast Go.Proofs.YtinfkbdhnbefmaaDoorW.PrintMore
set_option linter.unusedVariables false
set_option linter.unusedSimpArgs false
theorem shown_eq : burinlaw02_shown.f = some true := by kernel_rfl
theorem same_loop (c : List S34) (hc : c.length ≤ 4000000000) : ∀ d i k : Nat, i + d = c.length → d < k → burinref02_Same.l0 k c c (i : Int) = some true := by
  intro d
  induction d with
  | zero =>
    intro i k h hk
    obtain ⟨k, rfl⟩ : ∃ k', k = k' + 1 := ⟨k - 1, by omega⟩
    unfold burinref02_Same.l0
    rw [if_neg (by omega)]
  | succ d ih =>
    intro i k h hk
    obtain ⟨k, rfl⟩ : ∃ k', k = k' + 1 := ⟨k - 1, by omega⟩
    unfold burinref02_Same.l0
    rw [if_pos (by omega), if_pos (by omega), if_pos (by omega), if_neg (by simp)]
    have hw : wrap64 ((i : Int) + 1) = ((i + 1 : Nat) : Int) := by unfold wrap64; omega
    rw [hw]
    exact ih (i + 1) k (by omega) (by omega)
theorem same_refl (c : List S34) (hc : c.length ≤ 4000000000) (k : Nat) (hk : c.length < k) : burinref02_Same.f k c c = some true := by
  unfold burinref02_Same.f
  rw [if_pos (by rfl)]
  exact same_loop c hc c.length 0 k (by omega) hk
theorem right_loop (c : List S31) (hc : c.length ≤ 4000000000) : ∀ d i k : Nat, i + d = c.length → d < k → ∃ b, burinlaw02_right.l0 k c (i : Int) = some b := by
  intro d
  induction d with
  | zero =>
    intro i k h hk
    obtain ⟨k, rfl⟩ : ∃ k', k = k' + 1 := ⟨k - 1, by omega⟩
    unfold burinlaw02_right.l0
    rw [if_neg (by omega)]
    exact ⟨_, rfl⟩
  | succ d ih =>
    intro i k h hk
    obtain ⟨k, rfl⟩ : ∃ k', k = k' + 1 := ⟨k - 1, by omega⟩
    unfold burinlaw02_right.l0
    rw [if_pos (by omega), if_pos (by omega)]
    split
    · exact ⟨_, rfl⟩
    · have hw : wrap64 ((i : Int) + 1) = ((i + 1 : Nat) : Int) := by unfold wrap64; omega
      rw [hw]
      exact ih (i + 1) k (by omega) (by omega)
theorem lex_eq (l : List S31) (h1 : l.length ≤ 2097152) (h2 : ∀ x ∈ l, x.f1.size ≤ 1048576) : fits l = true := by
  unfold fits
  rw [Bool.and_eq_true, List.all_eq_true, decide_eq_true_eq]
  refine ⟨fun x hx => ?_, by omega⟩
  have := h2 x hx
  rw [decide_eq_true_eq]; omega
theorem lexes_eq (l : List S31) (h1 : l.length ≤ 2097152) (h2 : ∀ x ∈ l, x.f1.size ≤ 1048576) : burinlaw02_TokenLexes.f (l.length + 20001) l = some true := by
  have hf := lex_eq l h1 h2
  obtain ⟨b, hb⟩ := right_loop l (by omega) l.length 0 (l.length + 20001) (by omega) (by omega)
  have hlen := lexP_len (toL l)
  unfold burinlaw02_TokenLexes.f
  rw [shown_eq, Option.bind_some, show burinlaw02_right.f (l.length + 20001) l = some b from hb, Option.bind_some]
  cases b with
  | false => rfl
  | true =>
    unfold token_Lex.f burinref02_Lex.f
    rw [if_pos rfl, if_pos hf, Option.bind_some, Option.bind_some, if_pos rfl]
    simp only
    rw [same_refl _ (by rw [List.length_map]; omega) _ (by rw [List.length_map]; omega), Option.bind_some, if_pos rfl, if_pos trivial, beq_self_eq_true]
/-- The law's call. -/
theorem lexes (A0 : Option Addr) (c0 : Nat) (l0 : List S31) (w : World) (hT : Tab w) (hr0 : Kd.C k31 w A0 l0.length l0) (hc0 : l0.length ≤ c0)
    (hl : l0.length ≤ 1048576) (h0 : ∀ x ∈ l0, x.f1.size ≤ 1048576) :
    Calls Tryd.prog 3 #[.slice A0 l0.length c0] w fun e w' => e = .returned (.bool true) ∧ Below w.heap.size w w' :=
  burinlaw02_TokenLexes.calls _ A0 c0 l0 true w hr0 hc0 hT (lexes_eq l0 (by omega) h0)
end Go.Proofs.YtinfkbdhnbefmaaDoor.PureL
