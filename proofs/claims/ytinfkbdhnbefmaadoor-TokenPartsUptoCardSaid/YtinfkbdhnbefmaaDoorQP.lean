/- The plain side of TokenParts. -/
import Derived.Test.YtinfkbdhnbefmaaDoorPp
import Derived.Test.YtinfkbdhnbefmaaDoorQ
namespace Go.Proofs.YtinfkbdhnbefmaaDoor.PureP
open Go.RowKit Go.Proofs.YtinfkbdhnbefmaaDoorT Go.Proofs.YtinfkbdhnbefmaaDoor.PB Go.Proofs.YtinfkbdhnbefmaaDoorW.PrintWords Go.Proofs.YtinfkbdhnbefmaaDoorW.PrintLast Go.Proofs.YtinfkbdhnbefmaaDoorW.PrintMore
set_option linter.unusedVariables false
set_option linter.unusedSimpArgs false
theorem same_loop (c : List S34) (hc : c.length ≤ 4000000000) : ∀ d i : Nat, i + d = c.length → burinref02_Same.l0 (d + 1) c c (i : Int) = some true := by
  intro d
  induction d with
  | zero =>
    intro i h
    unfold burinref02_Same.l0
    rw [if_neg (by omega)]
  | succ d ih =>
    intro i h
    unfold burinref02_Same.l0
    rw [if_pos (by omega), if_pos (by omega), if_pos (by omega), if_neg (by simp)]
    have hw : wrap64 ((i : Int) + 1) = ((i + 1 : Nat) : Int) := by unfold wrap64; omega
    rw [hw]
    exact ih (i + 1) (by omega)
theorem same_refl (c : List S34) (hc : c.length ≤ 4000000000) : burinref02_Same.f (c.length + 1) c c = some true := by
  unfold burinref02_Same.f
  rw [if_pos (by rfl)]
  exact same_loop c hc _ 0 (by omega)
theorem lex_eq (l : List S31) (h1 : l.length ≤ 2097152) (h2 : ∀ x ∈ l, x.f1.size ≤ 1048576) : token_Lex.f l = some ((lexP (toL l)).1.map toT, (lexP (toL l)).2.1, (lexP (toL l)).2.2) := by
  unfold token_Lex.f fits
  rw [if_pos (by
    rw [Bool.and_eq_true, List.all_eq_true, decide_eq_true_eq]
    refine ⟨fun x hx => ?_, by omega⟩
    have := h2 x hx
    rw [decide_eq_true_eq]; omega)]
theorem toL_append (x y : List S31) : toL (x ++ y) = toL x ++ toL y := by simp [toL]
/-- The law's call, over what it asks. -/
theorem parts (A0 : Option Addr) (c0 : Nat) (l0 : List S31) (A1 : Option Addr) (c1 : Nat) (l1 : List S31) (w : World) (hT : Tab w) (hr0 : Kd.C k31 w A0 l0.length l0) (hc0 : l0.length ≤ c0) (hr1 : Kd.C k31 w A1 l1.length l1) (hc1 : l1.length ≤ c1)
    (hl : l0.length + l1.length ≤ 1048576) (h0 : ∀ x ∈ l0, x.f1.size ≤ 1048576) (h1 : ∀ x ∈ l1, x.f1.size ≤ 1048576) :
    Calls Tryd.prog 5 #[.slice A0 l0.length c0, .slice A1 l1.length c1] w fun e w' => e = .returned (.bool true) ∧ Below w.heap.size w w' := by
  have e0 := lex_eq l0 (by omega) h0
  have e1 := lex_eq l1 (by omega) h1
  have n0 := lexP_len (toL l0)
  have n1 := lexP_len (toL l1)
  refine parts_calls ((((lexP (toL l0)).1.map toT) ++ ((lexP (toL l1)).1.map toT)).length + 1) A0 c0 l0 A1 c1 l1 w hT hr0 hc0 hr1 hc1 _ _ _ _ _ _ e0 e1 hl (by rw [List.length_map]; exact n0) (by rw [List.length_map]; exact n1) ?_
  intro he hf hs
  rw [List.length_map, List.length_map] at hs
  have happ := lexP_append (toL l0) (toL l1) he hf hs
  refine ⟨((lexP (toL l0)).1.map toT) ++ ((lexP (toL l1)).1.map toT), 0, ?_, ?_⟩
  · rw [lex_eq (l0 ++ l1) (by rw [List.length_append]; omega) (fun x hx => by
      rcases List.mem_append.1 hx with hx | hx
      · exact h0 x hx
      · exact h1 x hx), toL_append, happ, List.map_append]
  · exact same_refl _ (by rw [List.length_append, List.length_map, List.length_map]; omega)
end Go.Proofs.YtinfkbdhnbefmaaDoor.PureP
