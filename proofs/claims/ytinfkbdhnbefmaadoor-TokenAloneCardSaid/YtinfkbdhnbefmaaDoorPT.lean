/- Each token of a line is just the token that it is alone: the plain side. -/
import Derived.Test.YtinfkbdhnbefmaaDoorPAx2
import Derived.Test.YtinfkbdhnbefmaaDoorQ
namespace Go.Proofs.YtinfkbdhnbefmaaDoor.Pure
open Go.RowKit Go.Proofs.YtinfkbdhnbefmaaDoorT Go.Proofs.YtinfkbdhnbefmaaDoor.PA Go.Proofs.YtinfkbdhnbefmaaDoorW.PrintWords Go.Proofs.YtinfkbdhnbefmaaDoorW.PrintLast Go.Proofs.YtinfkbdhnbefmaaDoorW.PrintMore
set_option linter.unusedVariables false
set_option linter.unusedSimpArgs false
theorem shown_eq : burinlaw02_shown.f = some true := by kernel_rfl
theorem lex_one (s : ByteArray) (h : s.size < 4294967281) : token_Lex.f [(⟨1, s⟩ : S31)] = some ((lexP [(1, s.data.toList)]).1.map toT, (lexP [(1, s.data.toList)]).2.1, (lexP [(1, s.data.toList)]).2.2) := by
  unfold token_Lex.f fits
  rw [if_pos (by simp [h])]
  rfl
theorem one_eq (t : TokP) (h : Go.Proofs.YtinfkbdhnbefmaaDoorT.Good t) (hts : t.s ≠ []) (hl : t.s.length < 4294967281) : token_One.f (bstr t.s) = some ((t.kind : Int), bstr t.s, ⟨#[]⟩, 1, false, true, true) := by
  unfold token_One.f
  rw [lex_one _ (by rw [bstr_size]; exact hl), Option.bind_some]
  have := lex_alone t h hts
  rw [show (bstr t.s).data.toList = t.s from rfl, this]
  rw [if_pos (by rfl), if_pos (by rfl), if_pos (by show (0 : Int) < 1; decide), if_pos (by rfl)]
  rfl
theorem loop_eq (toks : List TokP) (hg : ∀ t ∈ toks, Go.Proofs.YtinfkbdhnbefmaaDoorT.Good t ∧ t.s ≠ [] ∧ t.s.length < 4294967281) (hl : toks.length ≤ 20000) : ∀ d i : Nat, i + d = toks.length → burinlaw02_TokenAlone.l0 (d + 1) true (toks.map toT) (i : Int) = some true := by
  intro d
  induction d with
  | zero =>
    intro i h
    unfold burinlaw02_TokenAlone.l0
    rw [if_neg (by rw [List.length_map]; omega)]
  | succ d ih =>
    intro i h
    have hi : i < toks.length := by omega
    obtain ⟨g1, g2, g3⟩ := hg toks[i] (List.getElem_mem hi)
    have hrd : rd_T34 (toks.map toT) (i : Int) = toT toks[i] := by
      unfold rd_T34
      rw [List.getD_eq_getElem?_getD]; simp [hi]
    unfold burinlaw02_TokenAlone.l0
    rw [if_pos (by rw [List.length_map]; omega), if_pos (by omega), hrd]
    show (token_One.f (bstr toks[i].s)).bind _ = _
    rw [one_eq _ g1 g2 g3, Option.bind_some]
    rw [if_pos (by rfl), if_pos (by rfl), if_pos (by rfl)]
    unfold token_Punct.f
    rw [Option.bind_some]
    show (if (memS toks[i].s sgs != ((toks[i].kind : Int) == 5)) = true then _ else _) = _
    rw [good_sign _ g1, if_neg (by simp)]
    have hw : wrap64 ((i : Int) + 1) = ((i + 1 : Nat) : Int) := by unfold wrap64; omega
    rw [hw]
    exact ih (i + 1) (by omega)
theorem lexP_toks (N : Int) (S : List UInt8) (h : (lexP [(N, S)]).2.1 = 0) : (lexP [(N, S)]).1 = (lineP N S st0).1 ∧ (∀ t ∈ (lineP N S st0).1, t.s ≠ []) ∧ (lineP N S st0).1.length ≤ 20000 := by
  unfold lexP lexF at h ⊢
  by_cases h0 : (foldT [] (lineP N S st0).1).2 = 0
  · rw [if_pos h0] at h ⊢
    obtain ⟨o, ho⟩ : ∃ o, foldT [] (lineP N S st0).1 = (o, 0) := ⟨_, by rw [← h0]⟩
    have hlen := foldT_len _ _ _ _ ho (by simp)
    obtain ⟨h1, h2⟩ := foldT_ok _ _ _ ho
    rw [ho] at h ⊢
    rw [List.nil_append] at h1
    unfold lexF at h ⊢
    by_cases hop : (lineP N S st0).2.op = true
    · rw [if_pos hop] at h; cases h
    · rw [if_neg hop]
      exact ⟨h1, h2, by rw [← h1]; exact hlen⟩
  · rw [if_neg h0] at h
    exact absurd h h0
theorem TokenAlone : burinlaw02_TokenAlone.Pure := by
  intro a0 ha
  have hm : mn (a0.size : Int) 2000 = ((min a0.size 2000 : Nat) : Int) := by unfold mn; split <;> omega
  obtain ⟨q, hq⟩ : ∃ q, a0.extract 0 ((mn (a0.size : Int) 2000) : Int).toNat = q := ⟨_, rfl⟩
  have hqs : q.size < 4294967281 := by
    rw [← hq, hm, ByteArray.size_extract]; omega
  by_cases he : (lexP [(1, q.data.toList)]).2.1 = 0
  · obtain ⟨h1, h2, h3⟩ := lexP_toks 1 q.data.toList he
    refine ⟨(lineP 1 q.data.toList st0).1.length + 1, ?_⟩
    unfold burinlaw02_TokenAlone.f
    rw [shown_eq, Option.bind_some, if_pos (by rw [hm]; omega), if_pos (by rw [hm]; omega), hq, lex_one q hqs, Option.bind_some, if_pos he, h1]
    refine loop_eq _ (fun t ht => ⟨lineP_good _ _ _ t ht (h2 t ht), h2 t ht, ?_⟩) h3 _ 0 (by omega)
    have := lineP_short _ _ _ t ht
    rw [← Lib.size_eq] at this
    omega
  · refine ⟨1, ?_⟩
    unfold burinlaw02_TokenAlone.f
    rw [shown_eq, Option.bind_some, if_pos (by rw [hm]; omega), if_pos (by rw [hm]; omega), hq, lex_one q hqs, Option.bind_some, if_neg he]
end Go.Proofs.YtinfkbdhnbefmaaDoor.Pure
