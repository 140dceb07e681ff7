/- The plain side of TokenBack. -/
import Derived.Test.YtinfkbdhnbefmaaDoorPBx17
import Derived.Test.YtinfkbdhnbefmaaDoorSP
import Derived.Test.YtinfkbdhnbefmaaDoorR5
namespace Go.Proofs.YtinfkbdhnbefmaaDoor.PB
open Go.RowKit Go.Proofs.YtinfkbdhnbefmaaDoorT Go.Proofs.YtinfkbdhnbefmaaDoorW.PrintWords Go.Proofs.YtinfkbdhnbefmaaDoorW.PrintLast Go.Proofs.YtinfkbdhnbefmaaDoorW.PrintMore
open Go.Proofs.YtinfkbdhnbefmaaDoorU (phys numbered logical lineFold lineFold_logical lineFold_ok phys_len numbered_len total_phys)
open Go.Proofs.YtinfkbdhnbefmaaDoor.Bk (linesI spT restT AlL Al tot back)
set_option linter.unusedVariables false
set_option linter.unusedSimpArgs false
theorem shown_back : burinlaw02_shown.f = some true := by kernel_rfl
theorem lines_few (a : ByteArray) (h : ¬ 65536 < (a.size : Int)) : ((lineFold (numbered 1 (phys a.data.toList))).1.map toS).length ≤ 65536 ∧ ∀ x ∈ (lineFold (numbered 1 (phys a.data.toList))).1.map toS, x.f1.size ≤ 65536 := by
  have hs := Lib.size_eq a
  have h1 := phys_len a.data.toList.length a.data.toList (Nat.le_refl _)
  have h2 := numbered_len (phys a.data.toList) 1
  have h3 := total_phys a.data.toList.length a.data.toList 1 (Nat.le_refl _)
  obtain ⟨_, h5, h6⟩ := lineFold_ok (numbered 1 (phys a.data.toList)) (numbered 1 (phys a.data.toList)).length (Nat.le_refl _)
  rw [List.length_map]
  refine ⟨by omega, fun x hx => ?_⟩
  obtain ⟨y, hy, rfl⟩ := List.mem_map.1 hx
  have := h6 y hy
  have hb : (toS y).f1.size = y.2.length := by
    show (Go.Proofs.YtinfkbdhnbefmaaDoorU.bstr y.2).size = _
    rw [Lib.size_eq]
    simp [Go.Proofs.YtinfkbdhnbefmaaDoorU.bstr]
  rw [hb]
  omega
theorem toL_toS (l : List (Nat × List UInt8)) : toL (l.map toS) = linesI l := by
  unfold toL linesI
  rw [List.map_map]
  exact List.map_congr_left fun y _ => rfl
theorem lex_of (a : ByteArray) (h : ¬ 65536 < (a.size : Int)) : text_Lines.f a = some ((lineFold (numbered 1 (phys a.data.toList))).1.map toS, 0) ∧
    token_Lex.f ((lineFold (numbered 1 (phys a.data.toList))).1.map toS) = some ((lexP (linesI (logical 1 (phys a.data.toList)))).1.map toT, (lexP (linesI (logical 1 (phys a.data.toList)))).2.1, (lexP (linesI (logical 1 (phys a.data.toList)))).2.2) := by
  obtain ⟨b1, b2⟩ := lines_few a h
  refine ⟨by unfold text_Lines.f; rw [if_neg h], ?_⟩
  have hf : fits ((lineFold (numbered 1 (phys a.data.toList))).1.map toS) = true := by
    unfold fits
    rw [Bool.and_eq_true, List.all_eq_true, decide_eq_true_eq]
    refine ⟨fun x hx => ?_, by omega⟩
    have := b2 x hx
    rw [decide_eq_true_eq]; omega
  unfold token_Lex.f
  rw [if_pos hf, toL_toS, lineFold_logical]
theorem restT_spell : ∀ (l : List TokP) (i : Nat), spellD (i + 1) (l.map toT) = restT l
  | [], i => rfl
  | u :: r, i => by
    rw [List.map_cons, spellD, restT_spell r (i + 1), restT]
    congr 1
theorem spT_spell (a : List TokP) : Sp.spellN (Sp.itemsOf (a.map toT)) = spT a := by
  rw [spell_eq]
  cases a with
  | nil => rfl
  | cons t r =>
    rw [List.map_cons, spellD, restT_spell r 0]
    rfl
theorem tot_mem : ∀ (a : List TokP), ∀ t ∈ a, t.s.length ≤ tot a
  | [], t, h => by cases h
  | x :: a, t, h => by
    rw [tot]
    rcases List.mem_cons.1 h with rfl | h
    · omega
    · have := tot_mem a t h; omega
theorem getD_map (a : List TokP) (i : Nat) (h : i < a.length) : (a.map toT).getD i z34 = toT (a[i]'h) := by
  rw [List.getD_eq_getElem?_getD, List.getElem?_map, List.getElem?_eq_getElem h]; rfl
theorem al_toT {x y : TokP} (h : Al x y) : al (toT x) (toT y) :=
  ⟨by show (x.kind : Int) = y.kind; rw [h.1], by show bstr x.s = bstr y.s; rw [h.2.1], rfl, h.2.2.1, h.2.2.2⟩
theorem alB_toT : ∀ {a b : List TokP}, AlL a b → alB (a.map toT) (b.map toT)
  | [], [], _ => ⟨rfl, fun i hi => by simp at hi⟩
  | x :: a, y :: b, h => by
    obtain ⟨h1, h2⟩ := alB_toT h.2
    refine ⟨by rw [List.map_cons, List.map_cons, List.length_cons, List.length_cons, h1], fun i hi => ?_⟩
    cases i with
    | zero => exact al_toT h.1
    | succ i => exact h2 i (by rw [List.map_cons, List.length_cons] at hi; omega)
  | [], _ :: _, h => h.elim
  | _ :: _, [], h => h.elim
theorem loop_back (A : List S34) (hA : A.length ≤ 4000000000) (hfin : (∀ j, j < A.length → (A.getD j z34).f1.toList ≠ [92]) → ∀ k, ((token_Spell.f A).bind fun t131 => ((text_Lines.f t131).bind fun bt132 => ((token_Lex.f bt132.1).bind fun bt136 => (if true = true then (if bt132.2 = 0 then (if bt136.2.1 = 0 then ((burinlaw02_alike.f k A bt136.1).bind fun t141 => (some t141)) else (some false)) else (some false)) else (some false))))) = some true) :
    ∀ (d i k : Nat), i + d = A.length → d < k → (∀ j, j < i → (A.getD j z34).f1.toList ≠ [92]) → burinlaw02_TokenBack.l0 k true A (i : Int) = some true := by
  intro d
  induction d with
  | zero =>
    intro i k h hk hj
    obtain ⟨k, rfl⟩ : ∃ k', k = k' + 1 := ⟨k - 1, by omega⟩
    unfold burinlaw02_TokenBack.l0
    rw [if_neg (by omega)]
    exact hfin (fun j hj' => hj j (by omega)) k
  | succ d ih =>
    intro i k h hk hj
    obtain ⟨k, rfl⟩ : ∃ k', k = k' + 1 := ⟨k - 1, by omega⟩
    unfold burinlaw02_TokenBack.l0
    rw [if_pos (by omega), if_pos (by omega)]
    by_cases hc : (A.getD i z34).f1.toList = [92]
    · rw [if_pos (show ((rd_T34 A (i : Int)).f1).toList = [92] from hc)]
    · rw [if_neg (show ¬ ((rd_T34 A (i : Int)).f1).toList = [92] from hc)]
      have hw : wrap64 ((i : Int) + 1) = ((i + 1 : Nat) : Int) := by unfold wrap64; omega
      rw [hw]
      refine ih (i + 1) k (by omega) (by omega) (fun j hj' => ?_)
      by_cases e : j = i
      · subst e; exact hc
      · exact hj j (by omega)
theorem toList_bstr (l : List UInt8) : (bstr l).toList = l := by
  rw [Lib.toList_data]; rfl
theorem back_eq (d : ByteArray) : ∃ k, burinlaw02_TokenBack.f k d = some true := by
  unfold burinlaw02_TokenBack.f
  simp only [shown_back, Option.bind_some]
  by_cases h : (d.size : Int) > 20000
  · exact ⟨0, by rw [if_pos h]⟩
  · obtain ⟨e1, e2⟩ := lex_of d (by omega)
    obtain ⟨⟨a, e, n⟩, hq⟩ : ∃ q, lexP (linesI (logical 1 (phys d.data.toList))) = q := ⟨_, rfl⟩
    rw [hq] at e2
    simp only at e2
    by_cases he : e = 0
    · subst he
      refine ⟨a.length + 2, ?_⟩
      rw [if_neg h, e1, Option.bind_some, e2, Option.bind_some, if_pos rfl]
      simp only
      show (if ((0 : Int) != 0) = true then some true else burinlaw02_TokenBack.l0 (a.length + 1) true (a.map toT) 0) = some true
      rw [if_neg (by decide)]
      have hds := Lib.size_eq d
      have hal : a.length ≤ 20000 := by have := lexP_len (linesI (logical 1 (phys d.data.toList))); rw [hq] at this; exact this
      refine loop_back (a.map toT) (by rw [List.length_map]; omega) (fun hall k => ?_) a.length 0 (a.length + 1) (by rw [List.length_map]; omega) (by omega) (fun j hj => by omega)
      have hb : ∀ t ∈ a, t.s ≠ [92] := fun t ht e92 => by
        obtain ⟨i, hi, rfl⟩ := List.getElem_of_mem ht
        have := hall i (by rw [List.length_map]; exact hi)
        rw [getD_map a i hi] at this
        apply this
        show (bstr (a[i]).s).toList = [92]
        rw [toList_bstr, e92]
      obtain ⟨l1, l2, l3, b, m, hb1, hb2⟩ := back d.data.toList (by omega) a n hq hb
      have hsp : token_Spell.f (a.map toT) = some ⟨(spT a).toArray⟩ := by
        unfold token_Spell.f
        rw [if_pos (by
          unfold fitsT
          rw [Bool.and_eq_true, List.all_eq_true, decide_eq_true_eq]
          refine ⟨fun x hx => ?_, by rw [List.length_map]; omega⟩
          obtain ⟨t, ht, rfl⟩ := List.mem_map.1 hx
          have := tot_mem a t ht
          have hs : (toT t).f1.size = t.s.length := bstr_size t.s
          rw [decide_eq_true_eq, hs]; omega), spT_spell]
      have hsz : (⟨(spT a).toArray⟩ : ByteArray).size = (spT a).length := bstr_size (spT a)
      obtain ⟨g1, g2⟩ := lex_of ⟨(spT a).toArray⟩ (by rw [hsz]; omega)
      rw [hsp, Option.bind_some, g1, Option.bind_some]
      simp only
      rw [g2, Option.bind_some]
      have hdl : (⟨(spT a).toArray⟩ : ByteArray).data.toList = spT a := rfl
      rw [hdl, hb1, if_pos rfl, if_pos trivial, if_pos trivial]
      simp only
      unfold burinlaw02_alike.f
      rw [if_pos (alB_toT hb2), Option.bind_some]
    · refine ⟨1, ?_⟩
      rw [if_neg h, e1, Option.bind_some, e2, Option.bind_some, if_pos rfl]
      simp only
      show (if (e != 0) = true then some true else burinlaw02_TokenBack.l0 0 true (a.map toT) 0) = some true
      rw [if_pos (by rw [bne_iff_ne]; exact he)]
/-- The law's call. -/
theorem back_law (d : ByteArray) (w : World) (hT : Tab w) :
    Calls Tryd.prog 9 #[.string d] w fun e w' => e = .returned (.bool true) ∧ Below w.heap.size w w' := by
  obtain ⟨k, hk⟩ := back_eq d
  exact burinlaw02_TokenBack.calls k d true w hT hk
end Go.Proofs.YtinfkbdhnbefmaaDoor.PB
