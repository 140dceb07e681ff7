import Derived.Test.YtcbfbefpbjmglaaDoorPS
import Derived.Test.YtcbfbefpbjmglaaDoorA3
import Derived.Test.YtcbfbefpbjmglaaDoorB2
namespace Go.Proofs.YtcbfbefpbjmglaaDoor.Mac
open Go.RowKit Go.Proofs.MapFun Go.Proofs.YtcbfbefpbjmglaaDoor.PA Go.Proofs.YtcbfbefpbjmglaaDoorT Go.Proofs.YtcbfbefpbjmglaaDoorW.PrintWords Go.Proofs.YtcbfbefpbjmglaaDoorW.PrintLast Go.Proofs.YtcbfbefpbjmglaaDoorW.PrintMore
set_option linter.unusedVariables false
set_option linter.unusedSimpArgs false
def sA : ByteArray := ⟨#[70, 40, 97, 44, 98, 41, 32, 32, 97, 32, 35, 35, 32, 98]⟩
def sB : ByteArray := ⟨#[88, 43, 49]⟩
def lA : List S48 := (lexP [(1, sA.data.toList)]).1.map toT
def lB : List S48 := (lexP [(1, sB.data.toList)]).1.map toT
def psA : List ByteArray := [⟨#[97]⟩, ⟨#[98]⟩]
def bdA : List S48 := [⟨1, ⟨#[97]⟩, ⟨#[]⟩, 0, false, false⟩, ⟨5, ⟨#[35, 35]⟩, ⟨#[]⟩, 0, true, false⟩, ⟨1, ⟨#[98]⟩, ⟨#[]⟩, 0, true, false⟩]
theorem lexA_f : burinlaw03_lexed.f sA = some lA := by kernel_rfl
theorem lexB_f : burinlaw03_lexed.f sB = some lB := by kernel_rfl
theorem parseA_f : macro_Parse.f lA = some (⟨#[70]⟩, true, psA, false, bdA, 0) := by kernel_rfl
theorem parseB_f : macro_Parse.f lB = some (⟨#[]⟩, false, [], false, [], 30) := by kernel_rfl
theorem showA_f : macro_Show.f 40 ⟨#[70]⟩ true psA false bdA = some (⟨#[70, 40, 97, 44, 32, 98, 41, 32, 97, 32, 35, 35, 32, 98]⟩, 0) := by kernel_rfl
set_option maxHeartbeats 1000000 in
theorem shown_c (w : World) (hT : Tab w) : Calls Tryd.prog 9 #[] w fun e w' => e = .returned (.bool true) ∧ Below w.heap.size w w' := by
 have HT := Lib.hid hT
 clear hT
 have ST1 : True := trivial
 go_enter Tryd.func9, Tryd.ntmps9
 go_wp2_with (first
  | (have g_ := ST1; clear g_ ST1; go_at_call 20; refine (burinlaw03_lexed.calls sA lA _ HT.out lexA_f).mono ?_; rintro e w1 ⟨v1, rfl, hR1, hb1⟩; obtain ⟨A1, c1, rfl⟩ := Kd.R_slice hR1; have H1 := Lib.hid (And.intro hR1 hb1); clear hR1 hb1; have ST2 : True := trivial)
  | (have g_ := ST2; clear g_ ST2; go_at_call 11; refine (macro_Parse.calls A1 c1 lA _ _ _ _ _ _ _ (Kd.R_reads' H1.out.1).2.2 (Kd.R_reads' H1.out.1).2.1 (HT.out.grow H1.out.2) parseA_f).mono ?_; rintro e w2 ⟨v2, v3, rfl, hR2, hR3, hb2⟩; obtain ⟨A2, c2, rfl⟩ := Kd.R_slice hR2; obtain ⟨A3, c3, rfl⟩ := Kd.R_slice hR3; have H2 := Lib.hid (And.intro hR2 (And.intro hR3 (H1.out.2.trans (hb2.mono H1.out.2.size)))); clear hR2 hR3 hb2; have ST3 : True := trivial)
  | (have g_ := ST3; clear g_ ST3; go_at_call 14; have hbA := H2.out.2.2.alloc H2.out.2.2.size (.cells #[.string ⟨#[70]⟩, .bool true, .slice A2 psA.length c2, .bool false, .slice A3 bdA.length c3] 32); have qA := blk_new w2 (.cells #[.string ⟨#[70]⟩, .bool true, .slice A2 psA.length c2, .bool false, .slice A3 bdA.length c3] 32); have hszA := World.size_alloc w2 (.cells #[.string ⟨#[70]⟩, .bool true, .slice A2 psA.length c2, .bool false, .slice A3 bdA.length c3] 32); refine (macro_Show.calls 40 _ _ A2 c2 psA _ A3 c3 bdA _ _ _ (Kd.C_alloc (Kd.R_reads' H2.out.1).2.2 _) (Kd.R_reads' H2.out.1).2.1 (Kd.C_alloc (Kd.R_reads' H2.out.2.1).2.2 _) (Kd.R_reads' H2.out.2.1).2.1 (HT.out.grow hbA) showA_f).mono ?_; rintro e w3 ⟨rfl, hb3⟩; have H3 := Lib.hid (And.intro ((hb3.block w2.heap.size (by rw [hszA]; exact Nat.lt_succ_self _)).trans qA) (hbA.trans (hb3.mono hbA.size))); clear hb3 qA hbA hszA; have ST4 : True := trivial)
  | (have g_ := ST4; clear g_ ST4; go_at_call 20; refine (burinlaw03_lexed.calls sB lB _ (HT.out.grow H3.out.2) lexB_f).mono ?_; rintro e w4 ⟨v4, rfl, hR4, hb4⟩; obtain ⟨A4, c4, rfl⟩ := Kd.R_slice hR4; have H4 := Lib.hid (And.intro hR4 (And.intro ((hb4.block _ (blk_lt H3.out.1)).trans H3.out.1) (H3.out.2.trans (hb4.mono H3.out.2.size)))); clear hR4 hb4; have ST5 : True := trivial)
  | (have g_ := ST5; clear g_ ST5; go_at_call 11; refine (macro_Parse.calls A4 c4 lB _ _ _ _ _ _ _ (Kd.R_reads' H4.out.1).2.2 (Kd.R_reads' H4.out.1).2.1 (HT.out.grow H4.out.2.2) parseB_f).mono ?_; rintro e w5 ⟨v5, v6, rfl, hR5, hR6, hb5⟩; obtain ⟨A5, c5, rfl⟩ := Kd.R_slice hR5; obtain ⟨A6, c6, rfl⟩ := Kd.R_slice hR6; have q5 := (hb5.block _ (blk_lt H4.out.2.1)).trans H4.out.2.1; have m1 := cell_al (blk_cell q5 1) (.cells #[.string ⟨#[]⟩, .bool false, .slice A5 0 c5, .bool false, .slice A6 0 c6] 32); have m2 := cell_al (blk_cell q5 2) (.cells #[.string ⟨#[]⟩, .bool false, .slice A5 0 c5, .bool false, .slice A6 0 c6] 32); have hb6 := H4.out.2.2.trans (hb5.mono H4.out.2.2.size); have H5 := Lib.hid (hb6.alloc hb6.size (.cells #[.string ⟨#[]⟩, .bool false, .slice A5 0 c5, .bool false, .slice A6 0 c6] 32)); clear hR5 hR6 hb5 q5 hb6))
 go_ret
 exact ⟨rfl, H5.out⟩
end Go.Proofs.YtcbfbefpbjmglaaDoor.Mac
namespace Go.Proofs.YtcbfbefpbjmglaaDoor.Mac
open Go.RowKit Go.Lib Go.Proofs.YtcbfbefpbjmglaaDoor.PA Go.Proofs.YtcbfbefpbjmglaaDoorT Go.Proofs.YtcbfbefpbjmglaaDoorW.PrintWords Go.Proofs.YtcbfbefpbjmglaaDoorW.PrintLast Go.Proofs.YtcbfbefpbjmglaaDoorW.PrintMore
set_option linter.unusedVariables false
set_option linter.unusedSimpArgs false
def τ (u : TokP) : S48 := toT (φ u)
theorem name_not (p : List UInt8) (h : NameL p) : isDots (bstr p) = false ∧ isClose (bstr p) = false ∧ isOpen (bstr p) = false := by
 obtain ⟨h1, h2, _⟩ := h
 have key : ∀ c r, (isL c = false) → ((bstr p).toList == c :: r) = false := fun c r hc => by
  rw [beq_eq_false_iff_ne, toList_bstr]
  intro e
  rw [e] at h1
  have h1 : isL c = true := h1
  rw [hc] at h1; cases h1
 exact ⟨key 46 _ (by decide), key 41 _ (by decide), key 40 _ (by decide)⟩
theorem els_pair (a b : S48) (r : List S48) : els (a :: b :: r) = (a, b.f1) :: els r := rfl
theorem parL_ptk (more : Bool) (B : List S48) : ∀ (ps : List (List UInt8)) (f : Bool) (n : Int) (st : List ByteArray × Bool), (∀ p ∈ ps, NameL p) → (ps ≠ [] ∨ more = true) → st.2 = false →
  parL (els ((ptk more f ps).map τ ++ B)) n st = some (n + (ptk more f ps).length, (st.1 ++ ps.map bstr, more))
 | [], f, n, st, hp, hne, hst => by
  have hm : more = true := hne.resolve_left (by simp)
  subst hm
  show parL (els (τ ⟨5, [46, 46, 46], 0, !f, false⟩ :: τ closeT :: B)) n st = some (n + 2, (st.1 ++ [], true))
  rw [els_pair, parL]
  have hr : rnd (τ ⟨5, [46, 46, 46], 0, !f, false⟩, (τ closeT).f1) st = some (st.1, true) := by
   unfold rnd
   rw [if_pos (by show (isDots (bstr [46, 46, 46]) && isClose (bstr [41])) = true; decide +kernel)]
  rw [hr, Option.bind_some, if_pos (by show isClose (bstr [41]) = true; decide +kernel), List.append_nil]
 | p :: r, f, n, st, hp, hne, hst => by
  obtain ⟨d1, d2, d3⟩ := name_not p (hp p List.mem_cons_self)
  cases hr : (r.isEmpty && !more) with
  | true =>
   rw [show ptk more f (p :: r) = ⟨1, p, 0, !f, false⟩ :: [closeT] by rw [ptk, hr, if_pos rfl]]
   simp only [Bool.and_eq_true, List.isEmpty_iff, Bool.not_eq_true'] at hr
   obtain ⟨rfl, rfl⟩ := hr
   show parL (els (τ ⟨1, p, 0, !f, false⟩ :: τ closeT :: B)) n st = some (n + 2, (st.1 ++ [bstr p], false))
   rw [els_pair, parL]
   have hr : rnd (τ ⟨1, p, 0, !f, false⟩, (τ closeT).f1) st = some (st.1 ++ [bstr p], st.2) := by
    unfold rnd
    rw [if_neg (by show ¬ (isDots (bstr p) && _) = true; rw [d1]; simp), if_pos (by show (((1 : Int) == 1) && (isClose (bstr [41]) || isComma (bstr [41]))) = true; decide +kernel)]
    rfl
   rw [hr, Option.bind_some, if_pos (by show isClose (bstr [41]) = true; decide +kernel), hst]
  | false =>
   have hne2 : r ≠ [] ∨ more = true := by
    cases r with
    | nil => right; simpa using hr
    | cons a b => left; simp
   rw [show ptk more f (p :: r) = ⟨1, p, 0, !f, false⟩ :: commaT :: ptk more false r by rw [ptk, hr, if_neg (by decide)]]
   show parL (els (τ ⟨1, p, 0, !f, false⟩ :: τ commaT :: ((ptk more false r).map τ ++ B))) n st = _
   rw [els_pair, parL]
   have hr : rnd (τ ⟨1, p, 0, !f, false⟩, (τ commaT).f1) st = some (st.1 ++ [bstr p], st.2) := by
    unfold rnd
    rw [if_neg (by show ¬ (isDots (bstr p) && _) = true; rw [d1]; simp), if_pos (by show (((1 : Int) == 1) && (isClose (bstr [44]) || isComma (bstr [44]))) = true; decide +kernel)]
    rfl
   rw [hr, Option.bind_some, if_neg (by show ¬ isClose (bstr [44]) = true; decide +kernel), parL_ptk more B r false (n + 2) (st.1 ++ [bstr p], st.2) (fun q hq => hp q (List.mem_cons_of_mem _ hq)) hne2 hst]
   simp only [List.length_cons, List.map_cons, List.append_assoc, List.singleton_append]
   congr 2
   omega
theorem params_ptk (more : Bool) (B : List S48) (ps : List (List UInt8)) (hp : ∀ p ∈ ps, NameL p) : paramsP ((ptk more true ps).map τ ++ B) = some (((ptk more true ps).length : Int), (ps.map bstr, more)) := by
 cases ps with
 | nil =>
  cases more with
  | false =>
   show paramsP (τ closeT :: B) = _
   rw [paramsP, if_pos (by show isClose (bstr [41]) = true; decide +kernel)]
   rfl
  | true =>
   have h := parL_ptk true B [] true 0 ([], false) (by simp) (.inr rfl) rfl
   show paramsP (τ ⟨5, [46, 46, 46], 0, !true, false⟩ :: τ closeT :: B) = _
   rw [paramsP, if_neg (by show ¬ isClose (bstr [46, 46, 46]) = true; decide +kernel)]
   have h' : parL (els (τ ⟨5, [46, 46, 46], 0, !true, false⟩ :: τ closeT :: B)) 0 ([], false) = some (0 + 2, ([] ++ [], true)) := h
   rw [h']
   rfl
 | cons p r =>
  have h := parL_ptk more B (p :: r) true 0 ([], false) hp (.inl (by simp)) rfl
  have hx : ∃ q, (ptk more true (p :: r)).map τ ++ B = τ ⟨1, p, 0, !true, false⟩ :: q := ⟨_, rfl⟩
  obtain ⟨q, hq⟩ := hx
  rw [hq] at h ⊢
  rw [paramsP, if_neg (by show ¬ isClose (bstr p) = true; rw [(name_not p (hp p List.mem_cons_self)).2.1]; decide), h]
  simp
def restT' (fn more : Bool) (ps : List (List UInt8)) (B : List TokP) : List TokP := (if fn then openT :: ptk more true ps else []) ++ B
theorem parse_show (nm : List UInt8) (fn more : Bool) (ps : List (List UInt8)) (L : List TokP) (body : List S48) (hp : ∀ p ∈ ps, NameL p) (hfn : fn = false → ps = [] ∧ more = false) (hb : bareP ((bodyT L).map τ) = body) (hr : rightP (bstr nm) fn (ps.map bstr) more body = true) :
  parseP (toT ⟨1, nm, 1, false, true⟩ :: (restT' fn more ps (bodyT L)).map τ) = some ⟨bstr nm, fn, ps.map bstr, more, body⟩ := by
 rw [parseP, if_pos (by rfl)]
 cases fn with
 | true =>
  have hh : headP ((restT' true more ps (bodyT L)).map τ) = some (true, ps.map bstr, more, (bodyT L).map τ) := by
   have e : (restT' true more ps (bodyT L)).map τ = τ openT :: ((ptk more true ps).map τ ++ (bodyT L).map τ) := by
    show (openT :: ptk more true ps ++ bodyT L).map τ = _
    rw [List.map_append, List.map_cons]; rfl
   rw [e, headP, if_neg (by show ¬ (false = true); decide), if_pos (by show isOpen (bstr [40]) = true; decide +kernel), params_ptk more _ ps hp, Option.bind_some]
   show some (true, ps.map bstr, more, ((ptk more true ps).map τ ++ (bodyT L).map τ).drop (((ptk more true ps).length : Int)).toNat) = _
   rw [Int.toNat_natCast, List.drop_left' (by rw [List.length_map])]
  rw [hh, Option.bind_some]
  show (if rightP (bstr nm) true (ps.map bstr) more (bareP ((bodyT L).map τ)) = true then some (⟨bstr nm, true, ps.map bstr, more, bareP ((bodyT L).map τ)⟩ : MacP) else none) = _
  rw [hb, if_pos hr]
 | false =>
  obtain ⟨rfl, rfl⟩ := hfn rfl
  have hh : headP ((restT' false false [] (bodyT L)).map τ) = some (false, [], false, (bodyT L).map τ) := by
   show headP ((bodyT L).map τ) = _
   cases L with
   | nil => rfl
   | cons t r =>
    rw [bodyT, List.map_cons, headP, if_pos (by rfl)]
  rw [hh, Option.bind_some]
  show (if rightP (bstr nm) false [] false (bareP ((bodyT L).map τ)) = true then some (⟨bstr nm, false, [], false, bareP ((bodyT L).map τ)⟩ : MacP) else none) = _
  rw [hb]
  exact if_pos hr
def dotsA : ByteArray := ⟨#[46, 46, 46]⟩
def showP (nm : ByteArray) (fn : Bool) (ps : List ByteArray) (more : Bool) (body : List S48) : ByteArray :=
 (if fn then nm ++ (((⟨#[40]⟩ : ByteArray) ++ joinB (ps ++ (if more then [dotsA] else [])) (⟨#[44, 32]⟩ : ByteArray)) ++ (⟨#[41]⟩ : ByteArray)) else nm) ++ (if 0 < body.length then (⟨#[32]⟩ : ByteArray) ++ spellB body else ⟨#[]⟩)
theorem data_app (a b : ByteArray) : (a ++ b).data.toList = a.data.toList ++ b.data.toList := by simp
theorem rightP_parts {nm : ByteArray} {fn more : Bool} {ps : List ByteArray} {body : List S48} (h : rightP nm fn ps more body = true) : isNameP nm = true ∧ ps.length ≤ 16 ∧ (fn = false → ps = [] ∧ more = false) ∧ goodParams [] ps = true ∧ body.length ≤ 500 ∧ speltP body = true := by
 unfold rightP isBodyP at h
 simp only [Bool.and_eq_true, decide_eq_true_eq] at h
 obtain ⟨h1, h2, h3, h4, h5, h6, h7, h8, h9, h10⟩ := h
 refine ⟨h1, h3, fun hf => ?_, h5, h6, ?_⟩
 ·subst hf
  cases more with
  | true => simp at h4
  | false =>
   refine ⟨?_, rfl⟩
   cases ps with
   | nil => rfl
   | cons a b => simp at h4
 ·unfold speltP
  rw [h7, decide_eq_true h8, h9]; rfl
theorem nameL_of (s : ByteArray) (hs : s.size < 4294967281) (h : isNameP s = true) : NameL s.data.toList := by
 rw [isNameP_eq s hs, Bool.and_eq_true] at h
 obtain ⟨a, b, c⟩ := name_word s h.1
 exact ⟨a, b, c⟩
theorem body_tokens (body : List S48) (h : speltP body = true) : ∃ L : List TokP, (lexP [(1, (spellB body).data.toList)]).1 = L ∧ body = bareP (L.map toT) ∧ (∀ z, Chain z (bodyT L)) ∧ (∀ u ∈ bodyT L, u.fs = false) ∧ L.length = body.length ∧ (spellB body).data.toList = headT L := by
 unfold speltP at h
 simp only [Bool.and_eq_true, decide_eq_true_eq] at h
 obtain ⟨h1, h2, h3⟩ := h
 have h3 := toksEq_eq h3
 obtain ⟨e1, e2, _⟩ := lexP_toks 1 _ h2
 have hch : Chain [] ((lineP 1 (spellB body).data.toList st0).1 ++ []) := lineP_chain 1 [] (fun z => Chain.nil z) _ st0 e2 []
 rw [List.append_nil, ← e1] at hch
 have hfs : ∀ u ∈ bodyT (lexS body).1, u.fs = false := by
  match hL : (lexS body).1 with
  | [] => intro u hu; cases hu
  | t :: r =>
   have := line_tail _ t r (by rw [← hL]; exact e1.symm)
   intro u hu
   rw [bodyT] at hu
   rcases List.mem_cons.1 hu with rfl | hu
   ·rfl
   ·exact this.2 u hu
 refine ⟨(lexS body).1, rfl, h3, chain_body hch, hfs, ?_, ?_⟩
 ·have := congrArg List.length h3
  rw [bareP, bareFrom_len, List.length_map] at this
  exact this.symm
 ·have : (spellB body).data.toList = spellD 0 body := by
   unfold spellB; rw [spell_eq]
  rw [this]
  conv => lhs; rw [h3]
  rw [spell_body]
theorem show_text (nm : ByteArray) (fn more : Bool) (ps : List ByteArray) (body : List S48) (L : List TokP) (hfn : fn = false → ps = [] ∧ more = false) (hl : L.length = body.length) (hs : (spellB body).data.toList = headT L) :
  (showP nm fn ps more body).data.toList = nm.data.toList ++ tailT (restT' fn more (ps.map (·.data.toList)) (bodyT L)) := by
 have hB : (if 0 < body.length then (⟨#[32]⟩ : ByteArray) ++ spellB body else ⟨#[]⟩ : ByteArray).data.toList = tailT (bodyT L) := by
  cases L with
  | nil => rw [if_neg (by simp at hl; omega)]; rfl
  | cons t r =>
   rw [if_pos (by simp at hl; omega), data_app, hs]
   show [32] ++ (t.s ++ tailT r) = [32] ++ t.s ++ tailT r
   rw [List.append_assoc]
 unfold showP restT'
 rw [data_app, hB, tailT_app, ← List.append_assoc]
 congr 1
 cases fn with
 | false => show nm.data.toList = nm.data.toList ++ []; rw [List.append_nil]
 | true =>
  show (nm ++ _ : ByteArray).data.toList = nm.data.toList ++ tailT (openT :: ptk more true (ps.map (·.data.toList)))
  rw [data_app, data_app, data_app]
  congr 1
  rw [tailT, tail_ptk more _ true (fun h => by cases h)]
  have hj : (joinB (ps ++ (if more then [dotsA] else [])) (⟨#[44, 32]⟩ : ByteArray)).data.toList = Lib.join (itemsL more (ps.map (·.data.toList))) [44, 32] := by
   show Lib.join ((ps ++ (if more then [dotsA] else [])).map (·.data.toList)) [44, 32] = _
   unfold itemsL
   rw [List.map_append]
   congr 2
   cases more <;> rfl
  rw [hj]
  show ([40] ++ _) ++ [41] = [] ++ [40] ++ ([] ++ (_ ++ [41]))
  simp
theorem back_law (nm : ByteArray) (fn more : Bool) (ps : List ByteArray) (body : List S48) (hd : DomM nm ps body) (h : rightP nm fn ps more body = true) :
  (lexP [(1, (showP nm fn ps more body).data.toList)]).2.1 = 0 ∧ parseP ((lexP [(1, (showP nm fn ps more body).data.toList)]).1.map toT) = some ⟨nm, fn, ps, more, body⟩ ∧ (lexP [(1, (showP nm fn ps more body).data.toList)]).1.length ≤ 1000 ∧ ∀ t ∈ (lexP [(1, (showP nm fn ps more body).data.toList)]).1, t.s.length ≤ 1048576 := by
 obtain ⟨hn, h16, hfn, hg, h500, hsp⟩ := rightP_parts h
 obtain ⟨hnz, _, _, hpz, hbz⟩ := hd
 obtain ⟨L, hLe, hbL, hch, hfs, hlen, htx⟩ := body_tokens body hsp
 have hN := nameL_of nm (by omega) hn
 have hP : ∀ p ∈ ps.map (·.data.toList), NameL p := by
  intro p hp
  obtain ⟨q, hq, rfl⟩ := List.mem_map.1 hp
  exact nameL_of q (by have := hpz q hq; omega) (goodParams_mem ps [] hg q hq)
 have hps : (ps.map (·.data.toList)).map bstr = ps := by
  rw [List.map_map]
  conv => rhs; rw [← List.map_id ps]
  refine List.map_congr_left fun x _ => ?_
  show bstr x.data.toList = x
  unfold bstr; cases x; rfl
 have hnm : bstr nm.data.toList = nm := by unfold bstr; cases nm; rfl
 have hst := show_text nm fn more ps body L hfn hlen htx
 have hchain : Chain (tailT (restT' fn more (ps.map (·.data.toList)) (bodyT L))) (restT' fn more (ps.map (·.data.toList)) (bodyT L)) := by
  unfold restT'
  cases fn with
  | false => exact hch _
  | true =>
   show Chain _ (openT :: (ptk more true _ ++ bodyT L))
   refine Chain.cons (m := 40 :: tailT (ptk more true (ps.map (·.data.toList)) ++ bodyT L)) (by simp) (fresh_of 40 _ (by decide) (by decide)) (next_open _) rfl (by simp [openT]) (.inr (.inr rfl)) ?_
   exact chain_ptk more hch _ true _ hP (fun _ => rfl) (fun h => by cases h)
 have hpf : ∀ (f : Bool) (l : List (List UInt8)), ∀ u ∈ ptk more f l, u.fs = false := by
  intro f l
  induction l generalizing f with
  | nil => cases more <;> intro u hu <;> simp [ptk, closeT] at hu <;> (try rcases hu with rfl | rfl) <;> (try subst hu) <;> rfl
  | cons p r ih =>
   intro u hu
   rw [ptk] at hu
   rcases List.mem_cons.1 hu with rfl | hu
   ·rfl
   ·split at hu
    ·rw [List.mem_singleton.1 hu]; rfl
    ·rcases List.mem_cons.1 hu with rfl | hu
     ·rfl
     ·exact ih false u hu
 have hfs2 : ∀ u ∈ restT' fn more (ps.map (·.data.toList)) (bodyT L), u.fs = false := by
  unfold restT'
  intro u hu
  rcases List.mem_append.1 hu with hu | hu
  ·cases fn with
   | false => cases hu
   | true =>
    rcases List.mem_cons.1 hu with rfl | hu
    ·rfl
    ·exact hpf true _ u hu
  ·exact hfs u hu
 have hpl : ∀ (f : Bool) (l : List (List UInt8)), (ptk more f l).length ≤ 2 * l.length + 2 := by
  intro f l
  induction l generalizing f with
  | nil => cases more <;> simp [ptk]
  | cons p r ih =>
   rw [ptk]
   split
   ·simp
   ·have := ih false
    simp only [List.length_cons]; omega
 have hbl : (bodyT L).length = L.length := by cases L <;> rfl
 have hlen2 : (restT' fn more (ps.map (·.data.toList)) (bodyT L)).length ≤ 600 := by
  unfold restT'
  rw [List.length_append, hbl, hlen]
  have := hpl true (ps.map (·.data.toList))
  rw [List.length_map] at this
  cases fn with
  | false => simp; omega
  | true => simp only [if_true, List.length_cons]; omega
 have hw : isW ((tailT (restT' fn more (ps.map (·.data.toList)) (bodyT L))).getD 0 0) = false := by
  unfold restT'
  cases fn with
  | true => rfl
  | false =>
   cases L with
   | nil => rfl
   | cons t r => rfl
 have hlex := lex_show nm.data.toList hN _ hchain hfs2 hw (by omega)
 rw [← hst] at hlex
 rw [hlex]
 refine ⟨rfl, ?_, by simp; omega, ?_⟩
 ·have hb : bareP ((bodyT L).map τ) = body := by
   rw [hbL]
   exact bare_body L
  have := parse_show nm.data.toList fn more (ps.map (·.data.toList)) L body hP (fun hf => by obtain ⟨a, b⟩ := hfn hf; rw [a]; exact ⟨rfl, b⟩) hb (by rw [hps, hnm]; exact h)
  rw [hps, hnm] at this
  rw [← this, List.map_cons, List.map_map]
  rfl
 ·have hbt : ∀ u ∈ bodyT L, u.s.length ≤ 1048576 := by
   have hL : ∀ u ∈ L, u.s.length ≤ 1048576 := by
    intro u hu
    have : ∀ (i : Nat) (l : List TokP), u ∈ l → ∃ x ∈ bareFrom i (l.map toT), x.f1 = bstr u.s := by
     intro i l
     induction l generalizing i with
     | nil => intro h; cases h
     | cons a l ih =>
      intro hu
      rw [List.map_cons, bareFrom]
      rcases List.mem_cons.1 hu with rfl | hu
      ·exact ⟨_, List.mem_cons_self, rfl⟩
      ·obtain ⟨x, hx, e⟩ := ih (i + 1) hu
       exact ⟨x, List.mem_cons_of_mem _ hx, e⟩
    obtain ⟨x, hx, e⟩ := this 0 L hu
    have hx' : x ∈ body := by rw [hbL]; exact hx
    have := hbz x hx'
    rw [e, size_bstr] at this
    exact this
   intro u hu
   cases L with
   | nil => cases hu
   | cons t r =>
    rcases List.mem_cons.1 hu with rfl | hu
    ·exact hL t List.mem_cons_self
    ·exact hL u (List.mem_cons_of_mem _ hu)
  have hpt : ∀ (f : Bool) (l : List (List UInt8)), (∀ p ∈ l, p.length ≤ 1048576) → ∀ u ∈ ptk more f l, u.s.length ≤ 1048576 := by
   intro f l
   induction l generalizing f with
   | nil =>
    intro _ u hu
    cases more <;> simp [ptk, closeT] at hu <;> (try rcases hu with rfl | rfl) <;> (try subst hu) <;> simp
   | cons p r ih =>
    intro hp u hu
    rw [ptk] at hu
    rcases List.mem_cons.1 hu with rfl | hu
    ·exact hp p List.mem_cons_self
    ·split at hu
     ·rw [List.mem_singleton.1 hu]; simp [closeT]
     ·rcases List.mem_cons.1 hu with rfl | hu
      ·simp [commaT]
      ·exact ih false (fun q hq => hp q (List.mem_cons_of_mem _ hq)) u hu
  intro t ht
  rcases List.mem_cons.1 ht with rfl | ht
  ·show nm.data.toList.length ≤ _
   have := Lib.size_eq nm; omega
  ·obtain ⟨u, hu, rfl⟩ := List.mem_map.1 ht
   show u.s.length ≤ _
   unfold restT' at hu
   rcases List.mem_append.1 hu with hu | hu
   ·cases fn with
    | false => cases hu
    | true =>
     rcases List.mem_cons.1 hu with rfl | hu
     ·simp [openT]
     ·refine hpt true _ (fun p hp => ?_) u hu
      obtain ⟨q, hq, rfl⟩ := List.mem_map.1 hp
      have := hpz q hq
      have := Lib.size_eq q
      omega
   ·exact hbt u hu
end Go.Proofs.YtcbfbefpbjmglaaDoor.Mac
