import Derived.Test.YtcbfbefpbjmglaaDoorPS
import Derived.Test.YtcbfbefpbjmglaaDoorA3
import Derived.Test.YtcbfbefpbjmglaaDoorLS
import Derived.Test.YtcbfbefpbjmglaaDoorPE
import Derived.Test.YtcbfbefpbjmglaaDoorMR2
import Derived.Lib.LaidTab
import Derived.Test.YtcbfbefpbjmglaaDoorH2
import Derived.Test.YtcbfbefpbjmglaaDoorShelf2
import Derived.Test.YtcbfbefpbjmglaaDoorRows
namespace Go.Proofs.YtcbfbefpbjmglaaDoor.Mac
open Go.RowKit Go.Proofs.MapFun Go.Proofs.YtcbfbefpbjmglaaDoor.PA Go.Proofs.YtcbfbefpbjmglaaDoorT Go.Proofs.YtcbfbefpbjmglaaDoorW.PrintWords Go.Proofs.YtcbfbefpbjmglaaDoorW.PrintLast Go.Proofs.YtcbfbefpbjmglaaDoorW.PrintMore
set_option linter.unusedVariables false
set_option linter.unusedSimpArgs false
def sA : ByteArray := ⟨#[70, 40, 97, 44, 98, 41, 32, 32, 97, 32, 35, 35, 32, 98]⟩
def sB : ByteArray := ⟨#[88, 43, 49]⟩
def lA : List S48 := (lexP [(1, sA.data.toList)]).1.map toT
def lB : List S48 := (lexP [(1, sB.data.toList)]).1.map toT
def psA : List ByteArray := [⟨#[97]⟩, ⟨#[98]⟩]
def bdA : List S48 := [⟨1, ⟨#[97]⟩, ⟨#[]⟩, 0, false, false⟩, ⟨5, ⟨#[35, 35]⟩, ⟨#[]⟩, 0, true, false⟩, ⟨1, ⟨#[98]⟩, ⟨#[]⟩, 0, true, false⟩]
theorem lexA_f : burinlaw03_lexed.f sA = some lA := by kernel_rfl
theorem lexB_f : burinlaw03_lexed.f sB = some lB := by kernel_rfl
theorem parseA_f : macro_Parse.f lA = some (⟨#[70]⟩, true, psA, false, bdA, 0) := by kernel_rfl
theorem parseB_f : macro_Parse.f lB = some (⟨#[]⟩, false, [], false, [], 30) := by kernel_rfl
theorem showA_f : macro_Show.f 40 ⟨#[70]⟩ true psA false bdA = some (⟨#[70, 40, 97, 44, 32, 98, 41, 32, 97, 32, 35, 35, 32, 98]⟩, 0) := by kernel_rfl
set_option maxHeartbeats 1000000 in
theorem shown_c (w : World) (hT : Tab w) : Calls Tryd.prog 9 #[] w fun e w' => e = .returned (.bool true) ∧ Below w.heap.size w w' := by
 have HT := Lib.hid hT
 clear hT
 have ST1 : True := trivial
 go_enter Tryd.func9, Tryd.ntmps9
 go_wp2_with (first
  | (have g_ := ST1; clear g_ ST1; go_at_call 20; refine (burinlaw03_lexed.calls sA lA _ HT.out lexA_f).mono ?_; rintro e w1 ⟨v1, rfl, hR1, hb1⟩; obtain ⟨A1, c1, rfl⟩ := Kd.R_slice hR1; have H1 := Lib.hid (And.intro hR1 hb1); clear hR1 hb1; have ST2 : True := trivial)
  | (have g_ := ST2; clear g_ ST2; go_at_call 11; refine (macro_Parse.calls A1 c1 lA _ _ _ _ _ _ _ (Kd.R_reads' H1.out.1).2.2 (Kd.R_reads' H1.out.1).2.1 (HT.out.grow H1.out.2) parseA_f).mono ?_; rintro e w2 ⟨v2, v3, rfl, hR2, hR3, hb2⟩; obtain ⟨A2, c2, rfl⟩ := Kd.R_slice hR2; obtain ⟨A3, c3, rfl⟩ := Kd.R_slice hR3; have H2 := Lib.hid (And.intro hR2 (And.intro hR3 (H1.out.2.trans (hb2.mono H1.out.2.size)))); clear hR2 hR3 hb2; have ST3 : True := trivial)
  | (have g_ := ST3; clear g_ ST3; go_at_call 14; have hbA := H2.out.2.2.alloc H2.out.2.2.size (.cells #[.string ⟨#[70]⟩, .bool true, .slice A2 psA.length c2, .bool false, .slice A3 bdA.length c3] 32); have qA := blk_new w2 (.cells #[.string ⟨#[70]⟩, .bool true, .slice A2 psA.length c2, .bool false, .slice A3 bdA.length c3] 32); have hszA := World.size_alloc w2 (.cells #[.string ⟨#[70]⟩, .bool true, .slice A2 psA.length c2, .bool false, .slice A3 bdA.length c3] 32); refine (macro_Show.calls 40 _ _ A2 c2 psA _ A3 c3 bdA _ _ _ (Kd.C_alloc (Kd.R_reads' H2.out.1).2.2 _) (Kd.R_reads' H2.out.1).2.1 (Kd.C_alloc (Kd.R_reads' H2.out.2.1).2.2 _) (Kd.R_reads' H2.out.2.1).2.1 (HT.out.grow hbA) showA_f).mono ?_; rintro e w3 ⟨rfl, hb3⟩; have H3 := Lib.hid (And.intro ((hb3.block w2.heap.size (by rw [hszA]; exact Nat.lt_succ_self _)).trans qA) (hbA.trans (hb3.mono hbA.size))); clear hb3 qA hbA hszA; have ST4 : True := trivial)
  | (have g_ := ST4; clear g_ ST4; go_at_call 20; refine (burinlaw03_lexed.calls sB lB _ (HT.out.grow H3.out.2) lexB_f).mono ?_; rintro e w4 ⟨v4, rfl, hR4, hb4⟩; obtain ⟨A4, c4, rfl⟩ := Kd.R_slice hR4; have H4 := Lib.hid (And.intro hR4 (And.intro ((hb4.block _ (blk_lt H3.out.1)).trans H3.out.1) (H3.out.2.trans (hb4.mono H3.out.2.size)))); clear hR4 hb4; have ST5 : True := trivial)
  | (have g_ := ST5; clear g_ ST5; go_at_call 11; refine (macro_Parse.calls A4 c4 lB _ _ _ _ _ _ _ (Kd.R_reads' H4.out.1).2.2 (Kd.R_reads' H4.out.1).2.1 (HT.out.grow H4.out.2.2) parseB_f).mono ?_; rintro e w5 ⟨v5, v6, rfl, hR5, hR6, hb5⟩; obtain ⟨A5, c5, rfl⟩ := Kd.R_slice hR5; obtain ⟨A6, c6, rfl⟩ := Kd.R_slice hR6; have q5 := (hb5.block _ (blk_lt H4.out.2.1)).trans H4.out.2.1; have m1 := cell_al (blk_cell q5 1) (.cells #[.string ⟨#[]⟩, .bool false, .slice A5 0 c5, .bool false, .slice A6 0 c6] 32); have m2 := cell_al (blk_cell q5 2) (.cells #[.string ⟨#[]⟩, .bool false, .slice A5 0 c5, .bool false, .slice A6 0 c6] 32); have hb6 := H4.out.2.2.trans (hb5.mono H4.out.2.2.size); have H5 := Lib.hid (hb6.alloc hb6.size (.cells #[.string ⟨#[]⟩, .bool false, .slice A5 0 c5, .bool false, .slice A6 0 c6] 32)); clear hR5 hR6 hb5 q5 hb6))
 go_ret
 exact ⟨rfl, H5.out⟩
end Go.Proofs.YtcbfbefpbjmglaaDoor.Mac
namespace Go.Proofs.YtcbfbefpbjmglaaDoor.Mac
open Go.RowKit Go.Lib Go.Proofs.YtcbfbefpbjmglaaDoor.PA Go.Proofs.YtcbfbefpbjmglaaDoorT Go.Proofs.YtcbfbefpbjmglaaDoorW.PrintWords Go.Proofs.YtcbfbefpbjmglaaDoorW.PrintLast Go.Proofs.YtcbfbefpbjmglaaDoorW.PrintMore
set_option linter.unusedVariables false
set_option linter.unusedSimpArgs false
def strsEq : List ByteArray → List ByteArray → Bool
 | [], [] => true
 | x :: l, y :: r => decide (x.toList = y.toList) && strsEq l r
 | _, _ => false
theorem equal_loop' (k0 : Nat) (nm nm' : ByteArray) (fn fn' more more' : Bool) (ps ps' : List ByteArray) (body body' : List S48) (hlen : ps.length = ps'.length) (hps : ps.length ≤ 1000000) (hb : body.length ≤ 1000000) (hk0 : body.length < k0) : ∀ d k i, i + d = ps.length → d + k0 + 1 ≤ k →
  burinref03_Equal.l0 k (i : Int) nm fn ps more body nm' fn' ps' more' body' = some (strsEq (ps.drop i) (ps'.drop i) && toksEq body body')
 | 0, k, i, h1, h3 => by
  obtain ⟨k, rfl⟩ : ∃ m, k = m + 1 := ⟨k - 1, by omega⟩
  simp only [burinref03_Equal.l0]
  rw [if_neg (by omega), same_f k _ _ hb (by omega), Option.bind_some, List.drop_eq_nil_of_le (by omega), List.drop_eq_nil_of_le (by omega)]
  rfl
 | d + 1, k, i, h1, h3 => by
  obtain ⟨k, rfl⟩ : ∃ m, k = m + 1 := ⟨k - 1, by omega⟩
  have hi : i < ps.length := by omega
  have hw : wrap64 ((i : Int) + 1) = ((i + 1 : Nat) : Int) := by unfold wrap64; omega
  simp only [burinref03_Equal.l0]
  rw [if_pos (by omega), if_pos (by omega), if_pos (by omega), rdB_at hi, rdB_at (hlen ▸ hi), hw, List.drop_eq_getElem_cons hi, List.drop_eq_getElem_cons (l := ps') (by omega), strsEq]
  by_cases he : ps[i].toList = (ps'[i]'(by omega)).toList
  ·rw [if_pos he, decide_eq_true he, Bool.true_and]
   exact equal_loop' k0 nm nm' fn fn' more more' ps ps' body body' hlen hps hb hk0 d k (i + 1) (by omega) (by omega)
  ·rw [if_neg he, decide_eq_false he]; rfl
theorem strsEq_len : ∀ {a b : List ByteArray}, strsEq a b = true → a.length = b.length
 | [], [], _ => rfl
 | x :: l, y :: r, h => by rw [strsEq, Bool.and_eq_true] at h; rw [List.length_cons, List.length_cons, strsEq_len h.2]
 | [], _ :: _, h => by cases h
 | _ :: _, [], h => by cases h
theorem requal_f (k : Nat) (nm nm' : ByteArray) (fn fn' more more' : Bool) (ps ps' : List ByteArray) (body body' : List S48) (hps : ps.length ≤ 1000000) (hb : body.length ≤ 1000000) (hk : ps.length + body.length + 4 ≤ k) :
  burinref03_Equal.f k nm fn ps more body nm' fn' ps' more' body' = some (decide (nm.toList = nm'.toList) && (fn == fn' && (more == more' && (strsEq ps ps' && toksEq body body')))) := by
 obtain ⟨k, rfl⟩ : ∃ m, k = m + 1 := ⟨k - 1, by omega⟩
 have j0t : burinref03_Equal.j0 (k + 1) true nm fn ps more body nm' fn' ps' more' body' = some false := by simp only [burinref03_Equal.j0]; rfl
 unfold burinref03_Equal.f
 by_cases h1 : nm.toList = nm'.toList
 ·rw [if_pos h1, decide_eq_true h1, Bool.true_and]
  have key : burinref03_Equal.j0 (k + 1) ((ps.length : Int) != (ps'.length : Int)) nm fn ps more body nm' fn' ps' more' body' = some (strsEq ps ps' && toksEq body body') := by
   simp only [burinref03_Equal.j0]
   by_cases hl : ps.length = ps'.length
   ·rw [if_neg (by rw [hl]; simp)]
    have := equal_loop' (body.length + 1) nm nm' fn fn' more more' ps ps' body body' hl hps hb (by omega) ps.length k 0 (by omega) (by omega)
    simpa using this
   ·rw [if_pos (by rw [bne_iff_ne]; omega)]
    have : strsEq ps ps' = false := by
     cases hs : strsEq ps ps' with
     | false => rfl
     | true => exact absurd (strsEq_len hs) hl
    rw [this]; rfl
  cases fn <;> cases fn' <;> cases more <;> cases more' <;> first
   | (rw [if_pos (by decide), j0t]; rfl)
   | (rw [if_neg (by decide), if_pos (by decide), j0t]; rfl)
   | (rw [if_neg (by decide), if_neg (by decide), key]; rfl)
 ·rw [if_neg h1, j0t, decide_eq_false h1]; rfl
theorem tokEq_refl (t : S48) : tokEq t t = true := by unfold tokEq; simp
theorem toksEq_refl : ∀ l : List S48, toksEq l l = true
 | [] => rfl
 | t :: l => by rw [toksEq, tokEq_refl, toksEq_refl l]; rfl
theorem strsEq_refl : ∀ l : List ByteArray, strsEq l l = true
 | [] => rfl
 | t :: l => by rw [strsEq, strsEq_refl l]; simp
theorem domL_lex (s : ByteArray) (h : s.size ≤ 1048576) : domL ((lexP [(1, s.data.toList)]).1.map toT) = true := by
 unfold domL
 rw [Bool.and_eq_true, decide_eq_true_eq, List.all_eq_true]
 have hl := lexP_len [(1, s.data.toList)]
 refine ⟨by rw [List.length_map]; omega, fun x hx => ?_⟩
 obtain ⟨t, ht, rfl⟩ := List.mem_map.1 hx
 rw [decide_eq_true_eq]
 show t.s.length ≤ _
 have hts : ∀ t ∈ (lexP [(1, s.data.toList)]).1, t.s.length ≤ s.data.toList.length := by
  by_cases hz : (lexP [(1, s.data.toList)]).2.1 = 0
  ·rw [(lexP_toks 1 _ hz).1]
   exact lineP_short 1 _ _
  ·have : (lexP [(1, s.data.toList)]).1 = [] := by
    unfold lexP lexF at hz ⊢
    split
    ·rename_i h0
     rw [if_pos h0] at hz
     unfold lexF at hz ⊢
     split
     ·rfl
     ·rename_i hop
      rw [if_neg hop] at hz
      exact absurd rfl hz
    ·rfl
   rw [this]; simp
 have := hts t ht
 have hs := Lib.size_eq s
 omega
theorem macP_len (l : List S48) (h : domL l = true) : (macP (parseP l)).2.2.1.length ≤ 1000000 ∧ (macP (parseP l)).2.2.2.2.1.length ≤ 1000000 := by
 unfold domL at h
 rw [Bool.and_eq_true, decide_eq_true_eq] at h
 match hp : parseP l with
 | none => exact ⟨by show (0 : Nat) ≤ _; omega, by show (0 : Nat) ≤ _; omega⟩
 | some m =>
  show m.params.length ≤ 1000000 ∧ m.body.length ≤ 1000000
  match l, hp, h with
  | t :: r, hp, h =>
   rw [parseP] at hp
   split at hp
   ·obtain ⟨x, hx, h2⟩ := Option.bind_eq_some_iff.1 hp
    split at h2
    ·rename_i hr
     have h2 := Option.some.inj h2
     rw [← h2]
     show x.2.1.length ≤ _ ∧ (bareP x.2.2.2).length ≤ _
     unfold rightP isBodyP at hr
     simp only [Bool.and_eq_true, decide_eq_true_eq] at hr
     exact ⟨by omega, by omega⟩
    ·cases h2
   ·cases hp
set_option maxHeartbeats 1000000 in
theorem reads_c (s : ByteArray) (w : World) (hT : Tab w) (h : s.size ≤ 1048576) : Calls Tryd.prog 3 #[.string s] w fun e w' => e = .returned (.bool true) ∧ Below w.heap.size w w' := by
 have hlex := lex_one s (by omega)
 have hd := domL_lex s h
 obtain ⟨l, hl⟩ : ∃ l, (lexP [(1, s.data.toList)]).1.map toT = l := ⟨_, rfl⟩
 obtain ⟨er, he⟩ : ∃ e, (lexP [(1, s.data.toList)]).2.1 = e := ⟨_, rfl⟩
 obtain ⟨ln, hn⟩ : ∃ n, (lexP [(1, s.data.toList)]).2.2 = n := ⟨_, rfl⟩
 rw [hl, he, hn] at hlex
 rw [hl] at hd
 obtain ⟨h1, h2⟩ := macP_len l hd
 obtain ⟨⟨r1, r2, r3, r4, r5, r6⟩, hp⟩ : ∃ r, macP (parseP l) = r := ⟨_, rfl⟩
 rw [hp] at h1 h2
 have h1 : r3.length ≤ 1000000 := h1
 have h2 : r5.length ≤ 1000000 := h2
 have hpar : macro_Parse.f l = some (r1, r2, r3, r4, r5, r6) := by unfold macro_Parse.f; rw [if_pos hd, hp]
 have hequ : burinref03_Equal.f 3000000 r1 r2 r3 r4 r5 r1 r2 r3 r4 r5 = some true := by
  rw [requal_f _ _ _ _ _ _ _ _ _ _ _ h1 h2 (by omega), toksEq_refl, strsEq_refl]; simp
 have HD := Lib.hid (And.intro hT (And.intro hlex (And.intro hpar hequ)))
 clear hT hlex hpar hequ hd hp h1 h2 hl he hn
 have ST1 : True := trivial
 by_cases hz : er = 0
 ·subst hz
  go_enter Tryd.func3, Tryd.ntmps3
  go_wp2_with (first
   | (have g_ := ST1; clear g_ ST1; go_at_call 9; refine (shown_c _ HD.out.1).mono ?_; rintro e w1 ⟨rfl, hb1⟩; have H1 := Lib.hid hb1; clear hb1; have ST2 : True := trivial)
   | (have g_ := ST2; (with_reducible refine gate_dst (N := 15) rfl ?_); refine Kd.R_lit k28 _ 28 ?hg (N := 15) ?hd (xs := ([(⟨1, s⟩ : S28)] : List (S28))) (inner := [.int .i64 1, .string s]) (ok := fun _ => True) (okp := fun _ => True) ?hr ?hp (fun _ hk => hk) trivial (Below.refl _ _) (Nat.le_refl _) (by simp) ?_; (case hd => rfl); (case hg => rfl); (case hr => first | (go_simp; done) | (go_simp; rfl)); (case hp => exact (Reps.c2 (show Kd.M k28 _ _ _ (⟨1, s⟩ : S28) [.int .i64 1, .string s] from (k28_mkM _ _ _ (⟨1, s⟩ : S28) )) (Reps.none _ _))); intro v2 w2 hR2 hb2 hg2 hn2; clear hg2 hn2 g_ ST2; obtain ⟨A1, c1, rfl⟩ := Kd.R_slice hR2; have H2 := Lib.hid (And.intro hR2 (H1.out.trans (hb2.mono H1.out.size))); clear hR2 hb2; have ST3 : True := trivial)
   | (have g_ := ST3; clear g_ ST3; go_at_call 10; refine (token_Lex.calls A1 c1 [(⟨1, s⟩ : S28)] _ _ _ _ (Kd.R_reads' H2.out.1).2.2 (Kd.R_reads' H2.out.1).2.1 (HD.out.1.grow H2.out.2) HD.out.2.1).mono ?_; rintro e w3 ⟨v3, rfl, hR3, hb3⟩; obtain ⟨A0, c0, rfl⟩ := Kd.R_slice hR3; have H3 := Lib.hid (And.intro (Kd.R_reads' hR3) (H2.out.2.trans (hb3.mono H2.out.2.size))); clear hR3 hb3; have ST4 : True := trivial)
   | (have g_ := ST4; clear g_ ST4; go_at_call 11; refine (macro_Parse.calls A0 c0 l _ _ _ _ _ _ _ H3.out.1.2.2 H3.out.1.2.1 (HD.out.1.grow H3.out.2) HD.out.2.2.1).mono ?_; rintro e w4 ⟨v4, v5, rfl, hR4, hR5, hb4⟩; obtain ⟨A2, c2, rfl⟩ := Kd.R_slice hR4; obtain ⟨A3, c3, rfl⟩ := Kd.R_slice hR5; have H4 := Lib.hid (And.intro (Kd.R_reads' hR4) (And.intro (Kd.R_reads' hR5) (And.intro (Kd.C_below H3.out.1.2.2 hb4) (H3.out.2.trans (hb4.mono H3.out.2.size))))); clear hR4 hR5 hb4; have ST5 : True := trivial)
   | (have g_ := ST5; clear g_ ST5; go_at_call 12; have hbA := H4.out.2.2.2.alloc H4.out.2.2.2.size (.cells #[.string r1, .bool r2, .slice A2 r3.length c2, .bool r4, .slice A3 r5.length c3] 32); have qA := blk_new w4 (.cells #[.string r1, .bool r2, .slice A2 r3.length c2, .bool r4, .slice A3 r5.length c3] 32); have hszA := World.size_alloc w4 (.cells #[.string r1, .bool r2, .slice A2 r3.length c2, .bool r4, .slice A3 r5.length c3] 32); refine (burinref03_Parse.calls A0 c0 l _ _ _ _ _ _ _ (Kd.C_alloc H4.out.2.2.1 _) H3.out.1.2.1 (HD.out.1.grow hbA) HD.out.2.2.1).mono ?_; rintro e w5 ⟨v6, v7, rfl, hR6, hR7, hb5⟩; obtain ⟨A4, c4, rfl⟩ := Kd.R_slice hR6; obtain ⟨A5, c5, rfl⟩ := Kd.R_slice hR7; have q5 := (hb5.block w4.heap.size (by rw [hszA]; exact Nat.lt_succ_self _)).trans qA; have m0 := cell_al (blk_cell q5 0) (.cells #[.string r1, .bool r2, .slice A4 r3.length c4, .bool r4, .slice A5 r5.length c5] 32); have m1 := cell_al (blk_cell q5 1) (.cells #[.string r1, .bool r2, .slice A4 r3.length c4, .bool r4, .slice A5 r5.length c5] 32); have m2 := cell_al (blk_cell q5 2) (.cells #[.string r1, .bool r2, .slice A4 r3.length c4, .bool r4, .slice A5 r5.length c5] 32); have m3 := cell_al (blk_cell q5 3) (.cells #[.string r1, .bool r2, .slice A4 r3.length c4, .bool r4, .slice A5 r5.length c5] 32); have m4 := cell_al (blk_cell q5 4) (.cells #[.string r1, .bool r2, .slice A4 r3.length c4, .bool r4, .slice A5 r5.length c5] 32); have H5 := Lib.hid (And.intro (Kd.R_reads' hR6) (And.intro (Kd.R_reads' hR7) (And.intro (Kd.C_below (Kd.C_alloc H4.out.1.2.2 _) hb5) (And.intro (Kd.C_below (Kd.C_alloc H4.out.2.1.2.2 _) hb5) (hbA.trans (hb5.mono hbA.size)))))); clear hR6 hR7 hb5 hbA qA q5 hszA; have ST6 : True := trivial)
   | (have g_ := ST6; clear g_ ST6; go_at_call 13; refine (burinref03_Equal.calls 3000000 r1 r2 A2 c2 r3 r4 A3 c3 r5 r1 r2 A4 c4 r3 r4 A5 c5 r5 _ _ (Kd.C_alloc H5.out.2.2.1 _) H4.out.1.2.1 (Kd.C_alloc H5.out.2.2.2.1 _) H4.out.2.1.2.1 (Kd.C_alloc H5.out.1.2.2 _) H5.out.1.2.1 (Kd.C_alloc H5.out.2.1.2.2 _) H5.out.2.1.2.1 HD.out.2.2.2).mono ?_; rintro e w6 ⟨rfl, hb6⟩; have hbB := H5.out.2.2.2.2.alloc H5.out.2.2.2.2.size (.cells #[.string r1, .bool r2, .slice A4 r3.length c4, .bool r4, .slice A5 r5.length c5] 32); have H6 := Lib.hid (hbB.trans (hb6.mono hbB.size)); clear hb6 hbB))
  go_ret
  exact ⟨rfl, H6.out⟩
 ·have hz' : (er != 0) = true := bne_iff_ne.2 hz
  go_enter Tryd.func3, Tryd.ntmps3
  go_wp2_with (first
   | (have g_ := ST1; clear g_ ST1; go_at_call 9; refine (shown_c _ HD.out.1).mono ?_; rintro e w1 ⟨rfl, hb1⟩; have H1 := Lib.hid hb1; clear hb1; have ST2 : True := trivial)
   | (have g_ := ST2; (with_reducible refine gate_dst (N := 15) rfl ?_); refine Kd.R_lit k28 _ 28 ?hg (N := 15) ?hd (xs := ([(⟨1, s⟩ : S28)] : List (S28))) (inner := [.int .i64 1, .string s]) (ok := fun _ => True) (okp := fun _ => True) ?hr ?hp (fun _ hk => hk) trivial (Below.refl _ _) (Nat.le_refl _) (by simp) ?_; (case hd => rfl); (case hg => rfl); (case hr => first | (go_simp; done) | (go_simp; rfl)); (case hp => exact (Reps.c2 (show Kd.M k28 _ _ _ (⟨1, s⟩ : S28) [.int .i64 1, .string s] from (k28_mkM _ _ _ (⟨1, s⟩ : S28) )) (Reps.none _ _))); intro v2 w2 hR2 hb2 hg2 hn2; clear hg2 hn2 g_ ST2; obtain ⟨A1, c1, rfl⟩ := Kd.R_slice hR2; have H2 := Lib.hid (And.intro hR2 (H1.out.trans (hb2.mono H1.out.size))); clear hR2 hb2; have ST3 : True := trivial)
   | (have g_ := ST3; clear g_ ST3; go_at_call 10; refine (token_Lex.calls A1 c1 [(⟨1, s⟩ : S28)] _ _ _ _ (Kd.R_reads' H2.out.1).2.2 (Kd.R_reads' H2.out.1).2.1 (HD.out.1.grow H2.out.2) HD.out.2.1).mono ?_; rintro e w3 ⟨v3, rfl, hR3, hb3⟩; obtain ⟨A0, c0, rfl⟩ := Kd.R_slice hR3; have H3 := Lib.hid (And.intro (Kd.R_reads' hR3) (H2.out.2.trans (hb3.mono H2.out.2.size))); clear hR3 hb3; have ST4 : True := trivial))
  go_ret
  exact ⟨rfl, H3.out.2⟩
end Go.Proofs.YtcbfbefpbjmglaaDoor.Mac
namespace Go.Proofs.LaidStrs
open Go.Lib
def strData {H : Type} (ss : List (List UInt8)) : DataW H := .agg (ss.map fun s => .lit (.string s))
def StrsIs (P : Program) (w : World) (name : String) (ss : List (List UInt8)) : Prop := w.var? P name = some (ss.map fun s => Value.string ⟨s.toArray⟩).toArray
theorem cells_of_strs {H : Type} {enc : TypeId × Value → H} {P : Program} {w : World} {base : Nat} {sp : Nat → Bool} {held : Bool} {fuel : Nat} {t e : TypeId} {n : Nat} {cs : List Value} {ss : List (List UInt8)} {p : List MemPlace}
  (ht : P.underlying t = some (.array n e)) (he : P.underlying e = some .string) (hce : P.cellsOf e = 1) (hct : P.cellsOf t = n)
  (h : DataW.trod enc P w base sp held fuel t cs = some (strData ss, p)) : cs = ss.map fun s => Value.string ⟨s.toArray⟩ := by
 cases fuel with
 | zero => simp [DataW.trod] at h
 | succ fuel =>
  simp only [DataW.trod, ht, hce, hct, Nat.mul_one] at h
  split at h
  ·rename_i hl
   obtain ⟨xs, hm, hx⟩ := Option.map_eq_some_iff.1 h
   have hxs : xs.map (·.1) = ss.map fun s => (DataW.lit (.string s) : DataW H) := by
    have := congrArg Prod.fst hx
    simpa [strData] using this
   have hxl : xs.length = n := by simpa using mapM_length hm
   have hzl : ss.length = n := by
    have := congrArg List.length hxs
    simp at this
    omega
   apply List.ext_getElem?
   intro i
   by_cases hi : i < n
   ·obtain ⟨b, hb, hf⟩ := mapM_at hm i i (by simp [hi])
    obtain ⟨s, hc, rfl, _⟩ := DataW.trod_string he hf
    have h1 : cs[i]? = some (.string s) := by
     have := congrArg (·[0]?) hc
     simpa [List.getElem?_take, List.getElem?_drop] using this
    have h2 : (xs.map (·.1))[i]? = some (DataW.lit (.string s.data.toList) : DataW H) := by simp [hb]
    rw [hxs] at h2
    simp only [List.getElem?_map, Option.map_eq_some_iff, DataW.lit.injEq, Lit.string.injEq] at h2
    obtain ⟨s', hs', hs2⟩ := h2
    rw [h1, List.getElem?_map, hs', hs2]
    simp
   ·rw [List.getElem?_eq_none (by omega), List.getElem?_eq_none (by simp; omega)]
  ·cases h
theorem strsIs_of_head {P : Program} {W : World} {name : String} {ss : List (List UInt8)} {rest : List (String × DataW Unit)} {g : Nat} {t e : TypeId} {n : Nat}
  (hg : P.globalNamed name = some g) (hty : (P.globals[g]?).map (·.type) = some t) (ht : P.underlying t = some (.array n e)) (he : P.underlying e = some .string) (hce : P.cellsOf e = 1) (hct : P.cellsOf t = n)
  (h : laidMet P ((name, strData ss) :: rest) W) : StrsIs P W name ss := by
 obtain ⟨ps, ⟨g', t', cs, fuel, p, q, hg', ht', hvar, hd, _, _⟩, _⟩ := h
 obtain rfl := Option.some.inj (hg.symm.trans hg')
 obtain rfl := Option.some.inj (hty.symm.trans ht')
 unfold StrsIs
 rw [hvar, ← cells_of_strs ht he hce hct hd]
theorem StrsIs.cell {P : Program} {W : World} {name : String} {ss : List (List UInt8)} {g : Nat} (h : StrsIs P W name ss) (hg : P.globalNamed name = some g) (i : Nat) (hi : i < ss.length) :
  W.cell? ⟨g, i, none⟩ = some (.string ⟨(ss.getD i []).toArray⟩) := by
 have := World.var?_cell hg h i
 simpa [List.getD, hi] using this
end Go.Proofs.LaidStrs
namespace Go.Proofs.YtcbfbefpbjmglaaDoorT
open Go.Lib Go.Proofs.LaidStrs Go.Proofs.YtcbfbefpbjmglaaDoor
theorem gTab : Tryd.prog.globalNamed "burin/token.signs" = some 0 := by kernel_rfl
theorem gTabType : (Tryd.prog.globals[0]?).map (·.type) = some 110 := by kernel_rfl
theorem cells54 : Tryd.prog.cellsOf 110 = 48 := by kernel_rfl
theorem cells9 : Tryd.prog.cellsOf 9 = 1 := by kernel_rfl
theorem heap_of_var {P : Program} {w : World} {name : String} {g : Nat} {cs : Array Value} (hg : P.globalNamed name = some g) (h : w.var? P name = some cs) : ∃ t fr, w.heap[g]? = some (.cells cs t fr) := by
 unfold World.var? at h
 rw [hg] at h
 rw [Option.bind_some] at h
 split at h
 ·rename_i c t fr hc
  obtain rfl := Option.some.inj h
  exact ⟨t, fr, hc⟩
 ·cases h
noncomputable def laidWorld (os : Os) : World :=
 { World.holding Tryd.prog os ⟨#[], #[], []⟩ with heap := (World.holding Tryd.prog os ⟨#[], #[], []⟩).heap.modify 0 fun
   | .cells _ t frozen => .cells sgv t frozen
   | o => o }
end Go.Proofs.YtcbfbefpbjmglaaDoorT
