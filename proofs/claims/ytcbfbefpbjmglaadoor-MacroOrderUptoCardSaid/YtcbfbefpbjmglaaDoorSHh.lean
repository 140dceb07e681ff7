import Derived.Test.YtcbfbefpbjmglaaDoorPS
import Derived.Test.YtcbfbefpbjmglaaDoorA3
import Derived.Test.YtcbfbefpbjmglaaDoorPE
import Derived.Test.YtcbfbefpbjmglaaDoorPRc
import Derived.Test.YtcbfbefpbjmglaaDoorA12
import Derived.Test.YtcbfbefpbjmglaaDoorMR1
import Derived.Test.YtcbfbefpbjmglaaDoorLQ0
import Derived.Test.YtcbfbefpbjmglaaDoorCards
import Derived.Test.YtcbfbefpbjmglaaDoorMF
import Derived.WalkKit
import Derived.ProofKit
import Derived.OpenShut
import Derived.ShutString
import Derived.ChangeOld
import Derived.SizedLaws
import Derived.Deep.DeepHandedRow
import Derived.Deep.SlicePairs
import Derived.Lib.LaidTab
import Derived.Test.YtcbfbefpbjmglaaDoorH2
import Derived.Test.YtcbfbefpbjmglaaDoorShelf2
import Derived.Test.YtcbfbefpbjmglaaDoorRows
namespace Go.Proofs.YtcbfbefpbjmglaaDoor.Mac
open Go.RowKit Go.Proofs.MapFun Go.Proofs.YtcbfbefpbjmglaaDoor.PA Go.Proofs.YtcbfbefpbjmglaaDoorT Go.Proofs.YtcbfbefpbjmglaaDoorW.PrintWords Go.Proofs.YtcbfbefpbjmglaaDoorW.PrintLast Go.Proofs.YtcbfbefpbjmglaaDoorW.PrintMore
set_option linter.unusedVariables false
set_option linter.unusedSimpArgs false
def sA : ByteArray := ⟨#[70, 40, 97, 44, 98, 41, 32, 32, 97, 32, 35, 35, 32, 98]⟩
def sB : ByteArray := ⟨#[88, 43, 49]⟩
def lA : List S48 := (lexP [(1, sA.data.toList)]).1.map toT
def lB : List S48 := (lexP [(1, sB.data.toList)]).1.map toT
def psA : List ByteArray := [⟨#[97]⟩, ⟨#[98]⟩]
def bdA : List S48 := [⟨1, ⟨#[97]⟩, ⟨#[]⟩, 0, false, false⟩, ⟨5, ⟨#[35, 35]⟩, ⟨#[]⟩, 0, true, false⟩, ⟨1, ⟨#[98]⟩, ⟨#[]⟩, 0, true, false⟩]
theorem lexA_f : burinlaw03_lexed.f sA = some lA := by kernel_rfl
theorem lexB_f : burinlaw03_lexed.f sB = some lB := by kernel_rfl
theorem parseA_f : macro_Parse.f lA = some (⟨#[70]⟩, true, psA, false, bdA, 0) := by kernel_rfl
theorem parseB_f : macro_Parse.f lB = some (⟨#[]⟩, false, [], false, [], 30) := by kernel_rfl
theorem showA_f : macro_Show.f 40 ⟨#[70]⟩ true psA false bdA = some (⟨#[70, 40, 97, 44, 32, 98, 41, 32, 97, 32, 35, 35, 32, 98]⟩, 0) := by kernel_rfl
set_option maxHeartbeats 1000000 in
theorem shown_c (w : World) (hT : Tab w) : Calls Tryd.prog 9 #[] w fun e w' => e = .returned (.bool true) ∧ Below w.heap.size w w' := by
 have HT := Lib.hid hT
 clear hT
 have ST1 : True := trivial
 go_enter Tryd.func9, Tryd.ntmps9
 go_wp2_with (first
  | (have g_ := ST1; clear g_ ST1; go_at_call 20; refine (burinlaw03_lexed.calls sA lA _ HT.out lexA_f).mono ?_; rintro e w1 ⟨v1, rfl, hR1, hb1⟩; obtain ⟨A1, c1, rfl⟩ := Kd.R_slice hR1; have H1 := Lib.hid (And.intro hR1 hb1); clear hR1 hb1; have ST2 : True := trivial)
  | (have g_ := ST2; clear g_ ST2; go_at_call 11; refine (macro_Parse.calls A1 c1 lA _ _ _ _ _ _ _ (Kd.R_reads' H1.out.1).2.2 (Kd.R_reads' H1.out.1).2.1 (HT.out.grow H1.out.2) parseA_f).mono ?_; rintro e w2 ⟨v2, v3, rfl, hR2, hR3, hb2⟩; obtain ⟨A2, c2, rfl⟩ := Kd.R_slice hR2; obtain ⟨A3, c3, rfl⟩ := Kd.R_slice hR3; have H2 := Lib.hid (And.intro hR2 (And.intro hR3 (H1.out.2.trans (hb2.mono H1.out.2.size)))); clear hR2 hR3 hb2; have ST3 : True := trivial)
  | (have g_ := ST3; clear g_ ST3; go_at_call 14; have hbA := H2.out.2.2.alloc H2.out.2.2.size (.cells #[.string ⟨#[70]⟩, .bool true, .slice A2 psA.length c2, .bool false, .slice A3 bdA.length c3] 32); have qA := blk_new w2 (.cells #[.string ⟨#[70]⟩, .bool true, .slice A2 psA.length c2, .bool false, .slice A3 bdA.length c3] 32); have hszA := World.size_alloc w2 (.cells #[.string ⟨#[70]⟩, .bool true, .slice A2 psA.length c2, .bool false, .slice A3 bdA.length c3] 32); refine (macro_Show.calls 40 _ _ A2 c2 psA _ A3 c3 bdA _ _ _ (Kd.C_alloc (Kd.R_reads' H2.out.1).2.2 _) (Kd.R_reads' H2.out.1).2.1 (Kd.C_alloc (Kd.R_reads' H2.out.2.1).2.2 _) (Kd.R_reads' H2.out.2.1).2.1 (HT.out.grow hbA) showA_f).mono ?_; rintro e w3 ⟨rfl, hb3⟩; have H3 := Lib.hid (And.intro ((hb3.block w2.heap.size (by rw [hszA]; exact Nat.lt_succ_self _)).trans qA) (hbA.trans (hb3.mono hbA.size))); clear hb3 qA hbA hszA; have ST4 : True := trivial)
  | (have g_ := ST4; clear g_ ST4; go_at_call 20; refine (burinlaw03_lexed.calls sB lB _ (HT.out.grow H3.out.2) lexB_f).mono ?_; rintro e w4 ⟨v4, rfl, hR4, hb4⟩; obtain ⟨A4, c4, rfl⟩ := Kd.R_slice hR4; have H4 := Lib.hid (And.intro hR4 (And.intro ((hb4.block _ (blk_lt H3.out.1)).trans H3.out.1) (H3.out.2.trans (hb4.mono H3.out.2.size)))); clear hR4 hb4; have ST5 : True := trivial)
  | (have g_ := ST5; clear g_ ST5; go_at_call 11; refine (macro_Parse.calls A4 c4 lB _ _ _ _ _ _ _ (Kd.R_reads' H4.out.1).2.2 (Kd.R_reads' H4.out.1).2.1 (HT.out.grow H4.out.2.2) parseB_f).mono ?_; rintro e w5 ⟨v5, v6, rfl, hR5, hR6, hb5⟩; obtain ⟨A5, c5, rfl⟩ := Kd.R_slice hR5; obtain ⟨A6, c6, rfl⟩ := Kd.R_slice hR6; have q5 := (hb5.block _ (blk_lt H4.out.2.1)).trans H4.out.2.1; have m1 := cell_al (blk_cell q5 1) (.cells #[.string ⟨#[]⟩, .bool false, .slice A5 0 c5, .bool false, .slice A6 0 c6] 32); have m2 := cell_al (blk_cell q5 2) (.cells #[.string ⟨#[]⟩, .bool false, .slice A5 0 c5, .bool false, .slice A6 0 c6] 32); have hb6 := H4.out.2.2.trans (hb5.mono H4.out.2.2.size); have H5 := Lib.hid (hb6.alloc hb6.size (.cells #[.string ⟨#[]⟩, .bool false, .slice A5 0 c5, .bool false, .slice A6 0 c6] 32)); clear hR5 hR6 hb5 q5 hb6))
 go_ret
 exact ⟨rfl, H5.out⟩
end Go.Proofs.YtcbfbefpbjmglaaDoor.Mac
namespace Go.Proofs.YtcbfbefpbjmglaaDoor.Mac
open Go.RowKit Go.Lib Go.Proofs.MapFun Go.Proofs.YtcbfbefpbjmglaaDoor.PA Go.Proofs.YtcbfbefpbjmglaaDoorT Go.Proofs.YtcbfbefpbjmglaaDoorW.PrintWords Go.Proofs.YtcbfbefpbjmglaaDoorW.PrintLast Go.Proofs.YtcbfbefpbjmglaaDoorW.PrintMore
set_option linter.unusedVariables false
set_option linter.unusedSimpArgs false
attribute [local go_sem] Oper.semAt_some
def strsEq : List ByteArray → List ByteArray → Bool
 | [], [] => true
 | x :: l, y :: r => decide (x.toList = y.toList) && strsEq l r
 | _, _ => false
theorem strsEq_len : ∀ {a b : List ByteArray}, strsEq a b = true → a.length = b.length
 | [], [], _ => rfl
 | x :: l, y :: r, h => by rw [strsEq, Bool.and_eq_true] at h; rw [List.length_cons, List.length_cons, strsEq_len h.2]
 | [], _ :: _, h => by cases h
 | _ :: _, [], h => by cases h
end Go.Proofs.YtcbfbefpbjmglaaDoor.Mac
namespace Go.Proofs.YtcbfbefpbjmglaaDoor.Mac
open Go.RowKit Go.Lib Go.Proofs.YtcbfbefpbjmglaaDoor.PA Go.Proofs.YtcbfbefpbjmglaaDoorT Go.Proofs.YtcbfbefpbjmglaaDoorW.PrintWords Go.Proofs.YtcbfbefpbjmglaaDoorW.PrintLast Go.Proofs.YtcbfbefpbjmglaaDoorW.PrintMore
set_option linter.unusedVariables false
set_option linter.unusedSimpArgs false
theorem equal_loop' (k0 : Nat) (nm nm' : ByteArray) (fn fn' more more' : Bool) (ps ps' : List ByteArray) (body body' : List S48) (hlen : ps.length = ps'.length) (hps : ps.length ≤ 1000000) (hb : body.length ≤ 1000000) (hk0 : body.length < k0) : ∀ d k i, i + d = ps.length → d + k0 + 1 ≤ k →
  burinref03_Equal.l0 k (i : Int) nm fn ps more body nm' fn' ps' more' body' = some (strsEq (ps.drop i) (ps'.drop i) && toksEq body body')
 | 0, k, i, h1, h3 => by
  obtain ⟨k, rfl⟩ : ∃ m, k = m + 1 := ⟨k - 1, by omega⟩
  simp only [burinref03_Equal.l0]
  rw [if_neg (by omega), same_f k _ _ hb (by omega), Option.bind_some, List.drop_eq_nil_of_le (by omega), List.drop_eq_nil_of_le (by omega)]
  rfl
 | d + 1, k, i, h1, h3 => by
  obtain ⟨k, rfl⟩ : ∃ m, k = m + 1 := ⟨k - 1, by omega⟩
  have hi : i < ps.length := by omega
  have hw : wrap64 ((i : Int) + 1) = ((i + 1 : Nat) : Int) := by unfold wrap64; omega
  simp only [burinref03_Equal.l0]
  rw [if_pos (by omega), if_pos (by omega), if_pos (by omega), rdB_at hi, rdB_at (hlen ▸ hi), hw, List.drop_eq_getElem_cons hi, List.drop_eq_getElem_cons (l := ps') (by omega), strsEq]
  by_cases he : ps[i].toList = (ps'[i]'(by omega)).toList
  ·rw [if_pos he, decide_eq_true he, Bool.true_and]
   exact equal_loop' k0 nm nm' fn fn' more more' ps ps' body body' hlen hps hb hk0 d k (i + 1) (by omega) (by omega)
  ·rw [if_neg he, decide_eq_false he]; rfl
theorem requal_f (k : Nat) (nm nm' : ByteArray) (fn fn' more more' : Bool) (ps ps' : List ByteArray) (body body' : List S48) (hps : ps.length ≤ 1000000) (hb : body.length ≤ 1000000) (hk : ps.length + body.length + 4 ≤ k) :
  burinref03_Equal.f k nm fn ps more body nm' fn' ps' more' body' = some (decide (nm.toList = nm'.toList) && (fn == fn' && (more == more' && (strsEq ps ps' && toksEq body body')))) := by
 obtain ⟨k, rfl⟩ : ∃ m, k = m + 1 := ⟨k - 1, by omega⟩
 have j0t : burinref03_Equal.j0 (k + 1) true nm fn ps more body nm' fn' ps' more' body' = some false := by simp only [burinref03_Equal.j0]; rfl
 unfold burinref03_Equal.f
 by_cases h1 : nm.toList = nm'.toList
 ·rw [if_pos h1, decide_eq_true h1, Bool.true_and]
  have key : burinref03_Equal.j0 (k + 1) ((ps.length : Int) != (ps'.length : Int)) nm fn ps more body nm' fn' ps' more' body' = some (strsEq ps ps' && toksEq body body') := by
   simp only [burinref03_Equal.j0]
   by_cases hl : ps.length = ps'.length
   ·rw [if_neg (by rw [hl]; simp)]
    have := equal_loop' (body.length + 1) nm nm' fn fn' more more' ps ps' body body' hl hps hb (by omega) ps.length k 0 (by omega) (by omega)
    simpa using this
   ·rw [if_pos (by rw [bne_iff_ne]; omega)]
    have : strsEq ps ps' = false := by
     cases hs : strsEq ps ps' with
     | false => rfl
     | true => exact absurd (strsEq_len hs) hl
    rw [this]; rfl
  cases fn <;> cases fn' <;> cases more <;> cases more' <;> first
   | (rw [if_pos (by decide), j0t]; rfl)
   | (rw [if_neg (by decide), if_pos (by decide), j0t]; rfl)
   | (rw [if_neg (by decide), if_neg (by decide), key]; rfl)
 ·rw [if_neg h1, j0t, decide_eq_false h1]; rfl
theorem tokEq_refl (t : S48) : tokEq t t = true := by unfold tokEq; simp
theorem toksEq_refl : ∀ l : List S48, toksEq l l = true
 | [] => rfl
 | t :: l => by rw [toksEq, tokEq_refl, toksEq_refl l]; rfl
theorem strsEq_refl : ∀ l : List ByteArray, strsEq l l = true
 | [] => rfl
 | t :: l => by rw [strsEq, strsEq_refl l]; simp
theorem domL_lex (s : ByteArray) (h : s.size ≤ 1048576) : domL ((lexP [(1, s.data.toList)]).1.map toT) = true := by
 unfold domL
 rw [Bool.and_eq_true, decide_eq_true_eq, List.all_eq_true]
 have hl := lexP_len [(1, s.data.toList)]
 refine ⟨by rw [List.length_map]; omega, fun x hx => ?_⟩
 obtain ⟨t, ht, rfl⟩ := List.mem_map.1 hx
 rw [decide_eq_true_eq]
 show t.s.length ≤ _
 have hts : ∀ t ∈ (lexP [(1, s.data.toList)]).1, t.s.length ≤ s.data.toList.length := by
  by_cases hz : (lexP [(1, s.data.toList)]).2.1 = 0
  ·rw [(lexP_toks 1 _ hz).1]
   exact lineP_short 1 _ _
  ·have : (lexP [(1, s.data.toList)]).1 = [] := by
    unfold lexP lexF at hz ⊢
    split
    ·rename_i h0
     rw [if_pos h0] at hz
     unfold lexF at hz ⊢
     split
     ·rfl
     ·rename_i hop
      rw [if_neg hop] at hz
      exact absurd rfl hz
    ·rfl
   rw [this]; simp
 have := hts t ht
 have hs := Lib.size_eq s
 omega
end Go.Proofs.YtcbfbefpbjmglaaDoor.Mac
namespace Go.Proofs.YtcbfbefpbjmglaaDoor.Mac
open Go.RowKit Go.Lib Go.Proofs.YtcbfbefpbjmglaaDoor.PA Go.Proofs.YtcbfbefpbjmglaaDoorT Go.Proofs.YtcbfbefpbjmglaaDoorW.PrintWords Go.Proofs.YtcbfbefpbjmglaaDoorW.PrintLast Go.Proofs.YtcbfbefpbjmglaaDoorW.PrintMore
set_option linter.unusedVariables false
set_option linter.unusedSimpArgs false
def dotsA : ByteArray := ⟨#[46, 46, 46]⟩
theorem rightP_parts {nm : ByteArray} {fn more : Bool} {ps : List ByteArray} {body : List S48} (h : rightP nm fn ps more body = true) : isNameP nm = true ∧ ps.length ≤ 16 ∧ (fn = false → ps = [] ∧ more = false) ∧ goodParams [] ps = true ∧ body.length ≤ 500 ∧ speltP body = true := by
 unfold rightP isBodyP at h
 simp only [Bool.and_eq_true, decide_eq_true_eq] at h
 obtain ⟨h1, h2, h3, h4, h5, h6, h7, h8, h9, h10⟩ := h
 refine ⟨h1, h3, fun hf => ?_, h5, h6, ?_⟩
 ·subst hf
  cases more with
  | true => simp at h4
  | false =>
   refine ⟨?_, rfl⟩
   cases ps with
   | nil => rfl
   | cons a b => simp at h4
 ·unfold speltP
  rw [h7, decide_eq_true h8, h9]; rfl
end Go.Proofs.YtcbfbefpbjmglaaDoor.Mac
namespace Go.Proofs.YtcbfbefpbjmglaaDoor.Mac
open Go.ChangeShapes Go.WideShapes Go.ChangeAt Go.RowKit Go.Proofs.YtcbfbefpbjmglaaDoor.PA Go.Proofs.YtcbfbefpbjmglaaDoorT Go.Proofs.YtcbfbefpbjmglaaDoorW.PrintWords
set_option linter.unusedVariables false
set_option linter.unusedSimpArgs false
theorem bulk_mem {H : Type} {d : DataW H} : ∀ {l : List (DataW H)}, d ∈ l → Rows.uptoBulk d ≤ Rows.uptoBulkAll l := by
 intro l
 induction l with
 | nil => intro h; cases h
 | cons x l ih =>
  intro h
  rw [Rows.uptoBulkAll]
  rcases List.mem_cons.1 h with rfl | h
  ·omega
  ·have := ih h; omega
theorem bulk_len {H : Type} : ∀ {l : List (DataW H)}, (∀ d ∈ l, 1 ≤ Rows.uptoBulk d) → l.length ≤ Rows.uptoBulkAll l := by
 intro l
 induction l with
 | nil => intro _; exact Nat.zero_le _
 | cons x l ih =>
  intro h
  rw [Rows.uptoBulkAll, List.length_cons]
  have := h x (by simp)
  have := ih (fun d hd => h d (by simp [hd]))
  omega
set_option maxRecDepth 20000 in
theorem openedS {H : Type} {enc : TypeId × Value → H} {W : World} {a : Option Addr} {len cap : Nat} {x : DataW H × List MemPlace}
  (h : ∃ n, DataW.trod enc Tryd.prog W 0 (fun _ => true) true n 30 (Value.slice a len cap).cells.toList = some x) :
  ∃ l : List ByteArray, l.length = len ∧ len ≤ cap ∧ Kd.C Kd.string W a len l ∧ (∀ y ∈ l, y.size ≤ Rows.uptoBulk x.1) ∧ l.length ≤ Rows.uptoBulk x.1 := by
 obtain ⟨fuel, hf⟩ := h
 have c9 : Tryd.prog.cellsOf 9 = 1 := by kernel_rfl
 rcases Deep.open_slice Tryd.underlying30 hf with ⟨hcs, _⟩ | ⟨ad, l, c, m, n, D, Pl, hcs, _, hl, hm, hmm, hxe, hx⟩
 ·simp [Value.cells] at hcs
  obtain ⟨rfl, rfl, rfl⟩ := hcs
  exact ⟨[], rfl, Nat.le_refl _, ⟨rfl, by omega, fun h => absurd h (by omega)⟩, (fun y hy => by cases hy), Nat.zero_le _⟩
 ·simp [Value.cells] at hcs
  obtain ⟨rfl, rfl, rfl⟩ := hcs
  have hml : len ≤ m := by rw [hmm]; split <;> omega
  have hmax : cap ≤ 9223372036854775807 := hm
  have hbulk : Rows.uptoBulk x.1 = Rows.uptoBulkAll ((List.range len).map D) + Rows.uptoBulkAll ((List.range (m - len)).map fun j => D (len + j)) + 1 := by
   rw [hxe]; rfl
  have each : ∀ i, i < len → ∃ y : ByteArray, W.cell? (ad.add (i * 1 + 0)) = some (.string y) ∧ y.size + 1 ≤ Rows.uptoBulk (D i) := fun i hi => by
   obtain ⟨cs', h1, h2⟩ := hx i (by omega)
   rw [c9] at h1
   obtain ⟨_, hlen, hcell⟩ := World.cells?_some h1
   match cs', hlen with
   | [v0], _ =>
    obtain ⟨s1, e1, e1', _⟩ := DataW.trod_string Tryd.underlying9 h2
    have e1 : v0 = .string s1 := by simpa using e1
    subst e1
    refine ⟨s1, ?_, ?_⟩
    ·have ec := hcell 0 (by omega)
     rw [Deep.add_add] at ec
     rw [ec]
     rfl
    ·have hD : D i = .lit (.string s1.data.toList) := by simpa using congrArg Prod.fst e1'
     have hb3 : Rows.uptoBulk (D i) = s1.data.toList.length + 1 := by rw [hD]; rfl
     have hs := Lib.size_eq s1
     omega
  obtain ⟨f, hf'⟩ := Deep.choose_lt each
  refine ⟨(List.range len).map f, by simp, hl, ⟨by simp, by omega, fun hp => ⟨ad, rfl, fun j p hj => ?_⟩⟩, fun y hy => ?_, ?_⟩
  ·have hj' : j < len := by
    have := (List.getElem?_eq_some_iff.1 hj).1
    simpa using this
   have hp' : f j = p := by simpa [hj'] using hj
   obtain ⟨g0, _⟩ := hf' j hj'
   rw [hp'] at g0
   refine ⟨[.string p], rfl, rfl, fun i u hu => ?_⟩
   match i, hu with
   | 0, hu => simp at hu; subst hu; exact g0
  ·obtain ⟨j, hj, rfl⟩ := List.mem_map.1 hy
   have h1 := (hf' j (List.mem_range.1 hj)).2
   have hmem : D j ∈ (List.range len).map D := List.mem_map.2 ⟨j, hj, rfl⟩
   have hb := bulk_mem hmem
   omega
  ·have := bulk_len (H := H) (l := (List.range len).map D) (fun d hd => by
    obtain ⟨i, hi, rfl⟩ := List.mem_map.1 hd
    have := (hf' i (List.mem_range.1 hi)).2
    omega)
   rw [List.length_map, List.length_range] at this ⊢
   omega
end Go.Proofs.YtcbfbefpbjmglaaDoor.Mac
namespace Go.Proofs.LaidStrs
open Go.Lib
def strData {H : Type} (ss : List (List UInt8)) : DataW H := .agg (ss.map fun s => .lit (.string s))
def StrsIs (P : Program) (w : World) (name : String) (ss : List (List UInt8)) : Prop := w.var? P name = some (ss.map fun s => Value.string ⟨s.toArray⟩).toArray
theorem cells_of_strs {H : Type} {enc : TypeId × Value → H} {P : Program} {w : World} {base : Nat} {sp : Nat → Bool} {held : Bool} {fuel : Nat} {t e : TypeId} {n : Nat} {cs : List Value} {ss : List (List UInt8)} {p : List MemPlace}
  (ht : P.underlying t = some (.array n e)) (he : P.underlying e = some .string) (hce : P.cellsOf e = 1) (hct : P.cellsOf t = n)
  (h : DataW.trod enc P w base sp held fuel t cs = some (strData ss, p)) : cs = ss.map fun s => Value.string ⟨s.toArray⟩ := by
 cases fuel with
 | zero => simp [DataW.trod] at h
 | succ fuel =>
  simp only [DataW.trod, ht, hce, hct, Nat.mul_one] at h
  split at h
  ·rename_i hl
   obtain ⟨xs, hm, hx⟩ := Option.map_eq_some_iff.1 h
   have hxs : xs.map (·.1) = ss.map fun s => (DataW.lit (.string s) : DataW H) := by
    have := congrArg Prod.fst hx
    simpa [strData] using this
   have hxl : xs.length = n := by simpa using mapM_length hm
   have hzl : ss.length = n := by
    have := congrArg List.length hxs
    simp at this
    omega
   apply List.ext_getElem?
   intro i
   by_cases hi : i < n
   ·obtain ⟨b, hb, hf⟩ := mapM_at hm i i (by simp [hi])
    obtain ⟨s, hc, rfl, _⟩ := DataW.trod_string he hf
    have h1 : cs[i]? = some (.string s) := by
     have := congrArg (·[0]?) hc
     simpa [List.getElem?_take, List.getElem?_drop] using this
    have h2 : (xs.map (·.1))[i]? = some (DataW.lit (.string s.data.toList) : DataW H) := by simp [hb]
    rw [hxs] at h2
    simp only [List.getElem?_map, Option.map_eq_some_iff, DataW.lit.injEq, Lit.string.injEq] at h2
    obtain ⟨s', hs', hs2⟩ := h2
    rw [h1, List.getElem?_map, hs', hs2]
    simp
   ·rw [List.getElem?_eq_none (by omega), List.getElem?_eq_none (by simp; omega)]
  ·cases h
theorem strsIs_of_head {P : Program} {W : World} {name : String} {ss : List (List UInt8)} {rest : List (String × DataW Unit)} {g : Nat} {t e : TypeId} {n : Nat}
  (hg : P.globalNamed name = some g) (hty : (P.globals[g]?).map (·.type) = some t) (ht : P.underlying t = some (.array n e)) (he : P.underlying e = some .string) (hce : P.cellsOf e = 1) (hct : P.cellsOf t = n)
  (h : laidMet P ((name, strData ss) :: rest) W) : StrsIs P W name ss := by
 obtain ⟨ps, ⟨g', t', cs, fuel, p, q, hg', ht', hvar, hd, _, _⟩, _⟩ := h
 obtain rfl := Option.some.inj (hg.symm.trans hg')
 obtain rfl := Option.some.inj (hty.symm.trans ht')
 unfold StrsIs
 rw [hvar, ← cells_of_strs ht he hce hct hd]
theorem StrsIs.cell {P : Program} {W : World} {name : String} {ss : List (List UInt8)} {g : Nat} (h : StrsIs P W name ss) (hg : P.globalNamed name = some g) (i : Nat) (hi : i < ss.length) :
  W.cell? ⟨g, i, none⟩ = some (.string ⟨(ss.getD i []).toArray⟩) := by
 have := World.var?_cell hg h i
 simpa [List.getD, hi] using this
end Go.Proofs.LaidStrs
namespace Go.Proofs.YtcbfbefpbjmglaaDoorT
open Go.Lib Go.Proofs.LaidStrs Go.Proofs.YtcbfbefpbjmglaaDoor
theorem gTab : Tryd.prog.globalNamed "burin/token.signs" = some 0 := by kernel_rfl
theorem gTabType : (Tryd.prog.globals[0]?).map (·.type) = some 110 := by kernel_rfl
theorem cells54 : Tryd.prog.cellsOf 110 = 48 := by kernel_rfl
theorem cells9 : Tryd.prog.cellsOf 9 = 1 := by kernel_rfl
theorem heap_of_var {P : Program} {w : World} {name : String} {g : Nat} {cs : Array Value} (hg : P.globalNamed name = some g) (h : w.var? P name = some cs) : ∃ t fr, w.heap[g]? = some (.cells cs t fr) := by
 unfold World.var? at h
 rw [hg] at h
 rw [Option.bind_some] at h
 split at h
 ·rename_i c t fr hc
  obtain rfl := Option.some.inj h
  exact ⟨t, fr, hc⟩
 ·cases h
noncomputable def laidWorld (os : Os) : World :=
 { World.holding Tryd.prog os ⟨#[], #[], []⟩ with heap := (World.holding Tryd.prog os ⟨#[], #[], []⟩).heap.modify 0 fun
   | .cells _ t frozen => .cells sgv t frozen
   | o => o }
end Go.Proofs.YtcbfbefpbjmglaaDoorT
namespace Go.Proofs.YtcbfbefpbjmglaaDoor.Mac
open Go.RowKit Go.Proofs.MapFun Go.Proofs.YtcbfbefpbjmglaaDoor.PA Go.Proofs.YtcbfbefpbjmglaaDoorT Go.Proofs.YtcbfbefpbjmglaaDoorW.PrintWords Go.Proofs.YtcbfbefpbjmglaaDoorW.PrintLast Go.Proofs.YtcbfbefpbjmglaaDoorW.PrintMore
set_option linter.unusedVariables false
set_option linter.unusedSimpArgs false
attribute [local go_sem] Oper.semAt_some
def headB (nm : ByteArray) (fn : Bool) (ps : List ByteArray) (more : Bool) : ByteArray := if fn then nm ++ (((⟨#[40]⟩ : ByteArray) ++ joinB (ps ++ (if more then [dotsA] else [])) (⟨#[44, 32]⟩ : ByteArray)) ++ (⟨#[41]⟩ : ByteArray)) else nm
end Go.Proofs.YtcbfbefpbjmglaaDoor.Mac
namespace Go.Proofs.YtcbfbefpbjmglaaDoor.Mac
open Go.RowKit Go.Proofs.MapFun Go.Proofs.YtcbfbefpbjmglaaDoor.PA Go.Proofs.YtcbfbefpbjmglaaDoorT Go.Proofs.YtcbfbefpbjmglaaDoorW.PrintWords Go.Proofs.YtcbfbefpbjmglaaDoorW.PrintLast Go.Proofs.YtcbfbefpbjmglaaDoorW.PrintMore
set_option linter.unusedVariables false
set_option linter.unusedSimpArgs false
attribute [local go_sem] Oper.semAt_some
theorem C_nil {w : World} {n : Nat} {l : List S48} (h : Kd.C k48 w none n l) (hn : l.length = n) : l = [] := by
 cases l with
 | nil => rfl
 | cons x l =>
  obtain ⟨ad, ha, _⟩ := h.2.2 (by rw [← hn]; simp)
  cases ha
theorem q23 (w : World) (a : Option Addr) (n c : Nat) : (binOp .eql 23 (.slice a n c) (.slice none 0 0)).run Tryd.prog w = .ok (.bool a.isNone) w := Go.Lib.run_eql_slice_nil w _ _ a n c 0 0 Tryd.underlying23
attribute [local go_sem] q23
set_option maxRecDepth 100000 in
set_option maxHeartbeats 400000 in
theorem cloneT_c (A : Option Addr) (c : Nat) (l : List S48) (w : World) (hl : l.length ≤ 1000000) (hB : Kd.C k48 w A l.length l) (hc : l.length ≤ c) :
  Calls Tryd.prog 61 #[.slice A l.length c] w fun e w' => ∃ v, e = .returned v ∧ Kd.R k48 48 w' w.heap.size (fun _ => True) v l ∧ Below w.heap.size w w' := by
 cases A with
 | none =>
  have hnil := C_nil hB rfl
  subst hnil
  go_enter Tryd.func61, Tryd.ntmps61
  go_wp2
  go_ret
  exact ⟨_, rfl, Kd.R_nil _ _ _ _ _, Below.refl _ _⟩
 | some ad =>
  have HH := Lib.hid hB
  clear hB
  go_enter Tryd.func61, Tryd.ntmps61
  go_wp2_with (first
   | ((with_reducible refine gate_dst (N := 5) rfl ?_); refine Kd.R_lit k48 _ 48 ?hg (N := 5) ?hd (xs := ([] : List S48)) (inner := []) (ok := fun _ => True) (okp := fun _ => True) ?hr ?hp (fun _ hk => hk) trivial (Below.refl _ _) (Nat.le_refl _) (by simp) ?_; (case hd => rfl); (case hg => rfl); (case hr => first | (go_simp; done) | (go_simp; rfl)); (case hp => exact (Reps.none _ _)); intro v1 w1 hR1 hb1 hg1 hn1; clear hg1 hn1; have H1 := Lib.hid (And.intro hR1 hb1); clear hR1 hb1)
   | (at_builtin; (refine Kd.R_append_rows k48 (w0 := w) w.heap.size rfl (.tmp 5) (.tmp 6) 23 48 _ 56 rfl Tryd.underlying23 info48 rfl (by decide) (by decide) _ [] l (some ad) l.length c (fun _ => True) (fun _ => False) rfl rfl H1.out.1 (Kd.C_below HH.out H1.out.2) (fun _ _ hx => hx) (fun k h => h.elim) (fun _ _ => trivial) H1.out.2 H1.out.2.size (by simp; omega) ?_); intro v2 w2 hR2 hb2 _ _; have H2 := Lib.hid (And.intro hR2 hb2); clear hR2 hb2))

  go_ret
  exact ⟨_, rfl, H2.out.1, H2.out.2⟩
end Go.Proofs.YtcbfbefpbjmglaaDoor.Mac
namespace Go.Proofs.YtcbfbefpbjmglaaDoor.Mac
open Go.RowKit Go.Proofs.MapFun Go.Proofs.YtcbfbefpbjmglaaDoor.PA Go.Proofs.YtcbfbefpbjmglaaDoorT Go.Proofs.YtcbfbefpbjmglaaDoorW.PrintWords Go.Proofs.YtcbfbefpbjmglaaDoorW.PrintLast Go.Proofs.YtcbfbefpbjmglaaDoorW.PrintMore
set_option linter.unusedVariables false
set_option linter.unusedSimpArgs false
attribute [local go_sem] Oper.semAt_some
set_option maxRecDepth 100000 in
set_option maxHeartbeats 1000000 in
theorem own_c (nm : ByteArray) (fn more : Bool) (Ap Ab : Option Addr) (cp cb : Nat) (ps : List ByteArray) (body : List S48) (w : World) (hl : ps.length ≤ 2000000) (hl2 : body.length ≤ 1000000)
  (hP : Kd.C Kd.string w Ap ps.length ps) (hpc : ps.length ≤ cp) (hB : Kd.C k48 w Ab body.length body) (hbc : body.length ≤ cb) :
  Calls Tryd.prog 43 #[.agg #[.string nm, .bool fn, .slice Ap ps.length cp, .bool more, .slice Ab body.length cb]] w fun e w' => ∃ v2 v4, e = .returned (.agg #[.string nm, .bool fn, v2, .bool more, v4]) ∧ Kd.string.R 9 w' w.heap.size (fun _ => True) v2 ps ∧ Kd.R k48 48 w' w.heap.size (fun _ => True) v4 body ∧ Below w.heap.size w w' := by
 obtain ⟨B, hBw⟩ : ∃ B, w.heap.size = B := ⟨_, rfl⟩
 go_enter Tryd.func43, Tryd.ntmps43
 refine wp_seq_k fun K1 hK1 => ?_
 have HK1 := Lib.hid hK1
 clear hK1
 go_wp2
 refine HK1.out _ _ ?_
 clear HK1
 obtain ⟨W0, hW0⟩ : ∃ W0, (w.alloc (.cells #[.string nm, .bool fn, .slice Ap ps.length cp, .bool more, .slice Ab body.length cb] 32)).alloc (.cells #[.string ⟨#[]⟩, .bool false, .slice none 0 0, .bool false, .slice none 0 0] 32) = W0 := ⟨_, rfl⟩
 have hb0 : Below w.heap.size w W0 := by rw [← hW0]; exact ((Below.refl _ w).alloc (Nat.le_refl _) _).alloc (by simp) _
 have qA : W0.heap[B]? = some (.cells #[.string nm, .bool fn, .slice Ap ps.length cp, .bool more, .slice Ab body.length cb] 32 (0, 0)) := by rw [← hW0, ← hBw]; exact blk_alloc (blk_new w _) _
 have qB : W0.heap[B + 1]? = some (.cells #[.string ⟨#[]⟩, .bool false, .slice none 0 0, .bool false, .slice none 0 0] 32 (0, 0)) := by
  have := blk_new (w.alloc (.cells #[.string nm, .bool fn, .slice Ap ps.length cp, .bool more, .slice Ab body.length cb] 32)) (.cells #[.string ⟨#[]⟩, .bool false, .slice none 0 0, .bool false, .slice none 0 0] 32)
  rw [hW0, World.size_alloc, hBw] at this; exact this
 have hs0 : W0.heap.size = B + 2 := by rw [← hW0]; simp [hBw]
 rw [hW0]
 try rw [hBw]
 have FA : ∀ W, Below W0.heap.size W0 W → W.heap[B]? = some (.cells #[.string nm, .bool fn, .slice Ap ps.length cp, .bool more, .slice Ab body.length cb] 32 (0, 0)) := fun W hb => (hb.block _ (blk_lt qA)).trans qA
 have FB : ∀ W, Below W0.heap.size W0 W → W.heap[B + 1]? = some (.cells #[.string ⟨#[]⟩, .bool false, .slice none 0 0, .bool false, .slice none 0 0] 32 (0, 0)) := fun W hb => (hb.block _ (blk_lt qB)).trans qB
 have hbr : Below W0.heap.size W0 W0 := Below.refl _ _
 have c2 := blk_cell qA 2
 have c4 := blk_cell qA 4
 have HP0 := Kd.C_below hP hb0
 have HB0 := Kd.C_below hB hb0
 have HC1 := Lib.hid fun (W : World) (hb : Below W0.heap.size W0 W) => slices_Clone_string_string.calls Ap cp ps ps W (Kd.C_below HP0 hb) hpc (by unfold slices_Clone_string_string.f; rw [if_pos (by omega)])
 have HC2 := Lib.hid fun (W : World) (hb : Below W0.heap.size W0 W) => cloneT_c Ab cb body W hl2 (Kd.C_below HB0 hb) hbc
 have H0d := Lib.hid (below_drew hbr)
 have HX := Lib.hid (And.intro hb0 hs0)
 clear hb0 hs0 hW0 hP hB HP0 HB0 hbr qA qB
 refine wp_seq_k fun K2 hK2 => ?_
 have HK2 := Lib.hid hK2
 clear hK2
 refine start_ (n := 10) (S := fun w' => w'.cell? ⟨B, 2, none⟩ = some (.slice Ap ps.length cp) ∧ w'.cell? ⟨B, 4, none⟩ = some (.slice Ab body.length cb)) (ds := [7, 9]) #[false, false, false, false, false, false, false, false, false, false] (by kernel_rfl) rfl rfl ⟨c2, c4⟩ (fun hHeld => ?_)
 refine pure_ (i := 0) (N := some 3) (v := ?_) (a' := ?_) #[true, false, false, false, false, false, false, false, false, false] rfl rfl (by kernel_rfl) (fun _ _ _ h => h) (Or.inl ⟨by rfl, ?_⟩) ?_ ?_
 rotate_left
 ·intro w'
  go_simp
  with_reducible rfl
 rotate_left
 ·simp only [Act.put, List.setIfInBounds_toArray, List.set_cons_zero, List.set_cons_succ, i64_w, i32_w]
  rfl
 refine pure_ (i := 3) (N := some 6) (v := ?_) (a' := ?_) #[true, false, false, true, false, false, false, false, false, false] rfl rfl (by kernel_rfl) (fun _ _ _ h => h) (Or.inl ⟨by rfl, ?_⟩) ?_ ?_
 rotate_left
 ·intro w'
  go_simp
  with_reducible rfl
 rotate_left
 ·simp only [Act.put, List.setIfInBounds_toArray, List.set_cons_zero, List.set_cons_succ, i64_w, i32_w]
  rfl
 refine take_ (i := 1) (N := some 4) (v := ?_) (a' := ?_) #[true, true, false, true, false, false, false, false, false, false] rfl rfl (by kernel_rfl) (fun _ _ _ h => h) (Or.inl ⟨by rfl, ?_⟩) hHeld ?_ ?_
 rotate_left
 ·rintro w' ⟨s0, s1⟩
  go_simp
  with_reducible rfl
 rotate_left
 ·simp only [Act.put, List.setIfInBounds_toArray, List.set_cons_zero, List.set_cons_succ, i64_w, i32_w]
  rfl
 refine take_ (i := 4) (N := some 7) (v := ?_) (a' := ?_) #[true, true, false, true, true, false, false, false, false, false] rfl rfl (by kernel_rfl) (fun _ _ _ h => h) (Or.inl ⟨by rfl, ?_⟩) hHeld ?_ ?_
 rotate_left
 ·rintro w' ⟨s0, s1⟩
  go_simp
  with_reducible rfl
 rotate_left
 ·simp only [Act.put, List.setIfInBounds_toArray, List.set_cons_zero, List.set_cons_succ, i64_w, i32_w]
  rfl
 refine one_ (i := 2) (N := some 5) #[true, true, true, true, true, false, false, false, false, false] rfl rfl (by kernel_rfl) (by decide) (fun K hK => ?_)
 refine goes_ Tryd.func33 (by kernel_rfl) rfl #[.slice Ap ps.length cp] (by rfl) rfl rfl (by simp only [List.map_toArray, List.map_cons, List.map_nil]; rfl) ?_
 with_reducible refine (HC1.out _ H0d.out).mono ?_
 rintro e w2 ⟨v2, rfl, hR2, hb2⟩
 refine ⟨_, rfl, ?_⟩
 obtain ⟨A2, c2, rfl⟩ := Kd.R_slice hR2
 have H2 := Lib.hid (And.intro (H0d.out.trans (hb2.mono H0d.out.size)) hR2)
 refine hK.out _ _ ⟨(blk_cell (FA _ H2.out.1) 2), (blk_cell (FA _ H2.out.1) 4)⟩ (fun hHeld => ?_)
 clear hK K
 refine norm_ (a' := ?_) ?_ ?_
 rotate_left
 ·show Act.put _ (some 5) _ = _
  simp only [Act.put, List.setIfInBounds_toArray, List.set_cons_zero, List.set_cons_succ, i64_w, i32_w]
  rfl
 refine pure_ (i := 6) (N := some 9) (v := ?_) (a' := ?_) #[true, true, true, true, true, false, true, false, false, false] rfl rfl (by kernel_rfl) (fun _ _ _ h => h) (Or.inl ⟨by rfl, ?_⟩) ?_ ?_
 rotate_left
 ·intro w'
  go_simp
  with_reducible rfl
 rotate_left
 ·simp only [Act.put, List.setIfInBounds_toArray, List.set_cons_zero, List.set_cons_succ, i64_w, i32_w]
  rfl
 refine one_ (i := 5) (N := some 8) #[true, true, true, true, true, true, true, false, false, false] rfl rfl (by kernel_rfl) (by decide) (fun K hK => ?_)
 refine goes_ Tryd.func61 (by kernel_rfl) rfl #[.slice Ab body.length cb] (by rfl) rfl rfl (by simp only [List.map_toArray, List.map_cons, List.map_nil]; rfl) ?_
 with_reducible refine (HC2.out _ H2.out.1).mono ?_
 rintro e w3 ⟨v4, rfl, hR4, hb4⟩
 refine ⟨_, rfl, ?_⟩
 obtain ⟨A4, c4, rfl⟩ := Kd.R_slice hR4
 have H3 := Lib.hid (And.intro (H2.out.1.trans (hb4.mono H2.out.1.size)) (And.intro (Kd.R_below H2.out.2 hb4) hR4))
 have q3 := FA _ H3.out.1
 have f2 := frz_blk q3 2
 have f4 := frz_blk q3 4
 have g2 := blk_cell q3 2
 have g4 := blk_cell q3 4
 refine hK.out _ _ ⟨(blk_cell (FA _ H3.out.1) 2), (blk_cell (FA _ H3.out.1) 4)⟩ (fun hHeld => ?_)
 clear hK K
 refine norm_ (a' := ?_) ?_ ?_
 rotate_left
 ·show Act.put _ (some 8) _ = _
  simp only [Act.put, List.setIfInBounds_toArray, List.set_cons_zero, List.set_cons_succ, i64_w, i32_w]
  rfl
 refine last_ (i := 7) (N := none) #[true, true, true, true, true, true, true, true, false, false] rfl rfl (by kernel_rfl) (by decide) (fun K hK => ?_)
 refine skip_ (w1 := ?_) (by rfl) rfl ?_ ?_
 rotate_left
 ·go_simp
  rfl
 refine hK.out _ _ ?_
 clear hK K
 refine pure_ (i := 8) (N := some 10) (v := ?_) (a' := ?_) #[true, true, true, true, true, true, true, true, true, false] rfl rfl (by kernel_rfl) (fun _ _ _ h => h) (Or.inl ⟨by rfl, ?_⟩) ?_ ?_
 rotate_left
 ·intro w'
  go_simp
  with_reducible rfl
 rotate_left
 ·simp only [Act.put, List.setIfInBounds_toArray, List.set_cons_zero, List.set_cons_succ, i64_w, i32_w]
  rfl
 refine last_ (i := 9) (N := none) #[true, true, true, true, true, true, true, true, true, true] rfl rfl (by kernel_rfl) (by decide) (fun K hK => ?_)
 refine skip_ (w1 := ?_) (by rfl) rfl ?_ ?_
 rotate_left
 ·go_simp
  rfl
 refine hK.out _ _ ?_
 clear hK K
 refine done_ (by kernel_rfl) ?_

 refine HK2.out _ _ ?_
 clear HK2
 obtain ⟨W4, hW4⟩ : ∃ W4, (w3.setCell ⟨B, 2, none⟩ (.slice A2 ps.length c2)).setCell ⟨B, 4, none⟩ (.slice A4 body.length c4) = W4 := ⟨_, rfl⟩
 have far4 : ∀ k, k ≠ B → W4.heap[k]? = w3.heap[k]? := fun k hk => by rw [← hW4]; exact (Below.heap_setCell _ ⟨B, 4, none⟩ _ _ hk).trans (Below.heap_setCell _ ⟨B, 2, none⟩ _ _ hk)
 have q4 : W4.heap[B]? = some (.cells #[.string nm, .bool fn, .slice A2 ps.length c2, .bool more, .slice A4 body.length c4] 32 (0, 0)) := by rw [← hW4]; exact blk_put (blk_put q3 2 _ rfl) 4 _ rfl
 have qz := (far4 (B + 1) (by omega)).trans (FB _ H3.out.1)
 have hb4 : Below w.heap.size w W4 := by rw [← hW4]; exact ((HX.out.1.trans (H3.out.1.mono HX.out.1.size)).setCell (p := ⟨B, 2, none⟩) (by simp [hBw]) _).setCell (p := ⟨B, 4, none⟩) (by simp [hBw]) _
 have hR2 : Kd.string.R 9 W4 (B + 2) (fun _ => True) (.slice A2 ps.length c2) ps := R_high (Kd.R_lower H3.out.2.1 (by have := HX.out.2; show _ ≤ W0.heap.size; omega)) (fun k hk _ => far4 k (by omega))
 have hR4 : Kd.R k48 48 W4 (B + 2) (fun _ => True) (.slice A4 body.length c4) body := R_high (Kd.R_lower H3.out.2.2 (by have := HX.out.2; have := H2.out.1.size; omega)) (fun k hk _ => far4 k (by omega))
 rw [hW4]
 have HR := Lib.hid (And.intro q4 (And.intro qz (And.intro hb4 (And.intro hR2 hR4))))
 have a0 := blk_cell q4 0
 have a1 := blk_cell q4 1
 have a2 := blk_cell q4 2
 have a3 := blk_cell q4 3
 have a4 := blk_cell q4 4
 have b0 := blk_cell qz 0
 have b1 := blk_cell qz 1
 have b2 := blk_cell qz 2
 have b3 := blk_cell qz 3
 have b4 := blk_cell qz 4
 have z0 := frz_blk qz 0
 have z1 := frz_blk qz 1
 have z2 := frz_blk qz 2
 have z3 := frz_blk qz 3
 have z4 := frz_blk qz 4
 clear q4 qz hb4 hR2 hR4 hW4 g2 g4 f2 f4 q3 far4
 go_wp2
 obtain ⟨h1, h2, h3⟩ := put5 HR.out.2.1 rfl (.string nm) (.bool fn) (.slice A2 ps.length c2) (.bool more) (.slice A4 body.length c4)
 refine bodyPost_ret (results_cell_row rfl _ _ (B + 1) 32 _ (0, 0) _ (by simp) h1 Tryd.underlying32 rfl (by kernel_rfl)) rfl ?_
 refine ⟨_, _, rfl, Kd.R_lower (R_high HR.out.2.2.2.1 (fun k hk _ => h3 k (by omega))) (by omega), Kd.R_lower (R_high HR.out.2.2.2.2 (fun k hk _ => h3 k (by omega))) (by omega), ?_⟩
 have := HR.out.2.2.1
 rw [hBw] at this
 exact this.trans (h2.mono (by omega))
end Go.Proofs.YtcbfbefpbjmglaaDoor.Mac
namespace Go.Proofs.YtcbfbefpbjmglaaDoor.Mac
open Go.RowKit Go.Proofs.MapFun Go.Proofs.YtcbfbefpbjmglaaDoor.PA Go.Proofs.YtcbfbefpbjmglaaDoorT Go.Proofs.YtcbfbefpbjmglaaDoorW.PrintWords Go.Proofs.YtcbfbefpbjmglaaDoorW.PrintLast Go.Proofs.YtcbfbefpbjmglaaDoorW.PrintMore
set_option linter.unusedVariables false
set_option linter.unusedSimpArgs false
attribute [local go_sem] Oper.semAt_some
def MacV (W : World) (m : MacP) (v : Value) : Prop := ∃ Ap cp Ab cb, v = .agg #[.string m.nm, .bool m.fn, .slice Ap m.params.length cp, .bool m.more, .slice Ab m.body.length cb] ∧ Kd.C Kd.string W Ap m.params.length m.params ∧ m.params.length ≤ cp ∧ Kd.C k48 W Ab m.body.length m.body ∧ m.body.length ≤ cb
theorem MacV.below {W W' : World} {m : MacP} {v : Value} (h : MacV W m v) (hb : Below W.heap.size W W') : MacV W' m v := by
 obtain ⟨Ap, cp, Ab, cb, e, h1, h2, h3, h4⟩ := h
 exact ⟨Ap, cp, Ab, cb, e, Kd.C_below h1 hb, h2, Kd.C_below h3 hb, h4⟩
structure TabR (W : World) (p mb n : Nat) (T : List UInt8 → Option MacP) : Prop where
 hp : W.heap[p]? = some (.cells #[.map (some mb)] 70 (0, 0))
 hm : ∃ f, MapF Tryd.prog 9 Lit.string W mb n f ∧ ∀ y, (match T y with | none => f y = none | some m => ∃ v, f y = some v ∧ MacV W m v)
theorem TabR.below {W W' : World} {p mb n : Nat} {T : List UInt8 → Option MacP} (h : TabR W p mb n T) (hb : Below W.heap.size W W') : TabR W' p mb n T := by
 obtain ⟨f, h1, h2⟩ := h.hm
 refine ⟨(hb.block _ (blk_lt h.hp)).trans h.hp, f, h1.block (hb.block _ h1.lt), fun y => ?_⟩
 have := h2 y
 cases hT : T y with
 | none => rw [hT] at this; exact this
 | some m =>
  rw [hT] at this
  obtain ⟨v, e, hv⟩ := this
  exact ⟨v, e, hv.below hb⟩
set_option maxHeartbeats 400000 in
theorem new_c (w : World) : Calls Tryd.prog 21 #[] w fun e w' => ∃ p mb, e = .returned (.pointer (some ⟨p, 0, none⟩)) ∧ TabR w' p mb 0 (fun _ => none) ∧ w.heap.size ≤ mb ∧ Below w.heap.size w w' := by
 have hmm := @run_makeMap Tryd.prog
 go_enter Tryd.func21, Tryd.ntmps21
 go_wp2
 go_ret
 have hb1 : Below w.heap.size w (w.alloc (.map #[] 0)) := (Below.refl _ w).alloc (Nat.le_refl _) _
 have hm := MapF.made w Tryd.prog 9 Lit.string
 have hs := World.size_alloc w (.map #[] 0)
 refine ⟨_, _, rfl, ⟨?_, _, hm.block (((Below.refl _ _).alloc (Nat.le_refl _) _).block _ hm.lt), fun _ => rfl⟩, Nat.le_refl _, hb1.alloc hb1.size _⟩
 have := blk_new (w.alloc (.map #[] 0)) (.cells #[.map (some w.heap.size)] 70)
 rw [hs] at this
 exact this
theorem zero32 (w : World) : (zeroValue 32).run Tryd.prog w = .ok (.agg #[.string ⟨#[]⟩, .bool false, .slice none 0 0, .bool false, .slice none 0 0]) w := by kernel_rfl
def GotM (W : World) (base : Nat) (o : Option MacP) (v : Value) : Prop :=
 match o with
 | none => ∃ A c A' c', v = .agg #[.string ⟨#[]⟩, .bool false, .slice A 0 c, .bool false, .slice A' 0 c']
 | some m => ∃ v2 v4, v = .agg #[.string m.nm, .bool m.fn, v2, .bool m.more, v4] ∧ Kd.string.R 9 W base (fun _ => True) v2 m.params ∧ Kd.R k48 48 W base (fun _ => True) v4 m.body
theorem get5 {W : World} {B : Nat} {A : Value} {cs : Array Value} {rest : List Value} {t1 t2 t3 v0 v1 v2 v3 v4 : Value} {b : Bool} {R : Ending → World → Prop} (h : W.heap[B]? = some (.cells cs 32 (0, 0))) (hs : cs.size = 5)
  (hR : R (.returned (.tuple #[.agg #[v0, v1, v2, v3, v4], .bool b])) (set5 W B v0 v1 v2 v3 v4)) :
  bodyPost Tryd.prog Tryd.f23 R .ret { tmps := (A :: t1 :: t2 :: t3 :: .pointer (some ⟨B, 0, none⟩) :: .bool b :: rest).toArray, defers := [] } (set5 W B v0 v1 v2 v3 v4) := by
 obtain ⟨h1, h2, _⟩ := put5 h hs v0 v1 v2 v3 v4
 refine bodyPost_ret (results_ct rfl _ _ B 32 _ (0, 0) _ (by simp) h1 Tryd.underlying32 rfl (by kernel_rfl)) rfl ?_
 simpa using hR
theorem own_zero (w : World) : Calls Tryd.prog 43 #[.agg #[.string ⟨#[]⟩, .bool false, .slice none 0 0, .bool false, .slice none 0 0]] w fun e w' => ∃ v2 v4, e = .returned (.agg #[.string ⟨#[]⟩, .bool false, v2, .bool false, v4]) ∧ Kd.string.R 9 w' w.heap.size (fun _ => True) v2 [] ∧ Kd.R k48 48 w' w.heap.size (fun _ => True) v4 [] ∧ Below w.heap.size w w' :=
 own_c ⟨#[]⟩ false false none none 0 0 [] [] w (by simp) (by simp) ⟨rfl, Nat.zero_le _, fun h => absurd h (by simp)⟩ (Nat.le_refl _) ⟨rfl, Nat.zero_le _, fun h => absurd h (by simp)⟩ (Nat.le_refl _)
theorem law68 : Tryd.prog.underlying 68 = some (.map 9 32) := Tryd.underlying68
set_option maxRecDepth 100000 in
set_option maxHeartbeats 1000000 in
theorem get_c (p mb n : Nat) (T : List UInt8 → Option MacP) (nm : ByteArray) (hnm : nm.size < maxLen) (w : World) (h : TabR w p mb n T) (hsz : ∀ y m, T y = some m → m.params.length ≤ 2000000 ∧ m.body.length ≤ 1000000) :
  Calls Tryd.prog 23 #[.pointer (some ⟨p, 0, none⟩), .string nm] w fun e w' => ∃ v, e = .returned (.tuple #[v, .bool (T nm.data.toList).isSome]) ∧ GotM w' w.heap.size (T nm.data.toList) v ∧ Below w.heap.size w w' := by
 obtain ⟨B, hBw⟩ : ∃ B, w.heap.size = B := ⟨_, rfl⟩
 have hko := Go.WideMaps.keyOf_string_mk (s := nm) Tryd.underlying9 (by unfold maxLen at *; omega)
 obtain ⟨W0, hW0⟩ : ∃ W0, w.alloc (.cells #[.string ⟨#[]⟩, .bool false, .slice none 0 0, .bool false, .slice none 0 0] 32) = W0 := ⟨_, rfl⟩
 have hb0 : Below w.heap.size w W0 := by rw [← hW0]; exact (Below.refl _ w).alloc (Nat.le_refl _) _
 have qB : W0.heap[B]? = some (.cells #[.string ⟨#[]⟩, .bool false, .slice none 0 0, .bool false, .slice none 0 0] 32 (0, 0)) := by rw [← hW0, ← hBw]; exact blk_new w _
 have h0 := h.below hb0
 have cp := blk_cell h0.hp 0
 obtain ⟨f, hf, hT⟩ := h0.hm
 have hlk := hf.look_ok law9 law68 (zero32 _) hko
 go_enter Tryd.func23, Tryd.ntmps23
 refine wp_seq_k fun K1 hK1 => ?_
 have HK1 := Lib.hid hK1
 clear hK1
 go_wp2
 refine HK1.out _ _ ?_
 clear HK1
 try rw [hW0]
 try rw [hBw]
 have hTn := hT nm.data.toList
 have HX := Lib.hid (And.intro qB (And.intro hb0 h0))
 clear qB hb0 h0 hT hW0 h hf
 cases hTT : T nm.data.toList with
 | none =>
  rw [hTT] at hTn
  have hTn : f nm.data.toList = none := hTn
  rw [hTn] at hlk
  have hlk : (Instr.lookup 68 (.map (some mb)) (.string nm) true).run Tryd.prog W0 = .ok (.tuple #[.agg #[.string ⟨#[]⟩, .bool false, .slice none 0 0, .bool false, .slice none 0 0], .bool false]) W0 := hlk
  go_wp2_with (go_at_call 43; have hbA := (Below.refl W0.heap.size W0).alloc (Nat.le_refl _) (.cells #[.string ⟨#[]⟩, .bool false, .slice none 0 0, .bool false, .slice none 0 0] 32); refine (own_zero _).mono ?_; rintro e W2 ⟨v2, v4, rfl, hR2, hR4, hb2⟩; obtain ⟨A2, k2, rfl⟩ := Kd.R_slice hR2; obtain ⟨A4, k4, rfl⟩ := Kd.R_slice hR4; have hb3 := hbA.trans (hb2.mono hbA.size); have q2 := (hb3.block _ (blk_lt HX.out.1)).trans HX.out.1; have b0 := blk_cell q2 0; have b1 := blk_cell q2 1; have b2 := blk_cell q2 2; have b3 := blk_cell q2 3; have b4 := blk_cell q2 4; have z0 := frz_blk q2 0; have z1 := frz_blk q2 1; have z2 := frz_blk q2 2; have z3 := frz_blk q2 3; have z4 := frz_blk q2 4; have H2 := Lib.hid (And.intro q2 (And.intro (HX.out.2.1.trans (hb3.mono HX.out.2.1.size)) (And.intro (Kd.R_lower hR2 hbA.size) (Kd.R_lower hR4 hbA.size)))); clear hbA hb2 hb3 q2 hR2 hR4)
  refine get5 H2.out.1 rfl ?_
  obtain ⟨_, p2, p3⟩ := put5 H2.out.1 rfl (.string ⟨#[]⟩) (.bool false) (.slice A2 0 k2) (.bool false) (.slice A4 0 k4)
  refine ⟨_, rfl, ⟨_, _, _, _, rfl⟩, ?_⟩
  have hb := H2.out.2.1
  rw [hBw] at hb
  exact hb.trans p2
 | some m =>
  rw [hTT] at hTn
  obtain ⟨v, hv, hMV⟩ := hTn
  obtain ⟨Ap, cq, Ab, cb, rfl, hP, hpc, hB, hbc⟩ := hMV
  rw [hv] at hlk
  have hlk : (Instr.lookup 68 (.map (some mb)) (.string nm) true).run Tryd.prog W0 = .ok (.tuple #[.agg #[.string m.nm, .bool m.fn, .slice Ap m.params.length cq, .bool m.more, .slice Ab m.body.length cb], .bool true]) W0 := hlk
  obtain ⟨s1, s2⟩ := hsz _ m hTT
  have HM := Lib.hid (And.intro hP (And.intro hB (And.intro s1 s2)))
  clear hP hB s1 s2 hv
  go_wp2_with (go_at_call 43; have hbA := (Below.refl W0.heap.size W0).alloc (Nat.le_refl _) (.cells #[.string m.nm, .bool m.fn, .slice Ap m.params.length cq, .bool m.more, .slice Ab m.body.length cb] 32); refine (own_c m.nm m.fn m.more Ap Ab cq cb m.params m.body _ HM.out.2.2.1 HM.out.2.2.2 (Kd.C_alloc HM.out.1 _) hpc (Kd.C_alloc HM.out.2.1 _) hbc).mono ?_; rintro e W2 ⟨v2, v4, rfl, hR2, hR4, hb2⟩; obtain ⟨A2, k2, rfl⟩ := Kd.R_slice hR2; obtain ⟨A4, k4, rfl⟩ := Kd.R_slice hR4; have hb3 := hbA.trans (hb2.mono hbA.size); have q2 := (hb3.block _ (blk_lt HX.out.1)).trans HX.out.1; have b0 := blk_cell q2 0; have b1 := blk_cell q2 1; have b2 := blk_cell q2 2; have b3 := blk_cell q2 3; have b4 := blk_cell q2 4; have z0 := frz_blk q2 0; have z1 := frz_blk q2 1; have z2 := frz_blk q2 2; have z3 := frz_blk q2 3; have z4 := frz_blk q2 4; have H2 := Lib.hid (And.intro q2 (And.intro (HX.out.2.1.trans (hb3.mono HX.out.2.1.size)) (And.intro (Kd.R_lower hR2 hbA.size) (Kd.R_lower hR4 hbA.size)))); clear hbA hb2 hb3 q2 hR2 hR4)
  refine get5 H2.out.1 rfl ?_
  obtain ⟨_, p2, p3⟩ := put5 H2.out.1 rfl (.string m.nm) (.bool m.fn) (.slice A2 m.params.length k2) (.bool m.more) (.slice A4 m.body.length k4)
  have hb := H2.out.2.1
  have hw0 : B + 1 ≤ W0.heap.size := blk_lt HX.out.1
  refine ⟨_, rfl, ⟨_, _, rfl, Kd.R_lower (R_high H2.out.2.2.1 (fun k hk _ => p3 k (by omega))) (by have := HX.out.2.1.size; omega), Kd.R_lower (R_high H2.out.2.2.2 (fun k hk _ => p3 k (by omega))) (by have := HX.out.2.1.size; omega)⟩, ?_⟩
  rw [hBw] at hb
  exact hb.trans p2
end Go.Proofs.YtcbfbefpbjmglaaDoor.Mac
