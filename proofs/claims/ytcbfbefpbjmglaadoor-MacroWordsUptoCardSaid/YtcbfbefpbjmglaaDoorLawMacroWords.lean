/- The card of MacroWords, where what it reads is of bulk at most 1048576: which macros are right, and alike, and how one is shown; the table of signs is tied to the program's text. -/
import Derived.Test.YtcbfbefpbjmglaaDoorCards
import Derived.Test.YtcbfbefpbjmglaaDoorTie
import Derived.Test.YtcbfbefpbjmglaaDoorLWh
import Derived.Test.YtcbfbefpbjmglaaDoorSHh
import Derived.WalkKit
import Derived.ProofKit
import Derived.OpenShut
import Derived.ShutString
import Derived.ChangeOld
import Derived.SizedLaws
import Derived.Deep.DeepHandedRow
import Derived.Lib.LaidTab
namespace Go.Proofs.YtcbfbefpbjmglaaDoor.macroWords
open Go.ChangeShapes Go.WideShapes Go.ChangeAt Go.RowKit Go.Proofs.YtcbfbefpbjmglaaDoorT Go.Proofs.LaidStrs
open Go.ChangeMaps (open_string shut_string)
set_option linter.unusedVariables false
open Go.Lib in
theorem table {W : World} (h : laidMetH Tryd.prog Rows.macroWordsUptoRow.laid W) (hSh : W.ShapedOpen Tryd.prog) : Tab W := by
  have h1 : StrsIs Tryd.prog W "burin/token.signs" sgs := strsIs_of_head (rest := []) gTab gTabType Tryd.underlying110 Tryd.underlying9 cells9 cells54 h
  exact ⟨heap_of_var gTab h1, Tryd.laysM219.s1_3 W hSh⟩
theorem laidOut : laidOutB Tryd.prog = true := by kernel_rfl
theorem own : ownKnob Tryd.prog.godebug = none := by kernel_rfl
set_option maxRecDepth 20000 in
theorem contract (H : Type) (enc : TypeId × Value → H) (W : World) (base : Nat) (args : Array Value) (ds gs : List (DataW H)) (before : List MemPlace)
    (hval : ∀ (j : Nat) t v, Tryd.f4.params[j]? = some t → args[j]? = some v → Value.okWide Tryd.prog W .any base t v)
    (hW : DataW.Whole enc Tryd.prog Tryd.f4.params.toList Rows.macroWordsSpec.vars false W args.toList ds gs before)
    (hcond : Rows.uptoSmall H (ds ++ gs) = true)
    (hL : laidMetH Tryd.prog Rows.macroWordsUptoRow.laid W) (hSh : W.ShapedOpen Tryd.prog) :
    Calls Tryd.prog 4 args W fun e W' => ∃ v, e = .returned v ∧ Rows.macroWordsSpec.post enc Tryd.prog Tryd.f4 false true false false W args v W' := by
  have hW' := hW
  obtain ⟨p, q, hA0, hV, rfl, hfz, hnd⟩ := hW
  have hA : DataW.TrodAll enc Tryd.prog W 0 (fun _ => true) true Tryd.f4.params.toList args.toList ds p := hA0
  rw [Tryd.params4] at hA hval
  obtain ⟨v0, vs0, d0, ds0, p0, q0, hargs, rfl, rfl, h0, r0⟩ := trodAll_cons hA
  obtain ⟨v1, vs1, d1, ds1, p1, q1, rfl, rfl, rfl, h1, r1⟩ := trodAll_cons r0
  obtain ⟨rfl, rfl, rfl⟩ := trodAll_nil r1
  obtain rfl : args = #[v0, v1] := by cases args; simp_all
  obtain ⟨rfl, rfl⟩ := trodVars_none hV
  have k0 := h0
  have k1 := h1
  have lt0 : ∀ x ∈ p0, x.block < W.heap.size := by obtain ⟨m, hm⟩ := k0; exact DataW.trod_lt m _ _ _ hm
  have lt1 : ∀ x ∈ p1, x.block < W.heap.size := by obtain ⟨m, hm⟩ := k1; exact DataW.trod_lt m _ _ _ hm
  have hb : Rows.uptoBulk d0 + (Rows.uptoBulk d1 + 0) ≤ 1048576 := of_decide_eq_true hcond
  obtain ⟨nm, fn, more, Ap, Ab, cp, cb, ps, body, rfl, hP, hpc, hB, hbc, hz⟩ := Mac.openedM (hval 0 32 v0 rfl rfl) h0 (by omega)
  obtain ⟨nm', fn', more', Ap', Ab', cp', cb', ps', body', rfl, hP', hpc', hB', hbc', hz'⟩ := Mac.openedM (hval 1 32 v1 rfl rfl) h1 (by omega)
  clear hA0
  simp only [List.append_nil] at hW'
  refine (Mac.words_c nm nm' fn fn' more more' Ap Ab Ap' Ab' cp cb cp' cb' ps ps' body body' W (table hL hSh) hz hz' hP hpc hB hbc hP' hpc' hB' hbc').mono fun e W' ⟨he, bel⟩ => ?_
  subst he
  exact ⟨_, rfl, _, _, _, [], _, [], hW', trodAll_mk1 (shut_bool Tryd.underlying4 _), (trodAll_cons_mk (Below.trod laidOut (by kernel_rfl) (of_decide_eq_true (by kernel_rfl)) k0 bel lt0) (trodAll_cons_mk (Below.trod laidOut (by kernel_rfl) (of_decide_eq_true (by kernel_rfl)) k1 bel lt1) trodAll_mk0)), by first | rfl | simp, bel.frame _, fun h => by cases h⟩
theorem laid_met (os : Os) : laidMet Tryd.prog Rows.macroWordsUptoRow.laid ((laidWorld os).forCall (fun _ _ => 0) ⟨#[], #[.agg #[.string ByteArray.empty, .bool false, .slice none 0 0, .bool false, .slice none 0 0], .agg #[.string ByteArray.empty, .bool false, .slice none 0 0, .bool false, .slice none 0 0]], []⟩).memory :=
  laidMet_of_run' 8 (by kernel_rfl) (by kernel_rfl)
theorem reads (os : Os) {H : Type} (enc : TypeId × Value → H) : ∃ places ds, DataW.whole enc Tryd.prog ((laidWorld os).forCall (fun _ _ => 0) ⟨#[], #[.agg #[.string ByteArray.empty, .bool false, .slice none 0 0, .bool false, .slice none 0 0], .agg #[.string ByteArray.empty, .bool false, .slice none 0 0, .bool false, .slice none 0 0]], []⟩).memory Tryd.f4.params.toList Rows.macroWordsSpec.vars false #[(.agg #[.string ByteArray.empty, .bool false, .slice none 0 0, .bool false, .slice none 0 0] : Value), .agg #[.string ByteArray.empty, .bool false, .slice none 0 0, .bool false, .slice none 0 0]].toList 8 = some (ds, [], places) :=
  ⟨[], [.agg [.lit (.string []), .lit (.bool false), .nil, .lit (.bool false), .nil], .agg [.lit (.string []), .lit (.bool false), .nil, .lit (.bool false), .nil]], by kernel_rfl⟩
set_option maxRecDepth 100000 in
theorem lifted (os : Os) (started : os.Started) (H : Type) (enc : TypeId × Value → H) (F : Stop.Interp) :
    ReturnsInHanded {} Tryd.checked os 4 .any ((Rows.OpenSpec.upto Rows.macroWordsSpec).preRow enc Tryd.prog Tryd.f4 Rows.macroWordsUptoRow.domain false Rows.macroWordsUptoRow.laid) (((Rows.OpenSpec.upto Rows.macroWordsSpec).at F).post enc Tryd.prog Tryd.f4 false true false false) := by
  have hx : DataW.whole enc Tryd.prog ((laidWorld os).forCall (fun _ _ => 0) ⟨#[], #[.agg #[.string ByteArray.empty, .bool false, .slice none 0 0, .bool false, .slice none 0 0], .agg #[.string ByteArray.empty, .bool false, .slice none 0 0, .bool false, .slice none 0 0]], []⟩).memory Tryd.f4.params.toList Rows.macroWordsSpec.vars false #[(.agg #[.string ByteArray.empty, .bool false, .slice none 0 0, .bool false, .slice none 0 0] : Value), .agg #[.string ByteArray.empty, .bool false, .slice none 0 0, .bool false, .slice none 0 0]].toList 8 = some ([.agg [.lit (.string []), .lit (.bool false), .nil, .lit (.bool false), .nil], .agg [.lit (.string []), .lit (.bool false), .nil, .lit (.bool false), .nil]], [], []) := by kernel_rfl
  refine returnsInHanded_of_row (C := Tryd.checked) (s := Rows.OpenSpec.upto Rows.macroWordsSpec) own started (by kernel_rfl) Tryd.func4
    (witness_row_at (enc := enc) (C := Tryd.checked) false (laidWorld os) #[.agg #[.string ByteArray.empty, .bool false, .slice none 0 0, .bool false, .slice none 0 0], .agg #[.string ByteArray.empty, .bool false, .slice none 0 0, .bool false, .slice none 0 0]] rfl (by kernel_rfl) (by kernel_rfl) (by kernel_rfl)
      (OpenSpec.preRow_of_cond 8 hx (by kernel_rfl) (fun k hk => by cases hk; kernel_rfl) (by kernel_rfl) (laid_met os))) ?_
  intro W base args ds gs before hval hW _ hcond hsz hL hSh _
  exact contract H enc W base args ds gs before hval hW (hcond _ rfl) hL hSh
theorem said : Rows.MacroWordsUptoSaid :=
  OpenClaim.holds_of_cond 4 Tryd.f4 rfl rfl rfl rfl rfl rfl rfl ⟨rfl, rfl, rfl, rfl, rfl⟩ rfl rfl rfl rfl rfl (by kernel_rfl) Tryd.func4 (by kernel_rfl)
    (of_decide_eq_true (by kernel_rfl)) (by unfold Func.isWrapper; first | (rw [if_pos (by decide +kernel)]; kernel_rfl) | (rw [if_neg (by decide +kernel)]; exact ⟨rfl, rfl⟩))
    (fun os started H enc _ F => by rw [OpenClaim.pre_eq_preRow]; exact lifted os started H enc F)
theorem plain (f : FuncId) (fn : Func) (hf : Tryd.pinned.checked.prog.funcNamed "burin/burinlaw03.MacroWords" = some f) (hfn : Tryd.pinned.checked.prog.funcs[f]? = some fn) :
    false = Tryd.pinned.checked.prog.looks [] ∧ ∀ (j : Nat) t, fn.params[j]? = some t → Tryd.pinned.checked.prog.wantsStandIn t = false := by
  obtain rfl : f = 4 := Option.some.inj ((show Tryd.prog.funcNamed "burin/burinlaw03.MacroWords" = some 4 by kernel_rfl).symm.trans hf) |>.symm
  obtain rfl : fn = Tryd.f4 := (Option.some.inj (Tryd.func4.symm.trans hfn)).symm
  refine ⟨by kernel_rfl, fun j t ht => ?_⟩
  rw [Tryd.params4] at ht
  have ht2 : t = 32 := by simpa using Array.mem_of_getElem? ht
  subst ht2
  exact (show Tryd.prog.wantsStandIn 32 = false by kernel_rfl)
theorem card : Rows.MacroWordsUptoCardSaid :=
  Claim7.holds_tied_plain_at .later [] _ _ _ _ said (fun _ h => by cases h) (by kernel_rfl) (fun _ h => by cases h) macroWordsUpto_row_tie rfl ⟨rfl, rfl⟩ (by kernel_rfl) rfl plain (by kernel_rfl)
end Go.Proofs.YtcbfbefpbjmglaaDoor.macroWords
namespace Go.Proofs.YtcbfbefpbjmglaaDoor
theorem macroWordsUpto_card : Rows.MacroWordsUptoCardSaid := macroWords.card
end Go.Proofs.YtcbfbefpbjmglaaDoor
