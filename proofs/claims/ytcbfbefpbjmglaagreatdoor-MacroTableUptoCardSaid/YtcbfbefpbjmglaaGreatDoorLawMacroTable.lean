import Derived.Test.YtcbfbefpbjmglaaGreatDoorZ
/- The card of MacroTable, where what it reads is of bulk at most 1048576: a table does just as the document says; the table of signs is tied to the program's text. -/
import Derived.Test.YtcbfbefpbjmglaaGreatDoorCards
import Derived.Test.YtcbfbefpbjmglaaGreatDoorTie
import Derived.Test.YtcbfbefpbjmglaaGreatDoorLOO
import Derived.Test.YtcbfbefpbjmglaaGreatDoorSHh
import Derived.WalkKit
import Derived.ProofKit
import Derived.OpenShut
import Derived.ShutString
import Derived.ChangeOld
import Derived.SizedLaws
import Derived.Deep.DeepHandedRow
import Derived.Lib.LaidTab
set_option maxRecDepth 100000
set_option linter.unusedVariables false
namespace Go.Proofs.YtcbfbefpbjmglaaGreatDoor.macroTable
open Go.ChangeShapes Go.WideShapes Go.ChangeAt Go.RowKit YtcbfbefpbjmglaaGreatDoorT Go.Proofs.LaidStrs
open Go.ChangeMaps (open_string shut_string)
open Go.Lib in
theorem table {W : World} (h : laidMetH Tryz.prog Rows.macroTableUptoRow.laid W) (hSh : W.ShapedOpen Tryz.prog) : Tab W := by
  have h1 : StrsIs Tryz.prog W "burin/token.signs" sgs := strsIs_of_head (rest := []) gTab gTabType Tryz.underlying125 Tryz.underlying9 cells9 cells54 h
  exact ⟨heap_of_var gTab h1, Tryz.laysM219.s1_3 W hSh⟩
theorem laidOut : laidOutB Tryz.prog = true := by kernel_rfl
theorem own : ownKnob Tryz.prog.godebug = none := by kernel_rfl
set_option maxRecDepth 20000 in
theorem contract (H : Type) (enc : TypeId × Value → H) (W : World) (base : Nat) (args : Array Value) (ds gs : List (DataW H)) (before : List MemPlace)
    (hval : ∀ (j : Nat) t v, Tryz.f3.params[j]? = some t → args[j]? = some v → Value.okWide Tryz.prog W .any base t v)
    (hW : DataW.Whole enc Tryz.prog Tryz.f3.params.toList Rows.macroTableSpec.vars false W args.toList ds gs before)
    (hcond : Rows.uptoSmall H (ds ++ gs) = true)
    (hL : laidMetH Tryz.prog Rows.macroTableUptoRow.laid W) (hSh : W.ShapedOpen Tryz.prog) :
    Calls Tryz.prog 3 args W fun e W' => ∃ v, e = .returned v ∧ Rows.macroTableSpec.post enc Tryz.prog Tryz.f3 false true false false W args v W' := by
  have hW' := hW
  obtain ⟨p, q, hA0, hV, rfl, hfz, hnd⟩ := hW
  have hA : DataW.TrodAll enc Tryz.prog W 0 (fun _ => true) true Tryz.f3.params.toList args.toList ds p := hA0
  rw [Tryz.params3] at hA hval
  obtain ⟨v0, vs0, d0, ds0, p0, q0, hargs, rfl, rfl, h0, r0⟩ := trodAll_cons hA
  obtain ⟨rfl, rfl, rfl⟩ := trodAll_nil r0
  obtain rfl : args = #[v0] := by cases args; simp_all
  obtain ⟨rfl, rfl⟩ := trodVars_none hV
  have k0 := h0
  have lt0 : ∀ x ∈ p0, x.block < W.heap.size := by obtain ⟨m, hm⟩ := k0; exact DataW.trod_lt m _ _ _ hm
  have hb : Rows.uptoBulk d0 + 0 ≤ 1048576 := od hcond
  obtain ⟨a0, len0, cap0, rfl⟩ := okWide_slice Tryz.underlying22 (hval 0 22 v0 rfl rfl)
  obtain ⟨l, rfl, hc, hC, hs, hl⟩ := Mac.openedO (x := (d0, p0)) (by show Rows.uptoBulk d0 ≤ _; omega) h0
  clear hA0
  simp only [List.append_nil] at hW'
  refine (Mac.table_c l a0 cap0 W (table hL hSh) (by rw [List.length_map]; exact hC) hc hs hl).mono fun e W' ⟨he, bel⟩ => ?_
  subst he
  exact ⟨_, rfl, _, _, _, [], _, [], hW', trodAll_mk1 (shut_bool Tryz.underlying4 _), (trodAll_cons_mk (Below.trod laidOut (by kernel_rfl) (od (by kernel_rfl)) k0 bel lt0) trodAll_mk0), by first | rfl | simp, bel.frame _, fun h => by cases h⟩
theorem laid_met (os : Os) : laidMet Tryz.prog Rows.macroTableUptoRow.laid ((laidWorld os).forCall (fun _ _ => 0) ⟨#[], #[.slice none 0 0], []⟩).memory :=
  laidMet_of_run' 8 (by kernel_rfl) (by kernel_rfl)
theorem reads (os : Os) {H : Type} (enc : TypeId × Value → H) : ∃ places ds, DataW.whole enc Tryz.prog ((laidWorld os).forCall (fun _ _ => 0) ⟨#[], #[.slice none 0 0], []⟩).memory Tryz.f3.params.toList Rows.macroTableSpec.vars false #[(.slice none 0 0 : Value)].toList 8 = some (ds, [], places) :=
  ⟨[], [.nil], by kernel_rfl⟩
theorem lifted (os : Os) (started : os.Started) (H : Type) (enc : TypeId × Value → H) (F : Stop.Interp) :
    ReturnsInHanded {} Tryz.checked os 3 .any ((Rows.OpenSpec.upto Rows.macroTableSpec).preRow enc Tryz.prog Tryz.f3 Rows.macroTableUptoRow.domain false Rows.macroTableUptoRow.laid) (((Rows.OpenSpec.upto Rows.macroTableSpec).at F).post enc Tryz.prog Tryz.f3 false true false false) := by
  have hx : DataW.whole enc Tryz.prog ((laidWorld os).forCall (fun _ _ => 0) ⟨#[], #[.slice none 0 0], []⟩).memory Tryz.f3.params.toList Rows.macroTableSpec.vars false #[(.slice none 0 0 : Value)].toList 8 = some ([.nil], [], []) := by kernel_rfl
  refine returnsInHanded_of_row (C := Tryz.checked) (s := Rows.OpenSpec.upto Rows.macroTableSpec) own started (by kernel_rfl) Tryz.func3
    (witness_row_at (enc := enc) (C := Tryz.checked) false (laidWorld os) #[.slice none 0 0] rfl (by kernel_rfl) (by kernel_rfl) (by kernel_rfl)
      (OpenSpec.preRow_of_cond 8 hx (by kernel_rfl) (fun k hk => by cases hk; kernel_rfl) (by kernel_rfl) (laid_met os))) ?_
  intro W base args ds gs before hval hW _ hcond hsz hL hSh _
  exact contract H enc W base args ds gs before hval hW (hcond _ rfl) hL hSh
theorem said : Rows.MacroTableUptoSaid :=
  OpenClaim.holds_of_cond 3 Tryz.f3 rfl rfl rfl rfl rfl rfl rfl ⟨rfl, rfl, rfl, rfl, rfl⟩ rfl rfl rfl rfl rfl (by kernel_rfl) Tryz.func3 (by kernel_rfl)
    (od (by kernel_rfl)) (by unfold Func.isWrapper; first | (rw [if_pos (by decide +kernel)]; kernel_rfl) | (rw [if_neg (by decide +kernel)]; exact ⟨rfl, rfl⟩))
    (fun os started H enc _ F => by rw [OpenClaim.pre_eq_preRow]; exact lifted os started H enc F)
theorem plain (f : FuncId) (fn : Func) (hf : Tryz.pinned.checked.prog.funcNamed "burin/burinlaw03.MacroTable" = some f) (hfn : Tryz.pinned.checked.prog.funcs[f]? = some fn) :
    false = Tryz.pinned.checked.prog.looks [] ∧ ∀ (j : Nat) t, fn.params[j]? = some t → Tryz.pinned.checked.prog.wantsStandIn t = false := by
  obtain rfl : f = 3 := Option.some.inj ((show Tryz.prog.funcNamed "burin/burinlaw03.MacroTable" = some 3 by kernel_rfl).symm.trans hf) |>.symm
  obtain rfl : fn = Tryz.f3 := (Option.some.inj (Tryz.func3.symm.trans hfn)).symm
  refine ⟨by kernel_rfl, fun j t ht => ?_⟩
  rw [Tryz.params3] at ht
  obtain rfl : t = 22 := by simpa using Array.mem_of_getElem? ht
  exact (show Tryz.prog.wantsStandIn 22 = false by kernel_rfl)
theorem card : Rows.MacroTableUptoCardSaid :=
  Claim7.holds_tied_plain_at .later [] _ _ _ _ said (fun _ h => by cases h) (by kernel_rfl) (fun _ h => by cases h) macroTableUpto_row_tie rfl ⟨rfl, rfl⟩ (by kernel_rfl) rfl plain (by kernel_rfl)
end Go.Proofs.YtcbfbefpbjmglaaGreatDoor.macroTable
namespace Go.Proofs.YtcbfbefpbjmglaaGreatDoor
theorem macroTableUpto_card : Rows.MacroTableUptoCardSaid := macroTable.card
end Go.Proofs.YtcbfbefpbjmglaaGreatDoor
