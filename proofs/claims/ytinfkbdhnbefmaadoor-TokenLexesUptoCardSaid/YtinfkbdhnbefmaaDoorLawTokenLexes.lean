/- The card of TokenLexes, where what it reads is of bulk at most 1048576: the tokens of lines, the error, and where; the table of signs is tied to the program's text. -/
import Derived.Test.YtinfkbdhnbefmaaDoorCards
import Derived.Test.YtinfkbdhnbefmaaDoorTie
import Derived.Test.YtinfkbdhnbefmaaDoorQL
import Derived.Test.YtinfkbdhnbefmaaDoorL
import Derived.WalkKit
import Derived.ProofKit
import Derived.OpenShut
import Derived.ShutString
import Derived.ChangeOld
import Derived.SizedLaws
import Derived.Deep.DeepHandedRow
import Derived.Deep.SlicePairs
import Derived.Lib.LaidTab
namespace Go.Proofs.YtinfkbdhnbefmaaDoor.tokenLexes
open Go.ChangeShapes Go.WideShapes Go.ChangeAt Go.RowKit Go.Proofs.YtinfkbdhnbefmaaDoorT Go.Proofs.LaidStrs
open Go.Proofs.YtinfkbdhnbefmaaDoorW.PrintWords
set_option linter.unusedVariables false
instance : Inhabited PB.S31 := ⟨PB.z31⟩
theorem own : ownKnob Tryd.prog.godebug = none := by kernel_rfl
theorem laidOut : laidOutB Tryd.prog = true := by kernel_rfl
theorem bulk_mem {H : Type} {d : DataW H} : ∀ {l : List (DataW H)}, d ∈ l → Rows.uptoBulk d ≤ Rows.uptoBulkAll l := by
  intro l
  induction l with
  | nil => intro h; cases h
  | cons x l ih =>
    intro h
    rw [Rows.uptoBulkAll]
    rcases List.mem_cons.1 h with rfl | h
    · omega
    · have := ih h; omega
theorem bulk_len {H : Type} : ∀ {l : List (DataW H)}, (∀ d ∈ l, 1 ≤ Rows.uptoBulk d) → l.length ≤ Rows.uptoBulkAll l := by
  intro l
  induction l with
  | nil => intro _; exact Nat.zero_le _
  | cons x l ih =>
    intro h
    rw [Rows.uptoBulkAll, List.length_cons]
    have := h x (by simp)
    have := ih (fun d hd => h d (by simp [hd]))
    omega
/-- What an argument of this type holds. -/
theorem opened {H : Type} {enc : TypeId × Value → H} {W : World} {a : Option Addr} {len cap : Nat} {x : DataW H × List MemPlace}
    (h : ∃ n, DataW.trod enc Tryd.prog W 0 (fun _ => true) true n 22 (Value.slice a len cap).cells.toList = some x) :
    ∃ l : List PB.S31, l.length = len ∧ len ≤ cap ∧ Kd.C PB.k31 W a len l ∧ (∀ y ∈ l, y.f1.size ≤ Rows.uptoBulk x.1) ∧ l.length ≤ Rows.uptoBulk x.1 := by
  obtain ⟨fuel, hf⟩ := h
  rcases Deep.open_slice_pairs Tryd.underlying22 Tryd.underlying31 (by kernel_rfl) rfl rfl (by kernel_rfl) (by kernel_rfl) hf with ⟨hcs, _⟩ | ⟨ad, l, c, m, n, V0, V1, D0, D1, P0, P1, hcs, _, hl, hm, hmm, hxe, hx⟩
  · simp [Value.cells] at hcs
    obtain ⟨rfl, rfl, rfl⟩ := hcs
    exact ⟨[], rfl, Nat.le_refl _, ⟨rfl, by omega, fun h => absurd h (by omega)⟩, (fun y hy => by cases hy), Nat.zero_le _⟩
  · simp [Value.cells] at hcs
    obtain ⟨rfl, rfl, rfl⟩ := hcs
    have hml : len ≤ m := by rw [hmm]; split <;> omega
    have hmax : cap ≤ 9223372036854775807 := hm
    have hbulk : Rows.uptoBulk x.1 = Rows.uptoBulkAll ((List.range len).map fun i => (.agg [D0 i, D1 i] : DataW H)) + Rows.uptoBulkAll ((List.range (m - len)).map fun j => (.agg [D0 (len + j), D1 (len + j)] : DataW H)) + 1 := by
      rw [hxe]; rfl
    have each : ∀ i, i < len → ∃ y : PB.S31, W.cell? (ad.add (i * 2)) = some (.int .i64 y.f0) ∧ W.cell? (ad.add (i * 2 + 1)) = some (.string y.f1) ∧ y.f1.size ≤ Rows.uptoBulk x.1 := fun i hi => by
      obtain ⟨h0, h1, g0, g1⟩ := hx i (by omega)
      obtain ⟨k, e0, _, _⟩ := DataW.trod_int Tryd.underlying3 g0
      obtain ⟨s, e1, e1', e2⟩ := DataW.trod_string Tryd.underlying9 g1
      have e0' : V0 i = .int .i64 k := by simpa using e0
      have e3 : V1 i = .string s := by simpa using e1
      have e4 : D1 i = .lit (.string s.data.toList) := by simpa using congrArg Prod.fst e1'
      rw [e0'] at h0
      rw [e3] at h1
      refine ⟨⟨k, s⟩, h0, h1, ?_⟩
      have hmem : (.agg [D0 i, D1 i] : DataW H) ∈ (List.range len).map fun i => (.agg [D0 i, D1 i] : DataW H) := List.mem_map.2 ⟨i, List.mem_range.2 hi, rfl⟩
      have hb := bulk_mem hmem
      have hb2 : Rows.uptoBulk (.agg [D0 i, D1 i] : DataW H) = Rows.uptoBulk (D0 i) + (Rows.uptoBulk (D1 i) + 0) + 1 := rfl
      have hb3 : Rows.uptoBulk (D1 i) = s.data.toList.length + 1 := by rw [e4]; rfl
      have hs := Lib.size_eq s
      show s.size ≤ _
      omega
    obtain ⟨f, hf'⟩ := Deep.choose_lt each
    refine ⟨(List.range len).map f, by simp, hl, ⟨by simp, by omega, fun hp => ⟨ad, rfl, fun j p hj => ?_⟩⟩, fun y hy => ?_, ?_⟩
    · have hj' : j < len := by
        have := (List.getElem?_eq_some_iff.1 hj).1
        simpa using this
      have hp' : f j = p := by simpa [hj'] using hj
      obtain ⟨g0, g1, _⟩ := hf' j hj'
      rw [hp'] at g0 g1
      refine ⟨[.int .i64 p.f0, .string p.f1], rfl, PB.k31_mk W p, fun i u hu => ?_⟩
      match i, hu with
      | 0, hu => simp at hu; subst hu; exact g0
      | 1, hu => simp at hu; subst hu; exact g1
    · obtain ⟨j, hj, rfl⟩ := List.mem_map.1 hy
      exact (hf' j (List.mem_range.1 hj)).2.2
    · have := bulk_len (H := H) (l := (List.range len).map fun i => (.agg [D0 i, D1 i] : DataW H)) (fun d hd => by
        obtain ⟨i, _, rfl⟩ := List.mem_map.1 hd
        show 1 ≤ _ + 1
        omega)
      rw [List.length_map, List.length_range] at this ⊢
      omega
theorem contract (H : Type) (enc : TypeId × Value → H) (W : World) (base : Nat) (args : Array Value) (ds gs : List (DataW H)) (before : List MemPlace)
    (hval : ∀ (j : Nat) t v, Tryd.f3.params[j]? = some t → args[j]? = some v → Value.okWide Tryd.prog W .any base t v)
    (hW : DataW.Whole enc Tryd.prog Tryd.f3.params.toList Rows.tokenLexesSpec.vars false W args.toList ds gs before)
    (hcond : Rows.uptoSmall H (ds ++ gs) = true)
    (hL : laidMetH Tryd.prog Rows.tokenAloneRow.laid W) (hSh : W.ShapedOpen Tryd.prog) :
    Calls Tryd.prog 3 args W fun e W' => ∃ v, e = .returned v ∧ Rows.tokenLexesSpec.post enc Tryd.prog Tryd.f3 false true false false W args v W' := by
  have hW' := hW
  obtain ⟨p, q, hA0, hV, rfl, hfz, hnd⟩ := hW
  have hA : DataW.TrodAll enc Tryd.prog W 0 (fun _ => true) true Tryd.f3.params.toList args.toList ds p := hA0
  rw [Tryd.params3] at hA hval
  obtain ⟨v0, vs0, d0, ds0, p0, q0, hargs, rfl, rfl, h0, r0⟩ := trodAll_cons hA
  obtain ⟨rfl, rfl, rfl⟩ := trodAll_nil r0
  obtain rfl : args = #[v0] := by cases args; simp_all
  obtain ⟨rfl, rfl⟩ := trodVars_none hV
  obtain ⟨a0, len0, cap0, rfl⟩ := okWide_slice Tryd.underlying22 (hval 0 22 v0 rfl rfl)
  have k0 := h0
  have lt0 : ∀ x ∈ p0, x.block < W.heap.size := by obtain ⟨m, hm⟩ := k0; exact DataW.trod_lt m _ _ _ hm
  obtain ⟨l0, hl0, hc0, hC0, hs0, hn0⟩ := opened h0
  subst hl0
  have hb : Rows.uptoBulk d0 + 0 ≤ 1048576 := of_decide_eq_true hcond
  clear hA0
  simp only [List.append_nil] at hW'
  refine (PureL.lexes a0 cap0 l0 W (table hL hSh) hC0 hc0 (by simp only at hn0; omega) (fun y hy => by have := hs0 y hy; simp only at this; omega)).mono fun e W' ⟨he, bel⟩ => ?_
  subst he
  exact ⟨_, rfl, _, _, _, [], _, [], hW', trodAll_mk1 (shut_bool Tryd.underlying4 _),
    (trodAll_cons_mk (Below.trod laidOut (by kernel_rfl) (of_decide_eq_true (by kernel_rfl)) k0 bel lt0) trodAll_mk0), by first | rfl | simp, bel.frame _, fun h => by cases h⟩
theorem laid_met (os : Os) : laidMet Tryd.prog Rows.tokenLexesUptoRow.laid ((laidWorld os).forCall (fun _ _ => 0) ⟨#[], #[.slice none 0 0], []⟩).memory :=
  laidMet_of_run' 8 (by kernel_rfl) (by kernel_rfl)
set_option maxRecDepth 100000 in
theorem lifted (os : Os) (started : os.Started) (H : Type) (enc : TypeId × Value → H) (F : Stop.Interp) :
    ReturnsInHanded {} Tryd.checked os 3 .any ((Rows.OpenSpec.upto Rows.tokenLexesSpec).preRow enc Tryd.prog Tryd.f3 Rows.tokenLexesUptoRow.domain false Rows.tokenLexesUptoRow.laid) (((Rows.OpenSpec.upto Rows.tokenLexesSpec).at F).post enc Tryd.prog Tryd.f3 false true false false) := by
  have hx : DataW.whole enc Tryd.prog ((laidWorld os).forCall (fun _ _ => 0) ⟨#[], #[.slice none 0 0], []⟩).memory Tryd.f3.params.toList Rows.tokenLexesSpec.vars false #[Value.slice none 0 0].toList 8 = some ([.nil], [], []) := by kernel_rfl
  refine returnsInHanded_of_row (C := Tryd.checked) (s := Rows.OpenSpec.upto Rows.tokenLexesSpec) own started (by kernel_rfl) Tryd.func3
    (witness_row_at (enc := enc) (C := Tryd.checked) false (laidWorld os) #[.slice none 0 0] rfl (by kernel_rfl) (by kernel_rfl) (by kernel_rfl)
      (OpenSpec.preRow_of_cond 8 hx (by kernel_rfl) (fun k hk => by cases hk; kernel_rfl) (by kernel_rfl) (laid_met os))) ?_
  intro W base args ds gs before hval hW _ hcond hsz hL hSh _
  exact contract H enc W base args ds gs before hval hW (hcond _ rfl) hL hSh
theorem said : Rows.TokenLexesUptoSaid :=
  OpenClaim.holds_of_cond 3 Tryd.f3 rfl rfl rfl rfl rfl rfl rfl ⟨rfl, rfl, rfl, rfl, rfl⟩ rfl rfl rfl rfl rfl (by kernel_rfl) Tryd.func3 (by kernel_rfl)
    (of_decide_eq_true (by kernel_rfl)) (by unfold Func.isWrapper; first | (rw [if_pos (by decide +kernel)]; kernel_rfl) | (rw [if_neg (by decide +kernel)]; exact ⟨rfl, rfl⟩))
    (fun os started H enc _ F => by rw [OpenClaim.pre_eq_preRow]; exact lifted os started H enc F)
theorem plain (f : FuncId) (fn : Func) (hf : Tryd.pinned.checked.prog.funcNamed "burin/burinlaw02.TokenLexes" = some f) (hfn : Tryd.pinned.checked.prog.funcs[f]? = some fn) :
    false = Tryd.pinned.checked.prog.looks [] ∧ ∀ (j : Nat) t, fn.params[j]? = some t → Tryd.pinned.checked.prog.wantsStandIn t = false := by
  obtain rfl : f = 3 := Option.some.inj ((show Tryd.prog.funcNamed "burin/burinlaw02.TokenLexes" = some 3 by kernel_rfl).symm.trans hf) |>.symm
  obtain rfl : fn = Tryd.f3 := (Option.some.inj (Tryd.func3.symm.trans hfn)).symm
  refine ⟨by kernel_rfl, fun j t ht => ?_⟩
  rw [Tryd.params3] at ht
  obtain rfl : t = 22 := by simpa using Array.mem_of_getElem? ht
  exact (show Tryd.prog.wantsStandIn 22 = false by kernel_rfl)
/-- The card. -/
theorem card : Rows.TokenLexesUptoCardSaid :=
  Claim7.holds_tied_plain_at .later [] _ _ _ _ said (fun _ h => by cases h) (by kernel_rfl) (fun _ h => by cases h) tokenLexesUpto_row_tie rfl ⟨rfl, rfl⟩ (by kernel_rfl) rfl plain (by kernel_rfl)
end Go.Proofs.YtinfkbdhnbefmaaDoor.tokenLexes
namespace Go.Proofs.YtinfkbdhnbefmaaDoor
/-- The card, under a short name, for the claim. -/
theorem tokenLexesUpto_card : Rows.TokenLexesUptoCardSaid := tokenLexes.card
end Go.Proofs.YtinfkbdhnbefmaaDoor
