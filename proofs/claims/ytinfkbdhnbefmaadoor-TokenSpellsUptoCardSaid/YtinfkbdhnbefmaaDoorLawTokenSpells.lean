/- The card of TokenSpells, where what it reads is of bulk at most 1048576: the tokens of lines, the error, and where; the table of signs is tied to the program's text. -/
import Derived.Test.YtinfkbdhnbefmaaDoorCards
import Derived.Test.YtinfkbdhnbefmaaDoorTie
import Derived.Test.YtinfkbdhnbefmaaDoorSP
import Derived.Test.YtinfkbdhnbefmaaDoorL
import Derived.WalkKit
import Derived.ProofKit
import Derived.OpenShut
import Derived.ShutString
import Derived.ChangeOld
import Derived.SizedLaws
import Derived.Deep.DeepHandedRow
import Derived.Deep.SlicePairs
import Derived.Lib.LaidTab
namespace Go.Proofs.YtinfkbdhnbefmaaDoor.tokenSpells
open Go.ChangeShapes Go.WideShapes Go.ChangeAt Go.RowKit Go.Proofs.YtinfkbdhnbefmaaDoorT Go.Proofs.LaidStrs
open Go.Proofs.YtinfkbdhnbefmaaDoorW.PrintWords
set_option linter.unusedVariables false
instance : Inhabited PB.S34 := ⟨PB.z34⟩
theorem own : ownKnob Tryd.prog.godebug = none := by kernel_rfl
theorem laidOut : laidOutB Tryd.prog = true := by kernel_rfl
theorem bulk_mem {H : Type} {d : DataW H} : ∀ {l : List (DataW H)}, d ∈ l → Rows.uptoBulk d ≤ Rows.uptoBulkAll l := by
  intro l
  induction l with
  | nil => intro h; cases h
  | cons x l ih =>
    intro h
    rw [Rows.uptoBulkAll]
    rcases List.mem_cons.1 h with rfl | h
    · omega
    · have := ih h; omega
theorem bulk_len {H : Type} : ∀ {l : List (DataW H)}, (∀ d ∈ l, 1 ≤ Rows.uptoBulk d) → l.length ≤ Rows.uptoBulkAll l := by
  intro l
  induction l with
  | nil => intro _; exact Nat.zero_le _
  | cons x l ih =>
    intro h
    rw [Rows.uptoBulkAll, List.length_cons]
    have := h x (by simp)
    have := ih (fun d hd => h d (by simp [hd]))
    omega
set_option maxRecDepth 100000 in
/-- What an argument of this type holds. -/
theorem opened {H : Type} {enc : TypeId × Value → H} {W : World} {a : Option Addr} {len cap : Nat} {x : DataW H × List MemPlace}
    (h : ∃ n, DataW.trod enc Tryd.prog W 0 (fun _ => true) true n 25 (Value.slice a len cap).cells.toList = some x) :
    ∃ l : List PB.S34, l.length = len ∧ len ≤ cap ∧ Kd.C PB.k34 W a len l ∧ (∀ y ∈ l, y.f1.size ≤ Rows.uptoBulk x.1) := by
  obtain ⟨fuel, hf⟩ := h
  have ce : Tryd.prog.cellsOf 34 = 6 := by kernel_rfl
  have c3 : Tryd.prog.cellsOf 3 = 1 := by kernel_rfl
  have c9 : Tryd.prog.cellsOf 9 = 1 := by kernel_rfl
  have c4 : Tryd.prog.cellsOf 4 = 1 := by kernel_rfl
  rcases Deep.open_slice Tryd.underlying25 hf with ⟨hcs, _⟩ | ⟨ad, l, c, m, n, D, Pl, hcs, _, hl, hm, hmm, hxe, hx⟩
  · simp [Value.cells] at hcs
    obtain ⟨rfl, rfl, rfl⟩ := hcs
    exact ⟨[], rfl, Nat.le_refl _, ⟨rfl, by omega, fun h => absurd h (by omega)⟩, (fun y hy => by cases hy)⟩
  · simp [Value.cells] at hcs
    obtain ⟨rfl, rfl, rfl⟩ := hcs
    have hml : len ≤ m := by rw [hmm]; split <;> omega
    have hmax : cap ≤ 9223372036854775807 := hm
    have hbulk : Rows.uptoBulk x.1 = Rows.uptoBulkAll ((List.range len).map D) + Rows.uptoBulkAll ((List.range (m - len)).map fun j => D (len + j)) + 1 := by
      rw [hxe]; rfl
    have each : ∀ i, i < len → ∃ y : PB.S34, (∀ j u, ([.int .i64 y.f0, .string y.f1, .string y.f2, .int .i64 y.f3, .bool y.f4, .bool y.f5] : List Value)[j]? = some u → W.cell? (ad.add (i * 6 + j)) = some u) ∧ y.f1.size ≤ Rows.uptoBulk x.1 := fun i hi => by
      obtain ⟨cs', h1, h2⟩ := hx i (by omega)
      rw [ce] at h1
      obtain ⟨_, hlen, hcell⟩ := World.cells?_some h1
      obtain ⟨xs, k, hk, hxy, _, hxl, hff⟩ := DataW.trod_struct Tryd.underlying34 h2
      have hxl : xs.length = 6 := hxl
      match xs, hxl, cs', hlen with
      | [y0, y1, y2, y3, y4, y5], _, [v0, v1, v2, v3, v4, v5], _ =>
        have g0 := hff 0 _ rfl
        have g1 := hff 1 _ rfl
        have g2 := hff 2 _ rfl
        have g3 := hff 3 _ rfl
        have g4 := hff 4 _ rfl
        have g5 := hff 5 _ rfl
        simp [c3, c9, c4] at g0 g1 g2 g3 g4 g5
        obtain ⟨n0, e0, _, _⟩ := DataW.trod_int Tryd.underlying3 g0
        obtain ⟨s1, e1, e1', _⟩ := DataW.trod_string Tryd.underlying9 g1
        obtain ⟨s2, e2, _, _⟩ := DataW.trod_string Tryd.underlying9 g2
        obtain ⟨n3, e3, _, _⟩ := DataW.trod_int Tryd.underlying3 g3
        obtain ⟨b4, e4, _⟩ := DataW.trod_bool Tryd.underlying4 g4
        obtain ⟨b5, e5, _⟩ := DataW.trod_bool Tryd.underlying4 g5
        have e0 : v0 = .int .i64 n0 := by simpa using e0
        have e1 : v1 = .string s1 := by simpa using e1
        have e2 : v2 = .string s2 := by simpa using e2
        have e3 : v3 = .int .i64 n3 := by simpa using e3
        have e4 : v4 = .bool b4 := by simpa using e4
        have e5 : v5 = .bool b5 := by simpa using e5
        subst e0 e1 e2 e3 e4 e5
        refine ⟨⟨n0, s1, s2, n3, b4, b5⟩, fun j u hu => ?_, ?_⟩
        · have hj : j < 6 := by have := (List.getElem?_eq_some_iff.1 hu).1; simpa using this
          have ec := hcell j hj
          rw [Deep.add_add] at ec
          rw [ec]
          exact hu
        · have hD : D i = .agg [y0.1, y1.1, y2.1, y3.1, y4.1, y5.1] := by simpa using congrArg Prod.fst hxy
          have hmem : D i ∈ (List.range len).map D := List.mem_map.2 ⟨i, List.mem_range.2 hi, rfl⟩
          have hb := bulk_mem hmem
          have hb2 : Rows.uptoBulk (D i) = Rows.uptoBulk y0.1 + (Rows.uptoBulk y1.1 + (Rows.uptoBulk y2.1 + (Rows.uptoBulk y3.1 + (Rows.uptoBulk y4.1 + (Rows.uptoBulk y5.1 + 0))))) + 1 := by rw [hD]; rfl
          have hb3 : Rows.uptoBulk y1.1 = s1.data.toList.length + 1 := by rw [e1']; rfl
          have hs := Lib.size_eq s1
          show s1.size ≤ _
          omega
    obtain ⟨f, hf'⟩ := Deep.choose_lt each
    refine ⟨(List.range len).map f, by simp, hl, ⟨by simp, by omega, fun hp => ⟨ad, rfl, fun j p hj => ?_⟩⟩, fun y hy => ?_⟩
    · have hj' : j < len := by
        have := (List.getElem?_eq_some_iff.1 hj).1
        simpa using this
      have hp' : f j = p := by simpa [hj'] using hj
      obtain ⟨g0, _⟩ := hf' j hj'
      rw [hp'] at g0
      exact ⟨[.int .i64 p.f0, .string p.f1, .string p.f2, .int .i64 p.f3, .bool p.f4, .bool p.f5], rfl, PB.k34_mk W p, fun i u hu => g0 i u hu⟩
    · obtain ⟨j, hj, rfl⟩ := List.mem_map.1 hy
      exact (hf' j (List.mem_range.1 hj)).2
theorem contract (H : Type) (enc : TypeId × Value → H) (W : World) (base : Nat) (args : Array Value) (ds gs : List (DataW H)) (before : List MemPlace)
    (hval : ∀ (j : Nat) t v, Tryd.f7.params[j]? = some t → args[j]? = some v → Value.okWide Tryd.prog W .any base t v)
    (hW : DataW.Whole enc Tryd.prog Tryd.f7.params.toList Rows.tokenSpellsSpec.vars false W args.toList ds gs before)
    (hcond : Rows.uptoSmall H (ds ++ gs) = true)
    (hL : laidMetH Tryd.prog Rows.tokenAloneRow.laid W) (hSh : W.ShapedOpen Tryd.prog) :
    Calls Tryd.prog 7 args W fun e W' => ∃ v, e = .returned v ∧ Rows.tokenSpellsSpec.post enc Tryd.prog Tryd.f7 false true false false W args v W' := by
  have hW' := hW
  obtain ⟨p, q, hA0, hV, rfl, hfz, hnd⟩ := hW
  have hA : DataW.TrodAll enc Tryd.prog W 0 (fun _ => true) true Tryd.f7.params.toList args.toList ds p := hA0
  rw [Tryd.params7] at hA hval
  obtain ⟨v0, vs0, d0, ds0, p0, q0, hargs, rfl, rfl, h0, r0⟩ := trodAll_cons hA
  obtain ⟨rfl, rfl, rfl⟩ := trodAll_nil r0
  obtain rfl : args = #[v0] := by cases args; simp_all
  obtain ⟨rfl, rfl⟩ := trodVars_none hV
  obtain ⟨a0, len0, cap0, rfl⟩ := okWide_slice Tryd.underlying25 (hval 0 25 v0 rfl rfl)
  have k0 := h0
  have lt0 : ∀ x ∈ p0, x.block < W.heap.size := by obtain ⟨m, hm⟩ := k0; exact DataW.trod_lt m _ _ _ hm
  obtain ⟨l0, hl0, hc0, hC0, hs0⟩ := opened h0
  subst hl0
  have hb : Rows.uptoBulk d0 + 0 ≤ 1048576 := of_decide_eq_true hcond
  clear hA0
  simp only [List.append_nil] at hW'
  refine (PB.spells a0 cap0 l0 W hC0 hc0 (table hL hSh) (fun y hy => by have := hs0 y hy; simp only at this; omega)).mono fun e W' ⟨he, bel⟩ => ?_
  subst he
  exact ⟨_, rfl, _, _, _, [], _, [], hW', trodAll_mk1 (shut_bool Tryd.underlying4 _),
    (trodAll_cons_mk (Below.trod laidOut (by kernel_rfl) (of_decide_eq_true (by kernel_rfl)) k0 bel lt0) trodAll_mk0), by first | rfl | simp, bel.frame _, fun h => by cases h⟩
theorem laid_met (os : Os) : laidMet Tryd.prog Rows.tokenSpellsUptoRow.laid ((laidWorld os).forCall (fun _ _ => 0) ⟨#[], #[.slice none 0 0], []⟩).memory :=
  laidMet_of_run' 8 (by kernel_rfl) (by kernel_rfl)
set_option maxRecDepth 100000 in
theorem lifted (os : Os) (started : os.Started) (H : Type) (enc : TypeId × Value → H) (F : Stop.Interp) :
    ReturnsInHanded {} Tryd.checked os 7 .any ((Rows.OpenSpec.upto Rows.tokenSpellsSpec).preRow enc Tryd.prog Tryd.f7 Rows.tokenSpellsUptoRow.domain false Rows.tokenSpellsUptoRow.laid) (((Rows.OpenSpec.upto Rows.tokenSpellsSpec).at F).post enc Tryd.prog Tryd.f7 false true false false) := by
  have hx : DataW.whole enc Tryd.prog ((laidWorld os).forCall (fun _ _ => 0) ⟨#[], #[.slice none 0 0], []⟩).memory Tryd.f7.params.toList Rows.tokenSpellsSpec.vars false #[Value.slice none 0 0].toList 8 = some ([.nil], [], []) := by kernel_rfl
  refine returnsInHanded_of_row (C := Tryd.checked) (s := Rows.OpenSpec.upto Rows.tokenSpellsSpec) own started (by kernel_rfl) Tryd.func7
    (witness_row_at (enc := enc) (C := Tryd.checked) false (laidWorld os) #[.slice none 0 0] rfl (by kernel_rfl) (by kernel_rfl) (by kernel_rfl)
      (OpenSpec.preRow_of_cond 8 hx (by kernel_rfl) (fun k hk => by cases hk; kernel_rfl) (by kernel_rfl) (laid_met os))) ?_
  intro W base args ds gs before hval hW _ hcond hsz hL hSh _
  exact contract H enc W base args ds gs before hval hW (hcond _ rfl) hL hSh
theorem said : Rows.TokenSpellsUptoSaid :=
  OpenClaim.holds_of_cond 7 Tryd.f7 rfl rfl rfl rfl rfl rfl rfl ⟨rfl, rfl, rfl, rfl, rfl⟩ rfl rfl rfl rfl rfl (by kernel_rfl) Tryd.func7 (by kernel_rfl)
    (of_decide_eq_true (by kernel_rfl)) (by unfold Func.isWrapper; first | (rw [if_pos (by decide +kernel)]; kernel_rfl) | (rw [if_neg (by decide +kernel)]; exact ⟨rfl, rfl⟩))
    (fun os started H enc _ F => by rw [OpenClaim.pre_eq_preRow]; exact lifted os started H enc F)
theorem plain (f : FuncId) (fn : Func) (hf : Tryd.pinned.checked.prog.funcNamed "burin/burinlaw02.TokenSpells" = some f) (hfn : Tryd.pinned.checked.prog.funcs[f]? = some fn) :
    false = Tryd.pinned.checked.prog.looks [] ∧ ∀ (j : Nat) t, fn.params[j]? = some t → Tryd.pinned.checked.prog.wantsStandIn t = false := by
  obtain rfl : f = 7 := Option.some.inj ((show Tryd.prog.funcNamed "burin/burinlaw02.TokenSpells" = some 7 by kernel_rfl).symm.trans hf) |>.symm
  obtain rfl : fn = Tryd.f7 := (Option.some.inj (Tryd.func7.symm.trans hfn)).symm
  refine ⟨by kernel_rfl, fun j t ht => ?_⟩
  rw [Tryd.params7] at ht
  obtain rfl : t = 25 := by simpa using Array.mem_of_getElem? ht
  exact (show Tryd.prog.wantsStandIn 25 = false by kernel_rfl)
/-- The card. -/
theorem card : Rows.TokenSpellsUptoCardSaid :=
  Claim7.holds_tied_plain_at .later [] _ _ _ _ said (fun _ h => by cases h) (by kernel_rfl) (fun _ h => by cases h) tokenSpellsUpto_row_tie rfl ⟨rfl, rfl⟩ (by kernel_rfl) rfl plain (by kernel_rfl)
end Go.Proofs.YtinfkbdhnbefmaaDoor.tokenSpells
namespace Go.Proofs.YtinfkbdhnbefmaaDoor
/-- The card, under a short name, for the claim. -/
theorem tokenSpellsUpto_card : Rows.TokenSpellsUptoCardSaid := tokenSpells.card
end Go.Proofs.YtinfkbdhnbefmaaDoor
