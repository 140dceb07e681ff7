/- The row of TextBack: lines that are joined come back, whatever lines are handed in. -/
import Derived.Test.YtgipfcdmhdljgaaRows
import Derived.Test.YtgipfcdmhdljgaaPBx4
import Derived.Test.YtgipfcdmhdljgaaQB
import Derived.WalkKit
import Derived.ProofKit
import Derived.OpenShut
import Derived.ShutString
import Derived.ChangeOld
import Derived.Below
import Derived.SizedLaws
import Derived.Deep.SlicePairs
namespace Go.Proofs.Ytgipfcdmhdljgaa.textBack
open Go.ChangeShapes Go.WideShapes Go.ChangeAt Go.RowKit
open Go.Proofs.YtgipfcdmhdljgaaW.PrintWords
set_option linter.unusedVariables false
instance : Inhabited PB.S32 := ⟨PB.z32⟩
theorem own : ownKnob Try.prog.godebug = none := by kernel_rfl
theorem laidOut : laidOutB Try.prog = true := by kernel_rfl
/-- What an argument of this type holds. -/
theorem opened {H : Type} {enc : TypeId × Value → H} {W : World} {a : Option Addr} {len cap : Nat} {x : DataW H × List MemPlace}
    (h : ∃ n, DataW.trod enc Try.prog W 0 (fun _ => true) true n 23 (Value.slice a len cap).cells.toList = some x) :
    ∃ l : List PB.S32, l.length = len ∧ len ≤ cap ∧ len ≤ 9223372036854775807 ∧ Kd.C PB.k32 W a len l ∧ ∀ y ∈ l, y.f1.size ≤ 9223372036854775807 := by
  obtain ⟨fuel, hf⟩ := h
  rcases Deep.open_slice_pairs Try.underlying23 Try.underlying32 (by kernel_rfl) rfl rfl (by kernel_rfl) (by kernel_rfl) hf with ⟨hcs, _⟩ | ⟨ad, l, c, m, n, V0, V1, D0, D1, P0, P1, hcs, _, hl, hm, hmm, _, hx⟩
  · simp [Value.cells] at hcs
    obtain ⟨rfl, rfl, rfl⟩ := hcs
    exact ⟨[], rfl, Nat.le_refl _, by omega, ⟨rfl, by omega, fun h => absurd h (by omega)⟩, fun y hy => by cases hy⟩
  · simp [Value.cells] at hcs
    obtain ⟨rfl, rfl, rfl⟩ := hcs
    have hml : len ≤ m := by rw [hmm]; split <;> omega
    have hmax : cap ≤ 9223372036854775807 := hm
    have each : ∀ i, i < len → ∃ y : PB.S32, W.cell? (ad.add (i * 2)) = some (.int .i64 y.f0) ∧ W.cell? (ad.add (i * 2 + 1)) = some (.string y.f1) ∧ y.f1.size ≤ 9223372036854775807 := fun i hi => by
      obtain ⟨h0, h1, g0, g1⟩ := hx i (by omega)
      obtain ⟨k, e0, _, _⟩ := DataW.trod_int Try.underlying3 g0
      obtain ⟨s, e1, _, e2⟩ := DataW.trod_string Try.underlying9 g1
      have e0' : V0 i = .int .i64 k := by simpa using e0
      have e1' : V1 i = .string s := by simpa using e1
      rw [e0'] at h0
      rw [e1'] at h1
      exact ⟨⟨k, s⟩, h0, h1, e2⟩
    obtain ⟨f, hf'⟩ := Deep.choose_lt each
    refine ⟨(List.range len).map f, by simp, hl, by omega, ⟨by simp, by omega, fun hp => ⟨ad, rfl, fun j p hj => ?_⟩⟩, fun y hy => ?_⟩
    · have hj' : j < len := by
        have := (List.getElem?_eq_some_iff.1 hj).1
        simpa using this
      have hp' : f j = p := by simpa [hj'] using hj
      obtain ⟨g0, g1, _⟩ := hf' j hj'
      rw [hp'] at g0 g1
      refine ⟨[.int .i64 p.f0, .string p.f1], rfl, PB.k32_mk W p, fun i u hu => ?_⟩
      match i, hu with
      | 0, hu => simp at hu; subst hu; exact g0
      | 1, hu => simp at hu; subst hu; exact g1
    · obtain ⟨j, hj, rfl⟩ := List.mem_map.1 hy
      exact (hf' j (List.mem_range.1 hj)).2.2
set_option maxRecDepth 100000 in
theorem lifted (os : Os) (started : os.Started) (H : Type) (enc : TypeId × Value → H) :
    ReturnsInHanded {} Try.checked os 8 .any (Rows.textBackSpec.pre6 enc Try.prog Try.f8 Rows.textBackRow.domain false) (Rows.textBackSpec.post enc Try.prog Try.f8 false true false false) := by
  refine returnsInHanded_of_change_sized (C := Try.checked) own started (by kernel_rfl) Try.func8
    (ChangeSpec.witness6 (enc := enc) (C := Try.checked) false ⟨#[], #[.slice none 0 0], []⟩ 8 (by kernel_rfl) (by kernel_rfl) (by kernel_rfl) (by kernel_rfl)) ?_
  intro W base args ds gs before hval0 hW hcnd hsz0 _
  have hval : ∀ (j : Nat) t v, Try.f8.params[j]? = some t → args[j]? = some v → Value.okWide Try.prog W .any base t v := hval0
  have hW' := hW
  obtain ⟨p, q, hA0, hV, rfl, hfz, hnd⟩ := hW
  have hA : DataW.TrodAll enc Try.prog W 0 (fun _ => true) true Try.f8.params.toList args.toList ds p := hA0
  rw [Try.params8] at hA hval
  obtain ⟨v0, vs0, d0, ds0, p0, q0, hargs, rfl, rfl, h0, r0⟩ := trodAll_cons hA
  obtain ⟨rfl, rfl, rfl⟩ := trodAll_nil r0
  obtain rfl : args = #[v0] := by cases args; simp_all
  obtain ⟨rfl, rfl⟩ := trodVars_none hV
  obtain ⟨a0, len0, cap0, rfl⟩ := okWide_slice Try.underlying23 (hval 0 23 v0 rfl rfl)
  have k0 := h0
  have lt0 : ∀ x ∈ p0, x.block < W.heap.size := by obtain ⟨m, hm⟩ := k0; exact DataW.trod_lt m _ _ _ hm
  obtain ⟨l, hl, hlc, hlm, hC, hsz⟩ := opened h0
  subst hl
  obtain ⟨k, hk⟩ := PureB.TextBack l hlm hsz
  clear hA0 hval0 hsz0
  refine (PB.burinlaw01_TextBack.calls k a0 cap0 l true W hC hlc hk).mono fun e W' ⟨he, bel⟩ => ?_
  subst he
  exact ⟨_, rfl, _, _, _, [], _, [], hW', trodAll_mk1 (shut_bool Try.underlying4 _), (trodAll_cons_mk (Below.trod laidOut (by kernel_rfl) (of_decide_eq_true (by kernel_rfl)) k0 bel lt0) trodAll_mk0), rfl, bel.frame _, fun h => by cases h⟩
theorem over : Rows.textBackRow.holds Try.pinned (OpenSpec.ofChange Rows.textBackSpec) :=
  OpenClaim.holds_of_wide 8 Try.f8 rfl rfl rfl rfl rfl rfl rfl ⟨rfl, rfl, rfl, rfl, rfl⟩ rfl rfl rfl rfl rfl (by kernel_rfl) Try.func8 (by kernel_rfl)
    (of_decide_eq_true (by kernel_rfl)) (by unfold Func.isWrapper; first | (rw [if_pos (by decide +kernel)]; kernel_rfl) | (rw [if_neg (by decide +kernel)]; exact ⟨rfl, rfl⟩))
    (fun os started H enc _ => lifted os started H enc)
theorem proved : Rows.TextBackSaid := over
end Go.Proofs.Ytgipfcdmhdljgaa.textBack
namespace Go.Proofs.Ytgipfcdmhdljgaa
/-- The row, under a short name, for the claim. -/
theorem textBack_holds : Rows.TextBackSaid := textBack.proved
end Go.Proofs.Ytgipfcdmhdljgaa
