/- token.Spell's contract, by its plain law. -/
import Derived.Test.YtinfkbdhnbefmaaDoorPBx0
import Derived.Test.YtinfkbdhnbefmaaDoorS3
namespace Go.Proofs.YtinfkbdhnbefmaaDoor.PB
open Go.RowKit Go.Proofs.YtinfkbdhnbefmaaDoorW.PrintWords Go.Proofs.YtinfkbdhnbefmaaDoorW.PrintLast Go.Proofs.YtinfkbdhnbefmaaDoorW.PrintMore
set_option linter.unusedVariables false
set_option linter.unusedSimpArgs false
def fitsT (l : List S34) : Bool := l.all (fun x => decide (x.f1.size ≤ 1048576)) && decide (l.length ≤ 60000000)
theorem toks_of {w : World} {A : Option Addr} {l0 : List S34} {c0 : Nat} (hr0 : Kd.C k34 w A l0.length l0) (hb : ∀ ad, A = some ad → 0 < l0.length → ad.block < w.heap.size) : Sp.Toks w.heap.size w (.slice A l0.length c0) l0 := by
  by_cases h0 : l0.length = 0
  · left
    refine ⟨A, c0, by rw [h0], List.eq_nil_of_length_eq_zero h0⟩
  · obtain ⟨ad, e, _⟩ := at_T34 hr0 0 (by omega) (by omega)
    subst e
    refine .inr ⟨ad, c0, rfl, hb ad rfl (by omega), fun j hj => ?_⟩
    obtain ⟨ad', e', h0, h1, h2, h3, h4, h5⟩ := at_T34 hr0 (j : Int) (by omega) (by omega)
    cases e'
    exact ⟨h0, h1, h2, h3, h4, h5⟩
def token_Spell.f (l0 : List S34) : Option ByteArray := if fitsT l0 = true then some ⟨(Sp.spellN (Sp.itemsOf l0)).toArray⟩ else none
theorem token_Spell.calls (A0 : Option Addr) (c0 : Nat) (l0 : List S34) (r : ByteArray) (w : World) (hr0 : Kd.C k34 w A0 l0.length l0) (hc0 : l0.length ≤ c0) (h : token_Spell.f l0 = some r) :
    Calls Tryd.prog 18 #[.slice A0 l0.length c0] w fun e w' => e = .returned (.string r) ∧ Below w.heap.size w w' := by
  unfold token_Spell.f at h
  by_cases hs : fitsT l0 = true
  · rw [if_pos hs] at h
    obtain rfl := Option.some.inj h
    unfold fitsT at hs
    rw [Bool.and_eq_true, List.all_eq_true, decide_eq_true_eq] at hs
    refine Sp.spell_calls 1048576 A0 c0 l0 w (by omega) (fun x hx => by have := hs.1 x hx; rw [decide_eq_true_eq] at this; exact this) (by omega) (toks_of hr0 fun ad e hl => ?_)
    obtain ⟨ad', e', h0, _⟩ := at_T34 hr0 0 (by omega) (by omega)
    have := World.block_lt_of_cell? w _ h0
    rw [Sp.add_block] at this
    rw [e] at e'
    cases e'
    exact this
  · rw [if_neg hs] at h; cases h
end Go.Proofs.YtinfkbdhnbefmaaDoor.PB
