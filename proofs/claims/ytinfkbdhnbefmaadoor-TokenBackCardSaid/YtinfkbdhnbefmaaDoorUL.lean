/- text.Lines' contract, by its plain law. -/
import Derived.Test.YtinfkbdhnbefmaaDoorPBx0
import Derived.Test.YtinfkbdhnbefmaaDoorU
namespace Go.Proofs.YtinfkbdhnbefmaaDoor.PB
open Go.RowKit Go.Proofs.YtinfkbdhnbefmaaDoorW.PrintWords Go.Proofs.YtinfkbdhnbefmaaDoorW.PrintLast Go.Proofs.YtinfkbdhnbefmaaDoorW.PrintMore
set_option linter.unusedVariables false
set_option linter.unusedSimpArgs false
open Go.Proofs.YtinfkbdhnbefmaaDoorU in
def toS (x : Nat × List UInt8) : S31 := ⟨(x.1 : Int), bstr x.2⟩
open Go.Proofs.YtinfkbdhnbefmaaDoorU in
theorem reps_cells (w : World) (base : Nat) (ok : Nat → Prop) (l : List (Nat × List UInt8)) : Reps (k31.M w base ok) k31.sz (l.map toS) (cellsOf l) := by
  refine ⟨by rw [cellsOf_len, List.length_map]; rfl, fun j p hj => ?_⟩
  show k31.M w base ok p (((cellsOf l).drop (j * 2)).take 2)
  induction l generalizing j with
  | nil => simp at hj
  | cons x l ih =>
    cases j with
    | zero =>
      simp only [List.map_cons, List.getElem?_cons_zero, Option.some.injEq] at hj
      subst hj
      exact k31_mkM w base ok (toS x)
    | succ j =>
      rw [List.map_cons, List.getElem?_cons_succ] at hj
      have := ih j hj
      rw [show cellsOf (x :: l) = lineCells x ++ cellsOf l from rfl, show (j + 1) * 2 = (lineCells x).length + j * 2 by show _ = 2 + j * 2; omega, List.drop_append, List.drop_eq_nil_of_le (by omega), List.nil_append, Nat.add_sub_cancel_left]
      exact this
open Go.Proofs.YtinfkbdhnbefmaaDoorU in
theorem R_of_cells {w : World} {base : Nat} {v : Value} {l : List (Nat × List UInt8)} (h : w.ownsRow base 31 2 v l.length (cellsOf l)) : Kd.R k31 31 w base (fun _ => True) v (l.map toS) :=
  ⟨fun _ _ => trivial, cellsOf l, by rw [List.length_map]; exact h, reps_cells _ _ _ _⟩
open Go.Proofs.YtinfkbdhnbefmaaDoorU in
def text_Lines.f (a0 : ByteArray) : Option (List S31 × Int) := if 65536 < (a0.size : Int) then some ([], 10) else some ((lineFold (numbered 1 (phys a0.data.toList))).1.map toS, 0)
open Go.Proofs.YtinfkbdhnbefmaaDoorU in
theorem text_Lines.calls (a0 : ByteArray) (r1 : List (S31)) (r2 : Int) (w : World) (h : text_Lines.f a0 = some (r1, r2)) :
    Calls Tryd.prog 20 #[.string a0] w fun e w' => ∃ v0_ : Value, e = .returned (.tuple #[v0_, .int .i64 r2]) ∧ Kd.R k31 31 w' w.heap.size (fun _ => True) v0_ r1 ∧ Below w.heap.size w w' := by
  unfold text_Lines.f at h
  by_cases hs : 65536 < (a0.size : Int)
  · rw [if_pos hs] at h
    simp only [Option.some.injEq, Prod.mk.injEq] at h
    obtain ⟨rfl, rfl⟩ := h
    refine (text_Lines_long a0 w hs).mono ?_
    rintro e w' ⟨rfl, rfl⟩
    exact ⟨_, rfl, R_of_cells (l := []) (World.ownsRow_nil _ _ _ _), Below.refl _ _⟩
  · rw [if_neg hs] at h
    simp only [Option.some.injEq, Prod.mk.injEq] at h
    obtain ⟨rfl, rfl⟩ := h
    refine (text_Lines_calls a0 w hs).mono ?_
    rintro e w' ⟨v, rfl, hr, hb⟩
    exact ⟨v, rfl, R_of_cells hr, hb⟩
end Go.Proofs.YtinfkbdhnbefmaaDoor.PB
