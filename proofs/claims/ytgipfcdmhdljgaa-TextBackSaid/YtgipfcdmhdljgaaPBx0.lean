-- Printed by a program of this repo's wip/tools (a variant of the kit's print): Lean checks it.
import Derived.Test.YtgipfcdmhdljgaaProg
import Derived.Below
import Derived.Deep.Draws
import Derived.Deep.AppendLies
import Derived.Maps.AppendAt
import Derived.OwnWalk
import Derived.Laws.BytesArg
import Derived.Laws.MakeOwn
import Derived.Laws.OwnMore
import Derived.Deep.OwnRows
import Derived.Tactics
import Derived.Lib.ConvBytes
import Derived.Laws.Slices
import Derived.WalkKit
import Derived.KernelRfl
import Derived.RowKit3
import Derived.Deep.LoopGhost
import Derived.Deep.QuietTactic
import Derived.BigQuiet
import Derived.WideLaws
import Derived.Deep.DeepCutAuto
import Derived.Deep.CutBlock
import Derived.Deep.RegionHeld3
import Derived.Laws.Rows
import Derived.Lib.AppendStr
import Derived.ArgAppend
import Derived.Laws.IdiomCopy
import Derived.OrdersHeld
import Derived.Laws.BitsLemmas
import Derived.RowKit
import Derived.Test.YtgipfcdmhdljgaaH
import Derived.Test.YtgipfcdmhdljgaaJ
import Derived.Test.YtgipfcdmhdljgaaVB
namespace Go.Proofs.Ytgipfcdmhdljgaa.PB
open Go.RowKit Go.Proofs.YtgipfcdmhdljgaaW.PrintWords Go.Proofs.YtgipfcdmhdljgaaW.PrintLast Go.Proofs.YtgipfcdmhdljgaaW.PrintMore
attribute [local go_sem] max2_int min2_int max_two min_two max_three min_three max_four min_four   -- for this text's walks alone
set_option linter.unusedVariables false
set_option linter.unusedSimpArgs false



def errW : Option Int → Value
  | none => .nilIface
  | some c => .iface 0 (.int .i64 c)
theorem errW_none : errW none = .nilIface := rfl
theorem errW_some (c : Int) : errW (some c) = .iface 0 (.int .i64 c) := rfl

theorem info32 : (Try.prog.info? 32).map (fun i => (i.zero, i.size, i.bytes)) = some (some (.agg #[(.int .i64 0), (.string ⟨#[]⟩)]), 2, 24) := by kernel_rfl
-- the values' own types
/-! #### struct type 32 -/
structure S32 where
  f0 : Int
  f1 : ByteArray
def z32 : S32 := ⟨(0 : Int), (⟨#[]⟩ : ByteArray)⟩
def k32 : Kd S32 := Kd.iso (Kd.pair (Kd.int .i64) Kd.string) (fun x : S32 => (x.f0, x.f1))
theorem k32_open {w : World} {x : S32} {cs : List Value} (h : k32.K w x cs) : cs = [.int .i64 x.f0, .string x.f1] := by
  obtain ⟨_, _, rfl, rfl, rfl⟩ := h
  exact rfl
theorem k32_openM {w : World} {base : Nat} {ok : Nat → Prop} {x : S32} {cs : List Value} (h : k32.M w base ok x cs) : cs = [.int .i64 x.f0, .string x.f1] := by
  obtain ⟨_, _, rfl, rfl, rfl⟩ := h
  exact rfl
theorem k32_mk (w : World) (x : S32)  : k32.K w x [.int .i64 x.f0, .string x.f1] := ⟨[.int .i64 x.f0], [.string x.f1], rfl, rfl, rfl⟩
theorem k32_mkM (w : World) (base : Nat) (ok : Nat → Prop) (x : S32)  : k32.M w base ok x [.int .i64 x.f0, .string x.f1] := ⟨[.int .i64 x.f0], [.string x.f1], rfl, rfl, rfl⟩
def rd_T32 (xs : List S32) (i : Int) : S32 := xs.getD i.toNat z32
theorem at_T32 {w : World} {A : Option Addr} {n : Nat} {xs : List S32} (h : Kd.C k32 w A n xs) (i : Int) (h0 : 0 ≤ i) (h1 : i < n) : ∃ ad , A = some ad ∧ w.cell? (ad.add (i.toNat * 2)) = some (.int .i64 (rd_T32 xs i).f0) ∧ w.cell? ⟨(ad.add (i.toNat * 2)).block, (ad.add (i.toNat * 2)).off + 1, none⟩ = some (.string (rd_T32 xs i).f1) := by
  obtain ⟨ad, c, e, _, hK, hc0⟩ := Kd.C_get h z32 i h0 h1
  have hc : ∀ j u, c[j]? = some u → w.cell? (ad.add (i.toNat * 2 + j)) = some u := hc0
  obtain rfl := k32_open hK
  exact ⟨ad, e, hc 0 _ rfl, by rw [← add_field _ _ 1 (by omega)]; exact hc 1 _ rfl⟩

def rd_L3 (xs : List (List S32)) (i : Int) : (List S32) := xs.getD i.toNat ([] : List S32)
theorem at_L3 {w : World} {A : Option Addr} {n : Nat} {xs : List (List S32)} (h : Kd.C (Kd.slice 32 k32) w A n xs) (i : Int) (h0 : 0 ≤ i) (h1 : i < n) : ∃ ad A0 c0, A = some ad ∧ w.cell? (ad.add i.toNat) = some (.slice A0 (rd_L3 xs i).length c0) ∧ (rd_L3 xs i).length ≤ c0 ∧ k32.C w A0 (rd_L3 xs i).length (rd_L3 xs i) := by
  obtain ⟨ad, c, e, _, hK, hc0⟩ := Kd.C_get h ([] : List S32) i h0 h1
  have hc : ∀ j u, c[j]? = some u → w.cell? (ad.add (i.toNat * 1 + j)) = some u := hc0
  obtain ⟨A0, c0, rfl, l0, g0⟩ := hK
  exact ⟨ad, A0, c0, e, by have hq := hc 0 _ rfl; rwa [Nat.mul_one, Nat.add_zero] at hq, l0, g0⟩

/-! #### Contracts by hand -/
open Go.Proofs.YtgipfcdmhdljgaaT in
def toS (x : Nat × List UInt8) : S32 := ⟨(x.1 : Int), bstr x.2⟩
open Go.Proofs.YtgipfcdmhdljgaaT in
theorem reps_cells (w : World) (base : Nat) (ok : Nat → Prop) (l : List (Nat × List UInt8)) : Reps (k32.M w base ok) k32.sz (l.map toS) (cellsOf l) := by
  refine ⟨by rw [cellsOf_len, List.length_map]; rfl, fun j p hj => ?_⟩
  show k32.M w base ok p (((cellsOf l).drop (j * 2)).take 2)
  induction l generalizing j with
  | nil => simp at hj
  | cons x l ih =>
    cases j with
    | zero =>
      simp only [List.map_cons, List.getElem?_cons_zero, Option.some.injEq] at hj
      subst hj
      exact k32_mkM w base ok (toS x)
    | succ j =>
      rw [List.map_cons, List.getElem?_cons_succ] at hj
      have := ih j hj
      rw [show cellsOf (x :: l) = lineCells x ++ cellsOf l from rfl, show (j + 1) * 2 = (lineCells x).length + j * 2 by show _ = 2 + j * 2; omega, List.drop_append, List.drop_eq_nil_of_le (by omega), List.nil_append, Nat.add_sub_cancel_left]
      exact this
open Go.Proofs.YtgipfcdmhdljgaaT in
theorem R_of_cells {w : World} {base : Nat} {v : Value} {l : List (Nat × List UInt8)} (h : w.ownsRow base 32 2 v l.length (cellsOf l)) : Kd.R k32 32 w base (fun _ => True) v (l.map toS) :=
  ⟨fun _ _ => trivial, cellsOf l, by rw [List.length_map]; exact h, reps_cells _ _ _ _⟩
open Go.Proofs.YtgipfcdmhdljgaaT in
def text_Lines.f (a0 : ByteArray) : Option (List S32 × Int) := if 65536 < (a0.size : Int) then some ([], 10) else some ((lineFold (numbered 1 (phys a0.data.toList))).1.map toS, 0)
open Go.Proofs.YtgipfcdmhdljgaaT in
theorem text_Lines.calls (a0 : ByteArray) (r1 : List (S32)) (r2 : Int) (w : World) (h : text_Lines.f a0 = some (r1, r2)) :
    Calls Try.prog 10 #[.string a0] w fun e w' => ∃ v0_ : Value, e = .returned (.tuple #[v0_, .int .i64 r2]) ∧ Kd.R k32 32 w' w.heap.size (fun _ => True) v0_ r1 ∧ Below w.heap.size w w' := by
  unfold text_Lines.f at h
  by_cases hs : 65536 < (a0.size : Int)
  · rw [if_pos hs] at h
    simp only [Option.some.injEq, Prod.mk.injEq] at h
    obtain ⟨rfl, rfl⟩ := h
    refine (text_Lines_long a0 w hs).mono ?_
    rintro e w' ⟨rfl, rfl⟩
    exact ⟨_, rfl, Kd.R_nil _ _ _ _ _, Below.refl _ _⟩
  · rw [if_neg hs] at h
    simp only [Option.some.injEq, Prod.mk.injEq] at h
    obtain ⟨rfl, rfl⟩ := h
    refine (text_Lines_calls a0 w hs).mono ?_
    rintro e w' ⟨v, rfl, hr, hb⟩
    exact ⟨v, rfl, R_of_cells hr, hb⟩
open Go.Proofs.YtgipfcdmhdljgaaT in
def text_Physical.f (a0 : ByteArray) : Option Int := if a0.size < 4294967281 then some ((phys a0.data.toList).length : Int) else none
open Go.Proofs.YtgipfcdmhdljgaaT in
theorem text_Physical.calls (a0 : ByteArray) (r : Int) (w : World) (h : text_Physical.f a0 = some r) :
    Calls Try.prog 13 #[.string a0] w fun e w' => e = .returned (.int .i64 r) ∧ Below w.heap.size w w' := by
  unfold text_Physical.f at h
  by_cases hs : a0.size < 4294967281
  · rw [if_pos hs] at h
    simp only [Option.some.injEq] at h
    subst h
    exact text_Physical_calls a0 w hs
  · rw [if_neg hs] at h; cases h
def pairs (l0 : List S32) : List (Int × ByteArray) := l0.map fun x => (x.f0, x.f1)
open Go.Proofs.YtgipfcdmhdljgaaT in
def text_Join.f (l0 : List S32) : Option ByteArray := if (joinR 1 (pairs l0)).length ≤ 65536 then some ⟨(joinR 1 (pairs l0)).toArray⟩ else none
open Go.Proofs.YtgipfcdmhdljgaaT in
theorem text_Join.calls (A0 : Option Addr) (c0 : Nat) (l0 : List (S32)) (r : ByteArray) (w : World) (hr0 : Kd.C k32 w A0 l0.length l0) (hc0 : l0.length ≤ c0) (h : text_Join.f l0 = some r) :
    Calls Try.prog 17 #[.slice A0 l0.length c0] w fun e w' => e = .returned (.string r) ∧ Below w.heap.size w w' := by
  unfold text_Join.f at h
  by_cases hs : (joinR 1 (pairs l0)).length ≤ 65536
  · rw [if_pos hs] at h
    obtain rfl := Option.some.inj h
    have hl : (pairs l0).length = l0.length := by simp [pairs]
    rw [← hl]
    refine text_Join_calls A0 c0 (pairs l0) w hs (fun hp => ?_)
    rw [hl] at hp
    obtain ⟨ad, e, _, _⟩ := at_T32 hr0 0 (by omega) (by omega)
    subst e
    refine ⟨ad, rfl, fun i x hx => ?_⟩
    have hi : i < l0.length := by rw [← hl]; exact (List.getElem?_eq_some_iff.1 hx).1
    obtain ⟨ad', e', h0, h1⟩ := at_T32 hr0 (i : Int) (by omega) (by omega)
    cases e'
    have hrd : ((rd_T32 l0 (i : Int)).f0, (rd_T32 l0 (i : Int)).f1) = x := by
      have : (pairs l0)[i]? = some (l0[i].f0, l0[i].f1) := by simp [pairs, hi]
      rw [this] at hx
      rw [← Option.some.inj hx]
      unfold rd_T32
      rw [List.getD_eq_getElem?_getD]; simp [hi]
    rw [← hrd]
    exact ⟨h0, h1⟩
  · rw [if_neg hs] at h; cases h

end Go.Proofs.Ytgipfcdmhdljgaa.PB
