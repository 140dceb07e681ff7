import Derived.Test.YtcbfbefpbjmglaaGreatDoorProg
import Derived.Below
import Derived.Deep.Draws
import Derived.Deep.AppendLies
import Derived.Maps.AppendAt
import Derived.OwnWalk
import Derived.Laws.BytesArg
import Derived.Laws.MakeOwn
import Derived.Laws.OwnMore
import Derived.Deep.OwnRows
import Derived.Tactics
import Derived.Lib.ConvBytes
import Derived.Laws.Slices
import Derived.WalkKit
import Derived.KernelRfl
import Derived.RowKit3
import Derived.Deep.LoopGhost
import Derived.Deep.QuietTactic
import Derived.BigQuiet
import Derived.WideLaws
import Derived.Deep.DeepCutAuto
import Derived.Deep.CutBlock
import Derived.Deep.RegionHeld3
import Derived.Laws.Rows
import Derived.Lib.AppendStr
import Derived.ArgAppend
import Derived.Laws.IdiomCopy
import Derived.OrdersHeld
import Derived.Laws.BitsLemmas
import Derived.RowKit
import Derived.Test.YtcbfbefpbjmglaaGreatDoorH2
import Derived.Test.YtcbfbefpbjmglaaGreatDoorShelf2
import Derived.Test.YtcbfbefpbjmglaaGreatDoorV
set_option linter.unusedSimpArgs false
set_option linter.unusedVariables false
namespace Go.Proofs.YtcbfbefpbjmglaaGreatDoor.PA
open Go.RowKit YtcbfbefpbjmglaaGreatDoorT YtcbfbefpbjmglaaGreatDoorW PrintWords PrintLast PrintMore
attribute [local go_sem] max2_int min2_int max_two min_two max_three min_three max_four min_four   -- for this text's walks alone
def errW : Option Int → Value
 | none => .nilIface
 | some c => .iface 0 (.int .i64 c)
theorem eN : errW none = .nilIface := rfl
theorem eS (c : Int) : errW (some c) = .iface 0 (.int .i64 c) := rfl
theorem info5 : (Tryz.prog.info? 5).map (fun i => (i.zero, i.size, i.bytes)) = some (some (.int .u8 0), 1, 1) := by kernel_rfl
theorem info55 : (Tryz.prog.info? 55).map (fun i => (i.zero, i.size, i.bytes)) = some (some (.agg #[(.int .i64 0), (.string ⟨#[]⟩), (.string ⟨#[]⟩), (.int .i64 0), (.bool false), (.bool false)]), 6, 56) := by kernel_rfl
structure S55 where
 f0 : Int
 f1 : ByteArray
 f2 : ByteArray
 f3 : Int
 f4 : Bool
 f5 : Bool
def z55 : S55 := ⟨(0 : Int), (⟨#[]⟩ : ByteArray), (⟨#[]⟩ : ByteArray), (0 : Int), false, false⟩
def k55 : Kd S55 := Kd.iso (Kd.pair (Kd.int .i64) (Kd.pair Kd.string (Kd.pair Kd.string (Kd.pair (Kd.int .i64) (Kd.pair Kd.bool Kd.bool))))) (fun x : S55 => (x.f0, x.f1, x.f2, x.f3, x.f4, x.f5))
theorem k55_open {w : World} {x : S55} {cs : List Value} (h : k55.K w x cs) : cs = [.int .i64 x.f0, .string x.f1, .string x.f2, .int .i64 x.f3, .bool x.f4, .bool x.f5] := by
 obtain ⟨_, _, rfl, rfl, ⟨_, _, rfl, rfl, ⟨_, _, rfl, rfl, ⟨_, _, rfl, rfl, ⟨_, _, rfl, rfl, rfl⟩⟩⟩⟩⟩ := h
 exact rfl
theorem k55_mk (w : World) (x : S55)  : k55.K w x [.int .i64 x.f0, .string x.f1, .string x.f2, .int .i64 x.f3, .bool x.f4, .bool x.f5] := ⟨[.int .i64 x.f0], [.string x.f1, .string x.f2, .int .i64 x.f3, .bool x.f4, .bool x.f5], rfl, rfl, ⟨[.string x.f1], [.string x.f2, .int .i64 x.f3, .bool x.f4, .bool x.f5], rfl, rfl, ⟨[.string x.f2], [.int .i64 x.f3, .bool x.f4, .bool x.f5], rfl, rfl, ⟨[.int .i64 x.f3], [.bool x.f4, .bool x.f5], rfl, rfl, ⟨[.bool x.f4], [.bool x.f5], rfl, rfl, rfl⟩⟩⟩⟩⟩
theorem k55_mkM (w : World) (base : Nat) (ok : Nat → Prop) (x : S55)  : k55.M w base ok x [.int .i64 x.f0, .string x.f1, .string x.f2, .int .i64 x.f3, .bool x.f4, .bool x.f5] := ⟨[.int .i64 x.f0], [.string x.f1, .string x.f2, .int .i64 x.f3, .bool x.f4, .bool x.f5], rfl, rfl, ⟨[.string x.f1], [.string x.f2, .int .i64 x.f3, .bool x.f4, .bool x.f5], rfl, rfl, ⟨[.string x.f2], [.int .i64 x.f3, .bool x.f4, .bool x.f5], rfl, rfl, ⟨[.int .i64 x.f3], [.bool x.f4, .bool x.f5], rfl, rfl, ⟨[.bool x.f4], [.bool x.f5], rfl, rfl, rfl⟩⟩⟩⟩⟩
def rT (xs : List S55) (i : Int) : S55 := xs.getD i.toNat z55
theorem at_T55 {w : World} {A : Option Addr} {n : Nat} {xs : List S55} (h : Kd.C k55 w A n xs) (i : Int) (h0 : 0 ≤ i) (h1 : i < n) : ∃ ad , A = some ad ∧ w.cell? (ad.add (i.toNat * 6)) = some (.int .i64 (rT xs i).f0) ∧ w.cell? ⟨(ad.add (i.toNat * 6)).block, (ad.add (i.toNat * 6)).off + 1, none⟩ = some (.string (rT xs i).f1) ∧ w.cell? ⟨(ad.add (i.toNat * 6)).block, (ad.add (i.toNat * 6)).off + 2, none⟩ = some (.string (rT xs i).f2) ∧ w.cell? ⟨(ad.add (i.toNat * 6)).block, (ad.add (i.toNat * 6)).off + 3, none⟩ = some (.int .i64 (rT xs i).f3) ∧ w.cell? ⟨(ad.add (i.toNat * 6)).block, (ad.add (i.toNat * 6)).off + 4, none⟩ = some (.bool (rT xs i).f4) ∧ w.cell? ⟨(ad.add (i.toNat * 6)).block, (ad.add (i.toNat * 6)).off + 5, none⟩ = some (.bool (rT xs i).f5) := by
 obtain ⟨ad, c, e, _, hK, hc0⟩ := Kd.C_get h z55 i h0 h1
 have hc : ∀ j u, c[j]? = some u → w.cell? (ad.add (i.toNat * 6 + j)) = some u := hc0
 obtain rfl := k55_open hK
 exact ⟨ad, e, hc 0 _ rfl, by rw [← add_field _ _ 1 (by omega)]; exact hc 1 _ rfl, by rw [← add_field _ _ 2 (by omega)]; exact hc 2 _ rfl, by rw [← add_field _ _ 3 (by omega)]; exact hc 3 _ rfl, by rw [← add_field _ _ 4 (by omega)]; exact hc 4 _ rfl, by rw [← add_field _ _ 5 (by omega)]; exact hc 5 _ rfl⟩
structure S63 where
 f0 : Int
 f1 : ByteArray
def z63 : S63 := ⟨(0 : Int), (⟨#[]⟩ : ByteArray)⟩
def k63 : Kd S63 := Kd.iso (Kd.pair (Kd.int .i64) Kd.string) (fun x : S63 => (x.f0, x.f1))
theorem k63_open {w : World} {x : S63} {cs : List Value} (h : k63.K w x cs) : cs = [.int .i64 x.f0, .string x.f1] := by
 obtain ⟨_, _, rfl, rfl, rfl⟩ := h
 exact rfl
theorem k63_mk (w : World) (x : S63)  : k63.K w x [.int .i64 x.f0, .string x.f1] := ⟨[.int .i64 x.f0], [.string x.f1], rfl, rfl, rfl⟩
theorem k63_mkM (w : World) (base : Nat) (ok : Nat → Prop) (x : S63)  : k63.M w base ok x [.int .i64 x.f0, .string x.f1] := ⟨[.int .i64 x.f0], [.string x.f1], rfl, rfl, rfl⟩
def rd_T63 (xs : List S63) (i : Int) : S63 := xs.getD i.toNat z63
theorem at_T63 {w : World} {A : Option Addr} {n : Nat} {xs : List S63} (h : Kd.C k63 w A n xs) (i : Int) (h0 : 0 ≤ i) (h1 : i < n) : ∃ ad , A = some ad ∧ w.cell? (ad.add (i.toNat * 2)) = some (.int .i64 (rd_T63 xs i).f0) ∧ w.cell? ⟨(ad.add (i.toNat * 2)).block, (ad.add (i.toNat * 2)).off + 1, none⟩ = some (.string (rd_T63 xs i).f1) := by
 obtain ⟨ad, c, e, _, hK, hc0⟩ := Kd.C_get h z63 i h0 h1
 have hc : ∀ j u, c[j]? = some u → w.cell? (ad.add (i.toNat * 2 + j)) = some u := hc0
 obtain rfl := k63_open hK
 exact ⟨ad, e, hc 0 _ rfl, by rw [← add_field _ _ 1 (by omega)]; exact hc 1 _ rfl⟩
open YtcbfbefpbjmglaaGreatDoorT in
def toT (t : TokP) : S55 := ⟨(t.kind : Int), bstr t.s, (⟨#[]⟩ : ByteArray), t.line, t.sp, t.fs⟩
def toL (l : List S63) : List (Int × List UInt8) := l.map fun x => (x.f0, x.f1.data.toList)
open YtcbfbefpbjmglaaGreatDoorT in
theorem reps_toks (w : World) (base : Nat) (ok : Nat → Prop) (l : List TokP) : Reps (k55.M w base ok) k55.sz (l.map toT) (toksC l) := by
 refine ⟨by rw [toksC_len, List.length_map]; rfl, fun j p hj => ?_⟩
 show k55.M w base ok p (((toksC l).drop (j * 6)).take 6)
 induction l generalizing j with
 | nil => simp at hj
 | cons x l ih =>
  cases j with
  | zero =>
   simp only [List.map_cons, List.getElem?_cons_zero, Option.some.injEq] at hj
   subst hj
   exact k55_mkM w base ok (toT x)
  | succ j =>
   rw [List.map_cons, List.getElem?_cons_succ] at hj
   have := ih j hj
   rw [show toksC (x :: l) = tokC x ++ toksC l from rfl, show (j + 1) * 6 = (tokC x).length + j * 6 by show _ = 6 + j * 6; omega, List.drop_append, List.drop_eq_nil_of_le (by omega), List.nil_append, Nat.add_sub_cancel_left]
   exact this
open YtcbfbefpbjmglaaGreatDoorT in
theorem R_of_toks {w : World} {base : Nat} {v : Value} {l : List TokP} (h : w.ownsRow base 55 6 v l.length (toksC l)) : Kd.R k55 55 w base (fun _ => True) v (l.map toT) :=
 ⟨fun _ _ => trivial, toksC l, by rw [List.length_map]; exact h, reps_toks _ _ _ _⟩
def fits (l : List S63) : Bool := l.all (fun x => decide (x.f1.size < 4294967281)) && decide (l.length < 9223372036854775806)
open YtcbfbefpbjmglaaGreatDoorT in
def token_Lex.f (l0 : List S63) : Option (List S55 × Int × Int) := if fits l0 = true then some ((lexP (toL l0)).1.map toT, (lexP (toL l0)).2.1, (lexP (toL l0)).2.2) else none
open YtcbfbefpbjmglaaGreatDoorT in
theorem token_Lex.calls (A0 : Option Addr) (c0 : Nat) (l0 : List (S63)) (r1 : List (S55)) (r2 r3 : Int) (w : World) (hr0 : Kd.C k63 w A0 l0.length l0) (hc0 : l0.length ≤ c0) (hT : Tab w) (h : token_Lex.f l0 = some (r1, r2, r3)) :
  Calls Tryz.prog 22 #[.slice A0 l0.length c0] w fun e w' => ∃ v0_ : Value, e = .returned (.tuple #[v0_, .int .i64 r2, .int .i64 r3]) ∧ Kd.R k55 55 w' w.heap.size (fun _ => True) v0_ r1 ∧ Below w.heap.size w w' := by
 unfold token_Lex.f at h
 by_cases hs : fits l0 = true
 ·rw [if_pos hs] at h
  simp only [Option.some.injEq, Prod.mk.injEq] at h
  obtain ⟨rfl, rfl, rfl⟩ := h
  unfold fits at hs
  rw [Bool.and_eq_true, List.all_eq_true, decide_eq_true_eq] at hs
  have hl : (toL l0).length = l0.length := by simp [toL]
  rw [← hl]
  refine (lex_calls A0 c0 (toL l0) w hT (fun x hx => ?_) (by omega) (fun hp => ?_)).mono ?_
  ·obtain ⟨y, hy, rfl⟩ := List.mem_map.1 hx
   have := hs.1 y hy
   rw [decide_eq_true_eq, Lib.size_eq] at this
   exact this
  ·rw [hl] at hp
   obtain ⟨ad, e, _, _⟩ := at_T63 hr0 0 (by omega) (by omega)
   subst e
   refine ⟨ad, rfl, fun i x hx => ?_⟩
   have hi : i < l0.length := by rw [← hl]; exact (List.getElem?_eq_some_iff.1 hx).1
   obtain ⟨ad', e', h0, h1⟩ := at_T63 hr0 (i : Int) (by omega) (by omega)
   cases e'
   have hrd : x = ((rd_T63 l0 (i : Int)).f0, (rd_T63 l0 (i : Int)).f1.data.toList) := by
    have : (toL l0)[i]? = some (l0[i].f0, l0[i].f1.data.toList) := by simp [toL, hi]
    rw [this] at hx
    rw [← Option.some.inj hx]
    unfold rd_T63
    rw [List.getD_eq_getElem?_getD]; simp [hi]
   rw [hrd]
   exact ⟨h0, h1⟩
  ·rintro e w' ⟨v, rfl, hr, hb⟩
   exact ⟨v, rfl, R_of_toks hr, hb⟩
 ·rw [if_neg hs] at h; cases h
end Go.Proofs.YtcbfbefpbjmglaaGreatDoor.PA
