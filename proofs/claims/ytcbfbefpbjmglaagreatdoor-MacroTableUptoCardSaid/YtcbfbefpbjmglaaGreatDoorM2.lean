import Derived.Test.YtcbfbefpbjmglaaGreatDoorZ
import Derived.Test.YtcbfbefpbjmglaaGreatDoorM1
import Derived.Test.YtcbfbefpbjmglaaGreatDoorA3
import Derived.Test.YtcbfbefpbjmglaaGreatDoorA22
import Derived.Deep.QuietTactic
import Derived.BigQuiet
import Derived.Outline
import Derived.Lib.Hide
import Derived.Test.YtcbfbefpbjmglaaGreatDoorShelf2
import Derived.Shelf.Strings.BuilderK
import Derived.Test.YtcbfbefpbjmglaaGreatDoorA0
import Derived.RangeFuncBox
import Derived.RangeFuncLeaves
import Derived.RangeFuncNested
import Derived.RangeFuncFrom
import Derived.RangeFuncKeeps
import Derived.Shelf.Abstract
import Derived.WalkKit
import Derived.OwnWalkIn
import Derived.TacticsInMore
import Derived.LoopNIn
import Derived.LoopIn
import Derived.Lib.OthersKept
import Derived.RangeFuncCalls
import Derived.RangeFuncWrites
import Derived.RangeFuncBound
set_option maxRecDepth 100000
set_option linter.unusedSimpArgs false
set_option linter.unusedVariables false
namespace Go.Proofs.YtcbfbefpbjmglaaGreatDoor.Mac
open Go.RowKit PA YtcbfbefpbjmglaaGreatDoorW PrintWords PrintLast PrintMore
def contB : List ByteArray → ByteArray → Bool
 | [], _ => false
 | y :: l, x => decide (x.toList = y.toList) || contB l x
theorem rdB_at {l : List ByteArray} {i : Nat} (h : i < l.length) : rdOf ByteArray.empty l (i : Int) = l[i] := by
 unfold rdOf; simp [h]
theorem index_loop (l : List ByteArray) (x : ByteArray) (hl : l.length ≤ 1000000) : ∀ d k i, i + d = l.length → d < k → ∃ v, slices_Index_string_string.l0 k l x (l.length : Int) (i : Int) = some v ∧ decide (v ≥ 0) = contB (l.drop i) x
 | 0, k, i, h1, h3 => by
  obtain ⟨k, rfl⟩ : ∃ m, k = m + 1 := ⟨k - 1, by omega⟩
  simp only [slices_Index_string_string.l0]
  rw [if_neg (by omega), List.drop_eq_nil_of_le (by omega)]
  exact ⟨_, rfl, rfl⟩
 | d + 1, k, i, h1, h3 => by
  obtain ⟨k, rfl⟩ : ∃ m, k = m + 1 := ⟨k - 1, by omega⟩
  have hi : i < l.length := by omega
  have hw : wrap64 ((i : Int) + 1) = ((i + 1 : Nat) : Int) := by unfold wrap64; omega
  simp only [slices_Index_string_string.l0]
  rw [if_pos (by omega), if_pos (by omega), if_pos (by omega), rdB_at hi, hw, List.drop_eq_getElem_cons hi, contB]
  by_cases he : x.toList = l[i].toList
  ·rw [if_pos he]
   exact ⟨_, rfl, by rw [decide_eq_true he, Bool.true_or]; simp⟩
  ·rw [if_neg he, decide_eq_false he, Bool.false_or]
   exact index_loop l x hl d k (i + 1) (by omega) (by omega)
theorem contains_f (l : List ByteArray) (x : ByteArray) (hl : l.length ≤ 1000000) : slices_Contains_string_string.f (l.length + 1) l x = some (contB l x) := by
 unfold slices_Contains_string_string.f slices_Index_string_string.f
 obtain ⟨v, hv, hb⟩ := index_loop l x hl l.length (l.length + 1) 0 (by omega) (by omega)
 have hv' : slices_Index_string_string.l0 (l.length + 1) l x (l.length : Int) 0 = some v := hv
 rw [hv', Option.bind_some, hb]
 simp
theorem contains_c (A : Option Addr) (c : Nat) (l : List ByteArray) (x : ByteArray) (w : World) (hl : l.length ≤ 1000000) (hr : Kd.C Kd.string w A l.length l) (hc : l.length ≤ c) :
  Calls Tryz.prog 53 #[.slice A l.length c, .string x] w fun e w' => e = .returned (.bool (contB l x)) ∧ ∃ n, w' = w.drewN n :=
 (slices_Contains_string_string.calls _ A c l x _ w hr hc (contains_f l x hl)).mono fun e w' h => by obtain ⟨h, ⟨n, h2⟩⟩ := h; exact ⟨h, n, h2⟩
def restL : List UInt8 := [95, 95, 86, 65, 95, 65, 82, 71, 83, 95, 95]
def isRest (s : ByteArray) : Bool := s.toList == restL
def paramB (params : List ByteArray) (more : Bool) (body : List S55) (j : Nat) : Bool := decide (j < body.length) && (contB params (body.getD j z55).f1 || (more && isRest (body.getD j z55).f1))
end Go.Proofs.YtcbfbefpbjmglaaGreatDoor.Mac
namespace Go.Proofs.YtcbfbefpbjmglaaGreatDoor.Mac
open Go.RowKit PA YtcbfbefpbjmglaaGreatDoorW PrintWords PrintLast PrintMore
def BoolDrew (b : Bool) (w : World) (e : Ending) (w' : World) : Prop := e = .returned (.bool b) ∧ ∃ n, w' = w.drewN n
set_option maxHeartbeats 400000 in
theorem param_c (bn bm j : Nat) (nm : ByteArray) (fn more : Bool) (Ap Ab : Option Addr) (cp cb : Nat) (params : List ByteArray) (body : List S55) (w : World) (hpl : params.length ≤ 1000000) (hbl : body.length ≤ 1000000) (hj : j ≤ 1000000)
  (h1 : w.cell? ⟨bn, 0, none⟩ = some (.int .i64 body.length)) (h2 : w.heap[bm]? = some (.cells #[.string nm, .bool fn, .slice Ap params.length cp, .bool more, .slice Ab body.length cb] 33 (0, 0)))
  (hP : Kd.C Kd.string w Ap params.length params) (hpc : params.length ≤ cp) (hB : Kd.C k55 w Ab body.length body) (hbc : body.length ≤ cb) :
  Calls Tryz.prog 52 #[.int .i64 j, .pointer (some ⟨bn, 0, none⟩), .pointer (some ⟨bm, 0, none⟩)] w (BoolDrew (paramB params more body j) w) := by
 have c2 : w.cell? ⟨bm, 2, none⟩ = some (.slice Ap params.length cp) := bC h2 2
 have c3 : w.cell? ⟨bm, 3, none⟩ = some (.bool more) := bC h2 3
 have c4 : w.cell? ⟨bm, 4, none⟩ = some (.slice Ab body.length cb) := bC h2 4
 have HP := Lib.hid hP
 have HB := Lib.hid hB
 clear hP hB h2
 by_cases hlt : j < body.length
 ·obtain ⟨ad, had, a0, a1, a2, a3, a4, a5⟩ := at_T55 HB.out (j : Int) (by omega) (by omega)
  subst had
  rw [rd_at hlt] at a1
  obtain ⟨x, hx⟩ : ∃ x, body[j].f1 = x := ⟨_, rfl⟩
  rw [hx] at a1
  have e0 : body.getD j z55 = body[j] := by rw [List.getD_eq_getElem?_getD]; simp [hlt]
  have hc := fun W => contains_c Ap cp params x W hpl
  have d1 : decide ((j : Int) < (body.length : Int)) = true := decide_eq_true (by omega)
  rw [Int.toNat_natCast] at a1
  have key : paramB params more body j = (contB params x || (more && isRest x)) := by unfold paramB; rw [e0, hx, decide_eq_true hlt, Bool.true_and]
  rw [key]
  clear key a0 a2 a3 a4 a5 e0
  have HX := Lib.hid hx
  clear hx
  cases hcb : contB params x with
  | true =>
   rw [Bool.true_or]
   go_enter Tryz.func52, Tryz.ntmps52
   go_wp2
   go_quiet ((go_at_call 53; exact Calls.quiet_of (hcb ▸ contains_c Ap cp params x _ hpl (by first | exact HP.out) hpc)))
   go_wp2
   go_ret
   exact ⟨rfl, _, rfl⟩
  | false =>
   rw [Bool.false_or]
   cases more with
   | false =>
    go_enter Tryz.func52, Tryz.ntmps52
    go_wp2
    go_quiet ((go_at_call 53; exact Calls.quiet_of (hcb ▸ contains_c Ap cp params x _ hpl (by first | exact HP.out) hpc)))
    go_wp2
    go_ret
    exact ⟨rfl, _, rfl⟩
   | true =>
    rw [Bool.true_and]
    unfold isRest restL
    go_enter Tryz.func52, Tryz.ntmps52
    go_wp2
    go_quiet ((go_at_call 53; exact Calls.quiet_of (hcb ▸ contains_c Ap cp params x _ hpl (by first | exact HP.out) hpc)))
    go_wp2
    go_ret
    exact ⟨rfl, _, rfl⟩
 ·have key : paramB params more body j = false := by unfold paramB; rw [decide_eq_false hlt, Bool.false_and]
  rw [key]
  have d1 : decide ((j : Int) < (body.length : Int)) = false := decide_eq_false (by omega)
  have hge : (body.length : Int) ≤ (j : Int) := by omega
  go_enter Tryz.func52, Tryz.ntmps52
  go_wp2
  go_quiet (fail)
  go_wp2
  go_ret
  exact ⟨rfl, _, rfl⟩
end Go.Proofs.YtcbfbefpbjmglaaGreatDoor.Mac
namespace Go.Proofs
open Go.Shelf
def Tryz.lays166_ren : Go.Shelf.Ren := ⟨fun | 166 => 46 | 240 => 63 | 276 => 91 | n => n, fun | 70 => 87 | 72 => 90 | 164 => 138 | 37 => 88 | 75 => 93 | 80 => 96 | 127 => 116 | n => n, fun | n => n⟩
theorem Tryz.lays166 : Go.Proofs.Lays.n166 Tryz.prog Tryz.lays166_ren := {
 mixed := by kernel_rfl
 f166 := Tryz.func46.trans (congrArg some (by kernel_rfl))
 f240 := Tryz.func63.trans (congrArg some (by kernel_rfl))
 f276 := Tryz.func91.trans (congrArg some (by kernel_rfl))
 t0 := Tryz.underlying0
 a0 := Tryz.isAgg0
 z0 := Tryz.sizeOf0
 v0 := Tryz.zeroValue0
 t3 := Tryz.underlying3
 a3 := Tryz.isAgg3
 z3 := Tryz.sizeOf3
 v3 := Tryz.zeroValue3
 t4 := Tryz.underlying4
 a4 := Tryz.isAgg4
 z4 := Tryz.sizeOf4
 v4 := Tryz.zeroValue4
 t9 := Tryz.underlying9
 a9 := Tryz.isAgg9
 z9 := Tryz.sizeOf9
 v9 := Tryz.zeroValue9
 t20 := Tryz.underlying20
 a20 := Tryz.isAgg20
 z20 := Tryz.sizeOf20
 v20 := Tryz.zeroValue20
 t37 := Tryz.underlying88
 a37 := Tryz.isAgg88
 z37 := Tryz.sizeOf88
 v37 := Tryz.zeroValue88
 t70 := Tryz.underlying87
 a70 := Tryz.isAgg87
 z70 := Tryz.sizeOf87
 v70 := Tryz.zeroValue87
 t72 := Tryz.underlying90
 a72 := Tryz.isAgg90
 z72 := Tryz.sizeOf90
 v72 := Tryz.zeroValue90
 t75 := Tryz.underlying93
 a75 := Tryz.isAgg93
 z75 := Tryz.sizeOf93
 v75 := Tryz.zeroValue93
 t164 := Tryz.underlying138
 a164 := Tryz.isAgg138
 z164 := Tryz.sizeOf138
 v164 := Tryz.zeroValue138 }
def Tryz.lays167_ren : Go.Shelf.Ren := ⟨fun | 167 => 49 | 240 => 63 | 276 => 91 | n => n, fun | 70 => 87 | 72 => 90 | 164 => 138 | 37 => 88 | 75 => 93 | 80 => 96 | 127 => 116 | n => n, fun | n => n⟩
theorem Tryz.lays167 : Go.Proofs.Lays.n167 Tryz.prog Tryz.lays167_ren := {
 mixed := by kernel_rfl
 f167 := Tryz.func49.trans (congrArg some (by kernel_rfl))
 f240 := Tryz.func63.trans (congrArg some (by kernel_rfl))
 f276 := Tryz.func91.trans (congrArg some (by kernel_rfl))
 t0 := Tryz.underlying0
 a0 := Tryz.isAgg0
 z0 := Tryz.sizeOf0
 v0 := Tryz.zeroValue0
 t4 := Tryz.underlying4
 a4 := Tryz.isAgg4
 z4 := Tryz.sizeOf4
 v4 := Tryz.zeroValue4
 t5 := Tryz.underlying5
 a5 := Tryz.isAgg5
 z5 := Tryz.sizeOf5
 v5 := Tryz.zeroValue5
 t9 := Tryz.underlying9
 a9 := Tryz.isAgg9
 z9 := Tryz.sizeOf9
 v9 := Tryz.zeroValue9
 t20 := Tryz.underlying20
 a20 := Tryz.isAgg20
 z20 := Tryz.sizeOf20
 v20 := Tryz.zeroValue20
 t37 := Tryz.underlying88
 a37 := Tryz.isAgg88
 z37 := Tryz.sizeOf88
 v37 := Tryz.zeroValue88
 t70 := Tryz.underlying87
 a70 := Tryz.isAgg87
 z70 := Tryz.sizeOf87
 v70 := Tryz.zeroValue87
 t72 := Tryz.underlying90
 a72 := Tryz.isAgg90
 z72 := Tryz.sizeOf90
 v72 := Tryz.zeroValue90
 t75 := Tryz.underlying93
 a75 := Tryz.isAgg93
 z75 := Tryz.sizeOf93
 v75 := Tryz.zeroValue93
 t164 := Tryz.underlying138
 a164 := Tryz.isAgg138
 z164 := Tryz.sizeOf138
 v164 := Tryz.zeroValue138 }
theorem Tryz.Builder_Extra_166 : Builder.Extra Tryz.prog Tryz.lays166_ren := {
 sizeBuilder := by kernel_rfl
 liesBuilder := by kernel_rfl
 t5 := Tryz.underlying5
 a5 := Tryz.isAgg5
 z5 := Tryz.sizeOf5
 v5 := Tryz.zeroValue5
 infoByte := by kernel_rfl
 cellsByte := by kernel_rfl
 sizeByte := by kernel_rfl
 neB5 := by decide }
theorem Tryz.Builder_Extra_167 : Builder.Extra Tryz.prog Tryz.lays167_ren := {
 sizeBuilder := by kernel_rfl
 liesBuilder := by kernel_rfl
 t5 := Tryz.underlying5
 a5 := Tryz.isAgg5
 z5 := Tryz.sizeOf5
 v5 := Tryz.zeroValue5
 infoByte := by kernel_rfl
 cellsByte := by kernel_rfl
 sizeByte := by kernel_rfl
 neB5 := by decide }
open Go.RowKit in
theorem Tryz.Builder_WriteString_k (B b : Nat) (bs : List Value) (s : ByteArray) (w : World) (h : Lib.IsBuilderF 90 5 B b bs w) (hlen : bs.length + s.size ≤ 140737488355328) (hBw : B ≤ w.heap.size) :
  Calls Tryz.prog 46 #[.pointer (some ⟨b, 0, none⟩), .string s] w fun e w' => e = .returned (.tuple #[.int .i64 s.size, .nilIface]) ∧ (Lib.BuilderAtF 90 5 B b (.pointer (some ⟨b, 0, none⟩)) (bs ++ Lib.strCells s) w' ∧ Below B w w' ∧ Lib.OthersKept 5 (some b) w w') :=
 Any.Builder_WriteString_k Tryz.lays166 Tryz.Builder_Extra_166 B b bs s w h hlen hBw
open Go.RowKit in
theorem Tryz.Builder_WriteByte_k (B b : Nat) (bs : List Value) (c : Int) (w : World) (h : Lib.IsBuilderF 90 5 B b bs w) (hlen : bs.length + 1 ≤ 140737488355328) (hBw : B ≤ w.heap.size) :
  Calls Tryz.prog 49 #[.pointer (some ⟨b, 0, none⟩), .int .u8 c] w fun e w' => e = .returned .nilIface ∧ (Lib.BuilderAtF 90 5 B b (.pointer (some ⟨b, 0, none⟩)) (bs ++ [.int .u8 c]) w' ∧ Below B w w' ∧ Lib.OthersKept 5 (some b) w w') :=
 Any.Builder_WriteByte_k Tryz.lays167 Tryz.Builder_Extra_167 B b bs c w h hlen hBw
end Go.Proofs
namespace Go.Proofs.YtcbfbefpbjmglaaGreatDoor.Sp
open Go.RowKit Go.Shelf PA
attribute [local go_sem] Oper.semAt_some
def upto {α : Type} (f : Nat → α) (k : Nat) : List α := (List.range k).map f
theorem upto_succ {α : Type} (f : Nat → α) (k : Nat) : upto f (k + 1) = upto f k ++ [f k] := by simp [upto, List.range_succ]
theorem upto_length {α : Type} (f : Nat → α) (k : Nat) : (upto f k).length = k := by simp [upto]
def TokAt (W : World) (p : Addr) (x : S55) : Prop :=
 W.cell? p = some (.int .i64 x.f0) ∧ W.cell? ⟨p.block, p.off + 1, none⟩ = some (.string x.f1) ∧ W.cell? ⟨p.block, p.off + 2, none⟩ = some (.string x.f2) ∧ W.cell? ⟨p.block, p.off + 3, none⟩ = some (.int .i64 x.f3) ∧ W.cell? ⟨p.block, p.off + 4, none⟩ = some (.bool x.f4) ∧ W.cell? ⟨p.block, p.off + 5, none⟩ = some (.bool x.f5)
theorem add_block (a : Addr) (n : Nat) : (a.add n).block = a.block := by unfold Addr.add; split <;> rfl
theorem TokAt.below {B : Nat} {A W : World} {p : Addr} {x : S55} (h : TokAt A p x) (hB : Below B A W) (hp : p.block < B) : TokAt W p x :=
 have k : ∀ q : Addr, q.block < B → W.cell? q = A.cell? q := fun q hq => World.cell?_of_block (hB.block q.block hq)
 ⟨(k p hp).trans h.1, (k ⟨p.block, p.off + 1, none⟩ hp).trans h.2.1, (k ⟨p.block, p.off + 2, none⟩ hp).trans h.2.2.1, (k ⟨p.block, p.off + 3, none⟩ hp).trans h.2.2.2.1, (k ⟨p.block, p.off + 4, none⟩ hp).trans h.2.2.2.2.1, (k ⟨p.block, p.off + 5, none⟩ hp).trans h.2.2.2.2.2⟩
def encT (x : Nat × S55) : Array Value := #[.int .i64 (x.1 : Int), .agg #[.int .i64 x.2.f0, .string x.2.f1, .string x.2.f2, .int .i64 x.2.f3, .bool x.2.f4, .bool x.2.f5]]
instance : Inhabited S55 := ⟨z55⟩
def itemsOf (zs : List S55) : List (Nat × S55) := upto (fun j => (j, zs.getD j z55)) zs.length
set_option maxHeartbeats 2000000 in
theorem all1_in {α : Type} (f : Nat → α) (enc : α → Array Value) (F : Fence) (n : Nat) (h8 : F.fn 65) (hro : F.round = none) (hn : 1 ≤ n) (l Bs n₀ len cap : Nat) (ad : Addr) (zs : List S55) (hreach : len ≤ 4611686018427387904) (hb : ad.block < n₀) (he : ∀ k, k < len → enc (f k) = encT (k, zs.getD k z55)) (J Jx : List α → World → Prop)
  (hY : ∀ pre x W, J pre W → pre.length < len → YieldAt F (n - 1) Tryz.prog l (enc x) W fun e W' =>
   (e = .returned (.bool true) ∧ J (pre ++ [x]) W' ∧ Below n₀ W W') ∨ (e = .returned (.bool false) ∧ Jx (pre ++ [x]) W'))
  (hJa : ∀ s A B, J s A → Below A.heap.size A B → J s B) (W : World) (hn₀ : n₀ ≤ W.heap.size) (hBs : W.cell? ⟨Bs, 0, none⟩ = some (.slice (some ad) len cap)) (hc : ∀ j, j < len → TokAt W (ad.add (j * 6)) (zs.getD j z55)) (h0 : J [] W) :
  CallsIn F n Tryz.prog 65 #[.func (.yield l) #[] #[], .pointer (some ⟨Bs, 0, none⟩)] W fun e W' => (∃ v, e = .returned v) ∧
   ((∃ ys, ys = upto f len ∧ J ys W') ∨ (∃ pre, (∃ k, k ≤ len ∧ pre = upto f k) ∧ Jx pre W')) := by
 refine callsIn_of_wp Tryz.func65 rfl h8 ?_ hro
 simp only [Tryz.ntmps65, List.size_toArray, List.length_cons, List.length_nil, Nat.reduceAdd, Nat.reduceSub, Array.replicate_succ, Array.replicate_zero, List.push_toArray, List.append_toArray, List.nil_append, List.cons_append]
 gi_wp2
 gi_loopw [7] (fun i wr => ∃ k : Nat, k ≤ len ∧ i = .int .i64 k ∧ J (upto f k) wr ∧ Below n₀ W wr)
  (fun i _ => len - (intOf i).toNat)
 case atStart => exact ⟨0, Nat.zero_le _, rfl, h0, Below.refl _ _⟩
 case round =>
  obtain ⟨k, hk, rfl, hJs, hnx⟩ := hrel
  have hcx : k < len → TokAt wr (ad.add (k * 6)) (zs.getD k z55) := fun h => (hc k h).below hnx (by rw [add_block]; exact hb)
  by_cases hlt : k < len
  ·have hBn : Below wr.heap.size wr (wr.alloc (.cells #[.int .i64 (zs.getD k z55).f0, .string (zs.getD k z55).f1, .string (zs.getD k z55).f2, .int .i64 (zs.getD k z55).f3, .bool (zs.getD k z55).f4, .bool (zs.getD k z55).f5] 55)) := (Below.refl _ _).alloc (Nat.le_refl _) _
   obtain ⟨fn, tmps, assign, body, hy, hR⟩ := hY _ (f k) _ (hJa _ _ _ hJs hBn) (by rw [upto_length]; exact hlt)
   have hBz := hnx.size
   have hnb : Below n₀ wr _ := hBn.mono (by omega)
   obtain ⟨x, hx⟩ : ∃ x, zs.getD k z55 = x := ⟨_, rfl⟩
   rw [he k hlt] at hy
   rw [hx] at hy hR hcx hnb
   obtain ⟨t0, t1, t2, t3, t4, t5⟩ := hcx hlt
   unfold encT at hy
   dsimp only at hy
   gi_wp2
   refine hR.mono ?_
   rintro e W3 (⟨rfl, hJ3, hk3⟩ | ⟨rfl, hJx3⟩)
   ·gi_wp2
    go_roundw
    case rel => exact ⟨k + 1, by omega, by simp, by rw [upto_succ]; exact hJ3, (hnx.trans hnb).trans hk3⟩
    case measure => simp [intOf]; omega
   ·gi_wp2
    refine bodyPost_ret (results_none rfl _ _ _) rfl ?_
    exact ⟨⟨_, rfl⟩, .inr ⟨_, ⟨k + 1, by omega, by rw [upto_succ]⟩, hJx3⟩⟩
  ·obtain rfl : k = len := by omega
   gi_wp2
   go_end0
   exact ⟨⟨_, rfl⟩, .inl ⟨_, rfl, hJs⟩⟩
def Toks (n₀ : Nat) (W : World) (sv : Value) (zs : List S55) : Prop :=
 (∃ A c, sv = .slice A 0 c ∧ zs = []) ∨ ∃ ad cap, sv = .slice (some ad) zs.length cap ∧ ad.block < n₀ ∧ ∀ j, j < zs.length → TokAt W (ad.add (j * 6)) (zs.getD j z55)
theorem Toks.below {n₀ : Nat} {A B : World} (h : Below n₀ A B) {sv : Value} {zs : List S55} : Toks n₀ A sv zs → Toks n₀ B sv zs
 | .inl e => .inl e
 | .inr ⟨ad, cap, e, hb, hc⟩ => .inr ⟨ad, cap, e, hb, fun j hj => (hc j hj).below h (by rw [add_block]; exact hb)⟩
set_option maxHeartbeats 1000000 in
theorem all1_nil_in {α : Type} (F : Fence) (n : Nat) (h8 : F.fn 65) (hro : F.round = none) (l Bs : Nat) (J : List α → World → Prop) (W : World) (A : Option Addr) (c : Nat) (hBs : W.cell? ⟨Bs, 0, none⟩ = some (.slice A 0 c)) (h0 : J [] W) :
  CallsIn F n Tryz.prog 65 #[.func (.yield l) #[] #[], .pointer (some ⟨Bs, 0, none⟩)] W fun e W' => (∃ v, e = .returned v) ∧ J [] W' := by
 refine callsIn_of_wp Tryz.func65 rfl h8 ?_ hro
 simp only [Tryz.ntmps65, List.size_toArray, List.length_cons, List.length_nil, Nat.reduceAdd, Nat.reduceSub, Array.replicate_succ, Array.replicate_zero, List.push_toArray, List.append_toArray, List.nil_append, List.cons_append]
 gi_wp2
 gi_loopw [7] (fun i wr => i = .int .i64 0 ∧ J [] wr) (fun _ _ => 0)
 case atStart => exact ⟨rfl, h0⟩
 case round =>
  obtain ⟨rfl, hJs⟩ := hrel
  gi_wp2
  go_end0
  exact ⟨⟨_, rfl⟩, hJs⟩
set_option maxHeartbeats 1000000 in
theorem all_in (F : Fence) (n : Nat) (h6 : F.fn 48) (hro : F.round = none) (a : Option Addr) (len cap : Nat) (w : World) :
  CallsIn F n Tryz.prog 48 #[.slice a len cap] w fun e w' => e = .returned (.func (.func 65) #[] #[.pointer (some ⟨w.heap.size, 0, none⟩)]) ∧ w' = w.alloc (.cells #[.slice a len cap] 31) := by
 refine callsIn_of_wp Tryz.func48 rfl h6 ?_ hro
 simp only [Tryz.ntmps48, List.size_toArray, List.length_cons, List.length_nil, Nat.reduceAdd, Nat.reduceSub, Array.replicate_succ, Array.replicate_zero, List.push_toArray, List.append_toArray, List.nil_append, List.cons_append]
 gi_wp2
 go_ret
 exact ⟨rfl, rfl⟩
structure Tk (M : Nat) where
 val : Nat × S55
 le : val.2.f1.size ≤ M
def tk (M : Nat) (zs : List S55) (j : Nat) : Tk M := if h : (zs.getD j z55).f1.size ≤ M then ⟨(j, zs.getD j z55), h⟩ else ⟨(j, z55), Nat.zero_le _⟩
theorem tk_val {M : Nat} {zs : List S55} (hM : ∀ x ∈ zs, x.f1.size ≤ M) {j : Nat} (hj : j < zs.length) : (tk M zs j).val = (j, zs.getD j z55) := by
 unfold tk
 have : (zs.getD j z55).f1.size ≤ M := by rw [List.getD_eq_getElem?_getD, List.getElem?_eq_getElem hj]; exact hM _ (List.getElem_mem hj)
 rw [dif_pos this]
theorem upto_items {M : Nat} {zs : List S55} (hM : ∀ x ∈ zs, x.f1.size ≤ M) : (upto (tk M zs) zs.length).map Tk.val = itemsOf zs := by
 unfold upto itemsOf upto
 rw [List.map_map]
 refine List.map_congr_left fun j hj => ?_
 exact tk_val hM (List.mem_range.1 hj)
theorem all_stops (M : Nat) (F : Fence) (n : Nat) (h8 : F.fn 65) (hro : F.round = none) (hn : 1 ≤ n) (Bs n₀ : Nat) (sv : Value) (zs : List S55) (hM : ∀ x ∈ zs, x.f1.size ≤ M) (hreach : zs.length ≤ 4611686018427387904) (w : World) (hBs : Bs < w.heap.size) (hn₀ : n₀ ≤ w.heap.size)
  (hc : w.cell? ⟨Bs, 0, none⟩ = some sv) (hI : Toks n₀ w sv zs) :
  SeqStopsK F n Tryz.prog 65 #[.pointer (some ⟨Bs, 0, none⟩)] (fun x : Tk M => encT x.val) (Below n₀) (fun ys => ys = upto (tk M zs) zs.length) (fun pre => ∃ k, k ≤ zs.length ∧ pre = upto (tk M zs) k) zs.length w := fun l J Jx W hW hJs _ hY h0 => by
 have hc' := (hW.cell (p := ⟨Bs, 0, none⟩) hBs).trans hc
 have hJa : ∀ s A B, J s A → Below A.heap.size A B → J s B := fun s A B hs hb => hJs s A B none hs (Go.Proofs.YtcbfbefpbjmglaaGreatDoorT.grown_of_below hb) (fun r e => by cases e)
 rcases hI.below (hW.mono hn₀) with ⟨A, c, rfl, rfl⟩ | ⟨ad, cap, rfl, hb, hcs⟩
 ·exact (all1_nil_in F n h8 hro l Bs J W A c hc' h0).mono fun e W' ⟨he, hj⟩ => ⟨he, .inl ⟨_, rfl, hj⟩⟩
 ·exact all1_in (tk M zs) (fun x : Tk M => encT x.val) F n h8 hro hn l Bs n₀ zs.length cap ad zs hreach hb (fun k hk => by rw [tk_val hM hk]) J Jx hY hJa W (by have := hW.size; omega) hc' hcs h0
end Go.Proofs.YtcbfbefpbjmglaaGreatDoor.Sp
namespace Go.Proofs.YtcbfbefpbjmglaaGreatDoor.Sp
open Go.RowKit Go.Shelf Go.Lib PA
attribute [local go_sem] Oper.semAt_some
def sepOf (first : Bool) (x : S55) : List UInt8 := if first then [] else if x.f5 then [10] else if x.f4 then [32] else []
def spellN : List (Nat × S55) → List UInt8
 | [] => []
 | x :: r => sepOf (x.1 == 0) x.2 ++ x.2.f1.data.toList ++ spellN r
theorem spellN_snoc (x : Nat × S55) : ∀ l : List (Nat × S55), spellN (l ++ [x]) = spellN l ++ (sepOf (x.1 == 0) x.2 ++ x.2.f1.data.toList)
 | [] => by simp [spellN]
 | y :: l => by rw [List.cons_append, spellN, spellN_snoc x l, spellN]; simp
theorem sepOf_len (b : Bool) (x : S55) : (sepOf b x).length ≤ 1 := by
 unfold sepOf
 cases b <;> cases x.f5 <;> cases x.f4 <;> simp
theorem spellN_len (M : Nat) : ∀ l : List (Nat × S55), (∀ x ∈ l, x.2.f1.size ≤ M) → (spellN l).length ≤ l.length * (M + 1)
 | [], _ => Nat.zero_le _
 | x :: r, h => by
  have h1 := h x (by simp)
  have h2 := spellN_len M r (fun y hy => h y (by simp [hy]))
  have h3 := sepOf_len (x.1 == 0) x.2
  rw [spellN, List.length_append, List.length_append, ← Lib.size_eq, List.length_cons, Nat.succ_mul]
  omega
theorem isBF_grown {T e : TypeId} {B b : Nat} {bs : List Value} {w w' : World} {row : Option Nat} (h : Lib.IsBuilderF T e B b bs w) (hg : w.grownBy w' row) (hr : ∀ r, row = some r → ∃ o, w.heap[r]? = some o ∧ o.isCells = false) : Lib.IsBuilderF T e B b bs w' := by
 have key : ∀ p, Lib.BuilderAtF T e B b p bs w → Lib.BuilderAtF T e B b p bs w' := by
  rintro p ⟨hB, v, hb, hown, hne⟩
  have far : ∀ k c t fz, w.heap[k]? = some (Obj.cells c t fz) → w'.heap[k]? = some (Obj.cells c t fz) := fun k c t fz hk => (hg.block k (Array.getElem?_eq_some_iff.1 hk).1 (fun e' => by obtain ⟨o, ho, hc⟩ := hr k e'.symm; rw [hk] at ho; cases ho; cases hc)).trans hk
  refine ⟨hB, v, far _ _ _ _ hb, ⟨hown.1, ?_⟩, hne⟩
  rcases hown.2 with hn | ⟨g, cap, cur, fz, hv, hbg, hgg, rest⟩
  ·exact .inl hn
  ·exact .inr ⟨g, cap, cur, fz, hv, hbg, far _ _ _ _ hgg, rest⟩
 exact h.imp (key _) (key _)
theorem isBF_lt {T e : TypeId} {B b : Nat} {bs : List Value} {w : World} (h : Lib.IsBuilderF T e B b bs w) : b < w.heap.size := by
 rcases h with ⟨_, v, hb, _⟩ | ⟨_, v, hb, _⟩ <;> exact (Array.getElem?_eq_some_iff.1 hb).1
theorem kf_of {n0 B : Nat} {W W' : World} (h : Lib.OthersKept 5 (some n0) W W') (hs : W.heap.size ≤ W'.heap.size) (hB : n0 < B) : KeepsFrom B W W' :=
 ⟨hs, fun k o hk ho hc => h k o ho (by intro e; cases e; omega) (fun c fz e => by subst e; cases hc)⟩
theorem byteCells_snoc (l : List UInt8) (c : UInt8) : Lib.byteCells l ++ [.int .u8 (c.toNat : Int)] = Lib.byteCells (l ++ [c]) := by simp [Lib.byteCells]
theorem byteCells_str (l : List UInt8) (s : ByteArray) : Lib.byteCells l ++ Lib.strCells s = Lib.byteCells (l ++ s.data.toList) := by simp [Lib.byteCells, Lib.strCells]
theorem byteCells_len (l : List UInt8) : (Lib.byteCells l).length = l.length := by simp [Lib.byteCells]
def tokCells (x : S55) : Array Value := #[.int .i64 x.f0, .string x.f1, .string x.f2, .int .i64 x.f3, .bool x.f4, .bool x.f5]
set_option maxHeartbeats 4000000 in
theorem spell_calls (M : Nat) (A : Option Addr) (c : Nat) (zs : List S55) (w : World) (hz : zs.length ≤ 4611686018427387904) (hM : ∀ x ∈ zs, x.f1.size ≤ M) (hfull : (zs.length + 1) * (M + 1) ≤ 70368744177664) (hI : Toks w.heap.size w (.slice A zs.length c) zs) :
  Calls Tryz.prog 32 #[.slice A zs.length c] w fun e w' => e = .returned (.string ⟨(spellN (itemsOf zs)).toArray⟩) ∧ Below w.heap.size w w' := by
 refine (callsIn_wide (n := 5)).1 ?_
 refine callsIn_of_wp_marks Tryz.func32 rfl trivial ?_ rfl
 simp only [Tryz.ntmps32, List.size_toArray, List.length_cons, List.length_nil, Nat.reduceAdd, Nat.reduceSub, Array.replicate_succ, Array.replicate_zero, List.push_toArray, List.append_toArray, List.nil_append, List.cons_append]
 gi_wp2_with (refine ⟨trivial, ?_⟩; gi_at_call 48; refine (all_in Fence.wide _ trivial rfl _ _ _ _).mono ?_; rintro e w' ⟨rfl, rfl⟩)
 have bN := Boxed.new (w.alloc (.cells #[.pointer none, .slice none 0 0] 90)) 31 (.slice A zs.length c)
 simp only [World.size_alloc] at bN
 have hBd : Lib.IsBuilderF 90 5 w.heap.size w.heap.size (Lib.byteCells []) ((w.alloc (.cells #[.pointer none, .slice none 0 0] 90)).alloc (.cells #[.slice A zs.length c] 31)) := (Lib.IsBuilderF.of (Lib.fresh_isBuilder 90 5 w)).alloc _
 have hB0 : Below w.heap.size w ((w.alloc (.cells #[.pointer none, .slice none 0 0] 90)).alloc (.cells #[.slice A zs.length c] 31)) := ((Below.refl _ w).alloc (Nat.le_refl _) _).alloc (by simp) _
 have hs1 : ((w.alloc (.cells #[.pointer none, .slice none 0 0] 90)).alloc (.cells #[.slice A zs.length c] 31)).heap.size = w.heap.size + 1 + 1 := by simp
 obtain ⟨w1, hw1⟩ : ∃ w1, (w.alloc (.cells #[.pointer none, .slice none 0 0] 90)).alloc (.cells #[.slice A zs.length c] 31) = w1 := ⟨_, rfl⟩
 rw [hw1] at bN hBd hB0 hs1 ⊢
 clear hw1
 obtain ⟨n0, hn0⟩ : ∃ n0, w.heap.size = n0 := ⟨_, rfl⟩
 rw [hn0] at bN hBd hB0 hs1 hI ⊢
 have hI1 := hI.below hB0
 clear hI
 have HN0 := Lib.hid hn0
 refine wpIn_rangeFunc_ownH (F := Fence.wide) (n := 5) rfl (by decide) (gf := 65) (lb := #[.pointer (some ⟨n0 + 1, 0, none⟩)]) rfl trivial (enters_of Tryz.func65 (by kernel_rfl) rfl)
  (all_stops M Fence.wide (5 - 1) trivial rfl (by decide) (n0 + 1) n0 _ zs hM hz w1 (by omega) (by omega) bN.cell hI1) (fun h k => h.trans k)
  (fun W l o o' hl ho hc hw => (Below.refl n0 W).grown (grownBy_putObj' W l o') (by have := (Array.getElem?_eq_some_iff.1 ho).1; omega) (fun k e => by cases e; omega)) (Below.refl _ _) (fun _ => rfl)
  (fun pre W => Lib.IsBuilderF 90 5 n0 n0 (Lib.byteCells (spellN (pre.map Tk.val))) W ∧ Below n0 w W)
  (fun _ _ _ => False)
  (fun s W W' row hs hg hr => ⟨isBF_grown hs.1 hg (fun r e => (hr r e).2), hs.2.grown hg (by have := hs.2.size; omega) (fun k e => by have := (hr k e).1; omega)⟩)
  (fun _ _ _ _ _ hs _ _ => hs)
  ⟨hBd, hB0⟩
  (fun x a' W => ∃ B, n0 < B ∧ W.heap[B]? = some (.cells (tokCells x.val.2) 55 (0, 0)) ∧ a' = { tmps := #[.slice A zs.length c, undef, .string ⟨#[]⟩, .pointer (some ⟨n0, 0, none⟩), .int .i64 (x.val.1 : Int), .pointer (some ⟨B, 0, none⟩), .slice A zs.length c, .func (.func 65) #[] #[.pointer (some ⟨n0 + 1, 0, none⟩)], .int .i64 (x.val.1 : Int), .agg (tokCells x.val.2), undef, undef, undef, undef, undef, undef, undef, undef, undef, undef, undef, undef, undef, undef, undef], defers := [] })
  (fun x a' s W W' row hs hg hr => by
   obtain ⟨B, h1, h2, h3⟩ := hs
   exact ⟨B, h1, (hg.block B (Array.getElem?_eq_some_iff.1 h2).1 (fun e' => by obtain ⟨o, ho, hc⟩ := (hr B e'.symm).2; rw [h2] at ho; cases ho; cases hc)).trans h2, h3⟩)
  ?assign ?body ?done (fun D c pre W _ _ h _ => h.elim)
 case assign =>
  rintro l pre ⟨⟨i, f0, f1, f2, f3, f4, f5⟩, hx⟩ W K ⟨hi1, hi2⟩ hK
  simp only [encT]
  have hbn : Below W.heap.size W (W.alloc (.cells #[.int .i64 f0, .string f1, .string f2, .int .i64 f3, .bool f4, .bool f5] 55)) := (Below.refl _ _).alloc (Nat.le_refl _) _
  have hnW : n0 ≤ W.heap.size := by have := hi2.size; omega
  have HK := Lib.hid hK
  clear hK
  have hnb : n0 < W.heap.size := isBF_lt hi1
  gi_wp2
  exact HK.out _ _ ((KeepsOthers.alloc W _).from _) (hbn.mono hnW) ⟨hi1.alloc _, hi2.trans (hbn.mono hnW)⟩ ⟨W.heap.size, hnb, World.alloc_heap_new _ _, rfl⟩
 case body =>
  rintro l pre ⟨⟨i, f0, f1, f2, f3, f4, f5⟩, hx⟩ a' W hl hr ⟨hi1, hi2⟩ ⟨B, hB1, hB2, rfl⟩ hlen
  clear hr
  simp only [tokCells] at hB2 ⊢
  obtain ⟨d0, d1, d2, d3, d4, d5⟩ := Go.Proofs.YtcbfbefpbjmglaaGreatDoorT.cell_six hB2
  have hsn : spellN ((pre ++ [(⟨⟨i, f0, f1, f2, f3, f4, f5⟩, hx⟩ : Tk M)]).map Tk.val) = spellN (pre.map Tk.val) ++ (sepOf (i == 0) ⟨f0, f1, f2, f3, f4, f5⟩ ++ f1.data.toList) := by
   rw [List.map_append]; exact spellN_snoc _ _
  have hln := spellN_len M (pre.map Tk.val) (fun x hx => by obtain ⟨y, _, rfl⟩ := List.mem_map.1 hx; exact y.le)
  rw [List.length_map] at hln
  have hx' : f1.size ≤ M := hx
  have hmul : pre.length * (M + 1) + (M + 1) ≤ (zs.length + 1) * (M + 1) := by
   rw [← Nat.succ_mul]; exact Nat.mul_le_mul_right _ (by omega)
  obtain ⟨bs, hbs⟩ : ∃ bs, spellN (pre.map Tk.val) = bs := ⟨_, rfl⟩
  rw [hbs] at hi1 hsn hln
  have hsz : bs.length + 1 + f1.size ≤ 140737488355328 := by omega
  have HI : Aside (∀ W', Lib.IsBuilderF 90 5 n0 n0 (Lib.byteCells (bs ++ (sepOf (i == 0) ⟨f0, f1, f2, f3, f4, f5⟩ ++ f1.data.toList))) W' → Below n0 W W' → Lib.OthersKept 5 (some n0) W W' →
    (KeepsFrom w1.heap.size W W' ∧ Below n0 W W' ∧ Lib.IsBuilderF 90 5 n0 n0 (Lib.byteCells (spellN ((pre ++ [(⟨⟨i, f0, f1, f2, f3, f4, f5⟩, hx⟩ : Tk M)]).map Tk.val))) W' ∧ Below n0 w W')) := by
   refine Lib.hid fun W' h1 h2 h3 => ⟨kf_of h3 h2.size (by omega), h2, ?_, hi2.trans h2⟩
   rw [hsn]; exact h1
  have hnW : n0 ≤ W.heap.size := by have := isBF_lt hi1; omega
  have HWB : Aside (∀ (cc : UInt8) (W' : World), Lib.IsBuilderF 90 5 n0 n0 (Lib.byteCells bs) W' → n0 ≤ W'.heap.size → CallsIn (Fence.wide.inRound l) (5 - 1 - 1 - 1) Tryz.prog 49 #[.pointer (some ⟨n0, 0, none⟩), .int .u8 (cc.toNat : Int)] W' fun e w' => e = .returned .nilIface ∧ Lib.IsBuilderF 90 5 n0 n0 (Lib.byteCells (bs ++ [cc])) w' ∧ Below n0 W' w' ∧ Lib.OthersKept 5 (some n0) W' w') := by
   refine Lib.hid fun cc W' h1 h2 => CallsIn.inRound l (callsIn_wide.2 ((Tryz.Builder_WriteByte_k n0 n0 _ _ W' h1 (by rw [byteCells_len]; omega) h2).mono ?_))
   rintro e w' ⟨rfl, h3, h4, h5⟩
   rw [byteCells_snoc] at h3
   exact ⟨rfl, .inr h3, h4, h5⟩
  have HWS : Aside (∀ (b2 : List UInt8) (W' : World), Lib.IsBuilderF 90 5 n0 n0 (Lib.byteCells b2) W' → b2.length ≤ bs.length + 1 → n0 ≤ W'.heap.size → CallsIn (Fence.wide.inRound l) (5 - 1 - 1 - 1) Tryz.prog 46 #[.pointer (some ⟨n0, 0, none⟩), .string f1] W' fun e w' => (∃ m, e = .returned (.tuple #[.int .i64 m, .nilIface])) ∧ Lib.IsBuilderF 90 5 n0 n0 (Lib.byteCells (b2 ++ f1.data.toList)) w' ∧ Below n0 W' w' ∧ Lib.OthersKept 5 (some n0) W' w') := by
   refine Lib.hid fun b2 W' h1 h0 h2 => CallsIn.inRound l (callsIn_wide.2 ((Tryz.Builder_WriteString_k n0 n0 _ _ W' h1 (by rw [byteCells_len]; omega) h2).mono ?_))
   rintro e w' ⟨rfl, h3, h4, h5⟩
   rw [byteCells_str] at h3
   exact ⟨⟨_, rfl⟩, .inr h3, h4, h5⟩
  have HB := Lib.hid (And.intro hi1 (And.intro hB2 hB1))
  clear hi1 hi2 hB2 hB1 hln hmul hx' hsn hbs hI1 hB0 hBd bN hl hlen
  by_cases hi0 : i = 0
  ·subst hi0
   have hi0 : ((0 : Nat) : Int) = 0 := rfl
   gi_wp2_with (refine ⟨trivial, ?_⟩; gi_at_call 46; refine (HWS.out bs _ HB.out.1 (by omega) hnW).mono ?_; rintro e W2 ⟨⟨m, rfl⟩, hI2, hb2, ho2⟩)
   exact HI.out _ hI2 hb2 ho2
  ·have hi1 : ((i : Nat) : Int) ≠ 0 := by omega
   have hib : (i == 0) = false := by simpa using hi0
   have hib2 : ((i : Int) == 0) = false := by simpa using hi0
   rw [hib] at HI
   cases f5 with
   | true =>
    gi_wp2_with (first | (refine ⟨trivial, ?_⟩; gi_at_call 49; refine (HWB.out 10 _ HB.out.1 hnW).mono ?_; rintro e W2 ⟨rfl, hI2, hb2, ho2⟩; have hk2 := ho2 B _ HB.out.2.1 (by intro e; cases e; exact Nat.lt_irrefl _ HB.out.2.2) (by intro c fz e; cases e); obtain ⟨d0, d1, d2, d3, d4, d5⟩ := Go.Proofs.YtcbfbefpbjmglaaGreatDoorT.cell_six hk2; have hn2 : n0 ≤ W2.heap.size := Nat.le_trans hnW hb2.size) | (refine ⟨trivial, ?_⟩; gi_at_call 46; refine (HWS.out (bs ++ [10]) _ hI2 (by simp) hn2).mono ?_; rintro e W3 ⟨⟨m, rfl⟩, hI3, hb3, ho3⟩))
    exact HI.out _ (by rw [← List.append_assoc]; exact hI3) (hb2.trans hb3) (ho2.trans ho3)
   | false =>
    cases f4 with
    | true =>
     gi_wp2_with (first | (refine ⟨trivial, ?_⟩; gi_at_call 49; refine (HWB.out 32 _ HB.out.1 hnW).mono ?_; rintro e W2 ⟨rfl, hI2, hb2, ho2⟩; have hk2 := ho2 B _ HB.out.2.1 (by intro e; cases e; exact Nat.lt_irrefl _ HB.out.2.2) (by intro c fz e; cases e); obtain ⟨d0, d1, d2, d3, d4, d5⟩ := Go.Proofs.YtcbfbefpbjmglaaGreatDoorT.cell_six hk2; have hn2 : n0 ≤ W2.heap.size := Nat.le_trans hnW hb2.size) | (refine ⟨trivial, ?_⟩; gi_at_call 46; refine (HWS.out (bs ++ [32]) _ hI2 (by simp) hn2).mono ?_; rintro e W3 ⟨⟨m, rfl⟩, hI3, hb3, ho3⟩))
     exact HI.out _ (by rw [← List.append_assoc]; exact hI3) (hb2.trans hb3) (ho2.trans ho3)
    | false =>
     gi_wp2_with (refine ⟨trivial, ?_⟩; gi_at_call 46; refine (HWS.out bs _ HB.out.1 (by omega) hnW).mono ?_; rintro e W2 ⟨⟨m, rfl⟩, hI2, hb2, ho2⟩)
     exact HI.out _ hI2 hb2 ho2
 case done =>
  rintro D xs W hD rfl ⟨hi1, hi2⟩ hK
  rw [upto_items hM] at hi1
  have hnW : n0 ≤ W.heap.size := by have := isBF_lt hi1; omega
  have HS : ∀ W', Lib.IsBuilderF 90 5 n0 n0 (Lib.byteCells (spellN (itemsOf zs))) W' → n0 ≤ W'.heap.size → CallsIn Fence.wide (5 - 1) Tryz.prog 47 #[.pointer (some ⟨n0, 0, none⟩)] W' fun e w' => e = .returned (.string ⟨(spellN (itemsOf zs)).toArray⟩) ∧ Below n0 W' w' ∧ Lib.OthersKept 5 (some n0) W' w' := fun W' h1 h2 => callsIn_wide.2 ((Tryz.Builder_String_any_k n0 n0 _ W' h1 h2).mono fun e w' ⟨h3, _, h4, h5⟩ => ⟨h3, h4, h5⟩)
  have HH := Lib.hid (And.intro HS (And.intro hi1 (And.intro hi2 hK)))
  clear HS hi1 hi2 hK hI1 hB0 hBd bN
  gi_wp2_with (refine ⟨trivial, ?_⟩; gi_at_call 47; refine (HH.out.1 _ HH.out.2.1 hnW).mono ?_; rintro e W2 ⟨rfl, hb2, ho2⟩)
  show bodyPostM _ _ _ _ _ Exit.ret _ _
  have hK2 := ho2 D _ HH.out.2.2.2 (by intro e; cases e; omega) (by intro c fz e; cases e)
  refine ⟨by simp, .inl ⟨_, _, rfl, run_takeDeferred hK2, ?_⟩⟩
  refine ⟨_, results_tmp rfl _ _ _, rfl, ?_⟩
  rw [HN0.out]
  exact (HH.out.2.2.1.trans hb2).grown (grownBy_putObj' W2 D _) (by have := HH.out.2.2.1.size; have := hb2.size; omega) (fun k e => by cases e; omega)
end Go.Proofs.YtcbfbefpbjmglaaGreatDoor.Sp
namespace Go.Proofs.YtcbfbefpbjmglaaGreatDoor.PA
open Go.RowKit YtcbfbefpbjmglaaGreatDoorW PrintWords PrintLast PrintMore
def fitsT (l : List S55) : Bool := l.all (fun x => decide (x.f1.size ≤ 1048576)) && decide (l.length ≤ 60000000)
theorem toks_of {w : World} {A : Option Addr} {l0 : List S55} {c0 : Nat} (hr0 : Kd.C k55 w A l0.length l0) (hb : ∀ ad, A = some ad → 0 < l0.length → ad.block < w.heap.size) : Sp.Toks w.heap.size w (.slice A l0.length c0) l0 := by
 by_cases h0 : l0.length = 0
 ·left
  refine ⟨A, c0, by rw [h0], List.eq_nil_of_length_eq_zero h0⟩
 ·obtain ⟨ad, e, _⟩ := at_T55 hr0 0 (by omega) (by omega)
  subst e
  refine .inr ⟨ad, c0, rfl, hb ad rfl (by omega), fun j hj => ?_⟩
  obtain ⟨ad', e', h0, h1, h2, h3, h4, h5⟩ := at_T55 hr0 (j : Int) (by omega) (by omega)
  cases e'
  exact ⟨h0, h1, h2, h3, h4, h5⟩
def token_Spell.f (l0 : List S55) : Option ByteArray := if fitsT l0 = true then some ⟨(Sp.spellN (Sp.itemsOf l0)).toArray⟩ else none
theorem token_Spell.calls (A0 : Option Addr) (c0 : Nat) (l0 : List S55) (r : ByteArray) (w : World) (hr0 : Kd.C k55 w A0 l0.length l0) (hc0 : l0.length ≤ c0) (h : token_Spell.f l0 = some r) :
  Calls Tryz.prog 32 #[.slice A0 l0.length c0] w fun e w' => e = .returned (.string r) ∧ Below w.heap.size w w' := by
 unfold token_Spell.f at h
 by_cases hs : fitsT l0 = true
 ·rw [if_pos hs] at h
  obtain rfl := Option.some.inj h
  unfold fitsT at hs
  rw [Bool.and_eq_true, List.all_eq_true, decide_eq_true_eq] at hs
  refine Sp.spell_calls 1048576 A0 c0 l0 w (by omega) (fun x hx => by have := hs.1 x hx; rw [decide_eq_true_eq] at this; exact this) (by omega) (toks_of hr0 fun ad e hl => ?_)
  obtain ⟨ad', e', h0, _⟩ := at_T55 hr0 0 (by omega) (by omega)
  have := cl w _ h0
  rw [Sp.add_block] at this
  rw [e] at e'
  cases e'
  exact this
 ·rw [if_neg hs] at h; cases h
end Go.Proofs.YtcbfbefpbjmglaaGreatDoor.PA
namespace Go.Proofs.YtcbfbefpbjmglaaGreatDoor.Mac
open Go.RowKit PA YtcbfbefpbjmglaaGreatDoorT YtcbfbefpbjmglaaGreatDoorW PrintWords PrintLast PrintMore
theorem fits_one (s : ByteArray) (h : s.size < 4294967281) : fits [⟨1, s⟩] = true := by
 unfold fits; simp [h]
theorem lex_one (s : ByteArray) (h : s.size < 4294967281) : token_Lex.f [⟨1, s⟩] = some ((lexP [(1, s.data.toList)]).1.map toT, (lexP [(1, s.data.toList)]).2.1, (lexP [(1, s.data.toList)]).2.2) := by
 unfold token_Lex.f
 rw [if_pos (fits_one s h)]
 rfl
def isNameP (s : ByteArray) : Bool := (macro_isName.f s).getD false
theorem isName_f (s : ByteArray) (h : s.size < 4294967281) : macro_isName.f s = some (isNameP s) := by
 have key : ∃ b, macro_isName.f s = some b := by
  unfold macro_isName.f token_One.f
  rw [lex_one s h, Option.bind_some]
  generalize ((lexP [(1, s.data.toList)]).1.map toT, (lexP [(1, s.data.toList)]).2.1, (lexP [(1, s.data.toList)]).2.2) = R
  by_cases h1 : R.2.1 = 0
  ·rw [if_pos h1]
   by_cases h2 : (R.1.length : Int) = 1
   ·rw [if_pos h2, if_pos (by omega)]
    by_cases h3 : ((rT R.1 0).f1).toList = s.toList
    ·rw [if_pos h3, Option.bind_some, if_pos rfl]
     split <;> exact ⟨_, rfl⟩
    ·rw [if_neg h3, Option.bind_some, if_neg (by decide)]
     exact ⟨_, rfl⟩
   ·rw [if_neg h2, Option.bind_some, if_neg (by decide)]
    exact ⟨_, rfl⟩
  ·rw [if_neg h1, Option.bind_some, if_neg (by decide)]
   exact ⟨_, rfl⟩
 obtain ⟨b, hb⟩ := key
 unfold isNameP
 rw [hb]; rfl
def spellB (l : List S55) : ByteArray := ⟨(Sp.spellN (Sp.itemsOf l)).toArray⟩
def lexS (l : List S55) : List TokP × Int × Int := lexP [(1, (spellB l).data.toList)]
def bodyTok (fn : Bool) (params : List ByteArray) (more : Bool) (body : List S55) (i : Nat) (t : S55) : Bool :=
 if t.f1.toList == [35, 35] then !(decide (i = 0) || decide (i + 1 = body.length))
 else if t.f1.toList == [35] then !(fn && !paramB params more body (i + 1))
 else if t.f1.toList == restL then more else true
def bodyToks (fn : Bool) (params : List ByteArray) (more : Bool) (body : List S55) : Nat → List S55 → Bool
 | _, [] => true
 | i, t :: r => bodyTok fn params more body i t && bodyToks fn params more body (i + 1) r
def isBodyP (fn : Bool) (params : List ByteArray) (more : Bool) (body : List S55) : Bool :=
 decide (body.length ≤ 500) && (toksEq body (bareP body) && (decide ((lexS body).2.1 = 0) && (toksEq body (bareP ((lexS body).1.map toT)) && bodyToks fn params more body 0 body)))
def goodParams : List ByteArray → List ByteArray → Bool
 | _, [] => true
 | seen, p :: r => isNameP p && (!contB seen p && goodParams (p :: seen) r)
def rightP (nm : ByteArray) (fn : Bool) (params : List ByteArray) (more : Bool) (body : List S55) : Bool :=
 isNameP nm && (!(nm.toList == [100, 101, 102, 105, 110, 101, 100]) && (decide (params.length ≤ 16) && (!(!fn && (more || decide (0 < params.length))) && (goodParams [] params && isBodyP fn params more body))))
end Go.Proofs.YtcbfbefpbjmglaaGreatDoor.Mac
