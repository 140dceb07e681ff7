import Derived.Maps.OwnSet
import Derived.Maps.OwnIn
import Derived.Test.YtcbfbefpbjmglaaGreatDoorM5
import Derived.Test.YtcbfbefpbjmglaaGreatDoorCards
import Derived.WalkKit
import Derived.ProofKit
import Derived.OpenShut
import Derived.ShutString
import Derived.ChangeOld
import Derived.SizedLaws
import Derived.Deep.DeepHandedRow
import Derived.Deep.SlicePairs
import Derived.Lib.LaidTab
set_option maxRecDepth 100000
set_option linter.unusedSimpArgs false
set_option linter.unusedVariables false
namespace Go.Proofs.MapFun
open Go.Maps (Keyed)
open Go.ChangeMaps Go.MapKept
set_option linter.unusedSectionVars false
def heldR (v : Value) : Option (DataW Value × List MemPlace) := some (.held v, [])
def upd {κ : Type} [DecidableEq κ] (f : κ → Option Value) (x : κ) (v : Value) : κ → Option Value := fun y => if y = x then some v else f y
def del {κ : Type} [DecidableEq κ] (f : κ → Option Value) (x : κ) : κ → Option Value := fun y => if y = x then none else f y
structure KeyEmb {κ : Type} (c : κ → Lit) : Prop where
 inj : ∀ {x y}, c x = c y → x = y
 key : ∀ x, WideAt.IsKeyLit (c x)
theorem strEmb : KeyEmb Lit.string := ⟨fun h => by cases h; rfl, fun x => by simp [WideAt.IsKeyLit]⟩
def MapF {κ : Type} (P : Program) (k : TypeId) (c : κ → Lit) (w : World) (b n : Nat) (f : κ → Option Value) : Prop :=
 ∃ D : DataW Value, w.ownsMap P k heldR b n D ∧ Maps.size D = n ∧ ∀ x, Maps.has D (c x) = (f x).isSome ∧ ∀ v, f x = some v → ∀ z, D.atKey (c x) z = .held v
section
variable {κ : Type} [DecidableEq κ] {P : Program} {k : TypeId} {c : κ → Lit} {w : World} {b n : Nat} {f : κ → Option Value}
theorem MapF.made (w : World) (P : Program) (k : TypeId) (c : κ → Lit) : MapF P k c (w.alloc (.map #[] 0)) w.heap.size 0 (fun _ => none) :=
 ⟨.map [], World.ownsMap_made w P k heldR, rfl, fun x => ⟨rfl, fun v h => by cases h⟩⟩
theorem MapF.lt (h : MapF P k c w b n f) : b < w.heap.size := by obtain ⟨D, h, _⟩ := h; exact h.lt
theorem MapF.kept {w' : World} {row : Option Nat} (h : MapF P k c w b n f) (hg : w.grownBy w' row) (hne : some b ≠ row) : MapF P k c w' b n f := by
 obtain ⟨D, h1, h2⟩ := h; exact ⟨D, h1.kept hg hne, h2⟩
theorem MapF.block {w' : World} (h : MapF P k c w b n f) (hb : w'.heap[b]? = w.heap[b]?) : MapF P k c w' b n f := by
 obtain ⟨D, ⟨es, clock, h1, h2⟩, h3⟩ := h; exact ⟨D, ⟨es, clock, hb.trans h1, h2⟩, h3⟩
theorem MapF.isMap (h : MapF P k c w b n f) : ∃ es clock, w.heap[b]? = some (.map es clock) := by
 obtain ⟨D, ⟨es, clock, h1, h2⟩, h3⟩ := h; exact ⟨es, clock, h1⟩
theorem MapF.look_ok {t e : TypeId} (h : MapF P k c w b n f) (K : Keyed P k) (ht : P.underlying t = some (.map k e)) {z : Value} (hz : (zeroValue e).run P w = .ok z w) {key : Value} {x : κ} (hkey : keyOf P k key = some (c x)) :
  (Instr.lookup t (.map (some b)) key true).run P w = .ok (.tuple #[(f x).getD z, .bool (f x).isSome]) w := by
 obtain ⟨D, h, _, hx⟩ := h
 obtain ⟨v, ps, hrun, hv⟩ := h.look_ok K ht hz (zd := .held z) (zp := []) rfl hkey
 obtain ⟨h1, h2⟩ := hx x
 rw [hrun, h1]
 cases hf : f x with
 | some v' =>
  rw [h2 v' hf] at hv
  have : DataW.held v = DataW.held v' := by unfold heldR at hv; cases hv; rfl
  cases this; rfl
 | none =>
  rw [hf] at h1
  rw [Maps.atKey_of_not_has h1] at hv
  have : DataW.held v = DataW.held z := by unfold heldR at hv; cases hv; rfl
  cases this; rfl
theorem MapF.look {t e : TypeId} (h : MapF P k c w b n f) (K : Keyed P k) (ht : P.underlying t = some (.map k e)) {z : Value} (hz : (zeroValue e).run P w = .ok z w) {key : Value} {x : κ} (hkey : keyOf P k key = some (c x)) :
  (Instr.lookup t (.map (some b)) key false).run P w = .ok ((f x).getD z) w := by
 obtain ⟨D, h, _, hx⟩ := h
 obtain ⟨v, ps, hrun, hv⟩ := h.lookup K ht hz (zd := .held z) (zp := []) rfl hkey
 obtain ⟨h1, h2⟩ := hx x
 rw [hrun]
 cases hf : f x with
 | some v' =>
  rw [h2 v' hf] at hv
  have : DataW.held v = DataW.held v' := by unfold heldR at hv; cases hv; rfl
  cases this; rfl
 | none =>
  rw [hf] at h1
  rw [Maps.atKey_of_not_has h1] at hv
  have : DataW.held v = DataW.held z := by unfold heldR at hv; cases hv; rfl
  cases this; rfl
theorem tight {D : DataW Value} {m : Nat} (h : w.ownsMap P k heldR b m D) : w.ownsMap P k heldR b (Maps.size D) D := by
 obtain ⟨es, clock, h1, h2, h3, rfl⟩ := h
 exact ⟨es, clock, h1, h2, by simp [Maps.size, length_sorted], rfl⟩
theorem MapF.store {t e : TypeId} (E : KeyEmb c) (h : MapF P k c w b n f) (K : Keyed P k) (ht : P.underlying t = some (.map k e)) (hn : n < maxLen) {key val : Value} {x : κ} (hkey : keyOf P k key = some (c x)) :
  ∃ w', (Instr.mapUpdate t (.map (some b)) key val).run P w = .ok () w' ∧ MapF P k c w' b (if (f x).isSome then n else n + 1) (upd f x val) ∧ w.mapTurned w' b := by
 obtain ⟨D, h, hs, hx⟩ := h
 obtain ⟨w', hrun, h', ht'⟩ := h.store K ht hn (val := val) (d := .held val) (ps := []) hkey rfl
 have hsz : Maps.size (D.put (c x) (.held val)) = if (f x).isSome then n else n + 1 := by
  rw [Maps.size_put (h.tidy K), (hx x).1, hs]
 refine ⟨w', hrun, ⟨D.put (c x) (.held val), by rw [← hsz]; exact tight h', hsz, fun y => ?_⟩, ht'⟩
 by_cases hy : y = x
 ·subst hy
  refine ⟨by rw [Maps.has_put_same h.isMap (E.key y)]; simp [upd], fun v hv z => ?_⟩
  have : val = v := by simpa [upd] using hv
  rw [Maps.atKey_put_same h.isMap (E.key y), this]
 ·have hne : c y ≠ c x := fun h => hy (E.inj h)
  refine ⟨by rw [Maps.has_put_other hne, (hx y).1]; simp [upd, hy], fun v hv z => ?_⟩
  rw [Maps.atKey_put_other hne]
  exact (hx y).2 v (by simpa [upd, hy] using hv) z
theorem MapF.drop {t e : TypeId} (E : KeyEmb c) (h : MapF P k c w b n f) (K : Keyed P k) (ht : P.underlying t = some (.map k e)) {key : Value} {x : κ} (hkey : keyOf P k key = some (c x)) (ty : TypeId) :
  ∃ w', (Builtin.delete_ #[t, k] ty #[.map (some b), key]).run P w = .ok (.tuple #[]) w' ∧ MapF P k c w' b (if (f x).isSome then n - 1 else n) (del f x) ∧ w.mapTurned w' b := by
 obtain ⟨D, h, hs, hx⟩ := h
 obtain ⟨w', hrun, h', ht'⟩ := h.drop K ht hkey ty
 have hsz : Maps.size (D.del (c x)) = if (f x).isSome then n - 1 else n := by
  have := Maps.size_del (k := c x) (h.tidy K)
  rw [(hx x).1, hs] at this
  split at this <;> rename_i hh <;> simp only [hh] <;> simp <;> omega
 refine ⟨w', hrun, ⟨D.del (c x), by rw [← hsz]; exact tight h', hsz, fun y => ?_⟩, ht'⟩
 by_cases hy : y = x
 ·subst hy
  exact ⟨by rw [Maps.has_del_same]; simp [del], fun v hv z => by simp [del] at hv⟩
 ·have hne : c y ≠ c x := fun h => hy (E.inj h)
  refine ⟨by rw [Maps.has_del_other hne, (hx y).1]; simp [del, hy], fun v hv z => ?_⟩
  rw [Maps.atKey_del_other hne]
  exact (hx y).2 v (by simpa [del, hy] using hv) z
theorem MapF.len {t e : TypeId} (h : MapF P k c w b n f) (ht : P.underlying t = some (.map k e)) (ty : TypeId) : (Builtin.len_ #[t] ty #[.map (some b)]).run P w = .ok (.int .i64 n) w := by
 obtain ⟨D, h, hs, hx⟩ := h
 rw [h.len ht ty, hs]
end
section
variable {κ : Type} [DecidableEq κ] {P : Program} {k : TypeId} {c : κ → Lit} {b n : Nat} {f : κ → Option Value} {F : Fence} {nF : Nat} (w : World) {ops : Array Oper} {rest : List Oper} {o : Oper} {a : Act} {Q : Exit → Act → World → Prop}
theorem wpList_store (hg : o.guard = none) (m x v : Operand) (t : TypeId) (hop : o.op = Op.mapUpdate t m x v) (e : TypeId) (E : KeyEmb c) (h : MapF P k c w b n f) (K : Keyed P k) (ht : P.underlying t = some (.map k e)) (hn : n < maxLen)
  (hm : a.eval m = .map (some b)) (key val : Value) (y : κ) (hx : a.eval x = key) (hv : a.eval v = val) (hkey : keyOf P k key = some (c y))
  (hK : ∀ w', MapF P k c w' b (if (f y).isSome then n else n + 1) (upd f y val) → w.mapTurned w' b → wpList P ops Q rest (a.put o.dst undef) w') : wpList P ops Q (o :: rest) a w := by
 refine wpList_plain hg fun K' hK' => ?_
 obtain ⟨w', hrun, r1, r2⟩ := h.store E K ht hn (val := val) hkey
 unfold Oper.wp
 simp [execOp, hop, hm, hx, hv, hrun, Result.andThen]
 exact hK' _ _ (hK w' r1 r2)
end
end Go.Proofs.MapFun
namespace Go.Proofs.YtcbfbefpbjmglaaGreatDoor.Mac
open Go.RowKit MapFun PA YtcbfbefpbjmglaaGreatDoorT YtcbfbefpbjmglaaGreatDoorW PrintWords PrintLast PrintMore
def seenF (l : List ByteArray) (y : List UInt8) : Option Value := if l.any (fun p => decide (y = p.data.toList)) then some (.bool true) else none
theorem contB_any (l : List ByteArray) (x : ByteArray) : contB l x = l.any (fun p => decide (x.data.toList = p.data.toList)) := by
 induction l with
 | nil => rfl
 | cons y l ih => rw [contB, ih, List.any_cons, ByteArray.toList_eq, ByteArray.toList_eq]
theorem seenF_look (l : List ByteArray) (x : ByteArray) : (seenF l x.data.toList).getD (.bool false) = .bool (contB l x) := by
 rw [contB_any]; unfold seenF
 cases l.any (fun p => decide (x.data.toList = p.data.toList)) <;> rfl
theorem seenF_none (l : List ByteArray) (x : ByteArray) (h : contB l x = false) : (seenF l x.data.toList).isSome = false := by
 rw [contB_any] at h; unfold seenF; rw [h]; rfl
theorem seenF_cons (l : List ByteArray) (x : ByteArray) : upd (seenF l) x.data.toList (.bool true) = seenF (x :: l) := by
 funext y
 unfold upd seenF
 rw [List.any_cons]
 by_cases h : y = x.data.toList
 ·rw [if_pos h, decide_eq_true h, Bool.true_or]; rfl
 ·rw [if_neg h, decide_eq_false h, Bool.false_or]
theorem isName_c (s : ByteArray) (hs : s.size < 4294967281) (w : World) (hT : Tab w) : Calls Tryz.prog 34 #[.string s] w (BoolBelow (isNameP s) w) :=
 macro_isName.calls s _ w hT (isName_f s hs)
theorem str_at {w : World} {A : Option Addr} {l : List ByteArray} (h : Kd.C Kd.string w A l.length l) {k : Nat} (hk : k < l.length) : ∃ ad, A = some ad ∧ w.cell? (ad.add k) = some (.string l[k]) := by
 obtain ⟨ad, hA, hr⟩ := h.2.2 (by omega)
 obtain ⟨c, h1, h2, h3⟩ := hr k l[k] (by simp [hk])
 refine ⟨ad, hA, ?_⟩
 have hc : c = [.string l[k]] := h2
 have := h3 0 (.string l[k]) (by rw [hc]; rfl)
 simpa [Kd.string, Kd.scalar] using this
structure MSt (w W : World) (B : Nat) (nm : ByteArray) (fn more : Bool) (Ap Ab : Option Addr) (cp cb : Nat) (params : List ByteArray) (body : List S55) : Prop where
 m : W.heap[B]? = some (.cells #[.string nm, .bool fn, .slice Ap params.length cp, .bool more, .slice Ab body.length cb] 33 (0, 0))
 p : Kd.C Kd.string W Ap params.length params
 b : Kd.C k55 W Ab body.length body
 bw : Below w.heap.size w W
 s : w.heap.size ≤ W.heap.size
 t : Tab W
theorem MSt.below {w W W' : World} {B : Nat} {nm : ByteArray} {fn more : Bool} {Ap Ab : Option Addr} {cp cb : Nat} {params : List ByteArray} {body : List S55} (h : MSt w W B nm fn more Ap Ab cp cb params body) (hb : Below W.heap.size W W') : MSt w W' B nm fn more Ap Ab cp cb params body :=
 ⟨(hb.block _ (blk_lt h.m)).trans h.m, Kd.C_below h.p hb, Kd.C_below h.b hb, h.bw.trans (hb.mono h.s), Nat.le_trans h.s hb.size, h.t.grow hb⟩
theorem law9 : Maps.Keyed Tryz.prog 9 := Go.Maps.string_keyed Tryz.underlying9
theorem zero4 (w : World) : (zeroValue 4).run Tryz.prog w = .ok (.bool false) w := by kernel_rfl
theorem MSt.turned {w W W' : World} {B mb : Nat} {nm : ByteArray} {fn more : Bool} {Ap Ab : Option Addr} {cp cb : Nat} {params : List ByteArray} {body : List S55} (h : MSt w W B nm fn more Ap Ab cp cb params body) (hg : W.grownBy W' (some mb)) (hB : B ≠ mb) (hmb : w.heap.size ≤ mb)
  (h0 : Kd.C Kd.string w Ap params.length params ∧ Kd.C k55 w Ab body.length body ∧ Tab w) : MSt w W' B nm fn more Ap Ab cp cb params body := by
 have hb := h.bw.grown hg h.s (fun k e => by cases e; exact hmb)
 exact ⟨(hg.block B (blk_lt h.m) (by simpa using hB)).trans h.m, Kd.C_below h0.1 hb, Kd.C_below h0.2.1 hb, hb, hb.size, h0.2.2.grow hb⟩
def DomM (nm : ByteArray) (params : List ByteArray) (body : List S55) : Prop := nm.size ≤ 1048576 ∧ params.length ≤ 2000000 ∧ body.length ≤ 1000000 ∧ (∀ p ∈ params, p.size ≤ 1048576) ∧ (∀ t ∈ body, t.f1.size ≤ 1048576)
theorem goodParams_at (l : List ByteArray) (seen : List ByteArray) (k : Nat) (hk : k < l.length) : goodParams seen (l.drop k) = (isNameP l[k] && (!contB seen l[k] && goodParams (l[k] :: seen) (l.drop (k + 1)))) := by
 rw [List.drop_eq_getElem_cons hk, goodParams]
theorem take_rev (l : List ByteArray) (k : Nat) (hk : k < l.length) : (l.take (k + 1)).reverse = l[k] :: (l.take k).reverse := by
 rw [List.take_succ_eq_append_getElem hk, List.reverse_append]; rfl
set_option maxHeartbeats 1000000 in
theorem right_c (nm : ByteArray) (fn more : Bool) (Ap Ab : Option Addr) (cp cb : Nat) (params : List ByteArray) (body : List S55) (w : World) (hT : Tab w) (hd : DomM nm params body)
  (hP : Kd.C Kd.string w Ap params.length params) (hpc : params.length ≤ cp) (hB : Kd.C k55 w Ab body.length body) (hbc : body.length ≤ cb) :
  Calls Tryz.prog 21 #[.agg #[.string nm, .bool fn, .slice Ap params.length cp, .bool more, .slice Ab body.length cb]] w (BoolBelow (rightP nm fn params more body) w) := by
 obtain ⟨W0, hW0⟩ : ∃ W0, w.alloc (.cells #[.string nm, .bool fn, .slice Ap params.length cp, .bool more, .slice Ab body.length cb] 33) = W0 := ⟨_, rfl⟩
 have hb0 : Below w.heap.size w W0 := by rw [← hW0]; exact (Below.refl _ w).alloc (Nat.le_refl _) _
 obtain ⟨B, hBw⟩ : ∃ B, w.heap.size = B := ⟨_, rfl⟩
 have hs : MSt w W0 B nm fn more Ap Ab cp cb params body := by
  refine ⟨?_, Kd.C_below hP hb0, Kd.C_below hB hb0, hb0, hb0.size, hT.grow hb0⟩
  rw [← hW0, ← hBw]; exact blk_new w _
 have c0 : W0.cell? ⟨B, 0, none⟩ = some (.string nm) := bC hs.m 0
 have c1 : W0.cell? ⟨B, 1, none⟩ = some (.bool fn) := bC hs.m 1
 have c2 : W0.cell? ⟨B, 2, none⟩ = some (.slice Ap params.length cp) := bC hs.m 2
 have c3 : W0.cell? ⟨B, 3, none⟩ = some (.bool more) := bC hs.m 3
 have HS := Lib.hid hs
 have HD := Lib.hid hd
 have hnmS : nm.size < 4294967281 := by have := hd.1; omega
 have hNm := isName_c nm hnmS W0 hs.t
 have HP0 := Lib.hid (And.intro hP (And.intro hB hT))
 clear hT hb0 hs hP hB hd
 cases hn : isNameP nm with
 | false =>
  have key : rightP nm fn params more body = false := by unfold rightP; rw [hn, Bool.false_and]
  rw [key]
  rw [hn] at hNm
  have HN := Lib.hid hNm
  clear hNm hn key
  go_enter Tryz.func21, Tryz.ntmps21
  go_wp2_with (go_at_call 34; refine HN.out.mono ?_; rintro e w1 ⟨rfl, hb1⟩; have HB1 := Lib.hid hb1; clear hb1)
  go_ret
  exact ⟨rfl, (HS.out.below HB1.out).bw⟩
 | true =>
  rw [hn] at hNm
  have HN := Lib.hid hNm
  have NmH := Lib.hid hn
  clear hn
  cases hdef : (nm.toList == [100, 101, 102, 105, 110, 101, 100]) with
  | true =>
   have KEY := Lib.hid (show rightP nm fn params more body = false by unfold rightP; rw [hdef]; simp)
   clear hNm
   go_enter Tryz.func21, Tryz.ntmps21
   go_wp2_with (go_at_call 34; refine HN.out.mono ?_; rintro e w1 ⟨rfl, hb1⟩; have hs1 := HS.out.below hb1; clear c0 c1 c2 c3; have c0 : w1.cell? ⟨B, 0, none⟩ = some (.string nm) := bC hs1.m 0; have c1 : w1.cell? ⟨B, 1, none⟩ = some (.bool fn) := bC hs1.m 1; have c2 : w1.cell? ⟨B, 2, none⟩ = some (.slice Ap params.length cp) := bC hs1.m 2; have c3 : w1.cell? ⟨B, 3, none⟩ = some (.bool more) := bC hs1.m 3; have HS1 := Lib.hid hs1; clear hb1 hs1)
   go_ret
   rw [KEY.out]
   exact ⟨rfl, HS1.out.bw⟩
  | false =>
   by_cases h16 : params.length ≤ 16
   ·have d16 : decide (16 < (params.length : Int)) = false := decide_eq_false (by omega)
    have d16' : ¬ (16 < (params.length : Int)) := by omega
    cases fn with
    | true =>
     have KEY := Lib.hid (show rightP nm true params more body = (goodParams [] params && isBodyP true params more body) by unfold rightP; simp only [NmH.out, hdef, decide_eq_true h16]; simp)
     clear hNm
     have hmm := @run_makeMap Tryz.prog
     go_enter Tryz.func21, Tryz.ntmps21
     go_wp2_with (go_at_call 34; refine HN.out.mono ?_; rintro e w1 ⟨rfl, hb1⟩; have hs1 := HS.out.below hb1; clear c0 c1 c2 c3; have c0 : w1.cell? ⟨B, 0, none⟩ = some (.string nm) := bC hs1.m 0; have c1 : w1.cell? ⟨B, 1, none⟩ = some (.bool true) := bC hs1.m 1; have c2 : w1.cell? ⟨B, 2, none⟩ = some (.slice Ap params.length cp) := bC hs1.m 2; have c3 : w1.cell? ⟨B, 3, none⟩ = some (.bool more) := bC hs1.m 3; have hBl : B < w1.heap.size := blk_lt hs1.m; have HS1 := Lib.hid hs1; clear hb1 hs1)
     have hs2 := HS1.out.below (bA (Below.refl _ _) (.map #[] 0))
     have hmf := MapF.made w1 Tryz.prog 9 Lit.string
     have hBm : B < w1.heap.size := hBl
     have hwm : w.heap.size ≤ w1.heap.size := HS1.out.s
     obtain ⟨mb, hmb⟩ : ∃ mb, w1.heap.size = mb := ⟨_, rfl⟩
     obtain ⟨W2, hW2⟩ : ∃ W2, w1.alloc (.map #[] 0) = W2 := ⟨_, rfl⟩
     rw [hW2] at hs2 hmf ⊢
     rw [hmb] at hmf hBm hwm ⊢
     have HBM := Lib.hid (And.intro hBm hwm)
     clear hW2 hmb hmm c0 c1 c2 c3 HS1 hBl hBm hwm
     go_loopw [40] (fun i W => ∃ k : Nat, k ≤ params.length ∧ i = .int .i64 k ∧ MSt w W B nm true more Ap Ab cp cb params body ∧ MapF Tryz.prog 9 Lit.string W mb k (seenF (params.take k).reverse) ∧ Hid (goodParams [] params = goodParams (params.take k).reverse (params.drop k))) (fun i _ => params.length - (intOf i).toNat)
     case atStart => exact ⟨0, Nat.zero_le _, rfl, hs2, hmf, Lib.hid rfl⟩
     case round =>
      clear hs2 hmf
      obtain ⟨k, hk, rfl, hI, hM, HR⟩ := hrel
      by_cases hlt : k < params.length
      ·obtain ⟨ad, had, a0⟩ := str_at hI.p hlt
       subst had
       have hga := goodParams_at params (params.take k).reverse k hlt
       have htr := take_rev params k hlt
       have hps : params[k].size < 4294967281 := by have := HD.out.2.2.2.1 _ (List.getElem_mem hlt); omega
       obtain ⟨p, hpk⟩ : ∃ p, params[k] = p := ⟨_, rfl⟩
       rw [hpk] at a0 hga htr hps
       have hip := isName_c p hps wr hI.t
       have HI := Lib.hid (And.intro hI hM)
       have hHR := HR.out
       rw [hga] at hHR
       clear hI hM hpk HR hga
       cases hnp : isNameP p with
       | false =>
        rw [hnp] at hip hHR
        have HF := Lib.hid (show goodParams [] params = false by rw [hHR, Bool.false_and])
        have HIP := Lib.hid hip
        clear hip hHR hnp htr
        go_wp2_with (go_at_call 34; refine HIP.out.mono ?_; rintro e w3 ⟨rfl, hb3⟩; have HS3 := Lib.hid (HI.out.1.below hb3); clear hb3)
        go_ret
        rw [KEY.out, HF.out]
        exact ⟨rfl, HS3.out.bw⟩
       | true =>
        rw [hnp, Bool.true_and] at hHR
        rw [hnp] at hip
        have HIP := Lib.hid hip
        have hko := Go.WideMaps.keyOf_string_mk (s := p) Tryz.underlying9 (by unfold maxLen; omega)
        have HK := Lib.hid hko
        have HML := Lib.hid (show k < maxLen by have := h16; unfold maxLen; omega)
        clear hip hnp hko
        cases hcb : contB (params.take k).reverse p with
        | true =>
         rw [hcb] at hHR
         have HF := Lib.hid (show goodParams [] params = false by rw [hHR]; rfl)
         have HL := Lib.hid (show (seenF (params.take k).reverse p.data.toList).getD (.bool false) = .bool true by rw [seenF_look, hcb])
         clear hHR hcb htr
         go_wp2_with (go_at_call 34; refine HIP.out.mono ?_; rintro e w3 ⟨rfl, hb3⟩; have hlk := (HI.out.2.block (hb3.block mb HI.out.2.lt)).look law9 Tryz.underlying79 (zero4 _) HK.out; rw [HL.out] at hlk; have HS3 := Lib.hid (HI.out.1.below hb3); clear hb3)
         go_ret
         rw [KEY.out, HF.out]
         exact ⟨rfl, HS3.out.bw⟩
        | false =>
         rw [hcb, Bool.not_false, Bool.true_and] at hHR
         have HL := Lib.hid (show (seenF (params.take k).reverse p.data.toList).getD (.bool false) = .bool false by rw [seenF_look, hcb])
         have HN2 := Lib.hid (seenF_none _ _ hcb)
         have HHR := Lib.hid (And.intro hHR htr)
         clear hHR hcb htr
         go_wp2_with (first
          | (go_at_call 34; refine HIP.out.mono ?_; rintro e w3 ⟨rfl, hb3⟩; have hm3 := HI.out.2.block (hb3.block mb HI.out.2.lt); have hlk := hm3.look law9 Tryz.underlying79 (zero4 _) HK.out; rw [HL.out] at hlk; have HS3 := Lib.hid (And.intro (HI.out.1.below hb3) hm3); clear hb3 hm3)
          | (at_mapUpdate; refine wpList_store _ rfl _ _ _ 79 rfl 4 strEmb HS3.out.2 law9 Tryz.underlying79 HML.out rfl (.string p) (.bool true) p.data.toList rfl rfl HK.out ?_; intro w4 m4 t4; have HM4 := Lib.hid (And.intro m4 t4); clear m4 t4))
         go_roundw
         case rel =>
          refine ⟨k + 1, by omega, by go_num, HS3.out.1.turned HM4.out.2.grown (by have := HBM.out.1; omega) HBM.out.2 HP0.out, ?_, Lib.hid ?_⟩
          ·have := HM4.out.1
           rw [HN2.out, seenF_cons, ← HHR.out.2] at this
           simpa using this
          ·rw [HHR.out.1, HHR.out.2]
         case measure => simp [intOf]; omega
      ·have hall : params.take k = params := List.take_of_length_le (by omega)
       have HG := Lib.hid (show goodParams [] params = true by rw [HR.out, List.drop_eq_nil_of_le (by omega)]; rfl)
       have c0 : wr.cell? ⟨B, 0, none⟩ = some (.string nm) := bC hI.m 0
       have c1 : wr.cell? ⟨B, 1, none⟩ = some (.bool true) := bC hI.m 1
       have c2 : wr.cell? ⟨B, 2, none⟩ = some (.slice Ap params.length cp) := bC hI.m 2
       have c3 : wr.cell? ⟨B, 3, none⟩ = some (.bool more) := bC hI.m 3
       have c4 : wr.cell? ⟨B, 4, none⟩ = some (.slice Ab body.length cb) := bC hI.m 4
       have HI := Lib.hid hI
       clear hall hI hM HR
       go_wp2_with (go_at_call 35; refine (isBody_c nm true more Ap Ab cp cb params body _ HI.out.t (Nat.le_trans h16 (by decide)) HD.out.2.2.1 HD.out.2.2.2.2 HI.out.p hpc HI.out.b hbc).mono ?_; rintro e w5 ⟨rfl, hb5⟩; have HS5 := Lib.hid (HI.out.below hb5); clear hb5)
       go_ret
       rw [KEY.out, HG.out, Bool.true_and]
       exact ⟨rfl, HS5.out.bw⟩
    | false =>
     cases more with
     | true =>
      have KEY := Lib.hid (show rightP nm false params true body = false by unfold rightP; simp)
      clear hNm
      go_enter Tryz.func21, Tryz.ntmps21
      go_wp2_with (go_at_call 34; refine HN.out.mono ?_; rintro e w1 ⟨rfl, hb1⟩; have hs1 := HS.out.below hb1; clear c0 c1 c2 c3; have c0 : w1.cell? ⟨B, 0, none⟩ = some (.string nm) := bC hs1.m 0; have c1 : w1.cell? ⟨B, 1, none⟩ = some (.bool false) := bC hs1.m 1; have c2 : w1.cell? ⟨B, 2, none⟩ = some (.slice Ap params.length cp) := bC hs1.m 2; have c3 : w1.cell? ⟨B, 3, none⟩ = some (.bool true) := bC hs1.m 3; have HS1 := Lib.hid hs1; clear hb1 hs1)
      go_ret
      rw [KEY.out]
      exact ⟨rfl, HS1.out.bw⟩
     | false =>
      by_cases hp0 : 0 < params.length
      ·have d0 : decide (0 < (params.length : Int)) = true := decide_eq_true (by omega)
       have d0' : 0 < (params.length : Int) := by omega
       have KEY := Lib.hid (show rightP nm false params false body = false by unfold rightP; simp [hp0])
       clear hNm
       go_enter Tryz.func21, Tryz.ntmps21
       go_wp2_with (go_at_call 34; refine HN.out.mono ?_; rintro e w1 ⟨rfl, hb1⟩; have hs1 := HS.out.below hb1; clear c0 c1 c2 c3; have c0 : w1.cell? ⟨B, 0, none⟩ = some (.string nm) := bC hs1.m 0; have c1 : w1.cell? ⟨B, 1, none⟩ = some (.bool false) := bC hs1.m 1; have c2 : w1.cell? ⟨B, 2, none⟩ = some (.slice Ap params.length cp) := bC hs1.m 2; have c3 : w1.cell? ⟨B, 3, none⟩ = some (.bool false) := bC hs1.m 3; have HS1 := Lib.hid hs1; clear hb1 hs1)
       go_ret
       rw [KEY.out]
       exact ⟨rfl, HS1.out.bw⟩
      ·have d0 : decide (0 < (params.length : Int)) = false := decide_eq_false (by omega)
       have d0' : ¬ (0 < (params.length : Int)) := by omega
       have KEY := Lib.hid (show rightP nm false params false body = (goodParams [] params && isBodyP false params false body) by unfold rightP; simp only [NmH.out, hdef, decide_eq_true h16]; simp [hp0])
       clear hNm
       have hmm := @run_makeMap Tryz.prog
       go_enter Tryz.func21, Tryz.ntmps21
       go_wp2_with (go_at_call 34; refine HN.out.mono ?_; rintro e w1 ⟨rfl, hb1⟩; have hs1 := HS.out.below hb1; clear c0 c1 c2 c3; have c0 : w1.cell? ⟨B, 0, none⟩ = some (.string nm) := bC hs1.m 0; have c1 : w1.cell? ⟨B, 1, none⟩ = some (.bool false) := bC hs1.m 1; have c2 : w1.cell? ⟨B, 2, none⟩ = some (.slice Ap params.length cp) := bC hs1.m 2; have c3 : w1.cell? ⟨B, 3, none⟩ = some (.bool false) := bC hs1.m 3; have hBl : B < w1.heap.size := blk_lt hs1.m; have HS1 := Lib.hid hs1; clear hb1 hs1)
       have hs2 := HS1.out.below (bA (Below.refl _ _) (.map #[] 0))
       have hmf := MapF.made w1 Tryz.prog 9 Lit.string
       have hBm : B < w1.heap.size := hBl
       have hwm : w.heap.size ≤ w1.heap.size := HS1.out.s
       obtain ⟨mb, hmb⟩ : ∃ mb, w1.heap.size = mb := ⟨_, rfl⟩
       obtain ⟨W2, hW2⟩ : ∃ W2, w1.alloc (.map #[] 0) = W2 := ⟨_, rfl⟩
       rw [hW2] at hs2 hmf ⊢
       rw [hmb] at hmf hBm hwm ⊢
       have HBM := Lib.hid (And.intro hBm hwm)
       clear hW2 hmb hmm c0 c1 c2 c3 HS1 hBl hBm hwm
       go_loopw [40] (fun i W => ∃ k : Nat, k ≤ params.length ∧ i = .int .i64 k ∧ MSt w W B nm false false Ap Ab cp cb params body ∧ MapF Tryz.prog 9 Lit.string W mb k (seenF (params.take k).reverse) ∧ Hid (goodParams [] params = goodParams (params.take k).reverse (params.drop k))) (fun i _ => params.length - (intOf i).toNat)
       case atStart => exact ⟨0, Nat.zero_le _, rfl, hs2, hmf, Lib.hid rfl⟩
       case round =>
        clear hs2 hmf
        obtain ⟨k, hk, rfl, hI, hM, HR⟩ := hrel
        by_cases hlt : k < params.length
        ·obtain ⟨ad, had, a0⟩ := str_at hI.p hlt
         subst had
         have hga := goodParams_at params (params.take k).reverse k hlt
         have htr := take_rev params k hlt
         have hps : params[k].size < 4294967281 := by have := HD.out.2.2.2.1 _ (List.getElem_mem hlt); omega
         obtain ⟨p, hpk⟩ : ∃ p, params[k] = p := ⟨_, rfl⟩
         rw [hpk] at a0 hga htr hps
         have hip := isName_c p hps wr hI.t
         have HI := Lib.hid (And.intro hI hM)
         have hHR := HR.out
         rw [hga] at hHR
         clear hI hM hpk HR hga
         cases hnp : isNameP p with
         | false =>
          rw [hnp] at hip hHR
          have HF := Lib.hid (show goodParams [] params = false by rw [hHR, Bool.false_and])
          have HIP := Lib.hid hip
          clear hip hHR hnp htr
          go_wp2_with (go_at_call 34; refine HIP.out.mono ?_; rintro e w3 ⟨rfl, hb3⟩; have HS3 := Lib.hid (HI.out.1.below hb3); clear hb3)
          go_ret
          rw [KEY.out, HF.out]
          exact ⟨rfl, HS3.out.bw⟩
         | true =>
          rw [hnp, Bool.true_and] at hHR
          rw [hnp] at hip
          have HIP := Lib.hid hip
          have hko := Go.WideMaps.keyOf_string_mk (s := p) Tryz.underlying9 (by unfold maxLen; omega)
          have HK := Lib.hid hko
          have HML := Lib.hid (show k < maxLen by have := h16; unfold maxLen; omega)
          clear hip hnp hko
          cases hcb : contB (params.take k).reverse p with
          | true =>
           rw [hcb] at hHR
           have HF := Lib.hid (show goodParams [] params = false by rw [hHR]; rfl)
           have HL := Lib.hid (show (seenF (params.take k).reverse p.data.toList).getD (.bool false) = .bool true by rw [seenF_look, hcb])
           clear hHR hcb htr
           go_wp2_with (go_at_call 34; refine HIP.out.mono ?_; rintro e w3 ⟨rfl, hb3⟩; have hlk := (HI.out.2.block (hb3.block mb HI.out.2.lt)).look law9 Tryz.underlying79 (zero4 _) HK.out; rw [HL.out] at hlk; have HS3 := Lib.hid (HI.out.1.below hb3); clear hb3)
           go_ret
           rw [KEY.out, HF.out]
           exact ⟨rfl, HS3.out.bw⟩
          | false =>
           rw [hcb, Bool.not_false, Bool.true_and] at hHR
           have HL := Lib.hid (show (seenF (params.take k).reverse p.data.toList).getD (.bool false) = .bool false by rw [seenF_look, hcb])
           have HN2 := Lib.hid (seenF_none _ _ hcb)
           have HHR := Lib.hid (And.intro hHR htr)
           clear hHR hcb htr
           go_wp2_with (first
            | (go_at_call 34; refine HIP.out.mono ?_; rintro e w3 ⟨rfl, hb3⟩; have hm3 := HI.out.2.block (hb3.block mb HI.out.2.lt); have hlk := hm3.look law9 Tryz.underlying79 (zero4 _) HK.out; rw [HL.out] at hlk; have HS3 := Lib.hid (And.intro (HI.out.1.below hb3) hm3); clear hb3 hm3)
            | (at_mapUpdate; refine wpList_store _ rfl _ _ _ 79 rfl 4 strEmb HS3.out.2 law9 Tryz.underlying79 HML.out rfl (.string p) (.bool true) p.data.toList rfl rfl HK.out ?_; intro w4 m4 t4; have HM4 := Lib.hid (And.intro m4 t4); clear m4 t4))
           go_roundw
           case rel =>
            refine ⟨k + 1, by omega, by go_num, HS3.out.1.turned HM4.out.2.grown (by have := HBM.out.1; omega) HBM.out.2 HP0.out, ?_, Lib.hid ?_⟩
            ·have := HM4.out.1
             rw [HN2.out, seenF_cons, ← HHR.out.2] at this
             simpa using this
            ·rw [HHR.out.1, HHR.out.2]
           case measure => simp [intOf]; omega
        ·have hall : params.take k = params := List.take_of_length_le (by omega)
         have HG := Lib.hid (show goodParams [] params = true by rw [HR.out, List.drop_eq_nil_of_le (by omega)]; rfl)
         have c0 : wr.cell? ⟨B, 0, none⟩ = some (.string nm) := bC hI.m 0
         have c1 : wr.cell? ⟨B, 1, none⟩ = some (.bool false) := bC hI.m 1
         have c2 : wr.cell? ⟨B, 2, none⟩ = some (.slice Ap params.length cp) := bC hI.m 2
         have c3 : wr.cell? ⟨B, 3, none⟩ = some (.bool false) := bC hI.m 3
         have c4 : wr.cell? ⟨B, 4, none⟩ = some (.slice Ab body.length cb) := bC hI.m 4
         have HI := Lib.hid hI
         clear hall hI hM HR
         go_wp2_with (go_at_call 35; refine (isBody_c nm false false Ap Ab cp cb params body _ HI.out.t (Nat.le_trans h16 (by decide)) HD.out.2.2.1 HD.out.2.2.2.2 HI.out.p hpc HI.out.b hbc).mono ?_; rintro e w5 ⟨rfl, hb5⟩; have HS5 := Lib.hid (HI.out.below hb5); clear hb5)
         go_ret
         rw [KEY.out, HG.out, Bool.true_and]
         exact ⟨rfl, HS5.out.bw⟩
   ·have d16 : decide (16 < (params.length : Int)) = true := decide_eq_true (by omega)
    have d16' : 16 < (params.length : Int) := by omega
    have KEY := Lib.hid (show rightP nm fn params more body = false by unfold rightP; rw [decide_eq_false h16]; simp)
    clear hNm
    go_enter Tryz.func21, Tryz.ntmps21
    go_wp2_with (go_at_call 34; refine HN.out.mono ?_; rintro e w1 ⟨rfl, hb1⟩; have hs1 := HS.out.below hb1; clear c0 c1 c2 c3; have c0 : w1.cell? ⟨B, 0, none⟩ = some (.string nm) := bC hs1.m 0; have c1 : w1.cell? ⟨B, 1, none⟩ = some (.bool fn) := bC hs1.m 1; have c2 : w1.cell? ⟨B, 2, none⟩ = some (.slice Ap params.length cp) := bC hs1.m 2; have c3 : w1.cell? ⟨B, 3, none⟩ = some (.bool more) := bC hs1.m 3; have HS1 := Lib.hid hs1; clear hb1 hs1)
    go_ret
    rw [KEY.out]
    exact ⟨rfl, HS1.out.bw⟩
end Go.Proofs.YtcbfbefpbjmglaaGreatDoor.Mac
namespace Go.Proofs.YtcbfbefpbjmglaaGreatDoor.Mac
open Go.ChangeShapes Go.WideShapes Go.ChangeAt Go.RowKit YtcbfbefpbjmglaaGreatDoor.PA YtcbfbefpbjmglaaGreatDoorT YtcbfbefpbjmglaaGreatDoorW.PrintWords
theorem bulk_mem {H : Type} {d : DataW H} : ∀ {l : List (DataW H)}, d ∈ l → Rows.uptoBulk d ≤ Rows.uptoBulkAll l := by
 intro l
 induction l with
 | nil => intro h; cases h
 | cons x l ih =>
  intro h
  rw [Rows.uptoBulkAll]
  rcases List.mem_cons.1 h with rfl | h
  ·omega
  ·have := ih h; omega
theorem bulk_len {H : Type} : ∀ {l : List (DataW H)}, (∀ d ∈ l, 1 ≤ Rows.uptoBulk d) → l.length ≤ Rows.uptoBulkAll l := by
 intro l
 induction l with
 | nil => intro _; exact Nat.zero_le _
 | cons x l ih =>
  intro h
  rw [Rows.uptoBulkAll, List.length_cons]
  have := h x (by simp)
  have := ih (fun d hd => h d (by simp [hd]))
  omega
theorem bulk_len2 {H : Type} : ∀ {l : List (DataW H)}, (∀ d ∈ l, 2 ≤ Rows.uptoBulk d) → 2 * l.length ≤ Rows.uptoBulkAll l := by
 intro l
 induction l with
 | nil => intro _; exact Nat.zero_le _
 | cons x l ih =>
  intro h
  rw [Rows.uptoBulkAll, List.length_cons]
  have := h x (by simp)
  have := ih (fun d hd => h d (by simp [hd]))
  omega
set_option maxRecDepth 20000 in
theorem openedT {H : Type} {enc : TypeId × Value → H} {W : World} {a : Option Addr} {len cap : Nat} {x : DataW H × List MemPlace}
  (h : ∃ n, DataW.trod enc Tryz.prog W 0 (fun _ => true) true n 31 (Value.slice a len cap).cells.toList = some x) :
  ∃ l : List S55, l.length = len ∧ len ≤ cap ∧ Kd.C k55 W a len l ∧ (∀ y ∈ l, y.f1.size ≤ Rows.uptoBulk x.1) ∧ 2 * l.length ≤ Rows.uptoBulk x.1 := by
 obtain ⟨fuel, hf⟩ := h
 have ce : Tryz.prog.cellsOf 55 = 6 := by kernel_rfl
 have c3 : Tryz.prog.cellsOf 3 = 1 := by kernel_rfl
 have c9 : Tryz.prog.cellsOf 9 = 1 := by kernel_rfl
 have c4 : Tryz.prog.cellsOf 4 = 1 := by kernel_rfl
 rcases Deep.open_slice Tryz.underlying31 hf with ⟨hcs, _⟩ | ⟨ad, l, c, m, n, D, Pl, hcs, _, hl, hm, hmm, hxe, hx⟩
 ·simp [Value.cells] at hcs
  obtain ⟨rfl, rfl, rfl⟩ := hcs
  exact ⟨[], rfl, Nat.le_refl _, ⟨rfl, by omega, fun h => absurd h (by omega)⟩, (fun y hy => by cases hy), Nat.zero_le _⟩
 ·simp [Value.cells] at hcs
  obtain ⟨rfl, rfl, rfl⟩ := hcs
  have hml : len ≤ m := by rw [hmm]; split <;> omega
  have hmax : cap ≤ 9223372036854775807 := hm
  have hbulk : Rows.uptoBulk x.1 = Rows.uptoBulkAll ((List.range len).map D) + Rows.uptoBulkAll ((List.range (m - len)).map fun j => D (len + j)) + 1 := by
   rw [hxe]; rfl
  have each : ∀ i, i < len → ∃ y : S55, (∀ j u, ([.int .i64 y.f0, .string y.f1, .string y.f2, .int .i64 y.f3, .bool y.f4, .bool y.f5] : List Value)[j]? = some u → W.cell? (ad.add (i * 6 + j)) = some u) ∧ y.f1.size ≤ Rows.uptoBulk x.1 ∧ 2 ≤ Rows.uptoBulk (D i) := fun i hi => by
   obtain ⟨cs', h1, h2⟩ := hx i (by omega)
   rw [ce] at h1
   obtain ⟨_, hlen, hcell⟩ := World.cells?_some h1
   obtain ⟨xs, k, hk, hxy, _, hxl, hff⟩ := DataW.trod_struct Tryz.underlying55 h2
   have hxl : xs.length = 6 := hxl
   match xs, hxl, cs', hlen with
   | [y0, y1, y2, y3, y4, y5], _, [v0, v1, v2, v3, v4, v5], _ =>
    have g0 := hff 0 _ rfl
    have g1 := hff 1 _ rfl
    have g2 := hff 2 _ rfl
    have g3 := hff 3 _ rfl
    have g4 := hff 4 _ rfl
    have g5 := hff 5 _ rfl
    simp [c3, c9, c4] at g0 g1 g2 g3 g4 g5
    obtain ⟨n0, e0, _, _⟩ := DataW.trod_int Tryz.underlying3 g0
    obtain ⟨s1, e1, e1', _⟩ := DataW.trod_string Tryz.underlying9 g1
    obtain ⟨s2, e2, _, _⟩ := DataW.trod_string Tryz.underlying9 g2
    obtain ⟨n3, e3, _, _⟩ := DataW.trod_int Tryz.underlying3 g3
    obtain ⟨b4, e4, _⟩ := DataW.trod_bool Tryz.underlying4 g4
    obtain ⟨b5, e5, _⟩ := DataW.trod_bool Tryz.underlying4 g5
    have e0 : v0 = .int .i64 n0 := by simpa using e0
    have e1 : v1 = .string s1 := by simpa using e1
    have e2 : v2 = .string s2 := by simpa using e2
    have e3 : v3 = .int .i64 n3 := by simpa using e3
    have e4 : v4 = .bool b4 := by simpa using e4
    have e5 : v5 = .bool b5 := by simpa using e5
    subst e0 e1 e2 e3 e4 e5
    have hD : D i = .agg [y0.1, y1.1, y2.1, y3.1, y4.1, y5.1] := by simpa using congrArg Prod.fst hxy
    have hb2 : Rows.uptoBulk (D i) = Rows.uptoBulk y0.1 + (Rows.uptoBulk y1.1 + (Rows.uptoBulk y2.1 + (Rows.uptoBulk y3.1 + (Rows.uptoBulk y4.1 + (Rows.uptoBulk y5.1 + 0))))) + 1 := by rw [hD]; rfl
    have hb7 : Rows.uptoBulk y1.1 = s1.data.toList.length + 1 := by rw [e1']; rfl
    refine ⟨⟨n0, s1, s2, n3, b4, b5⟩, fun j u hu => ?_, ?_, by omega⟩
    ·have hj : j < 6 := by have := (List.getElem?_eq_some_iff.1 hu).1; simpa using this
     have ec := hcell j hj
     rw [Deep.add_add] at ec
     rw [ec]
     exact hu
    ·have hmem : D i ∈ (List.range len).map D := List.mem_map.2 ⟨i, List.mem_range.2 hi, rfl⟩
     have hb := bulk_mem hmem
     have hb3 : Rows.uptoBulk y1.1 = s1.data.toList.length + 1 := by rw [e1']; rfl
     have hs := Lib.size_eq s1
     show s1.size ≤ _
     omega
  obtain ⟨f, hf'⟩ := Deep.choose_lt each
  refine ⟨(List.range len).map f, by simp, hl, ⟨by simp, by omega, fun hp => ⟨ad, rfl, fun j p hj => ?_⟩⟩, fun y hy => ?_, ?_⟩
  ·have hj' : j < len := by
    have := (List.getElem?_eq_some_iff.1 hj).1
    simpa using this
   have hp' : f j = p := by simpa [hj'] using hj
   obtain ⟨g0, _⟩ := hf' j hj'
   rw [hp'] at g0
   exact ⟨[.int .i64 p.f0, .string p.f1, .string p.f2, .int .i64 p.f3, .bool p.f4, .bool p.f5], rfl, k55_mk W p, fun i u hu => g0 i u hu⟩
  ·obtain ⟨j, hj, rfl⟩ := List.mem_map.1 hy
   exact (hf' j (List.mem_range.1 hj)).2.1
  ·have := bulk_len2 (H := H) (l := (List.range len).map D) (fun d hd => by
    obtain ⟨i, hi, rfl⟩ := List.mem_map.1 hd
    exact (hf' i (List.mem_range.1 hi)).2.2)
   rw [List.length_map, List.length_range] at this ⊢
   omega
set_option maxRecDepth 20000 in
theorem openedS {H : Type} {enc : TypeId × Value → H} {W : World} {a : Option Addr} {len cap : Nat} {x : DataW H × List MemPlace}
  (h : ∃ n, DataW.trod enc Tryz.prog W 0 (fun _ => true) true n 30 (Value.slice a len cap).cells.toList = some x) :
  ∃ l : List ByteArray, l.length = len ∧ len ≤ cap ∧ Kd.C Kd.string W a len l ∧ (∀ y ∈ l, y.size ≤ Rows.uptoBulk x.1) ∧ l.length ≤ Rows.uptoBulk x.1 := by
 obtain ⟨fuel, hf⟩ := h
 have c9 : Tryz.prog.cellsOf 9 = 1 := by kernel_rfl
 rcases Deep.open_slice Tryz.underlying30 hf with ⟨hcs, _⟩ | ⟨ad, l, c, m, n, D, Pl, hcs, _, hl, hm, hmm, hxe, hx⟩
 ·simp [Value.cells] at hcs
  obtain ⟨rfl, rfl, rfl⟩ := hcs
  exact ⟨[], rfl, Nat.le_refl _, ⟨rfl, by omega, fun h => absurd h (by omega)⟩, (fun y hy => by cases hy), Nat.zero_le _⟩
 ·simp [Value.cells] at hcs
  obtain ⟨rfl, rfl, rfl⟩ := hcs
  have hml : len ≤ m := by rw [hmm]; split <;> omega
  have hmax : cap ≤ 9223372036854775807 := hm
  have hbulk : Rows.uptoBulk x.1 = Rows.uptoBulkAll ((List.range len).map D) + Rows.uptoBulkAll ((List.range (m - len)).map fun j => D (len + j)) + 1 := by
   rw [hxe]; rfl
  have each : ∀ i, i < len → ∃ y : ByteArray, W.cell? (ad.add (i * 1 + 0)) = some (.string y) ∧ y.size + 1 ≤ Rows.uptoBulk (D i) := fun i hi => by
   obtain ⟨cs', h1, h2⟩ := hx i (by omega)
   rw [c9] at h1
   obtain ⟨_, hlen, hcell⟩ := World.cells?_some h1
   match cs', hlen with
   | [v0], _ =>
    obtain ⟨s1, e1, e1', _⟩ := DataW.trod_string Tryz.underlying9 h2
    have e1 : v0 = .string s1 := by simpa using e1
    subst e1
    refine ⟨s1, ?_, ?_⟩
    ·have ec := hcell 0 (by omega)
     rw [Deep.add_add] at ec
     rw [ec]
     rfl
    ·have hD : D i = .lit (.string s1.data.toList) := by simpa using congrArg Prod.fst e1'
     have hb3 : Rows.uptoBulk (D i) = s1.data.toList.length + 1 := by rw [hD]; rfl
     have hs := Lib.size_eq s1
     omega
  obtain ⟨f, hf'⟩ := Deep.choose_lt each
  refine ⟨(List.range len).map f, by simp, hl, ⟨by simp, by omega, fun hp => ⟨ad, rfl, fun j p hj => ?_⟩⟩, fun y hy => ?_, ?_⟩
  ·have hj' : j < len := by
    have := (List.getElem?_eq_some_iff.1 hj).1
    simpa using this
   have hp' : f j = p := by simpa [hj'] using hj
   obtain ⟨g0, _⟩ := hf' j hj'
   rw [hp'] at g0
   refine ⟨[.string p], rfl, rfl, fun i u hu => ?_⟩
   match i, hu with
   | 0, hu => simp at hu; subst hu; exact g0
  ·obtain ⟨j, hj, rfl⟩ := List.mem_map.1 hy
   have h1 := (hf' j (List.mem_range.1 hj)).2
   have hmem : D j ∈ (List.range len).map D := List.mem_map.2 ⟨j, hj, rfl⟩
   have hb := bulk_mem hmem
   omega
  ·have := bulk_len (H := H) (l := (List.range len).map D) (fun d hd => by
    obtain ⟨i, hi, rfl⟩ := List.mem_map.1 hd
    have := (hf' i (List.mem_range.1 hi)).2
    omega)
   rw [List.length_map, List.length_range] at this ⊢
   omega
end Go.Proofs.YtcbfbefpbjmglaaGreatDoor.Mac
