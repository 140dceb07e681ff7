import Derived.Maps.OwnSet
import Derived.Maps.OwnIn
import Derived.Test.YtcbfbefpbjmglaaDoorM5
import Derived.RangeFuncGives
import Derived.RangeFuncNested
import Derived.RangeFuncBound
import Derived.RangeFuncCalls
import Derived.RangeFuncLeaves
import Derived.RangeFuncBox
import Derived.RangeFuncWrites
import Derived.RangeFuncFrom
import Derived.OwnWalkIn
namespace Go.Proofs.MapFun
open Go.Maps (Keyed)
open Go.ChangeMaps Go.MapKept
set_option linter.unusedSectionVars false
def heldR (v : Value) : Option (DataW Value × List MemPlace) := some (.held v, [])
def upd {κ : Type} [DecidableEq κ] (f : κ → Option Value) (x : κ) (v : Value) : κ → Option Value := fun y => if y = x then some v else f y
def del {κ : Type} [DecidableEq κ] (f : κ → Option Value) (x : κ) : κ → Option Value := fun y => if y = x then none else f y
structure KeyEmb {κ : Type} (c : κ → Lit) : Prop where
 inj : ∀ {x y}, c x = c y → x = y
 key : ∀ x, WideAt.IsKeyLit (c x)
theorem strEmb : KeyEmb Lit.string := ⟨fun h => by cases h; rfl, fun x => by simp [WideAt.IsKeyLit]⟩
def MapF {κ : Type} (P : Program) (k : TypeId) (c : κ → Lit) (w : World) (b n : Nat) (f : κ → Option Value) : Prop :=
 ∃ D : DataW Value, w.ownsMap P k heldR b n D ∧ Maps.size D = n ∧ ∀ x, Maps.has D (c x) = (f x).isSome ∧ ∀ v, f x = some v → ∀ z, D.atKey (c x) z = .held v
section
variable {κ : Type} [DecidableEq κ] {P : Program} {k : TypeId} {c : κ → Lit} {w : World} {b n : Nat} {f : κ → Option Value}
theorem MapF.made (w : World) (P : Program) (k : TypeId) (c : κ → Lit) : MapF P k c (w.alloc (.map #[] 0)) w.heap.size 0 (fun _ => none) :=
 ⟨.map [], World.ownsMap_made w P k heldR, rfl, fun x => ⟨rfl, fun v h => by cases h⟩⟩
theorem MapF.lt (h : MapF P k c w b n f) : b < w.heap.size := by obtain ⟨D, h, _⟩ := h; exact h.lt
theorem MapF.kept {w' : World} {row : Option Nat} (h : MapF P k c w b n f) (hg : w.grownBy w' row) (hne : some b ≠ row) : MapF P k c w' b n f := by
 obtain ⟨D, h1, h2⟩ := h; exact ⟨D, h1.kept hg hne, h2⟩
theorem MapF.block {w' : World} (h : MapF P k c w b n f) (hb : w'.heap[b]? = w.heap[b]?) : MapF P k c w' b n f := by
 obtain ⟨D, ⟨es, clock, h1, h2⟩, h3⟩ := h; exact ⟨D, ⟨es, clock, hb.trans h1, h2⟩, h3⟩
theorem MapF.isMap (h : MapF P k c w b n f) : ∃ es clock, w.heap[b]? = some (.map es clock) := by
 obtain ⟨D, ⟨es, clock, h1, h2⟩, h3⟩ := h; exact ⟨es, clock, h1⟩
theorem MapF.look_ok {t e : TypeId} (h : MapF P k c w b n f) (K : Keyed P k) (ht : P.underlying t = some (.map k e)) {z : Value} (hz : (zeroValue e).run P w = .ok z w) {key : Value} {x : κ} (hkey : keyOf P k key = some (c x)) :
  (Instr.lookup t (.map (some b)) key true).run P w = .ok (.tuple #[(f x).getD z, .bool (f x).isSome]) w := by
 obtain ⟨D, h, _, hx⟩ := h
 obtain ⟨v, ps, hrun, hv⟩ := h.look_ok K ht hz (zd := .held z) (zp := []) rfl hkey
 obtain ⟨h1, h2⟩ := hx x
 rw [hrun, h1]
 cases hf : f x with
 | some v' =>
  rw [h2 v' hf] at hv
  have : DataW.held v = DataW.held v' := by unfold heldR at hv; cases hv; rfl
  cases this; rfl
 | none =>
  rw [hf] at h1
  rw [Maps.atKey_of_not_has h1] at hv
  have : DataW.held v = DataW.held z := by unfold heldR at hv; cases hv; rfl
  cases this; rfl
theorem MapF.look {t e : TypeId} (h : MapF P k c w b n f) (K : Keyed P k) (ht : P.underlying t = some (.map k e)) {z : Value} (hz : (zeroValue e).run P w = .ok z w) {key : Value} {x : κ} (hkey : keyOf P k key = some (c x)) :
  (Instr.lookup t (.map (some b)) key false).run P w = .ok ((f x).getD z) w := by
 obtain ⟨D, h, _, hx⟩ := h
 obtain ⟨v, ps, hrun, hv⟩ := h.lookup K ht hz (zd := .held z) (zp := []) rfl hkey
 obtain ⟨h1, h2⟩ := hx x
 rw [hrun]
 cases hf : f x with
 | some v' =>
  rw [h2 v' hf] at hv
  have : DataW.held v = DataW.held v' := by unfold heldR at hv; cases hv; rfl
  cases this; rfl
 | none =>
  rw [hf] at h1
  rw [Maps.atKey_of_not_has h1] at hv
  have : DataW.held v = DataW.held z := by unfold heldR at hv; cases hv; rfl
  cases this; rfl
theorem tight {D : DataW Value} {m : Nat} (h : w.ownsMap P k heldR b m D) : w.ownsMap P k heldR b (Maps.size D) D := by
 obtain ⟨es, clock, h1, h2, h3, rfl⟩ := h
 exact ⟨es, clock, h1, h2, by simp [Maps.size, length_sorted], rfl⟩
theorem MapF.store {t e : TypeId} (E : KeyEmb c) (h : MapF P k c w b n f) (K : Keyed P k) (ht : P.underlying t = some (.map k e)) (hn : n < maxLen) {key val : Value} {x : κ} (hkey : keyOf P k key = some (c x)) :
  ∃ w', (Instr.mapUpdate t (.map (some b)) key val).run P w = .ok () w' ∧ MapF P k c w' b (if (f x).isSome then n else n + 1) (upd f x val) ∧ w.mapTurned w' b := by
 obtain ⟨D, h, hs, hx⟩ := h
 obtain ⟨w', hrun, h', ht'⟩ := h.store K ht hn (val := val) (d := .held val) (ps := []) hkey rfl
 have hsz : Maps.size (D.put (c x) (.held val)) = if (f x).isSome then n else n + 1 := by
  rw [Maps.size_put (h.tidy K), (hx x).1, hs]
 refine ⟨w', hrun, ⟨D.put (c x) (.held val), by rw [← hsz]; exact tight h', hsz, fun y => ?_⟩, ht'⟩
 by_cases hy : y = x
 ·subst hy
  refine ⟨by rw [Maps.has_put_same h.isMap (E.key y)]; simp [upd], fun v hv z => ?_⟩
  have : val = v := by simpa [upd] using hv
  rw [Maps.atKey_put_same h.isMap (E.key y), this]
 ·have hne : c y ≠ c x := fun h => hy (E.inj h)
  refine ⟨by rw [Maps.has_put_other hne, (hx y).1]; simp [upd, hy], fun v hv z => ?_⟩
  rw [Maps.atKey_put_other hne]
  exact (hx y).2 v (by simpa [upd, hy] using hv) z
theorem MapF.drop {t e : TypeId} (E : KeyEmb c) (h : MapF P k c w b n f) (K : Keyed P k) (ht : P.underlying t = some (.map k e)) {key : Value} {x : κ} (hkey : keyOf P k key = some (c x)) (ty : TypeId) :
  ∃ w', (Builtin.delete_ #[t, k] ty #[.map (some b), key]).run P w = .ok (.tuple #[]) w' ∧ MapF P k c w' b (if (f x).isSome then n - 1 else n) (del f x) ∧ w.mapTurned w' b := by
 obtain ⟨D, h, hs, hx⟩ := h
 obtain ⟨w', hrun, h', ht'⟩ := h.drop K ht hkey ty
 have hsz : Maps.size (D.del (c x)) = if (f x).isSome then n - 1 else n := by
  have := Maps.size_del (k := c x) (h.tidy K)
  rw [(hx x).1, hs] at this
  split at this <;> rename_i hh <;> simp only [hh] <;> simp <;> omega
 refine ⟨w', hrun, ⟨D.del (c x), by rw [← hsz]; exact tight h', hsz, fun y => ?_⟩, ht'⟩
 by_cases hy : y = x
 ·subst hy
  exact ⟨by rw [Maps.has_del_same]; simp [del], fun v hv z => by simp [del] at hv⟩
 ·have hne : c y ≠ c x := fun h => hy (E.inj h)
  refine ⟨by rw [Maps.has_del_other hne, (hx y).1]; simp [del, hy], fun v hv z => ?_⟩
  rw [Maps.atKey_del_other hne]
  exact (hx y).2 v (by simpa [del, hy] using hv) z
theorem MapF.len {t e : TypeId} (h : MapF P k c w b n f) (ht : P.underlying t = some (.map k e)) (ty : TypeId) : (Builtin.len_ #[t] ty #[.map (some b)]).run P w = .ok (.int .i64 n) w := by
 obtain ⟨D, h, hs, hx⟩ := h
 rw [h.len ht ty, hs]
end
section
variable {κ : Type} [DecidableEq κ] {P : Program} {k : TypeId} {c : κ → Lit} {b n : Nat} {f : κ → Option Value} {F : Fence} {nF : Nat} (w : World) {ops : Array Oper} {rest : List Oper} {o : Oper} {a : Act} {Q : Exit → Act → World → Prop}
theorem wpList_store (hg : o.guard = none) (m x v : Operand) (t : TypeId) (hop : o.op = Op.mapUpdate t m x v) (e : TypeId) (E : KeyEmb c) (h : MapF P k c w b n f) (K : Keyed P k) (ht : P.underlying t = some (.map k e)) (hn : n < maxLen)
  (hm : a.eval m = .map (some b)) (key val : Value) (y : κ) (hx : a.eval x = key) (hv : a.eval v = val) (hkey : keyOf P k key = some (c y))
  (hK : ∀ w', MapF P k c w' b (if (f y).isSome then n else n + 1) (upd f y val) → w.mapTurned w' b → wpList P ops Q rest (a.put o.dst undef) w') : wpList P ops Q (o :: rest) a w := by
 refine wpList_plain hg fun K' hK' => ?_
 obtain ⟨w', hrun, r1, r2⟩ := h.store E K ht hn (val := val) hkey
 unfold Oper.wp
 simp [execOp, hop, hm, hx, hv, hrun, Result.andThen]
 exact hK' _ _ (hK w' r1 r2)
end
end Go.Proofs.MapFun
namespace Go.Proofs.YtcbfbefpbjmglaaDoor.Mac
open Go.RowKit Go.Proofs.MapFun Go.Proofs.YtcbfbefpbjmglaaDoor.PA Go.Proofs.YtcbfbefpbjmglaaDoorT Go.Proofs.YtcbfbefpbjmglaaDoorW.PrintWords Go.Proofs.YtcbfbefpbjmglaaDoorW.PrintLast Go.Proofs.YtcbfbefpbjmglaaDoorW.PrintMore
set_option linter.unusedVariables false
set_option linter.unusedSimpArgs false
def seenF (l : List ByteArray) (y : List UInt8) : Option Value := if l.any (fun p => decide (y = p.data.toList)) then some (.bool true) else none
theorem contB_any (l : List ByteArray) (x : ByteArray) : contB l x = l.any (fun p => decide (x.data.toList = p.data.toList)) := by
 induction l with
 | nil => rfl
 | cons y l ih => rw [contB, ih, List.any_cons, ByteArray.toList_eq, ByteArray.toList_eq]
theorem seenF_look (l : List ByteArray) (x : ByteArray) : (seenF l x.data.toList).getD (.bool false) = .bool (contB l x) := by
 rw [contB_any]; unfold seenF
 cases l.any (fun p => decide (x.data.toList = p.data.toList)) <;> rfl
theorem seenF_none (l : List ByteArray) (x : ByteArray) (h : contB l x = false) : (seenF l x.data.toList).isSome = false := by
 rw [contB_any] at h; unfold seenF; rw [h]; rfl
theorem seenF_cons (l : List ByteArray) (x : ByteArray) : upd (seenF l) x.data.toList (.bool true) = seenF (x :: l) := by
 funext y
 unfold upd seenF
 rw [List.any_cons]
 by_cases h : y = x.data.toList
 ·rw [if_pos h, decide_eq_true h, Bool.true_or]; rfl
 ·rw [if_neg h, decide_eq_false h, Bool.false_or]
theorem isName_c (s : ByteArray) (hs : s.size < 4294967281) (w : World) (hT : Tab w) : Calls Tryd.prog 37 #[.string s] w (BoolBelow (isNameP s) w) :=
 macro_isName.calls s _ w hT (isName_f s hs)
theorem str_at {w : World} {A : Option Addr} {l : List ByteArray} (h : Kd.C Kd.string w A l.length l) {k : Nat} (hk : k < l.length) : ∃ ad, A = some ad ∧ w.cell? (ad.add k) = some (.string l[k]) := by
 obtain ⟨ad, hA, hr⟩ := h.2.2 (by omega)
 obtain ⟨c, h1, h2, h3⟩ := hr k l[k] (by simp [hk])
 refine ⟨ad, hA, ?_⟩
 have hc : c = [.string l[k]] := h2
 have := h3 0 (.string l[k]) (by rw [hc]; rfl)
 simpa [Kd.string, Kd.scalar] using this
structure MSt (w W : World) (B : Nat) (nm : ByteArray) (fn more : Bool) (Ap Ab : Option Addr) (cp cb : Nat) (params : List ByteArray) (body : List S48) : Prop where
 m : W.heap[B]? = some (.cells #[.string nm, .bool fn, .slice Ap params.length cp, .bool more, .slice Ab body.length cb] 32 (0, 0))
 p : Kd.C Kd.string W Ap params.length params
 b : Kd.C k48 W Ab body.length body
 bw : Below w.heap.size w W
 s : w.heap.size ≤ W.heap.size
 t : Tab W
theorem MSt.below {w W W' : World} {B : Nat} {nm : ByteArray} {fn more : Bool} {Ap Ab : Option Addr} {cp cb : Nat} {params : List ByteArray} {body : List S48} (h : MSt w W B nm fn more Ap Ab cp cb params body) (hb : Below W.heap.size W W') : MSt w W' B nm fn more Ap Ab cp cb params body :=
 ⟨(hb.block _ (blk_lt h.m)).trans h.m, Kd.C_below h.p hb, Kd.C_below h.b hb, h.bw.trans (hb.mono h.s), Nat.le_trans h.s hb.size, h.t.grow hb⟩
theorem law9 : Maps.Keyed Tryd.prog 9 := Go.Maps.string_keyed Tryd.underlying9
theorem zero4 (w : World) : (zeroValue 4).run Tryd.prog w = .ok (.bool false) w := by kernel_rfl
theorem MSt.turned {w W W' : World} {B mb : Nat} {nm : ByteArray} {fn more : Bool} {Ap Ab : Option Addr} {cp cb : Nat} {params : List ByteArray} {body : List S48} (h : MSt w W B nm fn more Ap Ab cp cb params body) (hg : W.grownBy W' (some mb)) (hB : B ≠ mb) (hmb : w.heap.size ≤ mb)
  (h0 : Kd.C Kd.string w Ap params.length params ∧ Kd.C k48 w Ab body.length body ∧ Tab w) : MSt w W' B nm fn more Ap Ab cp cb params body := by
 have hb := h.bw.grown hg h.s (fun k e => by cases e; exact hmb)
 exact ⟨(hg.block B (blk_lt h.m) (by simpa using hB)).trans h.m, Kd.C_below h0.1 hb, Kd.C_below h0.2.1 hb, hb, hb.size, h0.2.2.grow hb⟩
def DomM (nm : ByteArray) (params : List ByteArray) (body : List S48) : Prop := nm.size ≤ 1048576 ∧ params.length ≤ 2000000 ∧ body.length ≤ 1000000 ∧ (∀ p ∈ params, p.size ≤ 1048576) ∧ (∀ t ∈ body, t.f1.size ≤ 1048576)
theorem goodParams_at (l : List ByteArray) (seen : List ByteArray) (k : Nat) (hk : k < l.length) : goodParams seen (l.drop k) = (isNameP l[k] && (!contB seen l[k] && goodParams (l[k] :: seen) (l.drop (k + 1)))) := by
 rw [List.drop_eq_getElem_cons hk, goodParams]
theorem take_rev (l : List ByteArray) (k : Nat) (hk : k < l.length) : (l.take (k + 1)).reverse = l[k] :: (l.take k).reverse := by
 rw [List.take_succ_eq_append_getElem hk, List.reverse_append]; rfl
set_option maxRecDepth 100000 in
set_option maxHeartbeats 1000000 in
theorem right_c (nm : ByteArray) (fn more : Bool) (Ap Ab : Option Addr) (cp cb : Nat) (params : List ByteArray) (body : List S48) (w : World) (hT : Tab w) (hd : DomM nm params body)
  (hP : Kd.C Kd.string w Ap params.length params) (hpc : params.length ≤ cp) (hB : Kd.C k48 w Ab body.length body) (hbc : body.length ≤ cb) :
  Calls Tryd.prog 16 #[.agg #[.string nm, .bool fn, .slice Ap params.length cp, .bool more, .slice Ab body.length cb]] w (BoolBelow (rightP nm fn params more body) w) := by
 obtain ⟨W0, hW0⟩ : ∃ W0, w.alloc (.cells #[.string nm, .bool fn, .slice Ap params.length cp, .bool more, .slice Ab body.length cb] 32) = W0 := ⟨_, rfl⟩
 have hb0 : Below w.heap.size w W0 := by rw [← hW0]; exact (Below.refl _ w).alloc (Nat.le_refl _) _
 obtain ⟨B, hBw⟩ : ∃ B, w.heap.size = B := ⟨_, rfl⟩
 have hs : MSt w W0 B nm fn more Ap Ab cp cb params body := by
  refine ⟨?_, Kd.C_below hP hb0, Kd.C_below hB hb0, hb0, hb0.size, hT.grow hb0⟩
  rw [← hW0, ← hBw]; exact blk_new w _
 have c0 : W0.cell? ⟨B, 0, none⟩ = some (.string nm) := blk_cell hs.m 0
 have c1 : W0.cell? ⟨B, 1, none⟩ = some (.bool fn) := blk_cell hs.m 1
 have c2 : W0.cell? ⟨B, 2, none⟩ = some (.slice Ap params.length cp) := blk_cell hs.m 2
 have c3 : W0.cell? ⟨B, 3, none⟩ = some (.bool more) := blk_cell hs.m 3
 have HS := Lib.hid hs
 have HD := Lib.hid hd
 have hnmS : nm.size < 4294967281 := by have := hd.1; omega
 have hNm := isName_c nm hnmS W0 hs.t
 have HP0 := Lib.hid (And.intro hP (And.intro hB hT))
 clear hT hb0 hs hP hB hd
 cases hn : isNameP nm with
 | false =>
  have key : rightP nm fn params more body = false := by unfold rightP; rw [hn, Bool.false_and]
  rw [key]
  rw [hn] at hNm
  have HN := Lib.hid hNm
  clear hNm hn key
  go_enter Tryd.func16, Tryd.ntmps16
  go_wp2_with (go_at_call 37; refine HN.out.mono ?_; rintro e w1 ⟨rfl, hb1⟩; have HB1 := Lib.hid hb1; clear hb1)
  go_ret
  exact ⟨rfl, (HS.out.below HB1.out).bw⟩
 | true =>
  rw [hn] at hNm
  have HN := Lib.hid hNm
  have NmH := Lib.hid hn
  clear hn
  cases hdef : (nm.toList == [100, 101, 102, 105, 110, 101, 100]) with
  | true =>
   have KEY := Lib.hid (show rightP nm fn params more body = false by unfold rightP; rw [hdef]; simp)
   clear hNm
   go_enter Tryd.func16, Tryd.ntmps16
   go_wp2_with (go_at_call 37; refine HN.out.mono ?_; rintro e w1 ⟨rfl, hb1⟩; have hs1 := HS.out.below hb1; clear c0 c1 c2 c3; have c0 : w1.cell? ⟨B, 0, none⟩ = some (.string nm) := blk_cell hs1.m 0; have c1 : w1.cell? ⟨B, 1, none⟩ = some (.bool fn) := blk_cell hs1.m 1; have c2 : w1.cell? ⟨B, 2, none⟩ = some (.slice Ap params.length cp) := blk_cell hs1.m 2; have c3 : w1.cell? ⟨B, 3, none⟩ = some (.bool more) := blk_cell hs1.m 3; have HS1 := Lib.hid hs1; clear hb1 hs1)
   go_ret
   rw [KEY.out]
   exact ⟨rfl, HS1.out.bw⟩
  | false =>
   by_cases h16 : params.length ≤ 16
   ·have d16 : decide (16 < (params.length : Int)) = false := decide_eq_false (by omega)
    have d16' : ¬ (16 < (params.length : Int)) := by omega
    cases fn with
    | true =>
     have KEY := Lib.hid (show rightP nm true params more body = (goodParams [] params && isBodyP true params more body) by unfold rightP; simp only [NmH.out, hdef, decide_eq_true h16]; simp)
     clear hNm
     have hmm := @run_makeMap Tryd.prog
     go_enter Tryd.func16, Tryd.ntmps16
     go_wp2_with (go_at_call 37; refine HN.out.mono ?_; rintro e w1 ⟨rfl, hb1⟩; have hs1 := HS.out.below hb1; clear c0 c1 c2 c3; have c0 : w1.cell? ⟨B, 0, none⟩ = some (.string nm) := blk_cell hs1.m 0; have c1 : w1.cell? ⟨B, 1, none⟩ = some (.bool true) := blk_cell hs1.m 1; have c2 : w1.cell? ⟨B, 2, none⟩ = some (.slice Ap params.length cp) := blk_cell hs1.m 2; have c3 : w1.cell? ⟨B, 3, none⟩ = some (.bool more) := blk_cell hs1.m 3; have hBl : B < w1.heap.size := blk_lt hs1.m; have HS1 := Lib.hid hs1; clear hb1 hs1)
     have hs2 := HS1.out.below (below_alloc (Below.refl _ _) (.map #[] 0))
     have hmf := MapF.made w1 Tryd.prog 9 Lit.string
     have hBm : B < w1.heap.size := hBl
     have hwm : w.heap.size ≤ w1.heap.size := HS1.out.s
     obtain ⟨mb, hmb⟩ : ∃ mb, w1.heap.size = mb := ⟨_, rfl⟩
     obtain ⟨W2, hW2⟩ : ∃ W2, w1.alloc (.map #[] 0) = W2 := ⟨_, rfl⟩
     rw [hW2] at hs2 hmf ⊢
     rw [hmb] at hmf hBm hwm ⊢
     have HBM := Lib.hid (And.intro hBm hwm)
     clear hW2 hmb hmm c0 c1 c2 c3 HS1 hBl hBm hwm
     go_loopw [40] (fun i W => ∃ k : Nat, k ≤ params.length ∧ i = .int .i64 k ∧ MSt w W B nm true more Ap Ab cp cb params body ∧ MapF Tryd.prog 9 Lit.string W mb k (seenF (params.take k).reverse) ∧ Hid (goodParams [] params = goodParams (params.take k).reverse (params.drop k))) (fun i _ => params.length - (intOf i).toNat)
     case atStart => exact ⟨0, Nat.zero_le _, rfl, hs2, hmf, Lib.hid rfl⟩
     case round =>
      clear hs2 hmf
      obtain ⟨k, hk, rfl, hI, hM, HR⟩ := hrel
      by_cases hlt : k < params.length
      ·obtain ⟨ad, had, a0⟩ := str_at hI.p hlt
       subst had
       have hga := goodParams_at params (params.take k).reverse k hlt
       have htr := take_rev params k hlt
       have hps : params[k].size < 4294967281 := by have := HD.out.2.2.2.1 _ (List.getElem_mem hlt); omega
       obtain ⟨p, hpk⟩ : ∃ p, params[k] = p := ⟨_, rfl⟩
       rw [hpk] at a0 hga htr hps
       have hip := isName_c p hps wr hI.t
       have HI := Lib.hid (And.intro hI hM)
       have hHR := HR.out
       rw [hga] at hHR
       clear hI hM hpk HR hga
       cases hnp : isNameP p with
       | false =>
        rw [hnp] at hip hHR
        have HF := Lib.hid (show goodParams [] params = false by rw [hHR, Bool.false_and])
        have HIP := Lib.hid hip
        clear hip hHR hnp htr
        go_wp2_with (go_at_call 37; refine HIP.out.mono ?_; rintro e w3 ⟨rfl, hb3⟩; have HS3 := Lib.hid (HI.out.1.below hb3); clear hb3)
        go_ret
        rw [KEY.out, HF.out]
        exact ⟨rfl, HS3.out.bw⟩
       | true =>
        rw [hnp, Bool.true_and] at hHR
        rw [hnp] at hip
        have HIP := Lib.hid hip
        have hko := Go.WideMaps.keyOf_string_mk (s := p) Tryd.underlying9 (by unfold maxLen; omega)
        have HK := Lib.hid hko
        have HML := Lib.hid (show k < maxLen by have := h16; unfold maxLen; omega)
        clear hip hnp hko
        cases hcb : contB (params.take k).reverse p with
        | true =>
         rw [hcb] at hHR
         have HF := Lib.hid (show goodParams [] params = false by rw [hHR]; rfl)
         have HL := Lib.hid (show (seenF (params.take k).reverse p.data.toList).getD (.bool false) = .bool true by rw [seenF_look, hcb])
         clear hHR hcb htr
         go_wp2_with (go_at_call 37; refine HIP.out.mono ?_; rintro e w3 ⟨rfl, hb3⟩; have hlk := (HI.out.2.block (hb3.block mb HI.out.2.lt)).look law9 Tryd.underlying67 (zero4 _) HK.out; rw [HL.out] at hlk; have HS3 := Lib.hid (HI.out.1.below hb3); clear hb3)
         go_ret
         rw [KEY.out, HF.out]
         exact ⟨rfl, HS3.out.bw⟩
        | false =>
         rw [hcb, Bool.not_false, Bool.true_and] at hHR
         have HL := Lib.hid (show (seenF (params.take k).reverse p.data.toList).getD (.bool false) = .bool false by rw [seenF_look, hcb])
         have HN2 := Lib.hid (seenF_none _ _ hcb)
         have HHR := Lib.hid (And.intro hHR htr)
         clear hHR hcb htr
         go_wp2_with (first
          | (go_at_call 37; refine HIP.out.mono ?_; rintro e w3 ⟨rfl, hb3⟩; have hm3 := HI.out.2.block (hb3.block mb HI.out.2.lt); have hlk := hm3.look law9 Tryd.underlying67 (zero4 _) HK.out; rw [HL.out] at hlk; have HS3 := Lib.hid (And.intro (HI.out.1.below hb3) hm3); clear hb3 hm3)
          | (at_mapUpdate; refine wpList_store _ rfl _ _ _ 67 rfl 4 strEmb HS3.out.2 law9 Tryd.underlying67 HML.out rfl (.string p) (.bool true) p.data.toList rfl rfl HK.out ?_; intro w4 m4 t4; have HM4 := Lib.hid (And.intro m4 t4); clear m4 t4))
         go_roundw
         case rel =>
          refine ⟨k + 1, by omega, by go_num, HS3.out.1.turned HM4.out.2.grown (by have := HBM.out.1; omega) HBM.out.2 HP0.out, ?_, Lib.hid ?_⟩
          ·have := HM4.out.1
           rw [HN2.out, seenF_cons, ← HHR.out.2] at this
           simpa using this
          ·rw [HHR.out.1, HHR.out.2]
         case measure => simp [intOf]; omega
      ·have hall : params.take k = params := List.take_of_length_le (by omega)
       have HG := Lib.hid (show goodParams [] params = true by rw [HR.out, List.drop_eq_nil_of_le (by omega)]; rfl)
       have c0 : wr.cell? ⟨B, 0, none⟩ = some (.string nm) := blk_cell hI.m 0
       have c1 : wr.cell? ⟨B, 1, none⟩ = some (.bool true) := blk_cell hI.m 1
       have c2 : wr.cell? ⟨B, 2, none⟩ = some (.slice Ap params.length cp) := blk_cell hI.m 2
       have c3 : wr.cell? ⟨B, 3, none⟩ = some (.bool more) := blk_cell hI.m 3
       have c4 : wr.cell? ⟨B, 4, none⟩ = some (.slice Ab body.length cb) := blk_cell hI.m 4
       have HI := Lib.hid hI
       clear hall hI hM HR
       go_wp2_with (go_at_call 38; refine (isBody_c nm true more Ap Ab cp cb params body _ HI.out.t (Nat.le_trans h16 (by decide)) HD.out.2.2.1 HD.out.2.2.2.2 HI.out.p hpc HI.out.b hbc).mono ?_; rintro e w5 ⟨rfl, hb5⟩; have HS5 := Lib.hid (HI.out.below hb5); clear hb5)
       go_ret
       rw [KEY.out, HG.out, Bool.true_and]
       exact ⟨rfl, HS5.out.bw⟩
    | false =>
     cases more with
     | true =>
      have KEY := Lib.hid (show rightP nm false params true body = false by unfold rightP; simp)
      clear hNm
      go_enter Tryd.func16, Tryd.ntmps16
      go_wp2_with (go_at_call 37; refine HN.out.mono ?_; rintro e w1 ⟨rfl, hb1⟩; have hs1 := HS.out.below hb1; clear c0 c1 c2 c3; have c0 : w1.cell? ⟨B, 0, none⟩ = some (.string nm) := blk_cell hs1.m 0; have c1 : w1.cell? ⟨B, 1, none⟩ = some (.bool false) := blk_cell hs1.m 1; have c2 : w1.cell? ⟨B, 2, none⟩ = some (.slice Ap params.length cp) := blk_cell hs1.m 2; have c3 : w1.cell? ⟨B, 3, none⟩ = some (.bool true) := blk_cell hs1.m 3; have HS1 := Lib.hid hs1; clear hb1 hs1)
      go_ret
      rw [KEY.out]
      exact ⟨rfl, HS1.out.bw⟩
     | false =>
      by_cases hp0 : 0 < params.length
      ·have d0 : decide (0 < (params.length : Int)) = true := decide_eq_true (by omega)
       have d0' : 0 < (params.length : Int) := by omega
       have KEY := Lib.hid (show rightP nm false params false body = false by unfold rightP; simp [hp0])
       clear hNm
       go_enter Tryd.func16, Tryd.ntmps16
       go_wp2_with (go_at_call 37; refine HN.out.mono ?_; rintro e w1 ⟨rfl, hb1⟩; have hs1 := HS.out.below hb1; clear c0 c1 c2 c3; have c0 : w1.cell? ⟨B, 0, none⟩ = some (.string nm) := blk_cell hs1.m 0; have c1 : w1.cell? ⟨B, 1, none⟩ = some (.bool false) := blk_cell hs1.m 1; have c2 : w1.cell? ⟨B, 2, none⟩ = some (.slice Ap params.length cp) := blk_cell hs1.m 2; have c3 : w1.cell? ⟨B, 3, none⟩ = some (.bool false) := blk_cell hs1.m 3; have HS1 := Lib.hid hs1; clear hb1 hs1)
       go_ret
       rw [KEY.out]
       exact ⟨rfl, HS1.out.bw⟩
      ·have d0 : decide (0 < (params.length : Int)) = false := decide_eq_false (by omega)
       have d0' : ¬ (0 < (params.length : Int)) := by omega
       have KEY := Lib.hid (show rightP nm false params false body = (goodParams [] params && isBodyP false params false body) by unfold rightP; simp only [NmH.out, hdef, decide_eq_true h16]; simp [hp0])
       clear hNm
       have hmm := @run_makeMap Tryd.prog
       go_enter Tryd.func16, Tryd.ntmps16
       go_wp2_with (go_at_call 37; refine HN.out.mono ?_; rintro e w1 ⟨rfl, hb1⟩; have hs1 := HS.out.below hb1; clear c0 c1 c2 c3; have c0 : w1.cell? ⟨B, 0, none⟩ = some (.string nm) := blk_cell hs1.m 0; have c1 : w1.cell? ⟨B, 1, none⟩ = some (.bool false) := blk_cell hs1.m 1; have c2 : w1.cell? ⟨B, 2, none⟩ = some (.slice Ap params.length cp) := blk_cell hs1.m 2; have c3 : w1.cell? ⟨B, 3, none⟩ = some (.bool false) := blk_cell hs1.m 3; have hBl : B < w1.heap.size := blk_lt hs1.m; have HS1 := Lib.hid hs1; clear hb1 hs1)
       have hs2 := HS1.out.below (below_alloc (Below.refl _ _) (.map #[] 0))
       have hmf := MapF.made w1 Tryd.prog 9 Lit.string
       have hBm : B < w1.heap.size := hBl
       have hwm : w.heap.size ≤ w1.heap.size := HS1.out.s
       obtain ⟨mb, hmb⟩ : ∃ mb, w1.heap.size = mb := ⟨_, rfl⟩
       obtain ⟨W2, hW2⟩ : ∃ W2, w1.alloc (.map #[] 0) = W2 := ⟨_, rfl⟩
       rw [hW2] at hs2 hmf ⊢
       rw [hmb] at hmf hBm hwm ⊢
       have HBM := Lib.hid (And.intro hBm hwm)
       clear hW2 hmb hmm c0 c1 c2 c3 HS1 hBl hBm hwm
       go_loopw [40] (fun i W => ∃ k : Nat, k ≤ params.length ∧ i = .int .i64 k ∧ MSt w W B nm false false Ap Ab cp cb params body ∧ MapF Tryd.prog 9 Lit.string W mb k (seenF (params.take k).reverse) ∧ Hid (goodParams [] params = goodParams (params.take k).reverse (params.drop k))) (fun i _ => params.length - (intOf i).toNat)
       case atStart => exact ⟨0, Nat.zero_le _, rfl, hs2, hmf, Lib.hid rfl⟩
       case round =>
        clear hs2 hmf
        obtain ⟨k, hk, rfl, hI, hM, HR⟩ := hrel
        by_cases hlt : k < params.length
        ·obtain ⟨ad, had, a0⟩ := str_at hI.p hlt
         subst had
         have hga := goodParams_at params (params.take k).reverse k hlt
         have htr := take_rev params k hlt
         have hps : params[k].size < 4294967281 := by have := HD.out.2.2.2.1 _ (List.getElem_mem hlt); omega
         obtain ⟨p, hpk⟩ : ∃ p, params[k] = p := ⟨_, rfl⟩
         rw [hpk] at a0 hga htr hps
         have hip := isName_c p hps wr hI.t
         have HI := Lib.hid (And.intro hI hM)
         have hHR := HR.out
         rw [hga] at hHR
         clear hI hM hpk HR hga
         cases hnp : isNameP p with
         | false =>
          rw [hnp] at hip hHR
          have HF := Lib.hid (show goodParams [] params = false by rw [hHR, Bool.false_and])
          have HIP := Lib.hid hip
          clear hip hHR hnp htr
          go_wp2_with (go_at_call 37; refine HIP.out.mono ?_; rintro e w3 ⟨rfl, hb3⟩; have HS3 := Lib.hid (HI.out.1.below hb3); clear hb3)
          go_ret
          rw [KEY.out, HF.out]
          exact ⟨rfl, HS3.out.bw⟩
         | true =>
          rw [hnp, Bool.true_and] at hHR
          rw [hnp] at hip
          have HIP := Lib.hid hip
          have hko := Go.WideMaps.keyOf_string_mk (s := p) Tryd.underlying9 (by unfold maxLen; omega)
          have HK := Lib.hid hko
          have HML := Lib.hid (show k < maxLen by have := h16; unfold maxLen; omega)
          clear hip hnp hko
          cases hcb : contB (params.take k).reverse p with
          | true =>
           rw [hcb] at hHR
           have HF := Lib.hid (show goodParams [] params = false by rw [hHR]; rfl)
           have HL := Lib.hid (show (seenF (params.take k).reverse p.data.toList).getD (.bool false) = .bool true by rw [seenF_look, hcb])
           clear hHR hcb htr
           go_wp2_with (go_at_call 37; refine HIP.out.mono ?_; rintro e w3 ⟨rfl, hb3⟩; have hlk := (HI.out.2.block (hb3.block mb HI.out.2.lt)).look law9 Tryd.underlying67 (zero4 _) HK.out; rw [HL.out] at hlk; have HS3 := Lib.hid (HI.out.1.below hb3); clear hb3)
           go_ret
           rw [KEY.out, HF.out]
           exact ⟨rfl, HS3.out.bw⟩
          | false =>
           rw [hcb, Bool.not_false, Bool.true_and] at hHR
           have HL := Lib.hid (show (seenF (params.take k).reverse p.data.toList).getD (.bool false) = .bool false by rw [seenF_look, hcb])
           have HN2 := Lib.hid (seenF_none _ _ hcb)
           have HHR := Lib.hid (And.intro hHR htr)
           clear hHR hcb htr
           go_wp2_with (first
            | (go_at_call 37; refine HIP.out.mono ?_; rintro e w3 ⟨rfl, hb3⟩; have hm3 := HI.out.2.block (hb3.block mb HI.out.2.lt); have hlk := hm3.look law9 Tryd.underlying67 (zero4 _) HK.out; rw [HL.out] at hlk; have HS3 := Lib.hid (And.intro (HI.out.1.below hb3) hm3); clear hb3 hm3)
            | (at_mapUpdate; refine wpList_store _ rfl _ _ _ 67 rfl 4 strEmb HS3.out.2 law9 Tryd.underlying67 HML.out rfl (.string p) (.bool true) p.data.toList rfl rfl HK.out ?_; intro w4 m4 t4; have HM4 := Lib.hid (And.intro m4 t4); clear m4 t4))
           go_roundw
           case rel =>
            refine ⟨k + 1, by omega, by go_num, HS3.out.1.turned HM4.out.2.grown (by have := HBM.out.1; omega) HBM.out.2 HP0.out, ?_, Lib.hid ?_⟩
            ·have := HM4.out.1
             rw [HN2.out, seenF_cons, ← HHR.out.2] at this
             simpa using this
            ·rw [HHR.out.1, HHR.out.2]
           case measure => simp [intOf]; omega
        ·have hall : params.take k = params := List.take_of_length_le (by omega)
         have HG := Lib.hid (show goodParams [] params = true by rw [HR.out, List.drop_eq_nil_of_le (by omega)]; rfl)
         have c0 : wr.cell? ⟨B, 0, none⟩ = some (.string nm) := blk_cell hI.m 0
         have c1 : wr.cell? ⟨B, 1, none⟩ = some (.bool false) := blk_cell hI.m 1
         have c2 : wr.cell? ⟨B, 2, none⟩ = some (.slice Ap params.length cp) := blk_cell hI.m 2
         have c3 : wr.cell? ⟨B, 3, none⟩ = some (.bool false) := blk_cell hI.m 3
         have c4 : wr.cell? ⟨B, 4, none⟩ = some (.slice Ab body.length cb) := blk_cell hI.m 4
         have HI := Lib.hid hI
         clear hall hI hM HR
         go_wp2_with (go_at_call 38; refine (isBody_c nm false false Ap Ab cp cb params body _ HI.out.t (Nat.le_trans h16 (by decide)) HD.out.2.2.1 HD.out.2.2.2.2 HI.out.p hpc HI.out.b hbc).mono ?_; rintro e w5 ⟨rfl, hb5⟩; have HS5 := Lib.hid (HI.out.below hb5); clear hb5)
         go_ret
         rw [KEY.out, HG.out, Bool.true_and]
         exact ⟨rfl, HS5.out.bw⟩
   ·have d16 : decide (16 < (params.length : Int)) = true := decide_eq_true (by omega)
    have d16' : 16 < (params.length : Int) := by omega
    have KEY := Lib.hid (show rightP nm fn params more body = false by unfold rightP; rw [decide_eq_false h16]; simp)
    clear hNm
    go_enter Tryd.func16, Tryd.ntmps16
    go_wp2_with (go_at_call 37; refine HN.out.mono ?_; rintro e w1 ⟨rfl, hb1⟩; have hs1 := HS.out.below hb1; clear c0 c1 c2 c3; have c0 : w1.cell? ⟨B, 0, none⟩ = some (.string nm) := blk_cell hs1.m 0; have c1 : w1.cell? ⟨B, 1, none⟩ = some (.bool fn) := blk_cell hs1.m 1; have c2 : w1.cell? ⟨B, 2, none⟩ = some (.slice Ap params.length cp) := blk_cell hs1.m 2; have c3 : w1.cell? ⟨B, 3, none⟩ = some (.bool more) := blk_cell hs1.m 3; have HS1 := Lib.hid hs1; clear hb1 hs1)
    go_ret
    rw [KEY.out]
    exact ⟨rfl, HS1.out.bw⟩
end Go.Proofs.YtcbfbefpbjmglaaDoor.Mac
namespace Go.Proofs.YtcbfbefpbjmglaaDoor.Mac
open Go.RowKit
set_option linter.unusedVariables false
def SeqSt {α : Type} (F : Fence) (n : Nat) (P : Program) (g : Nat) (lb : Array Value) (encs : α → Array Value) (Kp St : World → World → Prop) (S Sp : List α → Prop) (N : Nat) (w : World) : Prop :=
 ∀ (l : Nat) (J Jx : List α → World → Prop) (W : World), Below w.heap.size w W → AbidesFrom W.heap.size J → AbidesFrom W.heap.size Jx → (∀ s A B, J s A → St A B → J s B) →
  (∀ pre x W1, J pre W1 → pre.length < N → YieldAt F (n - 1) P l (encs x) W1 fun e W' =>
   (e = .returned (.bool true) ∧ J (pre ++ [x]) W' ∧ Kp W1 W') ∨ (e = .returned (.bool false) ∧ Jx (pre ++ [x]) W')) →
  J [] W → CallsIn F n P g (#[.func (.yield l) #[] #[]] ++ lb) W fun e W' => (∃ v, e = .returned v) ∧ ((∃ xs, S xs ∧ J xs W') ∨ (∃ pre, Sp pre ∧ Jx pre W'))
variable {F : Fence} {n : Nat} {P : Program}
def leftE {α : Type} (B id : Nat) (Kp : World → World → Prop) (I Ix : List α → World → Prop) (xs : List α) (W : World) : Exit → Act → World → Prop
 | .normal, _, W' => KeepsFrom B W W' ∧ Kp W W' ∧ I xs W'
 | .exit i, _, W' => i = id ∧ KeepsFrom B W W' ∧ Ix xs W'
 | _, _, _ => False
theorem wpIn_range_st {α : Type} {g : Operand} {ps : Array Tmp} {assign body : Code} {Q : Exit → Act → World → Prop} {a : Act} {w : World}
  (hro : F.round = none) (h1 : 1 ≤ n) {gf : Nat} {lb : Array Value} (hg : a.eval g = .func (.func gf) #[] lb) (hFg : F.fn gf) (eg : ∀ args w, (callFunc gf args).run P w = .ok (.enter gf args) w)
  {encs : α → Array Value} {Kp St : World → World → Prop} {S Sp : List α → Prop} {N : Nat} (hKt : ∀ {A B C : World}, Kp A B → Kp B C → Kp A C) (hKb : ∀ (W : World) (l : Nat) (o : Obj), w.heap.size ≤ l → Kp W (W.putObj l o))
  (hSt : ∀ A B, St A B → ∀ k, w.heap.size ≤ k → B.heap[k]? = A.heap[k]?) (hseq : SeqSt F (n - 1) P gf lb encs Kp St S Sp N w) (hps : ∀ x, (encs x).size = ps.size)
  (I Ix : List α → World → Prop) (hI : OwnFrom w.heap.size I) (hIx : OwnFrom w.heap.size Ix) (hIS : ∀ s A B, I s A → St A B → I s B) (h0 : I [] w) (id : Nat) (Mid : α → Act → World → Prop) (hMid : ∀ x a', OwnFrom w.heap.size (fun (_ : Unit) W => Mid x a' W))
  (hassign : ∀ (l : Nat) (pre : List α) (x : α) (W : World) (K : Act → World → Prop), I pre W → (∀ a' W', KeepsFrom w.heap.size W W' → Kp W W' → I pre W' → Mid x a' W' → K a' W') →
   assign.wpIn (F.inRound l) (n - 1 - 1) P (Exit.then K (fun _ _ _ => False)) { tmps := (ps.zip (encs x)).foldl (fun t (p, v) => t.setIfInBounds p v) a.tmps, defers := [] } W)
  (hbody : ∀ (l : Nat) (pre : List α) (x : α) (a' : Act) (W : World), I pre W → Mid x a' W → pre.length < N → body.wpIn (F.inRound l) (n - 1 - 1) P (leftE w.heap.size id Kp I Ix (pre ++ [x]) W) a' W)
  (hdone : ∀ (D : Nat) (xs : List α) (W : World), w.heap.size ≤ D → S xs → I xs W → W.heap[D]? = some (.deferred (some [])) → Q .normal { a with defers := { target := .collected D, args := #[] } :: a.defers } W)
  (hstop : ∀ (D : Nat) (pre : List α) (W : World), w.heap.size ≤ D → Sp pre → Ix pre W → W.heap[D]? = some (.deferred (some [])) → Q (.exit id) { a with defers := { target := .collected D, args := #[] } :: a.defers } W) :
  (Code.rangeFunc g ps assign body).wpIn F n P Q a w := by
 refine wpIn_rangeFunc fun fn hfn => ?_
 rw [hro]
 let D := w.heap.size
 let L := w.heap.size + 1
 let R : LoopState → Option Code → Loop := fun st pe => { state := st, pending := pe, fn, tmps := a.tmps, params := ps, assign, body, defers := D }
 obtain ⟨W1, hW1⟩ : ∃ W1, (w.alloc (.deferred (some []))).alloc (.loop (R .ready none)) = W1 := ⟨_, rfl⟩
 have hL1 : W1.heap[L]? = some (.loop (R .ready none)) := by
  rw [← hW1]; have := World.alloc_heap_new (w.alloc (.deferred (some []))) (.loop (R .ready none)); rwa [World.size_alloc] at this
 have hD1 : W1.heap[D]? = some (.deferred (some [])) := by
  rw [← hW1]; exact (Below.heap_alloc _ _ _ (by simp [D])).trans (World.alloc_heap_new w _)
 have hB1 : Below w.heap.size w W1 := by
  rw [← hW1]; exact ((Below.refl _ w).alloc (Nat.le_refl _) _).alloc (by simp) _
 have hg0 : w.grownBy W1 none := ⟨hB1.os, hB1.tape, hB1.output, hB1.size, fun i hi _ => hB1.block i hi⟩
 have hI1 : I [] W1 := hI _ _ _ none h0 hg0 (fun r e => by cases e)
 have hsz : W1.heap.size = w.heap.size + 2 := by rw [← hW1]; simp
 have walkc : ∀ {A : World} {row : Option Nat}, (∀ r, row = some r → W1.heap.size ≤ r ∧ ∃ o : Obj, A.heap[r]? = some o ∧ o.isWalk = true) → ∀ r, row = some r → w.heap.size ≤ r ∧ ∃ o : Obj, A.heap[r]? = some o ∧ o.isCells = false :=
  fun hr r e => by obtain ⟨hle, o, ho, hw⟩ := hr r e; exact ⟨by omega, o, ho, Obj.not_cells_of_walk hw⟩
 refine ⟨L, [{ target := .collected D, args := #[] }], W1, { target := .fn (.func gf) lb, args := #[.func (.yield L) #[] #[]] }, W1, gf, #[.func (.yield L) #[] #[]] ++ lb, W1, ?_, ?_, ?_, ?_, fun _ => h1, ?_⟩
 ·rw [← hW1]; exact run_enterLoop_outer _ _ _ _ _
 ·simp only [resolve, hg]; simp [go_sem]
 ·intro f' hf'; simp [Target.leads] at hf'; subst hf'; exact hFg
 ·simp [invoke, go_sem, eg]
 ·refine (hseq L (fun pre W => I pre W ∧ W.heap[L]? = some (.loop (R .ready none)) ∧ W.heap[D]? = some (.deferred (some [])))
   (fun pre W => Ix pre W ∧ W.heap[L]? = some (.loop (R .done (some (.exit id)))) ∧ W.heap[D]? = some (.deferred (some []))) W1 hB1 ?_ ?_ ?_ ?_ ⟨hI1, hL1, hD1⟩).mono ?_
  ·rintro s A B row ⟨hs, hl, hd⟩ hg' hr
   exact ⟨hI s A B row hs hg' (walkc hr), (grownBy_keeps hg' (fun r e => (hr r e).2) hl rfl).trans hl, (grownBy_keeps hg' (fun r e => (hr r e).2) hd rfl).trans hd⟩
  ·rintro s A B row ⟨hs, hl, hd⟩ hg' hr
   exact ⟨hIx s A B row hs hg' (walkc hr), (grownBy_keeps hg' (fun r e => (hr r e).2) hl rfl).trans hl, (grownBy_keeps hg' (fun r e => (hr r e).2) hd rfl).trans hd⟩
  ·rintro s A B ⟨hs, hl, hd⟩ hst
   exact ⟨hIS s A B hs hst, (hSt A B hst L (by simp [L])).trans hl, (hSt A B hst D (Nat.le_refl _)).trans hd⟩
  ·rintro pre x W ⟨hi, hl, hd⟩ hlen
   refine ⟨fn, _, assign, body, run_yield hl (by simp [R, hps]), roundIn_of_wpIn hfn (hassign L pre x W _ hi ?_)⟩
   intro a' W' hk hb hi' hm
   have hl' := hk.same _ _ (by simp [L]) hl rfl
   have hd' := hk.same _ _ (Nat.le_refl _) hd rfl
   have hLt' : L < W'.heap.size := (Array.getElem?_eq_some_iff.1 hl').1
   refine ⟨_, run_beginRound hl' rfl, ?_⟩
   have hl2 : (W'.putObj L (.loop { R .ready none with state := .busy })).heap[L]? = some (.loop { R .ready none with state := .busy }) := World.putObj_heap_same hLt'
   have hd2 : (W'.putObj L (.loop { R .ready none with state := .busy })).heap[D]? = some (.deferred (some [])) := (World.putObj_heap_other (by omega)).trans hd'
   refine wpIn_mono (hbody L pre x a' _ (hI.putObj _ hi' (by omega) hl' rfl) ((hMid x a').putObj (s := ()) _ hm (by omega) hl' rfl) hlen) ?_
   intro e a3 W3 hp
   cases e with
   | normal =>
    obtain ⟨hk3, hb3, hi3⟩ := hp
    have hl3 := hk3.same _ _ (by simp [L]) hl2 rfl
    have hd3 := hk3.same _ _ (Nat.le_refl _) hd2 rfl
    refine ⟨_, _, run_endRound none hl3, .inl ⟨rfl, ⟨hI.putObj _ hi3 (by omega) hl3 rfl, World.putObj_heap_same (Array.getElem?_eq_some_iff.1 hl3).1, (World.putObj_heap_other (by omega)).trans hd3⟩, ?_⟩⟩
    exact hKt (hKt (hKt hb (hKb _ _ _ (by omega))) hb3) (hKb _ _ _ (by omega))
   | exit i =>
    obtain ⟨rfl, hk3, hi3⟩ := hp
    have hl3 := hk3.same _ _ (by simp [L]) hl2 rfl
    have hd3 := hk3.same _ _ (Nat.le_refl _) hd2 rfl
    exact ⟨_, _, run_endRound (some (.exit i)) hl3, .inr ⟨rfl, hIx.putObj _ hi3 (by omega) hl3 rfl, World.putObj_heap_same (Array.getElem?_eq_some_iff.1 hl3).1, (World.putObj_heap_other (by omega)).trans hd3⟩⟩
   | ret => exact hp.elim
   | goto t => exact hp.elim
   | panic ch => exact hp.elim
   | outgrown => exact hp.elim
  ·rintro e W2 ⟨⟨v, rfl⟩, (⟨xs, hS, hi, hl, hd⟩ | ⟨pre, hSp, hi, hl, hd⟩)⟩
   ·exact ⟨none, _, run_endLoop hl (by simp [R]), hdone D xs _ (Nat.le_refl _) hS (hI.putObj _ hi (by omega) hl rfl) ((World.putObj_heap_other (by omega)).trans hd)⟩
   ·exact ⟨some (.exit id), _, run_endLoop hl (by simp [R]), wpIn_exit (hstop D pre _ (Nat.le_refl _) hSp (hIx.putObj _ hi (by omega) hl rfl) ((World.putObj_heap_other (by omega)).trans hd))⟩
end Go.Proofs.YtcbfbefpbjmglaaDoor.Mac
