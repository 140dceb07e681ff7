import Derived.Maps.OwnSet
import Derived.Maps.OwnIn
import Derived.Test.YthfpdlfpbbhjhaaDoorA0
import Derived.RegionTactic
import Derived.ChangeAlike
import Derived.BigRegion
import Derived.Outline
import Derived.Lib.Hide
import Derived.Deep.QuietTactic
import Derived.BigQuiet
namespace Go.Proofs.MapFun
open Go.Maps (Keyed)
open Go.ChangeMaps Go.MapKept
set_option linter.unusedSectionVars false
def heldR (v : Value) : Option (DataW Value × List MemPlace) := some (.held v, [])
def upd {κ : Type} [DecidableEq κ] (f : κ → Option Value) (x : κ) (v : Value) : κ → Option Value := fun y => if y = x then some v else f y
structure KeyEmb {κ : Type} (c : κ → Lit) : Prop where
  inj : ∀ {x y}, c x = c y → x = y
  key : ∀ x, WideAt.IsKeyLit (c x)
theorem strEmb : KeyEmb Lit.string := ⟨fun h => by cases h; rfl, fun x => by simp [WideAt.IsKeyLit]⟩
def MapF {κ : Type} (P : Program) (k : TypeId) (c : κ → Lit) (w : World) (b n : Nat) (f : κ → Option Value) : Prop :=
  ∃ D : DataW Value, w.ownsMap P k heldR b n D ∧ Maps.size D = n ∧ ∀ x, Maps.has D (c x) = (f x).isSome ∧ ∀ v, f x = some v → ∀ z, D.atKey (c x) z = .held v
section
variable {κ : Type} [DecidableEq κ] {P : Program} {k : TypeId} {c : κ → Lit} {w : World} {b n : Nat} {f : κ → Option Value}
theorem MapF.made (w : World) (P : Program) (k : TypeId) (c : κ → Lit) : MapF P k c (w.alloc (.map #[] 0)) w.heap.size 0 (fun _ => none) :=
  ⟨.map [], World.ownsMap_made w P k heldR, rfl, fun x => ⟨rfl, fun v h => by cases h⟩⟩
theorem MapF.lt (h : MapF P k c w b n f) : b < w.heap.size := by obtain ⟨D, h, _⟩ := h; exact h.lt
theorem MapF.kept {w' : World} {row : Option Nat} (h : MapF P k c w b n f) (hg : w.grownBy w' row) (hne : some b ≠ row) : MapF P k c w' b n f := by
  obtain ⟨D, h1, h2⟩ := h; exact ⟨D, h1.kept hg hne, h2⟩
theorem MapF.block {w' : World} (h : MapF P k c w b n f) (hb : w'.heap[b]? = w.heap[b]?) : MapF P k c w' b n f := by
  obtain ⟨D, ⟨es, clock, h1, h2⟩, h3⟩ := h; exact ⟨D, ⟨es, clock, hb.trans h1, h2⟩, h3⟩
theorem MapF.isMap (h : MapF P k c w b n f) : ∃ es clock, w.heap[b]? = some (.map es clock) := by
  obtain ⟨D, ⟨es, clock, h1, h2⟩, h3⟩ := h; exact ⟨es, clock, h1⟩
theorem MapF.look_ok {t e : TypeId} (h : MapF P k c w b n f) (K : Keyed P k) (ht : P.underlying t = some (.map k e)) {z : Value} (hz : (zeroValue e).run P w = .ok z w) {key : Value} {x : κ} (hkey : keyOf P k key = some (c x)) :
    (Instr.lookup t (.map (some b)) key true).run P w = .ok (.tuple #[(f x).getD z, .bool (f x).isSome]) w := by
  obtain ⟨D, h, _, hx⟩ := h
  obtain ⟨v, ps, hrun, hv⟩ := h.look_ok K ht hz (zd := .held z) (zp := []) rfl hkey
  obtain ⟨h1, h2⟩ := hx x
  rw [hrun, h1]
  cases hf : f x with
  | some v' =>
    rw [h2 v' hf] at hv
    have : DataW.held v = DataW.held v' := by unfold heldR at hv; cases hv; rfl
    cases this; rfl
  | none =>
    rw [hf] at h1
    rw [Maps.atKey_of_not_has h1] at hv
    have : DataW.held v = DataW.held z := by unfold heldR at hv; cases hv; rfl
    cases this; rfl
theorem tight {D : DataW Value} {m : Nat} (h : w.ownsMap P k heldR b m D) : w.ownsMap P k heldR b (Maps.size D) D := by
  obtain ⟨es, clock, h1, h2, h3, rfl⟩ := h
  exact ⟨es, clock, h1, h2, by simp [Maps.size, length_sorted], rfl⟩
theorem MapF.store {t e : TypeId} (E : KeyEmb c) (h : MapF P k c w b n f) (K : Keyed P k) (ht : P.underlying t = some (.map k e)) (hn : n < maxLen) {key val : Value} {x : κ} (hkey : keyOf P k key = some (c x)) :
    ∃ w', (Instr.mapUpdate t (.map (some b)) key val).run P w = .ok () w' ∧ MapF P k c w' b (if (f x).isSome then n else n + 1) (upd f x val) ∧ w.mapTurned w' b := by
  obtain ⟨D, h, hs, hx⟩ := h
  obtain ⟨w', hrun, h', ht'⟩ := h.store K ht hn (val := val) (d := .held val) (ps := []) hkey rfl
  have hsz : Maps.size (D.put (c x) (.held val)) = if (f x).isSome then n else n + 1 := by
    rw [Maps.size_put (h.tidy K), (hx x).1, hs]
  refine ⟨w', hrun, ⟨D.put (c x) (.held val), by rw [← hsz]; exact tight h', hsz, fun y => ?_⟩, ht'⟩
  by_cases hy : y = x
  · subst hy
    refine ⟨by rw [Maps.has_put_same h.isMap (E.key y)]; simp [upd], fun v hv z => ?_⟩
    have : val = v := by simpa [upd] using hv
    rw [Maps.atKey_put_same h.isMap (E.key y), this]
  · have hne : c y ≠ c x := fun h => hy (E.inj h)
    refine ⟨by rw [Maps.has_put_other hne, (hx y).1]; simp [upd, hy], fun v hv z => ?_⟩
    rw [Maps.atKey_put_other hne]
    exact (hx y).2 v (by simpa [upd, hy] using hv) z
theorem MapF.len {t e : TypeId} (h : MapF P k c w b n f) (ht : P.underlying t = some (.map k e)) (ty : TypeId) : (Builtin.len_ #[t] ty #[.map (some b)]).run P w = .ok (.int .i64 n) w := by
  obtain ⟨D, h, hs, hx⟩ := h
  rw [h.len ht ty, hs]
end
section
variable {κ : Type} [DecidableEq κ] {P : Program} {k : TypeId} {c : κ → Lit} {b n : Nat} {f : κ → Option Value} {F : Fence} {nF : Nat} (w : World) {ops : Array Oper} {rest : List Oper} {o : Oper} {a : Act} {Q : Exit → Act → World → Prop}
theorem wpList_store (hg : o.guard = none) (m x v : Operand) (t : TypeId) (hop : o.op = Op.mapUpdate t m x v) (e : TypeId) (E : KeyEmb c) (h : MapF P k c w b n f) (K : Keyed P k) (ht : P.underlying t = some (.map k e)) (hn : n < maxLen)
    (hm : a.eval m = .map (some b)) (key val : Value) (y : κ) (hx : a.eval x = key) (hv : a.eval v = val) (hkey : keyOf P k key = some (c y))
    (hK : ∀ w', MapF P k c w' b (if (f y).isSome then n else n + 1) (upd f y val) → w.mapTurned w' b → wpList P ops Q rest (a.put o.dst undef) w') : wpList P ops Q (o :: rest) a w := by
  refine wpList_plain hg fun K' hK' => ?_
  obtain ⟨w', hrun, r1, r2⟩ := h.store E K ht hn (val := val) hkey
  unfold Oper.wp
  simp [execOp, hop, hm, hx, hv, hrun, Result.andThen]
  exact hK' _ _ (hK w' r1 r2)
end
end Go.Proofs.MapFun
namespace Go.Proofs.YthfpdlfpbbhjhaaDoor.Mc
open Go.RowKit Go.Proofs.YthfpdlfpbbhjhaaDoor.PA Go.Proofs.MapFun Go.Proofs.YthfpdlfpbbhjhaaDoorW.PrintWords Go.Proofs.YthfpdlfpbbhjhaaDoorW.PrintLast Go.Proofs.YthfpdlfpbbhjhaaDoorW.PrintMore
set_option linter.unusedVariables false
set_option linter.unusedSimpArgs false
structure St where
  r : List Int
  mem : List Int
  pc : Int
  fl : Option (Int × Int)
  sc : List Int
  ev : List S133
  e : Int
structure Ct where
  w0 : World
  b : Nat
  bm : Nat
  bt : Nat
  l : List S50
  AL : Option Addr
  cL : Nat
  h : List S28
  AH : Option Addr
  cH : Nat
  lab : List UInt8 → Option Value
  nl : Nat
structure Ct.Ok (K : Ct) : Prop where
  hb : K.w0.heap.size ≤ K.b
  hm : K.w0.heap.size ≤ K.bm
  ht : K.w0.heap.size ≤ K.bt
  bm : K.b ≠ K.bm
  bt : K.b ≠ K.bt
  mt : K.bm ≠ K.bt
  l : Kd.C k50 K.w0 K.AL K.l.length K.l
  lc : K.l.length ≤ K.cL
  h : Kd.C k28 K.w0 K.AH K.h.length K.h
  hc : K.h.length ≤ K.cH
def mcells (K : Ct) (s : St) (fv sv evv : Value) : Array Value :=
  #[.slice K.AL K.l.length K.cL, .map (some K.bt), .slice K.AH K.h.length K.cH,
    .int .i64 (s.r.getD 0 0), .int .i64 (s.r.getD 1 0), .int .i64 (s.r.getD 2 0), .int .i64 (s.r.getD 3 0), .int .i64 (s.r.getD 4 0), .int .i64 (s.r.getD 5 0), .int .i64 (s.r.getD 6 0), .int .i64 (s.r.getD 7 0),
    .int .i64 (s.r.getD 8 0), .int .i64 (s.r.getD 9 0), .int .i64 (s.r.getD 10 0), .int .i64 (s.r.getD 11 0), .int .i64 (s.r.getD 12 0), .int .i64 (s.r.getD 13 0), .int .i64 (s.r.getD 14 0), .int .i64 (s.r.getD 15 0),
    .slice (some ⟨K.bm, 0, none⟩) s.mem.length s.mem.length, .int .i64 s.pc, fv, sv, evv, .int .i64 s.e]
def FlOk (K : Ct) (w : World) (fv : Value) : Option (Int × Int) → Prop
  | none => fv = .pointer none
  | some (a, c) => ∃ bf, fv = .pointer (some ⟨bf, 0, none⟩) ∧ K.w0.heap.size ≤ bf ∧ bf ≠ K.b ∧ bf ≠ K.bm ∧ w.heap[bf]? = some (.cells #[.int .i64 a, .int .i64 c] 108 (0, 0))
def ScOk (K : Ct) (sv : Value) (sc : List Int) : Prop := ∃ A c, sv = .slice A sc.length c ∧ sc.length ≤ c ∧ Kd.C (Kd.int .i64) K.w0 A sc.length sc
def EvOk (K : Ct) (w : World) (evv : Value) (ev : List S133) : Prop := Kd.R k133 133 w K.w0.heap.size (fun k => k ≠ K.bm) evv ev
structure MacV (K : Ct) (w : World) (s : St) (fv sv evv : Value) : Prop where
  blk : w.heap[K.b]? = some (.cells (mcells K s fv sv evv) 60 (0, 0))
  fl : FlOk K w fv s.fl
  sc : ScOk K sv s.sc
  ev : EvOk K w evv s.ev
  mem : w.heap[K.bm]? = some (.cells (s.mem.map (Value.int .i64)).toArray 2 (0, 0))
  map : MapF Tryd.prog 9 Lit.string w K.bt K.nl K.lab
  below : Below K.w0.heap.size K.w0 w
  r : s.r.length = 16
  m : s.mem.length ≤ 8192
def Mac (K : Ct) (w : World) (s : St) : Prop := ∃ fv sv evv, MacV K w s fv sv evv
section
variable {K : Ct} {w w' : World} {s : St} {fv sv evv : Value}
theorem MacV.mac (h : MacV K w s fv sv evv) : Mac K w s := ⟨fv, sv, evv, h⟩
theorem MacV.lt (h : MacV K w s fv sv evv) : K.b < w.heap.size := (Array.getElem?_eq_some_iff.1 h.blk).1
theorem MacV.ltm (h : MacV K w s fv sv evv) : K.bm < w.heap.size := (Array.getElem?_eq_some_iff.1 h.mem).1
theorem FlOk.step {f : Option (Int × Int)} (h : FlOk K w fv f) (hk : ∀ k, k ≠ K.b → k ≠ K.bm → k < w.heap.size → w'.heap[k]? = w.heap[k]?) : FlOk K w' fv f := by
  match f, h with
  | none, h => exact h
  | some (a, c), ⟨bf, h1, h2, h3, h4, h5⟩ => exact ⟨bf, h1, h2, h3, h4, (hk bf h3 h4 (Array.getElem?_eq_some_iff.1 h5).1).trans h5⟩
theorem MacV.step (O : K.Ok) (h : MacV K w s fv sv evv) (hb : Below w.heap.size w w') : MacV K w' s fv sv evv where
  blk := (hb.block K.b h.lt).trans h.blk
  fl := h.fl.step fun k _ _ hk => hb.block k hk
  sc := h.sc
  ev := Kd.R_below h.ev hb
  mem := (hb.block K.bm h.ltm).trans h.mem
  map := h.map.block (hb.block K.bt h.map.lt)
  below := h.below.trans (hb.mono h.below.size)
  r := h.r
  m := h.m
theorem Mac.step (O : K.Ok) (h : Mac K w s) (hb : Below w.heap.size w w') : Mac K w' s := by
  obtain ⟨a, b, c, h⟩ := h; exact ⟨a, b, c, h.step O hb⟩
theorem heap_same {W : World} {X i : Nat} {v : Value} {c : Array Value} {t : TypeId} {fr : Nat × Nat} (h : W.heap[X]? = some (.cells c t fr)) : (W.setCell ⟨X, i, none⟩ v).heap[X]? = some (.cells (c.setIfInBounds i v) t fr) := by
  obtain ⟨hlt, he⟩ := Array.getElem?_eq_some_iff.1 h
  unfold World.setCell
  rw [Array.getElem?_eq_some_iff]
  refine ⟨by simpa using hlt, ?_⟩
  simp [Array.getElem_modify, he]
theorem MacV.put (O : K.Ok) (h : MacV K w s fv sv evv) (i : Nat) (v : Value) {s' : St} {fv' sv' evv' : Value} (hc : (mcells K s fv sv evv).setIfInBounds i v = mcells K s' fv' sv' evv') (hmem : s'.mem = s.mem)
    (hr : s'.r.length = 16) (hfl : FlOk K w fv' s'.fl) (hsc : ScOk K sv' s'.sc) (hev : EvOk K w evv' s'.ev) : MacV K (w.setCell ⟨K.b, i, none⟩ v) s' fv' sv' evv' where
  blk := by rw [heap_same h.blk, hc]
  fl := hfl.step fun k hk _ _ => Below.heap_setCell w ⟨K.b, i, none⟩ v k hk
  sc := hsc
  ev := Kd.R_set hev h.blk (by decide) i v
  mem := by rw [Below.heap_setCell w ⟨K.b, i, none⟩ v K.bm O.bm.symm, hmem]; exact h.mem
  map := h.map.block (Below.heap_setCell w ⟨K.b, i, none⟩ v K.bt O.bt.symm)
  below := h.below.setCell (p := ⟨K.b, i, none⟩) O.hb v
  r := hr
  m := by rw [hmem]; exact h.m
theorem mcells_reg (hr : s.r.length = 16) (i : Nat) (hi : i < 16) (x : Int) : (mcells K s fv sv evv).setIfInBounds (3 + i) (.int .i64 x) = mcells K { s with r := s.r.set i x } fv sv evv := by
  obtain ⟨r, mem, pc, fl, sc, ev, e⟩ := s
  simp only at hr
  match r, hr with
  | [_, _, _, _, _, _, _, _, _, _, _, _, _, _, _, _], _ =>
    rcases (show i = 0 ∨ i = 1 ∨ i = 2 ∨ i = 3 ∨ i = 4 ∨ i = 5 ∨ i = 6 ∨ i = 7 ∨ i = 8 ∨ i = 9 ∨ i = 10 ∨ i = 11 ∨ i = 12 ∨ i = 13 ∨ i = 14 ∨ i = 15 by omega) with rfl | rfl | rfl | rfl | rfl | rfl | rfl | rfl | rfl | rfl | rfl | rfl | rfl | rfl | rfl | rfl <;> rfl
def St.setR (s : St) (i : Nat) (x : Int) : St := { s with r := s.r.set i x }
def St.reg (s : St) (i : Nat) : Int := s.r.getD i 0
theorem MacV.setR (O : K.Ok) (h : MacV K w s fv sv evv) (i : Nat) (hi : i < 16) (x : Int) : MacV K (w.setCell ⟨K.b, 3 + i, none⟩ (.int .i64 x)) (s.setR i x) fv sv evv :=
  h.put O (3 + i) _ (mcells_reg h.r i hi x) rfl (by simp [St.setR, h.r]) h.fl h.sc h.ev
theorem MacV.setPc (O : K.Ok) (h : MacV K w s fv sv evv) (x : Int) : MacV K (w.setCell ⟨K.b, 20, none⟩ (.int .i64 x)) { s with pc := x } fv sv evv :=
  h.put O 20 _ rfl rfl h.r h.fl h.sc h.ev
theorem MacV.setE (O : K.Ok) (h : MacV K w s fv sv evv) (x : Int) : MacV K (w.setCell ⟨K.b, 24, none⟩ (.int .i64 x)) { s with e := x } fv sv evv :=
  h.put O 24 _ rfl rfl h.r h.fl h.sc h.ev
theorem MacV.setFl (O : K.Ok) (h : MacV K w s fv sv evv) (f : Option (Int × Int)) (v : Value) (hf : FlOk K w v f) : MacV K (w.setCell ⟨K.b, 21, none⟩ v) { s with fl := f } v sv evv :=
  h.put O 21 _ rfl rfl h.r hf h.sc h.ev
theorem MacV.setM (O : K.Ok) (h : MacV K w s fv sv evv) (i : Nat) (x : Int) : MacV K (w.setCell ⟨K.bm, i, none⟩ (.int .i64 x)) { s with mem := s.mem.set i x } fv sv evv where
  blk := by
    rw [Below.heap_setCell w ⟨K.bm, i, none⟩ _ K.b O.bm, h.blk]
    simp [mcells]
  fl := h.fl.step fun k _ hk _ => Below.heap_setCell w ⟨K.bm, i, none⟩ _ k hk
  sc := h.sc
  ev := Kd.R_far (p := ⟨K.bm, i, none⟩) h.ev (fun k hk => hk) _
  mem := by
    rw [heap_same h.mem]
    congr 2
    simp [List.map_set]
  map := h.map.block (Below.heap_setCell w ⟨K.bm, i, none⟩ _ K.bt O.mt.symm)
  below := h.below.setCell (p := ⟨K.bm, i, none⟩) O.hm _
  r := h.r
  m := by simpa using h.m
theorem cell_at {w : World} {b : Nat} {cs : Array Value} {t : TypeId} {fz : Nat × Nat} (h : w.heap[b]? = some (.cells cs t fz)) (i : Nat) {v : Value} (hv : cs[i]? = some v) : w.cell? ⟨b, i, none⟩ = some v := by
  simp [World.cell?, h, hv]
theorem fz_at {w : World} {b : Nat} {cs : Array Value} {t : TypeId} (h : w.heap[b]? = some (.cells cs t (0, 0))) (i : Nat) : w.frozen? ⟨b, i, none⟩ = false := by
  simp [World.frozen?, h]
theorem MacV.reg (h : MacV K w s fv sv evv) (i : Nat) (hi : i < 16) : w.cell? ⟨K.b, 3 + i, none⟩ = some (.int .i64 (s.reg i)) := by
  refine cell_at h.blk _ ?_
  rcases (show i = 0 ∨ i = 1 ∨ i = 2 ∨ i = 3 ∨ i = 4 ∨ i = 5 ∨ i = 6 ∨ i = 7 ∨ i = 8 ∨ i = 9 ∨ i = 10 ∨ i = 11 ∨ i = 12 ∨ i = 13 ∨ i = 14 ∨ i = 15 by omega) with rfl | rfl | rfl | rfl | rfl | rfl | rfl | rfl | rfl | rfl | rfl | rfl | rfl | rfl | rfl | rfl <;> rfl
theorem MacV.fz (h : MacV K w s fv sv evv) (i : Nat) : w.frozen? ⟨K.b, i, none⟩ = false := fz_at h.blk i
theorem MacV.cL (h : MacV K w s fv sv evv) : w.cell? ⟨K.b, 0, none⟩ = some (.slice K.AL K.l.length K.cL) := cell_at h.blk 0 rfl
theorem MacV.cH (h : MacV K w s fv sv evv) : w.cell? ⟨K.b, 2, none⟩ = some (.slice K.AH K.h.length K.cH) := cell_at h.blk 2 rfl
theorem MacV.cM (h : MacV K w s fv sv evv) : w.cell? ⟨K.b, 19, none⟩ = some (.slice (some ⟨K.bm, 0, none⟩) s.mem.length s.mem.length) := cell_at h.blk 19 rfl
theorem MacV.cP (h : MacV K w s fv sv evv) : w.cell? ⟨K.b, 20, none⟩ = some (.int .i64 s.pc) := cell_at h.blk 20 rfl
theorem MacV.cF (h : MacV K w s fv sv evv) : w.cell? ⟨K.b, 21, none⟩ = some fv := cell_at h.blk 21 rfl
theorem MacV.cS (h : MacV K w s fv sv evv) : w.cell? ⟨K.b, 22, none⟩ = some sv := cell_at h.blk 22 rfl
theorem MacV.cEv (h : MacV K w s fv sv evv) : w.cell? ⟨K.b, 23, none⟩ = some evv := cell_at h.blk 23 rfl
theorem MacV.cE (h : MacV K w s fv sv evv) : w.cell? ⟨K.b, 24, none⟩ = some (.int .i64 s.e) := cell_at h.blk 24 rfl
theorem MacV.word (h : MacV K w s fv sv evv) (i : Nat) (hi : i < s.mem.length) : w.cell? ⟨K.bm, i, none⟩ = some (.int .i64 (s.mem.getD i 0)) := by
  refine cell_at h.mem i ?_
  simp [List.getD_eq_getElem?_getD, hi]
theorem MacV.fzm (h : MacV K w s fv sv evv) (i : Nat) : w.frozen? ⟨K.bm, i, none⟩ = false := fz_at h.mem i
end
structure Fr (K : Ct) (w w' : World) : Prop where
  size : w.heap.size ≤ w'.heap.size
  block : ∀ k, k ≠ K.b → k ≠ K.bm → k < w.heap.size → w'.heap[k]? = w.heap[k]?
section
variable {K : Ct} {w w' w'' : World}
theorem Fr.refl (K : Ct) (w : World) : Fr K w w := ⟨Nat.le_refl _, fun _ _ _ _ => rfl⟩
theorem Fr.trans (h : Fr K w w') (h' : Fr K w' w'') : Fr K w w'' := ⟨Nat.le_trans h.size h'.size, fun k h1 h2 h3 => (h'.block k h1 h2 (Nat.lt_of_lt_of_le h3 h.size)).trans (h.block k h1 h2 h3)⟩
theorem Fr.of (hb : Below w.heap.size w w') : Fr K w w' := ⟨hb.size, fun k _ _ h => hb.block k h⟩
theorem Fr.set (h : Fr K w w') (i : Nat) (v : Value) : Fr K w (w'.setCell ⟨K.b, i, none⟩ v) := ⟨by simpa using h.size, fun k h1 h2 h3 => (Below.heap_setCell w' ⟨K.b, i, none⟩ v k h1).trans (h.block k h1 h2 h3)⟩
theorem Fr.setM (h : Fr K w w') (i : Nat) (v : Value) : Fr K w (w'.setCell ⟨K.bm, i, none⟩ v) := ⟨by simpa using h.size, fun k h1 h2 h3 => (Below.heap_setCell w' ⟨K.bm, i, none⟩ v k h2).trans (h.block k h1 h2 h3)⟩
theorem Fr.new (h : Fr K w w') {bz : Nat} (hz : w.heap.size ≤ bz) (i : Nat) (v : Value) : Fr K w (w'.setCell ⟨bz, i, none⟩ v) := ⟨by simpa using h.size, fun k h1 h2 h3 => (Below.heap_setCell w' ⟨bz, i, none⟩ v k (show k ≠ bz by omega)).trans (h.block k h1 h2 h3)⟩
theorem Fr.alloc (h : Fr K w w') (o : Obj) : Fr K w (w'.alloc o) := h.trans (Fr.of ((Below.refl _ _).alloc (Nat.le_refl _) o))
theorem Fr.drew (h : Fr K w w') : Fr K w w'.drew := h.trans (Fr.of (below_drew1 (Below.refl _ _)))
theorem Fr.cell (h : Fr K w w') {p : Addr} {v : Value} (hc : w.cell? p = some v) (h1 : p.block ≠ K.b) (h2 : p.block ≠ K.bm) : w'.cell? p = some v :=
  (World.cell?_of_block (h.block p.block h1 h2 (World.block_lt_of_cell? w _ hc))).trans hc
end
section
variable {K : Ct} {w w' : World} {s : St}
theorem Mac.reg (h : Mac K w s) (i : Nat) (hi : i < 16) : w.cell? ⟨K.b, 3 + i, none⟩ = some (.int .i64 (s.reg i)) := by obtain ⟨_, _, _, h⟩ := h; exact h.reg i hi
theorem Mac.fz (h : Mac K w s) (i : Nat) : w.frozen? ⟨K.b, i, none⟩ = false := by obtain ⟨_, _, _, h⟩ := h; exact h.fz i
theorem Mac.setR (O : K.Ok) (h : Mac K w s) (i : Nat) (hi : i < 16) (x : Int) : Mac K (w.setCell ⟨K.b, 3 + i, none⟩ (.int .i64 x)) (s.setR i x) := by obtain ⟨_, _, _, h⟩ := h; exact (h.setR O i hi x).mac
theorem Mac.setE (O : K.Ok) (h : Mac K w s) (x : Int) : Mac K (w.setCell ⟨K.b, 24, none⟩ (.int .i64 x)) { s with e := x } := by obtain ⟨_, _, _, h⟩ := h; exact (h.setE O x).mac
theorem Mac.setPc (O : K.Ok) (h : Mac K w s) (x : Int) : Mac K (w.setCell ⟨K.b, 20, none⟩ (.int .i64 x)) { s with pc := x } := by obtain ⟨_, _, _, h⟩ := h; exact (h.setPc O x).mac
theorem Mac.cE (h : Mac K w s) : w.cell? ⟨K.b, 24, none⟩ = some (.int .i64 s.e) := by obtain ⟨_, _, _, h⟩ := h; exact h.cE
theorem Mac.cP (h : Mac K w s) : w.cell? ⟨K.b, 20, none⟩ = some (.int .i64 s.pc) := by obtain ⟨_, _, _, h⟩ := h; exact h.cP
theorem Mac.cL (h : Mac K w s) : w.cell? ⟨K.b, 0, none⟩ = some (.slice K.AL K.l.length K.cL) := by obtain ⟨_, _, _, h⟩ := h; exact h.cL
theorem Mac.cH (h : Mac K w s) : w.cell? ⟨K.b, 2, none⟩ = some (.slice K.AH K.h.length K.cH) := by obtain ⟨_, _, _, h⟩ := h; exact h.cH
theorem Mac.lt (h : Mac K w s) : K.b < w.heap.size := by obtain ⟨_, _, _, h⟩ := h; exact h.lt
theorem Mac.ltm (h : Mac K w s) : K.bm < w.heap.size := by obtain ⟨_, _, _, h⟩ := h; exact h.ltm
theorem Mac.below (h : Mac K w s) : Below K.w0.heap.size K.w0 w := by obtain ⟨_, _, _, h⟩ := h; exact h.below
theorem Mac.map (h : Mac K w s) : MapF Tryd.prog 9 Lit.string w K.bt K.nl K.lab := by obtain ⟨_, _, _, h⟩ := h; exact h.map
end
end Go.Proofs.YthfpdlfpbbhjhaaDoor.Mc
namespace Go.Proofs.YthfpdlfpbbhjhaaDoor.Mc
open Go.RowKit Go.Proofs.YthfpdlfpbbhjhaaDoor.PA Go.Proofs.MapFun Go.Proofs.YthfpdlfpbbhjhaaDoorW.PrintWords Go.Proofs.YthfpdlfpbbhjhaaDoorW.PrintLast Go.Proofs.YthfpdlfpbbhjhaaDoorW.PrintMore
set_option linter.unusedVariables false
set_option linter.unusedSimpArgs false
def wordOk (s : St) (a : Int) : Bool := decide (0 ≤ a) && decide (a % 8 = 0) && decide (a / 8 < s.mem.length)
theorem wordOk_iff {s : St} {a : Int} : wordOk s a = true ↔ 0 ≤ a ∧ a % 8 = 0 ∧ a / 8 < s.mem.length := by simp [wordOk, and_assoc]
set_option maxHeartbeats 1000000 in
theorem word_ok (K : Ct) (s : St) (a : Int) (w : World) (h : Mac K w s) (ha : wordOk s a = true) :
    Calls Tryd.prog 24 #[.pointer (some ⟨K.b, 0, none⟩), .int .i64 a] w fun e w' => e = .returned (.pointer (some ⟨K.bm, (a / 8).toNat, none⟩)) ∧ w = w' := by
  obtain ⟨fv, sv, evv, h⟩ := h
  obtain ⟨h0, h1, h2⟩ := wordOk_iff.1 ha
  have cM := h.cM
  have hm := h.m
  have hlen : (s.mem.length : Int) ≤ 8192 := by omega
  clear h ha hm
  have n1 : ¬ a < 0 := by omega
  have n2 : (a % 8 == 0) = true := by simp [h1]
  go_enter Tryd.func24, Tryd.ntmps24
  go_wp2
  go_ret
  exact ⟨rfl, rfl⟩
def NoWord (K : Ct) (s : St) (w : World) (e : Ending) (w' : World) : Prop :=
  ∃ bz, e = .returned (.pointer (some ⟨bz, 0, none⟩)) ∧ w'.cell? ⟨bz, 0, none⟩ = some (.int .i64 0) ∧ w'.frozen? ⟨bz, 0, none⟩ = false ∧ Mac K w' { s with e := 191 } ∧ (∀ v, Mac K (w'.setCell ⟨bz, 0, none⟩ v) { s with e := 191 }) ∧ w.heap.size ≤ bz ∧ Fr K w w'
theorem noWord_mk (K : Ct) (O : K.Ok) (s : St) (w : World) (h : Mac K w s) : NoWord K s w (.returned (.pointer (some ⟨w.heap.size, 0, none⟩))) ((w.setCell ⟨K.b, 24, none⟩ (.int .i64 191)).alloc (.cells #[.int .i64 0] 2)) := by
  obtain ⟨fv, sv, evv, h⟩ := h
  have h' := h.setE O 191
  have hF := ((Fr.refl K w).set 24 (.int .i64 191)).alloc (.cells #[.int .i64 0] 2)
  obtain ⟨W, hW⟩ : ∃ W, w.setCell ⟨K.b, 24, none⟩ (.int .i64 191) = W := ⟨_, rfl⟩
  have hs : w.heap.size = W.heap.size := by rw [← hW]; simp
  rw [hW] at h' hF ⊢
  refine ⟨W.heap.size, by rw [hs], by simp, by simp, (h'.step O ((Below.refl _ _).alloc (Nat.le_refl _) _)).mac, fun v => ?_, by omega, hF⟩
  rw [World.setCell_alloc_new]
  exact (h'.step O ((Below.refl _ _).alloc (Nat.le_refl _) _)).mac
set_option maxHeartbeats 1000000 in
theorem word_bad (K : Ct) (O : K.Ok) (s : St) (a : Int) (w : World) (h : Mac K w s) (hi : a ≤ 9223372036854775807) (ha : wordOk s a = false) :
    Calls Tryd.prog 24 #[.pointer (some ⟨K.b, 0, none⟩), .int .i64 a] w (NoWord K s w) := by
  have HM := Lib.hid (noWord_mk K O s w h)
  obtain ⟨fv, sv, evv, h⟩ := h
  have cM := h.cM
  have hm := h.m
  have cE := h.cE
  have fE := h.fz 24
  have hlen : (s.mem.length : Int) ≤ 8192 := by omega
  clear h hm
  by_cases n0 : a < 0
  · clear ha
    go_enter Tryd.func24, Tryd.ntmps24
    go_wp2
    go_ret
    exact HM.out
  · have n0' : 0 ≤ a := by omega
    by_cases n1 : a % 8 = 0
    · have n2 : ¬ a / 8 < s.mem.length := fun hc => by rw [wordOk_iff.2 ⟨n0', n1, hc⟩] at ha; cases ha
      have n3 : (s.mem.length : Int) ≤ a / 8 := by omega
      have n1' : (a % 8 == 0) = true := by simp [n1]
      clear ha n2
      go_enter Tryd.func24, Tryd.ntmps24
      go_wp2
      go_ret
      exact HM.out
    · have n1' : (a % 8 == 0) = false := by simpa using n1
      clear ha
      go_enter Tryd.func24, Tryd.ntmps24
      go_wp2
      go_ret
      exact HM.out
end Go.Proofs.YthfpdlfpbbhjhaaDoor.Mc
namespace Go.Proofs.YthfpdlfpbbhjhaaDoor.Mc
open Go.RowKit Go.Proofs.YthfpdlfpbbhjhaaDoor.PA Go.Proofs.MapFun Go.Proofs.YthfpdlfpbbhjhaaDoorW.PrintWords Go.Proofs.YthfpdlfpbbhjhaaDoorW.PrintLast Go.Proofs.YthfpdlfpbbhjhaaDoorW.PrintMore
set_option linter.unusedVariables false
set_option linter.unusedSimpArgs false
def St.store (s : St) (a v : Int) : St := if wordOk s a then { s with mem := s.mem.set (a / 8).toNat v } else { s with e := 191 }
def St.load (s : St) (a : Int) : Int × St := if wordOk s a then (s.mem.getD (a / 8).toNat 0, s) else (0, { s with e := 191 })
def St.push (s : St) (v : Int) : St := (s.setR 4 (wrap64 (s.reg 4 - 8))).store (wrap64 (s.reg 4 - 8)) v
theorem w64 (x : Int) : -9223372036854775808 ≤ wrap64 x ∧ wrap64 x ≤ 9223372036854775807 := by unfold wrap64; omega
theorem Mac.drew {K : Ct} (O : K.Ok) {w : World} {s : St} (h : Mac K w s) : Mac K w.drew s := h.step O (below_drew1 (Below.refl _ _))
theorem Mac.drewN {K : Ct} (O : K.Ok) {w : World} {s : St} (h : Mac K w s) (n : Nat) : Mac K (w.drewN n) s := h.step O (pw_below_drewN (Below.refl _ _) n)
set_option maxHeartbeats 1000000 in
theorem push_calls (K : Ct) (O : K.Ok) (s : St) (v : Int) (w : World) (h : Mac K w s) :
    Calls Tryd.prog 25 #[.pointer (some ⟨K.b, 0, none⟩), .int .i64 v] w fun e w' => (∃ u, e = .returned u) ∧ Mac K w' (s.push v) ∧ Fr K w w' := by
  obtain ⟨fv, sv, evv, h⟩ := h
  have c7 := h.reg 4 (by omega)
  have f7 := h.fz 7
  have h1 := h.setR O 4 (by omega) (wrap64 (s.reg 4 - 8))
  simp only [Nat.reduceAdd] at c7 h1
  have hw := w64 (s.reg 4 - 8)
  obtain ⟨x, hx⟩ : ∃ x, wrap64 (s.reg 4 - 8) = x := ⟨_, rfl⟩
  unfold St.push
  rw [hx] at h1 hw ⊢
  have c7' := h1.reg 4 (by omega)
  have hr4 : (s.setR 4 x).reg 4 = x := by simp [St.setR, St.reg, h.r]
  rw [hr4] at c7'
  simp only [Nat.reduceAdd] at c7'
  have HX := Lib.hid hx
  have hM1 := (MacV.mac h1).drew O
  have HM := Lib.hid hM1
  clear h1 h hx hr4
  unfold St.store
  cases hok : wordOk (s.setR 4 x) x with
  | true =>
    obtain ⟨p1, p2, p3⟩ := wordOk_iff.1 hok
    have HF : ∀ {w : World}, Mac K w (s.setR 4 x) → w.cell? ⟨K.bm, (x / 8).toNat, none⟩ = some (.int .i64 ((s.setR 4 x).mem.getD (x / 8).toNat 0)) ∧ w.frozen? ⟨K.bm, (x / 8).toNat, none⟩ = false ∧ Mac K (w.setCell ⟨K.bm, (x / 8).toNat, none⟩ (.int .i64 v)) { s.setR 4 x with mem := (s.setR 4 x).mem.set (x / 8).toNat v } := by
      rintro w ⟨fv, sv, evv, h⟩
      exact ⟨h.word _ (by omega), h.fzm _, (h.setM O _ v).mac⟩
    obtain ⟨d1, d2, d3⟩ := HF hM1
    have HD := Lib.hid d3
    have HK := Lib.hid hok
    clear d3 HF hok hM1
    rw [if_pos rfl]
    go_enter Tryd.func25, Tryd.ntmps25
    go_wp2
    go_region
    go_wp2_with (go_at_call 24; (rw [HX.out]); refine (word_ok K (s.setR 4 x) x _ HM.out HK.out).mono ?_; rintro e w' ⟨rfl, rfl⟩)
    go_end0
    exact ⟨⟨_, rfl⟩, HD.out, (((Fr.refl K w).set _ _).drew).setM _ _⟩
  | false =>
    have HK := Lib.hid hok
    clear hok hM1
    rw [if_neg (by simp)]
    go_enter Tryd.func25, Tryd.ntmps25
    go_wp2
    go_region
    go_wp2_with (go_at_call 24; (rw [HX.out]); refine (word_bad K O (s.setR 4 x) x _ HM.out hw.2 HK.out).mono ?_; rintro e w' ⟨bz, rfl, z1, z2, z3, z4, z5, z6⟩; have HZ := Lib.hid (And.intro z4 (And.intro z5 z6)); clear z4 z3 z5 z6)
    go_end0
    exact ⟨⟨_, rfl⟩, HZ.out.1 _, ((((Fr.refl K w).set _ _).drew).trans HZ.out.2.2).new (Nat.le_trans (by simp) HZ.out.2.1) _ _⟩
def St.pop (s : St) : Int × St := ((s.load (s.reg 4)).1, (s.load (s.reg 4)).2.setR 4 (wrap64 (s.reg 4 + 8)))
set_option maxHeartbeats 1000000 in
theorem pop_calls (K : Ct) (O : K.Ok) (s : St) (w : World) (h : Mac K w s) (hr : s.reg 4 ≤ 9223372036854775807) :
    Calls Tryd.prog 61 #[.pointer (some ⟨K.b, 0, none⟩)] w fun e w' => e = .returned (.int .i64 s.pop.1) ∧ Mac K w' s.pop.2 ∧ Fr K w w' := by
  unfold St.pop St.load
  have hM := h
  have fin : ∀ (s1 : St) (w : World), s1.r = s.r → Mac K w s1 → w.cell? ⟨K.b, 7, none⟩ = some (.int .i64 (s.reg 4)) ∧ w.frozen? ⟨K.b, 7, none⟩ = false ∧ Mac K (w.setCell ⟨K.b, 7, none⟩ (.int .i64 (wrap64 (s.reg 4 + 8)))) (s1.setR 4 (wrap64 (s.reg 4 + 8))) := by
    rintro s1 w e ⟨fv, sv, evv, h⟩
    have c7 := h.reg 4 (by omega)
    have h1 := h.setR O 4 (by omega) (wrap64 (s.reg 4 + 8))
    have er : s1.reg 4 = s.reg 4 := by simp [St.reg, e]
    rw [er] at c7
    simp only [Nat.reduceAdd] at c7 h1
    exact ⟨c7, h.fz 7, h1.mac⟩
  obtain ⟨c7, f7, h1⟩ := fin _ _ rfl h
  have HF := Lib.hid fin
  clear fin
  cases hok : wordOk s (s.reg 4) with
  | true =>
    obtain ⟨fv, sv, evv, h⟩ := h
    obtain ⟨p1, p2, p3⟩ := wordOk_iff.1 hok
    have d1 := h.word (s.reg 4 / 8).toNat (by omega)
    rw [if_pos rfl]
    have HM := Lib.hid hM
    have HK := Lib.hid hok
    have H1 := Lib.hid h1
    clear h hM hok p2 h1
    go_enter Tryd.func61, Tryd.ntmps61
    go_wp2_with (go_at_call 24; refine (word_ok K s _ _ HM.out HK.out).mono ?_; rintro e w' ⟨rfl, rfl⟩)
    go_region
    go_wp2
    go_ret
    exact ⟨rfl, H1.out.drew O, ((Fr.refl K w).set _ _).drew⟩
  | false =>
    rw [if_neg (by simp)]
    have HM := Lib.hid hM
    have HK := Lib.hid hok
    clear h hM hok h1
    go_enter Tryd.func61, Tryd.ntmps61
    go_wp2_with (go_at_call 24; (refine (word_bad K O s _ _ HM.out hr HK.out).mono ?_; rintro e w1 ⟨bz, rfl, z1, z2, z3, z4, z6, z7⟩; obtain ⟨d7, g7, z5⟩ := HF.out { s with e := 191 } _ rfl z3; have HZ := Lib.hid z5; have HX := Lib.hid z7; clear z4 z3 z5 z6 z7))
    go_region
    go_wp2
    go_ret
    exact ⟨rfl, HZ.out.drew O, (HX.out.set _ _).drew⟩
end Go.Proofs.YthfpdlfpbbhjhaaDoor.Mc
namespace Go.Proofs.YthfpdlfpbbhjhaaDoor.Mc
open Go.RowKit Go.Proofs.YthfpdlfpbbhjhaaDoor.PA Go.Proofs.MapFun Go.Proofs.YthfpdlfpbbhjhaaDoorW.PrintWords Go.Proofs.YthfpdlfpbbhjhaaDoorW.PrintLast Go.Proofs.YthfpdlfpbbhjhaaDoorW.PrintMore
set_option linter.unusedVariables false
set_option linter.unusedSimpArgs false
def keepsF (i : Int) : Bool := i == 1 || i == 2 || i == 3 || i == 4 || i == 12 || i == 13 || i == 14 || i == 15
def St.flagged (s : St) (i : Int) : St := if keepsF i then s else { s with fl := none }
set_option maxHeartbeats 1000000 in
theorem flagged_calls (K : Ct) (O : K.Ok) (s : St) (i : Int) (w : World) (h : Mac K w s) :
    Calls Tryd.prog 45 #[.pointer (some ⟨K.b, 0, none⟩), .int .i64 i] w fun e w' => (∃ u, e = .returned u) ∧ Mac K w' (s.flagged i) ∧ Fr K w w' := by
  have HM := Lib.hid h
  unfold St.flagged
  cases hk : keepsF i with
  | true =>
    rw [if_pos rfl]
    have hk' : i = 1 ∨ i = 2 ∨ i = 3 ∨ i = 4 ∨ i = 12 ∨ i = 13 ∨ i = 14 ∨ i = 15 := by simpa [keepsF, or_assoc] using hk
    clear h hk
    rcases hk' with rfl | rfl | rfl | rfl | rfl | rfl | rfl | rfl
    all_goals
      go_enter Tryd.func45, Tryd.ntmps45
      go_wp2
      go_end0
      exact ⟨⟨_, rfl⟩, HM.out, Fr.refl K w⟩
  | false =>
    rw [if_neg (by simp)]
    obtain ⟨fv, sv, evv, h⟩ := h
    have c := h.cF
    have f := h.fz 21
    have H1 := Lib.hid (h.setFl O none (.pointer none) rfl).mac
    have hk' : ¬ i = 1 ∧ ¬ i = 2 ∧ ¬ i = 3 ∧ ¬ i = 4 ∧ ¬ i = 12 ∧ ¬ i = 13 ∧ ¬ i = 14 ∧ ¬ i = 15 := by simpa [keepsF, and_assoc] using hk
    obtain ⟨k1, k2, k3, k4, k5, k6, k7, k8⟩ := hk'
    clear h hk
    go_enter Tryd.func45, Tryd.ntmps45
    go_wp2
    go_end0
    exact ⟨⟨_, rfl⟩, H1.out, (Fr.refl K w).set _ _⟩
def holdsP (op a b : Int) : Bool :=
  if op = 0 then a == b else if op = 1 then a != b else if op = 2 then decide (a < b) else if op = 3 then decide (a ≤ b) else if op = 4 then decide (IntKind.u64.wrap a < IntKind.u64.wrap b) else decide (IntKind.u64.wrap a ≤ IntKind.u64.wrap b)
def St.holds (s : St) (op : Int) : Bool × St := match s.fl with | none => (false, { s with e := 193 }) | some (a, b) => (holdsP op a b, s)
set_option maxHeartbeats 1000000 in
theorem holds_calls (K : Ct) (O : K.Ok) (s : St) (op : Int) (w : World) (h : Mac K w s) :
    Calls Tryd.prog 46 #[.pointer (some ⟨K.b, 0, none⟩), .int .i64 op] w fun e w' => e = .returned (.bool (s.holds op).1) ∧ Mac K w' (s.holds op).2 ∧ Fr K w w' := by
  have HM := Lib.hid h
  obtain ⟨fv, sv, evv, h⟩ := h
  have c := h.cF
  unfold St.holds
  rcases hf : s.fl with _ | ⟨a, b⟩
  · have hfl := h.fl
    rw [hf] at hfl
    cases hfl
    have cE := h.cE
    have fE := h.fz 24
    have h1 := (h.setE O 193).mac
    rw [hf] at h1
    have H1 := Lib.hid h1
    clear h hf h1
    go_enter Tryd.func46, Tryd.ntmps46
    go_wp2
    go_ret
    exact ⟨rfl, H1.out, (Fr.refl K w).set _ _⟩
  · have hfl := h.fl
    rw [hf] at hfl
    obtain ⟨bf, rfl, g1, g2, g3, g4⟩ := hfl
    have d0 := cell_at g4 0 rfl
    have d1 := cell_at g4 1 rfl
    clear h hf g1 g2 g3 g4
    simp only [holdsP]
    by_cases k1 : op = 0
    · subst k1
      go_enter Tryd.func46, Tryd.ntmps46
      go_wp2
      go_region
      go_wp2
      go_ret
      exact ⟨rfl, HM.out.drew O, (Fr.refl K w).drew⟩
    by_cases k2 : op = 1
    · subst k2
      go_enter Tryd.func46, Tryd.ntmps46
      go_wp2
      go_region
      go_wp2
      go_ret
      exact ⟨rfl, HM.out.drew O, (Fr.refl K w).drew⟩
    by_cases k3 : op = 2
    · subst k3
      go_enter Tryd.func46, Tryd.ntmps46
      go_wp2
      go_region
      go_wp2
      go_ret
      exact ⟨rfl, HM.out.drew O, (Fr.refl K w).drew⟩
    by_cases k4 : op = 3
    · subst k4
      go_enter Tryd.func46, Tryd.ntmps46
      go_wp2
      go_region
      go_wp2
      go_ret
      exact ⟨rfl, HM.out.drew O, (Fr.refl K w).drew⟩
    by_cases k5 : op = 4
    · subst k5
      go_enter Tryd.func46, Tryd.ntmps46
      go_wp2
      go_region
      go_wp2
      go_ret
      exact ⟨rfl, HM.out.drew O, (Fr.refl K w).drew⟩
    go_enter Tryd.func46, Tryd.ntmps46
    go_wp2
    go_region
    go_wp2
    go_ret
    exact ⟨rfl, HM.out.drew O, (Fr.refl K w).drew⟩
def St.returns (L : Int) (s : St) : Bool × St :=
  if s.pop.2.e ≠ 0 then (false, s.pop.2)
  else if s.pop.1 = -1 then (true, s.pop.2)
  else if s.pop.1 < 0 ∨ L < s.pop.1 then (false, { s.pop.2 with e := 191 })
  else (false, { s.pop.2 with pc := s.pop.1 })
set_option maxHeartbeats 1000000 in
theorem returns_calls (K : Ct) (O : K.Ok) (s : St) (w : World) (h : Mac K w s) (hr : s.reg 4 ≤ 9223372036854775807) :
    Calls Tryd.prog 49 #[.pointer (some ⟨K.b, 0, none⟩)] w fun e w' => e = .returned (.bool (s.returns K.l.length).1) ∧ Mac K w' (s.returns K.l.length).2 := by
  have HP := Lib.hid (pop_calls K O s w h hr)
  clear h
  obtain ⟨⟨v, s1⟩, hp⟩ : ∃ p, s.pop = p := ⟨_, rfl⟩
  unfold St.returns
  rw [hp] at HP ⊢
  simp only at HP ⊢
  clear hp
  by_cases he : s1.e = 0
  · rw [if_neg (by simp [he])]
    by_cases hv : v = -1
    · subst hv
      rw [if_pos rfl]
      go_enter Tryd.func49, Tryd.ntmps49
      go_wp2_with (go_at_call 61; refine HP.out.mono ?_; rintro e w1 ⟨rfl, hM, _⟩; have HM := Lib.hid hM; obtain ⟨fv, sv, evv, h⟩ := hM; have cE := h.cE; rw [he] at cE; clear h)
      go_ret
      exact ⟨rfl, HM.out⟩
    · rw [if_neg hv]
      by_cases hn : v < 0
      · rw [if_pos (.inl hn)]
        go_enter Tryd.func49, Tryd.ntmps49
        go_wp2_with (go_at_call 61; refine HP.out.mono ?_; rintro e w1 ⟨rfl, hM, _⟩; obtain ⟨fv, sv, evv, h⟩ := hM; have cE := h.cE; rw [he] at cE; have fE := h.fz 24; have HM := Lib.hid (h.setE O 191).mac; clear h)
        go_ret
        exact ⟨rfl, HM.out⟩
      · have hlc := O.lc
        by_cases hL : (K.l.length : Int) < v
        · rw [if_pos (.inr hL)]
          go_enter Tryd.func49, Tryd.ntmps49
          go_wp2_with (go_at_call 61; refine HP.out.mono ?_; rintro e w1 ⟨rfl, hM, _⟩; obtain ⟨fv, sv, evv, h⟩ := hM; have cL := h.cL; have cE := h.cE; rw [he] at cE; have fE := h.fz 24; have HM := Lib.hid (h.setE O 191).mac; clear h)
          go_ret
          exact ⟨rfl, HM.out⟩
        · rw [if_neg (by omega)]
          have hL' : v ≤ (K.l.length : Int) := by omega
          go_enter Tryd.func49, Tryd.ntmps49
          go_wp2_with (go_at_call 61; refine HP.out.mono ?_; rintro e w1 ⟨rfl, hM, _⟩; obtain ⟨fv, sv, evv, h⟩ := hM; have cL := h.cL; have cE := h.cE; rw [he] at cE; have cP := h.cP; have fE := h.fz 20; have HM := Lib.hid (h.setPc O v).mac; clear h)
          go_ret
          exact ⟨rfl, HM.out⟩
  · rw [if_pos he]
    go_enter Tryd.func49, Tryd.ntmps49
    go_wp2_with (go_at_call 61; refine HP.out.mono ?_; rintro e w1 ⟨rfl, hM, _⟩; have HM := Lib.hid hM; obtain ⟨fv, sv, evv, h⟩ := hM; have cE := h.cE; clear h)
    go_ret
    exact ⟨rfl, HM.out⟩
end Go.Proofs.YthfpdlfpbbhjhaaDoor.Mc
