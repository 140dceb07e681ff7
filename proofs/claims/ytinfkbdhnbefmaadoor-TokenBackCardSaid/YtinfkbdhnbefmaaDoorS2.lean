import Derived.Test.YtinfkbdhnbefmaaDoorPBx0
import Derived.RangeFuncBox
import Derived.RangeFuncLeaves
import Derived.RangeFuncNested
import Derived.RangeFuncFrom
import Derived.RangeFuncKeeps
import Derived.Shelf.Abstract
import Derived.WalkKit
import Derived.OwnWalkIn
import Derived.TacticsInMore
import Derived.LoopNIn
import Derived.LoopIn
namespace Go.Proofs.YtinfkbdhnbefmaaDoor.Sp
open Go.RowKit Go.Shelf Go.Proofs.YtinfkbdhnbefmaaDoor.PB
set_option linter.unusedVariables false
set_option linter.unusedSimpArgs false
attribute [local go_sem] Oper.semAt_some
/-- What has come when k rounds are over. -/
def upto {α : Type} (f : Nat → α) (k : Nat) : List α := (List.range k).map f
theorem upto_succ {α : Type} (f : Nat → α) (k : Nat) : upto f (k + 1) = upto f k ++ [f k] := by simp [upto, List.range_succ]
theorem upto_length {α : Type} (f : Nat → α) (k : Nat) : (upto f k).length = k := by simp [upto]
/-- A token's cells. -/
def TokAt (W : World) (p : Addr) (x : S34) : Prop :=
  W.cell? p = some (.int .i64 x.f0) ∧ W.cell? ⟨p.block, p.off + 1, none⟩ = some (.string x.f1) ∧ W.cell? ⟨p.block, p.off + 2, none⟩ = some (.string x.f2) ∧ W.cell? ⟨p.block, p.off + 3, none⟩ = some (.int .i64 x.f3) ∧ W.cell? ⟨p.block, p.off + 4, none⟩ = some (.bool x.f4) ∧ W.cell? ⟨p.block, p.off + 5, none⟩ = some (.bool x.f5)
theorem add_block (a : Addr) (n : Nat) : (a.add n).block = a.block := by unfold Addr.add; split <;> rfl
theorem TokAt.below {B : Nat} {A W : World} {p : Addr} {x : S34} (h : TokAt A p x) (hB : Below B A W) (hp : p.block < B) : TokAt W p x :=
  have k : ∀ q : Addr, q.block < B → W.cell? q = A.cell? q := fun q hq => World.cell?_of_block (hB.block q.block hq)
  ⟨(k p hp).trans h.1, (k ⟨p.block, p.off + 1, none⟩ hp).trans h.2.1, (k ⟨p.block, p.off + 2, none⟩ hp).trans h.2.2.1, (k ⟨p.block, p.off + 3, none⟩ hp).trans h.2.2.2.1, (k ⟨p.block, p.off + 4, none⟩ hp).trans h.2.2.2.2.1, (k ⟨p.block, p.off + 5, none⟩ hp).trans h.2.2.2.2.2⟩
def encT (x : Nat × S34) : Array Value := #[.int .i64 (x.1 : Int), .agg #[.int .i64 x.2.f0, .string x.2.f1, .string x.2.f2, .int .i64 x.2.f3, .bool x.2.f4, .bool x.2.f5]]
instance : Inhabited S34 := ⟨z34⟩
def itemsOf (zs : List S34) : List (Nat × S34) := upto (fun j => (j, zs.getD j z34)) zs.length
set_option maxRecDepth 100000 in
set_option maxHeartbeats 2000000 in
/-- slices.All's closure over tokens. -/
theorem all1_in {α : Type} (f : Nat → α) (enc : α → Array Value) (F : Fence) (n : Nat) (h8 : F.fn 35) (hro : F.round = none) (hn : 1 ≤ n) (l Bs n₀ len cap : Nat) (ad : Addr) (zs : List S34) (hreach : len ≤ 4611686018427387904) (hb : ad.block < n₀) (he : ∀ k, k < len → enc (f k) = encT (k, zs.getD k z34)) (J Jx : List α → World → Prop)
    (hY : ∀ pre x W, J pre W → pre.length < len → YieldAt F (n - 1) Tryd.prog l (enc x) W fun e W' =>
      (e = .returned (.bool true) ∧ J (pre ++ [x]) W' ∧ Below n₀ W W') ∨ (e = .returned (.bool false) ∧ Jx (pre ++ [x]) W'))
    (hJa : ∀ s A B, J s A → Below A.heap.size A B → J s B) (W : World) (hn₀ : n₀ ≤ W.heap.size) (hBs : W.cell? ⟨Bs, 0, none⟩ = some (.slice (some ad) len cap)) (hc : ∀ j, j < len → TokAt W (ad.add (j * 6)) (zs.getD j z34)) (h0 : J [] W) :
    CallsIn F n Tryd.prog 35 #[.func (.yield l) #[] #[], .pointer (some ⟨Bs, 0, none⟩)] W fun e W' => (∃ v, e = .returned v) ∧
      ((∃ ys, ys = upto f len ∧ J ys W') ∨ (∃ pre, (∃ k, k ≤ len ∧ pre = upto f k) ∧ Jx pre W')) := by
  refine callsIn_of_wp Tryd.func35 rfl h8 ?_ hro
  simp only [Tryd.ntmps35, List.size_toArray, List.length_cons, List.length_nil, Nat.reduceAdd, Nat.reduceSub, Array.replicate_succ, Array.replicate_zero, List.push_toArray, List.append_toArray, List.nil_append, List.cons_append]
  gi_wp2
  gi_loopw [7] (fun i wr => ∃ k : Nat, k ≤ len ∧ i = .int .i64 k ∧ J (upto f k) wr ∧ Below n₀ W wr)
    (fun i _ => len - (intOf i).toNat)
  case atStart => exact ⟨0, Nat.zero_le _, rfl, h0, Below.refl _ _⟩
  case round =>
    obtain ⟨k, hk, rfl, hJs, hnx⟩ := hrel
    have hcx : k < len → TokAt wr (ad.add (k * 6)) (zs.getD k z34) := fun h => (hc k h).below hnx (by rw [add_block]; exact hb)
    by_cases hlt : k < len
    · have hBn : Below wr.heap.size wr (wr.alloc (.cells #[.int .i64 (zs.getD k z34).f0, .string (zs.getD k z34).f1, .string (zs.getD k z34).f2, .int .i64 (zs.getD k z34).f3, .bool (zs.getD k z34).f4, .bool (zs.getD k z34).f5] 34)) := (Below.refl _ _).alloc (Nat.le_refl _) _
      obtain ⟨fn, tmps, assign, body, hy, hR⟩ := hY _ (f k) _ (hJa _ _ _ hJs hBn) (by rw [upto_length]; exact hlt)
      have hBz := hnx.size
      have hnb : Below n₀ wr _ := hBn.mono (by omega)
      obtain ⟨x, hx⟩ : ∃ x, zs.getD k z34 = x := ⟨_, rfl⟩
      rw [he k hlt] at hy
      rw [hx] at hy hR hcx hnb
      obtain ⟨t0, t1, t2, t3, t4, t5⟩ := hcx hlt
      unfold encT at hy
      dsimp only at hy
      gi_wp2
      refine hR.mono ?_
      rintro e W3 (⟨rfl, hJ3, hk3⟩ | ⟨rfl, hJx3⟩)
      · gi_wp2
        go_roundw
        case rel => exact ⟨k + 1, by omega, by simp, by rw [upto_succ]; exact hJ3, (hnx.trans hnb).trans hk3⟩
        case measure => simp [intOf]; omega
      · gi_wp2
        refine bodyPost_ret (results_none rfl _ _ _) rfl ?_
        exact ⟨⟨_, rfl⟩, .inr ⟨_, ⟨k + 1, by omega, by rw [upto_succ]⟩, hJx3⟩⟩
    · obtain rfl : k = len := by omega
      gi_wp2
      go_end0
      exact ⟨⟨_, rfl⟩, .inl ⟨_, rfl, hJs⟩⟩
/-- The slice value holds these tokens, in a block below n₀; or it is nil and there are none. -/
def Toks (n₀ : Nat) (W : World) (sv : Value) (zs : List S34) : Prop :=
  (∃ A c, sv = .slice A 0 c ∧ zs = []) ∨ ∃ ad cap, sv = .slice (some ad) zs.length cap ∧ ad.block < n₀ ∧ ∀ j, j < zs.length → TokAt W (ad.add (j * 6)) (zs.getD j z34)
theorem Toks.below {n₀ : Nat} {A B : World} (h : Below n₀ A B) {sv : Value} {zs : List S34} : Toks n₀ A sv zs → Toks n₀ B sv zs
  | .inl e => .inl e
  | .inr ⟨ad, cap, e, hb, hc⟩ => .inr ⟨ad, cap, e, hb, fun j hj => (hc j hj).below h (by rw [add_block]; exact hb)⟩
set_option maxRecDepth 100000 in
set_option maxHeartbeats 1000000 in
theorem all1_nil_in {α : Type} (F : Fence) (n : Nat) (h8 : F.fn 35) (hro : F.round = none) (l Bs : Nat) (J : List α → World → Prop) (W : World) (A : Option Addr) (c : Nat) (hBs : W.cell? ⟨Bs, 0, none⟩ = some (.slice A 0 c)) (h0 : J [] W) :
    CallsIn F n Tryd.prog 35 #[.func (.yield l) #[] #[], .pointer (some ⟨Bs, 0, none⟩)] W fun e W' => (∃ v, e = .returned v) ∧ J [] W' := by
  refine callsIn_of_wp Tryd.func35 rfl h8 ?_ hro
  simp only [Tryd.ntmps35, List.size_toArray, List.length_cons, List.length_nil, Nat.reduceAdd, Nat.reduceSub, Array.replicate_succ, Array.replicate_zero, List.push_toArray, List.append_toArray, List.nil_append, List.cons_append]
  gi_wp2
  gi_loopw [7] (fun i wr => i = .int .i64 0 ∧ J [] wr) (fun _ _ => 0)
  case atStart => exact ⟨rfl, h0⟩
  case round =>
    obtain ⟨rfl, hJs⟩ := hrel
    gi_wp2
    go_end0
    exact ⟨⟨_, rfl⟩, hJs⟩
set_option maxHeartbeats 1000000 in
/-- slices.All over tokens: the slice value is boxed. -/
theorem all_in (F : Fence) (n : Nat) (h6 : F.fn 23) (hro : F.round = none) (a : Option Addr) (len cap : Nat) (w : World) :
    CallsIn F n Tryd.prog 23 #[.slice a len cap] w fun e w' => e = .returned (.func (.func 35) #[] #[.pointer (some ⟨w.heap.size, 0, none⟩)]) ∧ w' = w.alloc (.cells #[.slice a len cap] 25) := by
  refine callsIn_of_wp Tryd.func23 rfl h6 ?_ hro
  simp only [Tryd.ntmps23, List.size_toArray, List.length_cons, List.length_nil, Nat.reduceAdd, Nat.reduceSub, Array.replicate_succ, Array.replicate_zero, List.push_toArray, List.append_toArray, List.nil_append, List.cons_append]
  gi_wp2
  go_ret
  exact ⟨rfl, rfl⟩
/-- A token of bounded text, and its index. -/
structure Tk (M : Nat) where
  val : Nat × S34
  le : val.2.f1.size ≤ M
def tk (M : Nat) (zs : List S34) (j : Nat) : Tk M := if h : (zs.getD j z34).f1.size ≤ M then ⟨(j, zs.getD j z34), h⟩ else ⟨(j, z34), Nat.zero_le _⟩
theorem tk_val {M : Nat} {zs : List S34} (hM : ∀ x ∈ zs, x.f1.size ≤ M) {j : Nat} (hj : j < zs.length) : (tk M zs j).val = (j, zs.getD j z34) := by
  unfold tk
  have : (zs.getD j z34).f1.size ≤ M := by rw [List.getD_eq_getElem?_getD, List.getElem?_eq_getElem hj]; exact hM _ (List.getElem_mem hj)
  rw [dif_pos this]
theorem upto_items {M : Nat} {zs : List S34} (hM : ∀ x ∈ zs, x.f1.size ≤ M) : (upto (tk M zs) zs.length).map Tk.val = itemsOf zs := by
  unfold upto itemsOf upto
  rw [List.map_map]
  refine List.map_congr_left fun j hj => ?_
  exact tk_val hM (List.mem_range.1 hj)
theorem all_stops (M : Nat) (F : Fence) (n : Nat) (h8 : F.fn 35) (hro : F.round = none) (hn : 1 ≤ n) (Bs n₀ : Nat) (sv : Value) (zs : List S34) (hM : ∀ x ∈ zs, x.f1.size ≤ M) (hreach : zs.length ≤ 4611686018427387904) (w : World) (hBs : Bs < w.heap.size) (hn₀ : n₀ ≤ w.heap.size)
    (hc : w.cell? ⟨Bs, 0, none⟩ = some sv) (hI : Toks n₀ w sv zs) :
    SeqStopsK F n Tryd.prog 35 #[.pointer (some ⟨Bs, 0, none⟩)] (fun x : Tk M => encT x.val) (Below n₀) (fun ys => ys = upto (tk M zs) zs.length) (fun pre => ∃ k, k ≤ zs.length ∧ pre = upto (tk M zs) k) zs.length w := fun l J Jx W hW hJs _ hY h0 => by
  have hc' := (hW.cell (p := ⟨Bs, 0, none⟩) hBs).trans hc
  have hJa : ∀ s A B, J s A → Below A.heap.size A B → J s B := fun s A B hs hb => hJs s A B none hs (Go.Proofs.YtinfkbdhnbefmaaDoorT.grown_of_below hb) (fun r e => by cases e)
  rcases hI.below (hW.mono hn₀) with ⟨A, c, rfl, rfl⟩ | ⟨ad, cap, rfl, hb, hcs⟩
  · exact (all1_nil_in F n h8 hro l Bs J W A c hc' h0).mono fun e W' ⟨he, hj⟩ => ⟨he, .inl ⟨_, rfl, hj⟩⟩
  · exact all1_in (tk M zs) (fun x : Tk M => encT x.val) F n h8 hro hn l Bs n₀ zs.length cap ad zs hreach hb (fun k hk => by rw [tk_val hM hk]) J Jx hY hJa W (by have := hW.size; omega) hc' hcs h0
end Go.Proofs.YtinfkbdhnbefmaaDoor.Sp
