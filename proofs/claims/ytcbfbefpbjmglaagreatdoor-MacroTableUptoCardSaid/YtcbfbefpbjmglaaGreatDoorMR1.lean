import Derived.Test.YtcbfbefpbjmglaaGreatDoorMC
import Derived.Test.YtcbfbefpbjmglaaGreatDoorRN
set_option linter.unusedSimpArgs false
set_option linter.unusedVariables false
namespace Go.Proofs.YtcbfbefpbjmglaaGreatDoor.Mac
open Go.RowKit MapFun PA YtcbfbefpbjmglaaGreatDoorT YtcbfbefpbjmglaaGreatDoorW PrintWords PrintLast PrintMore
attribute [local go_sem] Oper.semAt_some
structure RSt (w W : World) (M : Nat) (nm : ByteArray) (st : List ByteArray × Bool) : Prop where
 m : ∃ v, W.heap[M]? = some (.cells #[.string nm, .bool true, v, .bool st.2, .slice none 0 0] 33 (0, 0)) ∧ Kd.string.R 9 W w.heap.size (fun _ => True) v st.1
 below : Below M w W
theorem RSt.setpar {w W w1 : World} {M : Nat} {nm : ByteArray} {st : List ByteArray × Bool} {pv v1 : Value} {x : ByteArray} (h : RSt w W M nm st) (hM : M < w.heap.size) (hm : W.heap[M]? = some (.cells #[.string nm, .bool true, pv, .bool st.2, .slice none 0 0] 33 (0, 0))) (hR : Kd.string.R 9 W w.heap.size (fun _ => True) pv st.1)
  (hR1 : Kd.string.R 9 w1 w.heap.size (fun _ => True) v1 (st.1 ++ [x])) (hg : W.drew.grownBy w1 pv.ownBlock) : RSt w (w1.setCell ⟨M, 2, none⟩ v1) M nm (st.1 ++ [x], st.2) := by
 have hm1 : w1.heap[M]? = some (.cells #[.string nm, .bool true, pv, .bool st.2, .slice none 0 0] 33 (0, 0)) := (hg.block _ (blk_lt hm) (Kd.R_ne hR hm (by decide))).trans hm
 exact ⟨⟨v1, bU hm1 2 _ rfl, R_low hR1 hM _⟩,
  Below.setCell (p := ⟨M, 2, none⟩) (((h.below.trans (below_drew (Below.refl _ _))).grown hg (by have := blk_lt hm; simp; omega) (fun k e => by have := Kd.R_base hR k e; omega))) (by simp) _⟩
theorem RSt.setmore {w W : World} {M : Nat} {nm : ByteArray} {st : List ByteArray × Bool} (h : RSt w W M nm st) (hM : M < w.heap.size) (m' : Bool) : RSt w (W.setCell ⟨M, 3, none⟩ (.bool m')) M nm (st.1, m') := by
 obtain ⟨v, h1, h2⟩ := h.m
 exact ⟨⟨v, bU h1 3 _ rfl, R_low h2 hM _⟩, h.below.setCell (p := ⟨M, 3, none⟩) (by simp) _⟩
end Go.Proofs.YtcbfbefpbjmglaaGreatDoor.Mac
