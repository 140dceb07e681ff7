import Derived.Test.YtgdkkcdmflopjaaDoorMK2
namespace Go.Proofs.YtgdkkcdmflopjaaDoor.Mc
open Go.RowKit Go.Proofs.YtgdkkcdmflopjaaDoor.PA Go.Proofs.YtgdkkcdmflopjaaDoor.Pure Go.Proofs.MapFun Go.Proofs.YtgdkkcdmflopjaaDoorW.PrintWords Go.Proofs.YtgdkkcdmflopjaaDoorW.PrintLast Go.Proofs.YtgdkkcdmflopjaaDoorW.PrintMore
set_option linter.unusedVariables false
set_option linter.unusedSimpArgs false
theorem alloc_at (w : World) (cs : Array Value) (t : TypeId) : (w.alloc (.cells cs t)).heap[w.heap.size]? = some (.cells cs t (0, 0)) := by
  show (w.heap.push _)[w.heap.size]? = _
  rw [Array.getElem?_push_size]
def mkCells (A0 : Option Addr) (n0 c0 : Nat) (bt : Nat) (A1 : Option Addr) (n1 c1 : Nat) (bm : Nat) (m : Nat) (p : Nat) (A4 : Option Addr) (c4 : Nat) : Array Value :=
  #[.slice A0 n0 c0, .map (some bt), .slice A1 n1 c1, .int .i64 0, .int .i64 0, .int .i64 0, .int .i64 0, .int .i64 0, .int .i64 0, .int .i64 0, .int .i64 0, .int .i64 0, .int .i64 0, .int .i64 0, .int .i64 0, .int .i64 0, .int .i64 0, .int .i64 0, .int .i64 0,
    .slice (some ⟨bm, 0, none⟩) m m, .int .i64 p, .pointer none, .slice A4 0 c4, .slice none 0 0, .int .i64 0]
theorem mac_made (w1 w2 : World) (hb : Below w1.heap.size w1 w2) (A0 : Option Addr) (c0 : Nat) (l : List S35) (hl : Kd.C k35 w1 A0 l.length l) (hc0 : l.length ≤ c0) (A1 : Option Addr) (c1 : Nat) (h : List S40) (hh : Kd.C k40 w1 A1 h.length h) (hc1 : h.length ≤ c1)
    (A4 : Option Addr) (c4 : Nat) (h4 : Kd.C (Kd.int .i64) w1 A4 0 []) (n : Nat) (hm : MapF Tryd.prog 9 Lit.string w2 w1.heap.size n (labF l l.length)) (stack : Int) (hs0 : 16 ≤ stack) (hs1 : stack ≤ 65536) (p : Nat) :
    ∃ Z : Ct, Z.Ok ∧ Z.w0 = w1 ∧ Z.b = w2.heap.size + 1 ∧ Z.l = l ∧ Mac Z ((w2.alloc (.cells (madeCells (Value.int .i64 0).cells (stack / 8).toNat) 2)).alloc (.cells (mkCells A0 l.length c0 w1.heap.size A1 h.length c1 w2.heap.size (stack / 8).toNat p A4 c4) 63)) (st0 stack p) := by
  have hlt := hm.lt
  have hsz := hb.size
  refine ⟨⟨w1, w2.heap.size + 1, w2.heap.size, w1.heap.size, l, A0, c0, h, A1, c1, labF l l.length, n⟩, ⟨by show w1.heap.size ≤ w2.heap.size + 1; omega, hsz, Nat.le_refl _, by show w2.heap.size + 1 ≠ w2.heap.size; omega, by show w2.heap.size + 1 ≠ w1.heap.size; omega, by show w2.heap.size ≠ w1.heap.size; omega, hl, hc0, hh, hc1⟩, rfl, rfl, rfl, .pointer none, .slice A4 0 c4, .slice none 0 0, ?_⟩
  have hs3 : (w2.alloc (.cells (madeCells (Value.int .i64 0).cells (stack / 8).toNat) 2)).heap.size = w2.heap.size + 1 := by show (w2.heap.push _).size = _; simp
  have hb3 : Below w2.heap.size w2 ((w2.alloc (.cells (madeCells (Value.int .i64 0).cells (stack / 8).toNat) 2)).alloc (.cells (mkCells A0 l.length c0 w1.heap.size A1 h.length c1 w2.heap.size (stack / 8).toNat p A4 c4) 63)) := ((Below.refl _ _).alloc (Nat.le_refl _) _).alloc (by rw [hs3]; omega) _
  refine ⟨?_, rfl, ⟨A4, c4, rfl, Nat.zero_le _, h4⟩, Kd.R_nil _ _ _ _ _, ?_, hm.block (hb3.block _ hlt), hb.trans (hb3.mono hsz), by simp [st0], ?_⟩
  · have := alloc_at (w2.alloc (.cells (madeCells (Value.int .i64 0).cells (stack / 8).toNat) 2)) (mkCells A0 l.length c0 w1.heap.size A1 h.length c1 w2.heap.size (stack / 8).toNat p A4 c4) 63
    rw [hs3] at this
    simpa [mcells, st0, mkCells] using this
  · have := alloc_at w2 (madeCells (Value.int .i64 0).cells (stack / 8).toNat) 2
    have h2 := ((Below.refl _ _).alloc (Nat.le_refl _) (.cells (mkCells A0 l.length c0 w1.heap.size A1 h.length c1 w2.heap.size (stack / 8).toNat p A4 c4) 63)).block w2.heap.size (show w2.heap.size < (w2.alloc (.cells (madeCells (Value.int .i64 0).cells (stack / 8).toNat) 2)).heap.size by rw [hs3]; omega)
    rw [this, made_words] at h2
    rw [made_words]
    exact h2
  · simp only [st0, List.length_replicate]; omega
end Go.Proofs.YtgdkkcdmflopjaaDoor.Mc
