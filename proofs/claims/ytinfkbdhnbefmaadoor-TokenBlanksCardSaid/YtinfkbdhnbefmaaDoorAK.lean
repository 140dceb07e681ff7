import Derived.Test.YtinfkbdhnbefmaaDoorPBx1
import Derived.Deep.LoopGhost
namespace Go.Proofs.YtinfkbdhnbefmaaDoor.PB
open Go.RowKit Go.Proofs.YtinfkbdhnbefmaaDoorT Go.Proofs.YtinfkbdhnbefmaaDoorW.PrintWords Go.Proofs.YtinfkbdhnbefmaaDoorW.PrintLast Go.Proofs.YtinfkbdhnbefmaaDoorW.PrintMore
set_option linter.unusedVariables false
set_option linter.unusedSimpArgs false
attribute [local go_sem high] eqA34
theorem fzB {W : World} {B : Nat} {cs : Array Value} {t : TypeId} (j : Nat) (h : W.heap[B]? = some (.cells cs t (0, 0))) : W.frozen? ⟨B, j, none⟩ = false := by simp [World.frozen?, h]
def al (x y : S34) : Prop := x.f0 = y.f0 ∧ x.f1 = y.f1 ∧ x.f2 = y.f2 ∧ x.f5 = y.f5 ∧ (x.f5 = false → x.f4 = y.f4)
set_option maxRecDepth 100000 in
set_option maxHeartbeats 2000000 in
theorem alike_calls (A B : Option Addr) (c c' : Nat) (la lb : List S34) (w : World) (hra : Kd.C k34 w A la.length la) (hrb : Kd.C k34 w B lb.length lb) (hl : la.length = lb.length) (hal : ∀ i, i < la.length → al (la.getD i z34) (lb.getD i z34)) :
    Calls Tryd.prog 15 #[.slice A la.length c, .slice B lb.length c'] w fun e w' => e = .returned (.bool true) ∧ Below w.heap.size w w' := by
  have hne : ((la.length : Int) != (lb.length : Int)) = false := by rw [hl]; simp
  go_enter Tryd.func15, Tryd.ntmps15
  go_wp2
  have HAL := Aside0.mk (And.intro hra (And.intro hrb hal))
  clear hra hrb hal hne
  go_loopg [5] la.length (fun g v5 w' => ∃ i : Nat, i + g = la.length ∧ v5 = .int .i64 (i : Int) ∧ Below w.heap.size w w')
  case atStart => exact ⟨0, by omega, rfl, Below.refl _ _⟩
  case round =>
    obtain ⟨i, hi, rfl, hB⟩ := hrel
    cases gk with
    | zero =>
      have hlt : ¬ ((i : Int) < (la.length : Int)) := by omega
      go_wp2
      go_ret
      exact ⟨rfl, hB⟩
    | succ gk =>
      have hlt : (i : Int) < (la.length : Int) := by omega
      have hlt2 : (i : Int) < (lb.length : Int) := by omega
      have h0 : (0 : Int) ≤ (i : Int) := by omega
      obtain ⟨ad, rfl, x0, x1, x2, x3, x4, x5⟩ := at_T34 HAL.out.1 (i : Int) h0 hlt
      obtain ⟨bd, rfl, y0, y1, y2, y3, y4, y5⟩ := at_T34 HAL.out.2.1 (i : Int) h0 hlt2
      have hx := HAL.out.2.2 i (by omega)
      have kx : ∀ {p : Addr} {v : Value}, w.cell? p = some v → wr.cell? p = some v := fun {p v} h => (hB.cell (World.block_lt_of_cell? w _ h)).trans h
      have x0 := kx x0
      have x1 := kx x1
      have x2 := kx x2
      have x3 := kx x3
      have x4 := kx x4
      have x5 := kx x5
      have y0 := kx y0
      have y1 := kx y1
      have y2 := kx y2
      have y3 := kx y3
      have y4 := kx y4
      have y5 := kx y5
      rw [show rd_T34 la (i : Int) = la.getD i z34 from rfl] at x0 x1 x2 x3 x4 x5
      rw [show rd_T34 lb (i : Int) = lb.getD i z34 from rfl] at y0 y1 y2 y3 y4 y5
      obtain ⟨⟨a0, a1, a2, a3, a4, a5⟩, hxe⟩ : ∃ x, la.getD i z34 = x := ⟨_, rfl⟩
      obtain ⟨⟨b0, b1, b2, b3, b4, b5⟩, hye⟩ : ∃ x, lb.getD i z34 = x := ⟨_, rfl⟩
      rw [hxe] at x0 x1 x2 x3 x4 x5 hx
      rw [hye] at y0 y1 y2 y3 y4 y5 hx
      obtain ⟨rfl, rfl, rfl, rfl, h4⟩ := hx
      simp only at x0 x1 x2 x3 x4 x5 y0 y1 y2 y3 y4 y5 h4
      clear kx hxe hye
      have HI := Aside0.mk (And.intro hi hB)
      clear hi hB
      simp only [Int.toNat_natCast] at x0 x1 x2 x3 x4 x5 y0 y1 y2 y3 y4 y5
      obtain ⟨n1, hn1⟩ : ∃ n, wr.heap.size = n := ⟨_, rfl⟩
      obtain ⟨n2, hn2⟩ : ∃ n, n1 + 1 = n := ⟨_, rfl⟩
      obtain ⟨W1, hW1⟩ : ∃ W1, wr.alloc (.cells #[.int .i64 a0, .string a1, .string a2, .int .i64 a3, .bool a4, .bool a5] 34) = W1 := ⟨_, rfl⟩
      have hb1 : Below wr.heap.size wr W1 := by rw [← hW1]; exact below_new _
      have hs1 : W1.heap.size = n2 := by rw [← hW1, ← hn2, ← hn1]; simp
      have k1 : W1.heap[n1]? = some (.cells #[.int .i64 a0, .string a1, .string a2, .int .i64 a3, .bool a4, .bool a5] 34 (0, 0)) := by rw [← hW1, ← hn1]; exact World.alloc_heap_new _ _
      have kx : ∀ {p : Addr} {v : Value}, wr.cell? p = some v → W1.cell? p = some v := fun {p v} h => (hb1.cell (World.block_lt_of_cell? wr _ h)).trans h
      have z0 := kx y0
      have z1 := kx y1
      have z2 := kx y2
      have z3 := kx y3
      have z4 := kx y4
      have z5 := kx y5
      obtain ⟨W2, hW2⟩ : ∃ W2, W1.alloc (.cells #[.int .i64 a0, .string a1, .string a2, .int .i64 b3, .bool b4, .bool a5] 34) = W2 := ⟨_, rfl⟩
      have hb2 : Below W1.heap.size W1 W2 := by rw [← hW2]; exact below_new _
      have k2 : W2.heap[n2]? = some (.cells #[.int .i64 a0, .string a1, .string a2, .int .i64 b3, .bool b4, .bool a5] 34 (0, 0)) := by rw [← hW2, ← hs1]; exact World.alloc_heap_new _ _
      have k12 : W2.heap[n1]? = some (.cells #[.int .i64 a0, .string a1, .string a2, .int .i64 a3, .bool a4, .bool a5] 34 (0, 0)) := (hb2.block n1 (by omega)).trans k1
      have hne : n1 ≠ n2 := by omega
      have hne' : n2 ≠ n1 := by omega
      obtain ⟨W3, hW3⟩ : ∃ W3, W2.setCell ⟨n1, 3, none⟩ (.int .i64 0) = W3 := ⟨_, rfl⟩
      have k13 : W3.heap[n1]? = some (.cells #[.int .i64 a0, .string a1, .string a2, .int .i64 0, .bool a4, .bool a5] 34 (0, 0)) := by rw [← hW3]; exact Go.Proofs.YtinfkbdhnbefmaaDoorT.heap_setCell_same k12
      have k23 : W3.heap[n2]? = some (.cells #[.int .i64 a0, .string a1, .string a2, .int .i64 b3, .bool b4, .bool a5] 34 (0, 0)) := by rw [← hW3]; exact (Below.heap_setCell _ ⟨n1, 3, none⟩ _ n2 hne').trans k2
      obtain ⟨W4, hW4⟩ : ∃ W4, W3.setCell ⟨n2, 3, none⟩ (.int .i64 0) = W4 := ⟨_, rfl⟩
      have k14 : W4.heap[n1]? = some (.cells #[.int .i64 a0, .string a1, .string a2, .int .i64 0, .bool a4, .bool a5] 34 (0, 0)) := by rw [← hW4]; exact (Below.heap_setCell _ ⟨n2, 3, none⟩ _ n1 hne).trans k13
      have k24 : W4.heap[n2]? = some (.cells #[.int .i64 a0, .string a1, .string a2, .int .i64 0, .bool b4, .bool a5] 34 (0, 0)) := by rw [← hW4]; exact Go.Proofs.YtinfkbdhnbefmaaDoorT.heap_setCell_same k23
      have hwn : w.heap.size ≤ n1 := by have := HI.out.2.size; omega
      have hB4 : Below w.heap.size w W4 := by
        rw [← hW4, ← hW3]
        exact ((HI.out.2.trans ((hb1.mono (by omega)).trans (hb2.mono (by omega)))).setCell (p := ⟨n1, 3, none⟩) hwn _).setCell (p := ⟨n2, 3, none⟩) (by show _ ≤ n2; omega) _
      obtain ⟨c20, c21, c22, c23, c24, c25⟩ := cell_six k12
      have f2 := fzB 3 k12
      obtain ⟨c30, c31, c32, c33, c34, c35⟩ := cell_six k23
      have f3 := fzB 3 k23
      obtain ⟨c40, c41, c42, c43, c44, c45⟩ := cell_six k14
      obtain ⟨d40, d41, d42, d43, d44, d45⟩ := cell_six k24
      have f4 := fzB 4 k14
      obtain ⟨W5, hW5⟩ : ∃ W5, W4.setCell ⟨n1, 4, none⟩ (.bool false) = W5 := ⟨_, rfl⟩
      have k15 : W5.heap[n1]? = some (.cells #[.int .i64 a0, .string a1, .string a2, .int .i64 0, .bool false, .bool a5] 34 (0, 0)) := by rw [← hW5]; exact Go.Proofs.YtinfkbdhnbefmaaDoorT.heap_setCell_same k14
      have k25 : W5.heap[n2]? = some (.cells #[.int .i64 a0, .string a1, .string a2, .int .i64 0, .bool b4, .bool a5] 34 (0, 0)) := by rw [← hW5]; exact (Below.heap_setCell _ ⟨n1, 4, none⟩ _ n2 hne').trans k24
      obtain ⟨W6, hW6⟩ : ∃ W6, W5.setCell ⟨n2, 4, none⟩ (.bool false) = W6 := ⟨_, rfl⟩
      have k16 : W6.heap[n1]? = some (.cells #[.int .i64 a0, .string a1, .string a2, .int .i64 0, .bool false, .bool a5] 34 (0, 0)) := by rw [← hW6]; exact (Below.heap_setCell _ ⟨n2, 4, none⟩ _ n1 hne).trans k15
      have k26 : W6.heap[n2]? = some (.cells #[.int .i64 a0, .string a1, .string a2, .int .i64 0, .bool false, .bool a5] 34 (0, 0)) := by rw [← hW6]; exact Go.Proofs.YtinfkbdhnbefmaaDoorT.heap_setCell_same k25
      have hB6 : Below w.heap.size w W6 := by
        rw [← hW6, ← hW5]
        exact (hB4.setCell (p := ⟨n1, 4, none⟩) hwn _).setCell (p := ⟨n2, 4, none⟩) (by show _ ≤ n2; omega) _
      obtain ⟨_, _, _, _, c54, _⟩ := cell_six k25
      have f5 := fzB 4 k25
      obtain ⟨c60, c61, c62, c63, c64, c65⟩ := cell_six k16
      obtain ⟨d60, d61, d62, d63, d64, d65⟩ := cell_six k26
      have K1 := Aside0.mk (And.intro k1 k2)
      have HB4 := Aside0.mk (And.intro hB4 hB6)
      have H4 := Aside0.mk h4
      clear kx y0 y1 y2 y3 y4 y5 hb1 hb2 k1 k2 k12 k13 k23 k14 k24 hB4 hwn k15 k25 k16 k26 hB6 h4
      have hi2 : (i : Int) + 1 ≤ 9223372036854775807 := by have := HAL.out.1.2.1; omega
      cases a5 with
      | true =>
        clear H4
        go_wp2
        go_roundg gk
        case measure => omega
        case rel => exact ⟨i + 1, by have := HI.out.1; omega, by simp, HB4.out.2⟩
      | false =>
        obtain rfl := H4.out rfl
        clear H4
        have same : ∀ (W0 : World) (n : Nat) (cs : Array Value), W0.heap.size = n → cs[5]? = some (.bool false) → (W0.alloc (.cells cs 34)).setCell ⟨n, 5, none⟩ (.bool false) = W0.alloc (.cells cs 34) := by
          intro W0 n cs hn hc
          subst hn
          have hcs : cs.setIfInBounds 5 (.bool false) = cs := by
            apply Array.ext_getElem?
            intro j
            rw [Array.getElem?_setIfInBounds]
            by_cases e : 5 = j
            · subst e
              rw [if_pos rfl]
              have := (Array.getElem?_eq_some_iff.1 hc).1
              rw [if_pos this, hc]
            · rw [if_neg e]
          rw [World.setCell_alloc_new, hcs]
        have e1 : W1.setCell ⟨n1, 5, none⟩ (.bool false) = W1 := by rw [← hW1]; exact same wr n1 _ hn1 rfl
        have e2 : W2.setCell ⟨n2, 5, none⟩ (.bool false) = W2 := by rw [← hW2]; exact same W1 n2 _ hs1 rfl
        obtain ⟨_, _, _, _, _, p5⟩ := cell_six K1.out.1
        obtain ⟨_, _, _, _, _, q5⟩ := cell_six K1.out.2
        have p6 := fzB 5 K1.out.1
        have q6 := fzB 5 K1.out.2
        go_wp2
        go_roundg gk
        case measure => omega
        case rel => exact ⟨i + 1, by have := HI.out.1; omega, by simp, HB4.out.1⟩
def alB (l0 l1 : List S34) : Prop := l0.length = l1.length ∧ ∀ i, i < l0.length → al (l0.getD i z34) (l1.getD i z34)
open Classical in
noncomputable def burinlaw02_alike.f (k : Nat) (l0 l1 : List S34) : Option Bool := if alB l0 l1 then some true else none
theorem burinlaw02_alike.mono : ∀ a0 a1 k, LeO (burinlaw02_alike.f k a0 a1) (burinlaw02_alike.f (k + 1) a0 a1) := fun _ _ _ => LeO.refl _
theorem burinlaw02_alike.calls (k : Nat) (A0 : Option Addr) (c0 : Nat) (l0 : List S34) (A1 : Option Addr) (c1 : Nat) (l1 : List S34) (r : Bool) (w : World) (hr0 : Kd.C k34 w A0 l0.length l0) (hc0 : l0.length ≤ c0) (hr1 : Kd.C k34 w A1 l1.length l1) (hc1 : l1.length ≤ c1) (h : burinlaw02_alike.f k l0 l1 = some r) :
    Calls Tryd.prog 15 #[.slice A0 l0.length c0, .slice A1 l1.length c1] w fun e w' => e = .returned (.bool r) ∧ Below w.heap.size w w' := by
  unfold burinlaw02_alike.f at h
  by_cases hc : alB l0 l1
  · rw [if_pos hc] at h
    obtain rfl := Option.some.inj h
    exact alike_calls A0 A1 c0 c1 l0 l1 w hr0 hr1 hc.1 hc.2
  · rw [if_neg hc] at h; cases h
end Go.Proofs.YtinfkbdhnbefmaaDoor.PB
