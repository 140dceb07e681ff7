import Derived.Test.YtgdkkcdmflopjaaDoorMW7
namespace Go.Proofs.YtgdkkcdmflopjaaDoor.Mc
open Go.RowKit Go.Proofs.YtgdkkcdmflopjaaDoor.PA Go.Proofs.YtgdkkcdmflopjaaDoor.Pure Go.Proofs.MapFun Go.Proofs.YtgdkkcdmflopjaaDoorW.PrintWords Go.Proofs.YtgdkkcdmflopjaaDoorW.PrintLast Go.Proofs.YtgdkkcdmflopjaaDoorW.PrintMore
set_option linter.unusedVariables false
set_option linter.unusedSimpArgs false
attribute [local go_sem] max2_int min2_int max_two min_two
def marksS : Nat → St → St
  | 0, s => s
  | k + 1, s => (marksS k s).setR k (-6148914691236517206)
def keptS : Nat → St → St
  | 0, s => s
  | k + 1, s => (keptS k s).setR (keptN k) ((k : Int) + 1)
def givenN (k : Nat) : Nat := [7, 6, 2, 1, 8, 9].getD k 0
theorem givenN_lt (k : Nat) (h : k < 6) : givenN k < 16 := by
  rcases (show k = 0 ∨ k = 1 ∨ k = 2 ∨ k = 3 ∨ k = 4 ∨ k = 5 by omega) with rfl | rfl | rfl | rfl | rfl | rfl <;> decide
theorem givenN_eq (k : Nat) (h : k < 6) : givenL.getD k 0 = (givenN k : Int) := by
  rcases (show k = 0 ∨ k = 1 ∨ k = 2 ∨ k = 3 ∨ k = 4 ∨ k = 5 by omega) with rfl | rfl | rfl | rfl | rfl | rfl <;> rfl
def argsS (args : List Int) : Nat → St → St
  | 0, s => s
  | k + 1, s => (argsS args k s).setR (givenN k) (args.getD k 0)
def beginsP (s : St) (args : List Int) (stack : Int) : St := (argsS args args.length ((keptS 6 (marksS 16 s)).setR 4 stack)).push (-1)
theorem partly7 (v : Int) (h : In64 v) : mach_partly.f v 7 = some v := by
  unfold mach_partly.f
  rw [size_yes (k := 7) (by unfold isK; omega)]
  have hw : wd 7 = 64 := by decide
  rw [hw]
  have hs : shl IntKind.u64 18446744073709551615 (wrap64 (8 * (64 / 8))) = 0 := by decide +kernel
  have h1 : bits BinOp.andNot IntKind.u64 (IntKind.u64.wrap v) 0 = IntKind.u64.wrap ((BitVec.ofInt 64 (IntKind.u64.wrap v) &&& ~~~BitVec.ofInt 64 0).toNat : Int) := rfl
  have h2 : bits BinOp.and IntKind.u64 (IntKind.u64.wrap (-6148914691236517206)) 0 = 0 := by rfl
  rw [Option.bind_some, if_pos (by decide +kernel), hs, h2, bits_or_u64, h1]
  congr 1
  have e1 : ~~~BitVec.ofInt 64 0 = BitVec.allOnes 64 := by decide
  have e2 : BitVec.ofInt 64 0 = 0#64 := by decide
  rw [e1, BitVec.and_allOnes, e2, BitVec.or_zero]
  unfold In64 at h
  simp only [wrap_u64, BitVec.toNat_ofInt]
  unfold wrap64
  omega
theorem partly_c (v : Int) (h : In64 v) (w : World) : Calls Tryd.prog 40 #[.int .i64 v, .int .i64 7] w fun e w' => e = .returned (.int .i64 v) ∧ ∃ n, w' = w.drewN n :=
  (mach_partly.calls v 7 v w (partly7 v h)).mono fun e w' h => by obtain ⟨h, ⟨n, h2⟩⟩ := h; exact ⟨h, n, h2⟩
set_option maxRecDepth 100000 in
set_option maxHeartbeats 4000000 in
theorem begins2_calls (Z : Ct) (O : Z.Ok) (s : St) (w : World) (h : Mac Z w s) (hT : Tab Z.w0) (a b : Int) (A3 : Option Addr) (c3 : Nat) (hA : Kd.C (Kd.int .i64) Z.w0 A3 2 [a, b]) (hc3 : 2 ≤ c3)
    (Aa : Option Addr) (ca : Nat) (hAa : Kd.C (Kd.int .i64) Z.w0 Aa 2 (List.replicate 2 7)) (hca : 2 ≤ ca) (nm : ByteArray) (rt g : Int) (hs : Bool) (b5 : Value) (stack : Int) (hst : 0 ≤ stack) (hst' : stack ≤ 65536) (he : (beginsP s [a, b] stack).e = 0)
    (HIN : ∀ k, In64 ([a, b].getD k 0)) :
    Calls Tryd.prog 21 #[.pointer (some ⟨Z.b, 0, none⟩), .agg #[.string nm, .int .i64 rt, .slice Aa 2 ca, .bool hs, .int .i64 g, b5], .slice A3 2 c3, .int .i64 stack] w fun e w' => e = .returned (.bool true) ∧ Mac Z w' (beginsP s [a, b] stack) := by
  have H0 := Lib.hid (h.step O ((Below.refl _ _).alloc (Nat.le_refl _) (.cells #[.string nm, .int .i64 rt, .slice Aa 2 ca, .bool hs, .int .i64 g, b5] 40)))
  have hXb : w.heap.size ≠ Z.b := by have := h.lt; omega
  have hXm : w.heap.size ≠ Z.bm := by have := h.ltm; omega
  have hX0 : (w.alloc (.cells #[.string nm, .int .i64 rt, .slice Aa 2 ca, .bool hs, .int .i64 g, b5] 40)).heap[w.heap.size]? = some (.cells #[.string nm, .int .i64 rt, .slice Aa 2 ca, .bool hs, .int .i64 g, b5] 40 (0, 0)) := by
    show (w.heap.push _)[w.heap.size]? = _
    rw [Array.getElem?_push_size]
  have HX0 := Lib.hid hX0
  have hlt0 := (Array.getElem?_eq_some_iff.1 hX0).1
  have HL := Lib.hid hlt0
  have HA := Lib.hid (And.intro hT (And.intro hA hAa))
  have HE := Lib.hid he
  clear h hT hX0 hA hAa he hlt0
  go_enter Tryd.func21, Tryd.ntmps21
  go_wp2
  go_loopw [16] (fun i wr => ∃ k : Nat, k ≤ 16 ∧ i = .int .i64 k ∧ Mac Z wr (marksS k s) ∧ Fr Z (w.alloc (.cells #[.string nm, .int .i64 rt, .slice Aa 2 ca, .bool hs, .int .i64 g, b5] 40)) wr) (fun i _ => 16 - (intOf i).toNat)
  case atStart => exact ⟨0, Nat.zero_le _, rfl, H0.out, Fr.refl _ _⟩
  case round =>
    obtain ⟨k, hk, rfl, hM, hF⟩ := hrel
    by_cases hlt : k < 16
    · have hlt' : (k : Int) < 16 := by omega
      have cR := hM.reg k hlt
      have fR := hM.fz (3 + k)
      have HM := Lib.hid (And.intro (hM.setR O k hlt (-6148914691236517206)) (hF.set (3 + k) (.int .i64 (-6148914691236517206))))
      clear hM hF
      go_wp2
      go_roundw
      case rel => exact ⟨k + 1, by omega, by simp, HM.out.1, HM.out.2⟩
      case measure => simp [intOf]; omega
    obtain rfl : k = 16 := by omega
    rw [show ((16 : Nat) : Int) = 16 from rfl]
    have hTw := HA.out.1.to hM.below HA.out.1.size
    have t0 := hTw.k 0 (by omega)
    have t1 := hTw.k 1 (by omega)
    have t2 := hTw.k 2 (by omega)
    have t3 := hTw.k 3 (by omega)
    have t4 := hTw.k 4 (by omega)
    have t5 := hTw.k 5 (by omega)
    simp only [keptL, List.getD_cons_zero, List.getD_cons_succ] at t0 t1 t2 t3 t4 t5
    have HM := Lib.hid (And.intro hM hF)
    clear hM hF hTw
    go_wp2
    go_loopw [26] (fun i wr => ∃ k : Nat, k ≤ 6 ∧ i = .int .i64 k ∧ Mac Z wr (keptS k (marksS 16 s)) ∧ Fr Z (w.alloc (.cells #[.string nm, .int .i64 rt, .slice Aa 2 ca, .bool hs, .int .i64 g, b5] 40)) wr) (fun i _ => 6 - (intOf i).toNat)
    case atStart => exact ⟨0, Nat.zero_le _, rfl, HM.out.1, HM.out.2⟩
    case round =>
      clear t0 t1 t2 t3 t4 t5
      obtain ⟨k, hk, rfl, hM, hF⟩ := hrel
      by_cases hlt : k < 6
      · have hlt' : (k : Int) < 6 := by omega
        have hix := index_kept k hlt
        have hkl := keptN_lt k hlt
        have cR := hM.reg (keptN k) hkl
        have fR := hM.fz (3 + keptN k)
        have HM := Lib.hid (And.intro (hM.setR O (keptN k) hkl ((k : Int) + 1)) (hF.set (3 + keptN k) (.int .i64 ((k : Int) + 1))))
        clear hM hF
        go_wp2
        go_roundw
        case rel => exact ⟨k + 1, by omega, by simp, HM.out.1, HM.out.2⟩
        case measure => simp [intOf]; omega
      obtain rfl : k = 6 := by omega
      rw [show ((6 : Nat) : Int) = 6 from rfl]
      have cR := hM.reg 4 (by omega)
      have fR := hM.fz 7
      have HM := Lib.hid (And.intro (hM.setR O 4 (by omega) stack) (hF.set 7 (.int .i64 stack)))
      clear hM hF
      go_wp2
      go_loopw [54] (fun i wr => ∃ k : Nat, k ≤ 2 ∧ i = .int .i64 k ∧ Mac Z wr (argsS [a, b] k ((keptS 6 (marksS 16 s)).setR 4 stack)) ∧ Fr Z (w.alloc (.cells #[.string nm, .int .i64 rt, .slice Aa 2 ca, .bool hs, .int .i64 g, b5] 40)) wr) (fun i _ => 2 - (intOf i).toNat)
      case atStart => exact ⟨0, Nat.zero_le _, rfl, HM.out.1, HM.out.2⟩
      case round =>
        clear cR fR
        obtain ⟨k, hk, rfl, hM, hF⟩ := hrel
        by_cases hlt : k < 2
        · have hlt' : (k : Int) < 2 := by omega
          obtain ⟨ad, rfl, x0⟩ := at_int HA.out.2.1 k hlt
          obtain ⟨aa, rfl, y0⟩ := at_int HA.out.2.2 k hlt
          have y7 : (List.replicate 2 (7 : Int)).getD k 0 = 7 := by rcases (show k = 0 ∨ k = 1 by omega) with rfl | rfl <;> rfl
          rw [y7] at y0
          have hg := HA.out.1.g k (by omega)
          rw [givenN_eq k (by omega)] at hg
          have hgl := givenN_lt k (by omega)
          have hb := hM.below
          have kx : ∀ {p : Addr} {v : Value}, Z.w0.cell? p = some v → wr.cell? p = some v := fun {p v} h => (hb.cell (World.block_lt_of_cell? Z.w0 _ h)).trans h
          have x1 := kx x0
          have y1 := kx y0
          have g1 := kx hg
          have HN := Lib.hid (HIN k)
          obtain ⟨v, hv⟩ : ∃ v, ([a, b]).getD k 0 = v := ⟨_, rfl⟩
          rw [hv] at x1 HN
          have hX := (hF.block w.heap.size hXb hXm HL.out).trans HX0.out
          have z2 := cell_at hX 2 (v := .slice (some aa) 2 ca) rfl
          have HM := Lib.hid (And.intro hM (And.intro hF hv))
          clear x0 y0 hg hb kx hX hM hF hv
          go_wp2_with (go_at_call 40; refine (partly_c v HN.out _).mono ?_; rintro e w1 ⟨rfl, n, rfl⟩; have hM2 := HM.out.1.drewN O (n + 1); have g2 := hM2.reg (givenN k) hgl; have fR := hM2.fz (3 + givenN k); have hF2 := (HM.out.2.1.trans (Fr.of (pw_below_drewN (Below.refl _ _) (n + 1)))).set (3 + givenN k) (.int .i64 v); have HM2 := Lib.hid (And.intro (hM2.setR O (givenN k) hgl v) hF2); clear hM2 hF2)
          go_region
          go_wp2
          go_roundw
          case rel => exact ⟨k + 1, by omega, by simp, by unfold argsS; rw [HM.out.2.2]; exact HM2.out.1, HM2.out.2⟩
          case measure => simp [intOf]; omega
        · obtain rfl : k = 2 := by omega
          have HM := Lib.hid (And.intro hM hF)
          clear hM hF
          go_wp2_with (go_at_call 42; refine (push_calls Z O _ (-1) _ HM.out.1).mono ?_; rintro e w1 ⟨⟨u, rfl⟩, hM2, _⟩; have cE := hM2.cE; have hee := HE.out; unfold beginsP at hee; (try simp only [List.length_cons, List.length_nil] at hee); rw [hee] at cE; have HM2 := Lib.hid hM2; clear hM2 hee)
          go_ret
          exact ⟨rfl, HM2.out⟩
set_option maxRecDepth 100000 in
set_option maxHeartbeats 4000000 in
theorem begins0_calls (Z : Ct) (O : Z.Ok) (s : St) (w : World) (h : Mac Z w s) (hT : Tab Z.w0) (A3 : Option Addr) (c3 : Nat) (hA : Kd.C (Kd.int .i64) Z.w0 A3 0 ([] : List Int)) (hc3 : 0 ≤ c3)
    (Aa : Option Addr) (ca : Nat) (hAa : Kd.C (Kd.int .i64) Z.w0 Aa 0 (List.replicate 0 7)) (hca : 0 ≤ ca) (nm : ByteArray) (rt g : Int) (hs : Bool) (b5 : Value) (stack : Int) (hst : 0 ≤ stack) (hst' : stack ≤ 65536) (he : (beginsP s ([] : List Int) stack).e = 0)
    (HIN : ∀ k, In64 (([] : List Int).getD k 0)) :
    Calls Tryd.prog 21 #[.pointer (some ⟨Z.b, 0, none⟩), .agg #[.string nm, .int .i64 rt, .slice Aa 0 ca, .bool hs, .int .i64 g, b5], .slice A3 0 c3, .int .i64 stack] w fun e w' => e = .returned (.bool true) ∧ Mac Z w' (beginsP s ([] : List Int) stack) := by
  have H0 := Lib.hid (h.step O ((Below.refl _ _).alloc (Nat.le_refl _) (.cells #[.string nm, .int .i64 rt, .slice Aa 0 ca, .bool hs, .int .i64 g, b5] 40)))
  have hXb : w.heap.size ≠ Z.b := by have := h.lt; omega
  have hXm : w.heap.size ≠ Z.bm := by have := h.ltm; omega
  have hX0 : (w.alloc (.cells #[.string nm, .int .i64 rt, .slice Aa 0 ca, .bool hs, .int .i64 g, b5] 40)).heap[w.heap.size]? = some (.cells #[.string nm, .int .i64 rt, .slice Aa 0 ca, .bool hs, .int .i64 g, b5] 40 (0, 0)) := by
    show (w.heap.push _)[w.heap.size]? = _
    rw [Array.getElem?_push_size]
  have HX0 := Lib.hid hX0
  have hlt0 := (Array.getElem?_eq_some_iff.1 hX0).1
  have HL := Lib.hid hlt0
  have HA := Lib.hid (And.intro hT (And.intro hA hAa))
  have HE := Lib.hid he
  clear h hT hX0 hA hAa he hlt0
  go_enter Tryd.func21, Tryd.ntmps21
  go_wp2
  go_loopw [16] (fun i wr => ∃ k : Nat, k ≤ 16 ∧ i = .int .i64 k ∧ Mac Z wr (marksS k s) ∧ Fr Z (w.alloc (.cells #[.string nm, .int .i64 rt, .slice Aa 0 ca, .bool hs, .int .i64 g, b5] 40)) wr) (fun i _ => 16 - (intOf i).toNat)
  case atStart => exact ⟨0, Nat.zero_le _, rfl, H0.out, Fr.refl _ _⟩
  case round =>
    obtain ⟨k, hk, rfl, hM, hF⟩ := hrel
    by_cases hlt : k < 16
    · have hlt' : (k : Int) < 16 := by omega
      have cR := hM.reg k hlt
      have fR := hM.fz (3 + k)
      have HM := Lib.hid (And.intro (hM.setR O k hlt (-6148914691236517206)) (hF.set (3 + k) (.int .i64 (-6148914691236517206))))
      clear hM hF
      go_wp2
      go_roundw
      case rel => exact ⟨k + 1, by omega, by simp, HM.out.1, HM.out.2⟩
      case measure => simp [intOf]; omega
    obtain rfl : k = 16 := by omega
    rw [show ((16 : Nat) : Int) = 16 from rfl]
    have hTw := HA.out.1.to hM.below HA.out.1.size
    have t0 := hTw.k 0 (by omega)
    have t1 := hTw.k 1 (by omega)
    have t2 := hTw.k 2 (by omega)
    have t3 := hTw.k 3 (by omega)
    have t4 := hTw.k 4 (by omega)
    have t5 := hTw.k 5 (by omega)
    simp only [keptL, List.getD_cons_zero, List.getD_cons_succ] at t0 t1 t2 t3 t4 t5
    have HM := Lib.hid (And.intro hM hF)
    clear hM hF hTw
    go_wp2
    go_loopw [26] (fun i wr => ∃ k : Nat, k ≤ 6 ∧ i = .int .i64 k ∧ Mac Z wr (keptS k (marksS 16 s)) ∧ Fr Z (w.alloc (.cells #[.string nm, .int .i64 rt, .slice Aa 0 ca, .bool hs, .int .i64 g, b5] 40)) wr) (fun i _ => 6 - (intOf i).toNat)
    case atStart => exact ⟨0, Nat.zero_le _, rfl, HM.out.1, HM.out.2⟩
    case round =>
      clear t0 t1 t2 t3 t4 t5
      obtain ⟨k, hk, rfl, hM, hF⟩ := hrel
      by_cases hlt : k < 6
      · have hlt' : (k : Int) < 6 := by omega
        have hix := index_kept k hlt
        have hkl := keptN_lt k hlt
        have cR := hM.reg (keptN k) hkl
        have fR := hM.fz (3 + keptN k)
        have HM := Lib.hid (And.intro (hM.setR O (keptN k) hkl ((k : Int) + 1)) (hF.set (3 + keptN k) (.int .i64 ((k : Int) + 1))))
        clear hM hF
        go_wp2
        go_roundw
        case rel => exact ⟨k + 1, by omega, by simp, HM.out.1, HM.out.2⟩
        case measure => simp [intOf]; omega
      obtain rfl : k = 6 := by omega
      rw [show ((6 : Nat) : Int) = 6 from rfl]
      have cR := hM.reg 4 (by omega)
      have fR := hM.fz 7
      have HM := Lib.hid (And.intro (hM.setR O 4 (by omega) stack) (hF.set 7 (.int .i64 stack)))
      clear hM hF
      go_wp2
      go_loopw [54] (fun i wr => ∃ k : Nat, k ≤ 0 ∧ i = .int .i64 k ∧ Mac Z wr (argsS ([] : List Int) k ((keptS 6 (marksS 16 s)).setR 4 stack)) ∧ Fr Z (w.alloc (.cells #[.string nm, .int .i64 rt, .slice Aa 0 ca, .bool hs, .int .i64 g, b5] 40)) wr) (fun i _ => 0 - (intOf i).toNat)
      case atStart => exact ⟨0, Nat.zero_le _, rfl, HM.out.1, HM.out.2⟩
      case round =>
        clear cR fR
        obtain ⟨k, hk, rfl, hM, hF⟩ := hrel
        by_cases hlt : k < 0
        · exact absurd hlt (Nat.not_lt_zero k)
        · obtain rfl : k = 0 := by omega
          have HM := Lib.hid (And.intro hM hF)
          clear hM hF
          go_wp2_with (go_at_call 42; refine (push_calls Z O _ (-1) _ HM.out.1).mono ?_; rintro e w1 ⟨⟨u, rfl⟩, hM2, _⟩; have cE := hM2.cE; have hee := HE.out; unfold beginsP at hee; (try simp only [List.length_cons, List.length_nil] at hee); rw [hee] at cE; have HM2 := Lib.hid hM2; clear hM2 hee)
          go_ret
          exact ⟨rfl, HM2.out⟩
end Go.Proofs.YtgdkkcdmflopjaaDoor.Mc
namespace Go.Proofs.YtgdkkcdmflopjaaDoor.Mc
open Go.RowKit Go.Proofs.YtgdkkcdmflopjaaDoor.PA Go.Proofs.YtgdkkcdmflopjaaDoor.Pure Go.Proofs.MapFun Go.Proofs.YtgdkkcdmflopjaaDoorW.PrintWords Go.Proofs.YtgdkkcdmflopjaaDoorW.PrintLast Go.Proofs.YtgdkkcdmflopjaaDoorW.PrintMore
set_option linter.unusedVariables false
set_option linter.unusedSimpArgs false
def st0 (stack p : Int) : St := ⟨List.replicate 16 0, List.replicate (stack / 8).toNat 0, p, none, [], [], 0⟩
def endP (l : List S35) (args : List Int) (steps stack p : Int) : St := goesP l steps.toNat (beginsP (st0 stack p) args stack)
structure RunOk (l : List S35) (heads : List S40) (name : ByteArray) (args script : List Int) (steps stack : Int) (p : Nat) : Prop where
  right : rightP l heads = true
  plain : ∀ x ∈ l, plainB x ∧ x.f7.size ≤ 140737488351232
  kindsU : ∀ x ∈ l, kindU x
  len : l.length ≤ 40000
  names : ∀ c ∈ heads, c.f0.size ≤ 140737488351232
  one : heads.length = 1
  find : findP heads name = 0
  lab : labAt l l.length name.data.toList = some p
  nsize : name.size ≤ 140737488351232
  few : args.length = 0 ∨ args.length = 2
  kinds : (heads.getD 0 z40).f2 = List.replicate args.length 7
  ain : ∀ k, In64 (args.getD k 0)
  ret : (heads.getD 0 z40).f1 = 7
  noscr : script = []
  steps0 : 0 ≤ steps
  steps1 : steps ≤ 1000000
  stack0 : 16 ≤ stack
  stack1 : stack ≤ 65536
  stack16 : stack % 16 = 0
  beg : (beginsP (st0 stack p) args stack).e = 0
  kept : (endP l args steps stack p).e = 0 → keptOk (endP l args steps stack p) ∧ (endP l args steps stack p).reg 4 = wrap64 ((beginsP (st0 stack p) args stack).reg 4 + 8)
theorem endP_nat (l : List S35) (args : List Int) (N : Nat) (stack p : Int) : endP l args N stack p = goesP l N (beginsP (st0 stack p) args stack) := rfl
theorem st0_wf (stack p : Int) : (st0 stack p).Wf := by
  refine ⟨fun i => ?_, fun i => ?_, fun a b e => by cases e⟩
  · simp only [st0, St.reg, List.getD_eq_getElem?_getD, List.getElem?_replicate]; split <;> exact in0
  · simp only [st0, List.getD_eq_getElem?_getD, List.getElem?_replicate]; split <;> exact in0
theorem marksS_wf {s : St} (h : s.Wf) : ∀ k, (marksS k s).Wf
  | 0 => h
  | k + 1 => (marksS_wf h k).setR _ (by unfold In64; omega)
theorem keptS_wf {s : St} (h : s.Wf) : ∀ k, k ≤ 6 → (keptS k s).Wf
  | 0, _ => h
  | k + 1, hk => (keptS_wf h k (by omega)).setR _ (by unfold In64; omega)
theorem argsS_wf {s : St} (args : List Int) (ha : ∀ k, In64 (args.getD k 0)) (h : s.Wf) : ∀ k, (argsS args k s).Wf
  | 0 => h
  | k + 1 => (argsS_wf args ha h k).setR _ (ha k)
theorem beginsP_wf {s : St} (h : s.Wf) (args : List Int) (ha : ∀ k, In64 (args.getD k 0)) (stack : Int) (hs : In64 stack) : (beginsP s args stack).Wf :=
  ((argsS_wf args ha ((keptS_wf (marksS_wf h 16) 6 (Nat.le_refl _)).setR 4 hs) _).push (by unfold In64; omega))
theorem marksS_pc (s : St) : ∀ k, (marksS k s).pc = s.pc
  | 0 => rfl
  | k + 1 => marksS_pc s k
theorem keptS_pc (s : St) : ∀ k, (keptS k s).pc = s.pc
  | 0 => rfl
  | k + 1 => keptS_pc s k
theorem argsS_pc (s : St) (args : List Int) : ∀ k, (argsS args k s).pc = s.pc
  | 0 => rfl
  | k + 1 => argsS_pc s args k
theorem beginsP_pc (s : St) (args : List Int) (stack : Int) : (beginsP s args stack).pc = s.pc := by
  unfold beginsP; rw [St.push_pc, argsS_pc, St.setR_pc, keptS_pc, marksS_pc]
theorem goesP_wf {l : List S35} (hl : ∀ x ∈ l, plainB x) : ∀ n s, s.Wf → 0 ≤ s.pc → (goesP l n s).Wf
  | 0, s, h, _ => h.err _
  | n + 1, s, h, hp => by
    rw [goesP_succ]
    split
    · exact h.err _
    · rename_i hlt
      have hx : In64 (l.getD s.pc.toNat z35).f3 := by
        have : l.getD s.pc.toNat z35 ∈ l := by rw [getD_get l _ (by omega)]; exact List.getElem_mem _
        exact (hl _ this).2.1
      have h2 := h.stp l.length (l.getD s.pc.toNat z35) hx
      split
      · exact h2
      split
      · exact h2
      · exact goesP_wf hl n _ h2 (St.stp_pc _ _ _ hp)
open Classical in
noncomputable def mach_Run.f (l : List S35) (heads : List S40) (name : ByteArray) (args script : List Int) (steps stack : Int) : Option (Int × Int × List S69) :=
  if h : ∃ p, RunOk l heads name args script steps stack p then
    some ((endP l args steps stack h.choose).e, (if (endP l args steps stack h.choose).e = 0 then toP ((endP l args steps stack h.choose).reg 0) 7 else 0), (endP l args steps stack h.choose).ev)
  else none
theorem mach_Run.eq {l : List S35} {heads : List S40} {name : ByteArray} {args script : List Int} {steps stack : Int} {p : Nat} (h : RunOk l heads name args script steps stack p) :
    mach_Run.f l heads name args script steps stack = some ((endP l args steps stack p).e, (if (endP l args steps stack p).e = 0 then toP ((endP l args steps stack p).reg 0) 7 else 0), (endP l args steps stack p).ev) := by
  have hx : ∃ p, RunOk l heads name args script steps stack p := ⟨p, h⟩
  have e : hx.choose = p := by have := hx.choose_spec.lab; rw [h.lab] at this; exact (Option.some.inj this).symm
  unfold mach_Run.f
  rw [dif_pos hx, e]
theorem mach_Run.back {l : List S35} {heads : List S40} {name : ByteArray} {args script : List Int} {steps stack r1 r2 : Int} {r3 : List S69} (h : mach_Run.f l heads name args script steps stack = some (r1, r2, r3)) :
    ∃ p, RunOk l heads name args script steps stack p ∧ r1 = (endP l args steps stack p).e ∧ r2 = (if (endP l args steps stack p).e = 0 then toP ((endP l args steps stack p).reg 0) 7 else 0) ∧ r3 = (endP l args steps stack p).ev := by
  by_cases hx : ∃ p, RunOk l heads name args script steps stack p
  · obtain ⟨p, hp⟩ := hx
    rw [mach_Run.eq hp] at h
    simp only [Option.some.injEq, Prod.mk.injEq] at h
    exact ⟨p, hp, h.1.symm, h.2.1.symm, h.2.2.symm⟩
  · unfold mach_Run.f at h
    rw [dif_neg hx] at h
    cases h
theorem made_words (n : Nat) : madeCells (Value.int .i64 0).cells n = ((List.replicate n (0 : Int)).map (Value.int .i64)).toArray := by
  apply Array.ext_getElem?
  intro i
  simp only [madeCells, Value.cells, List.map_replicate, Array.getElem?_map, List.getElem?_toArray, List.getElem?_replicate]
  by_cases h : i < n
  · simp [h, Nat.mod_one]
  · simp [h]
end Go.Proofs.YtgdkkcdmflopjaaDoor.Mc
namespace Go.Proofs.YtgdkkcdmflopjaaDoor.Mc
open Go.RowKit Go.Proofs.YtgdkkcdmflopjaaDoor.PA Go.Proofs.YtgdkkcdmflopjaaDoor.Pure Go.Proofs.MapFun Go.Proofs.YtgdkkcdmflopjaaDoorW.PrintWords Go.Proofs.YtgdkkcdmflopjaaDoorW.PrintLast Go.Proofs.YtgdkkcdmflopjaaDoorW.PrintMore
set_option linter.unusedVariables false
def nmF : ByteArray := ⟨#[102]⟩
def iLab : S35 := ⟨15, 0, 0, 0, 0, false, 0, ⟨#[102]⟩⟩
def iRet : S35 := ⟨17, 0, 0, 0, 0, false, 0, ⟨#[]⟩⟩
def iMov (d s : Int) : S35 := ⟨2, d, s, 0, 0, false, 0, ⟨#[]⟩⟩
def iTwo (d s op : Int) : S35 := ⟨5, d, s, 0, 0, false, op, ⟨#[]⟩⟩
def hd2 : S40 := ⟨⟨#[102]⟩, 7, [7, 7], false, 0, []⟩
def l4 : List S35 := [iLab, iMov 0 7, iTwo 0 6 1, iRet]
def l3 : List S35 := [iLab, iMov 0 7, iTwo 0 6 1]
theorem t1 : rightP l4 [hd2] = true := by decide +kernel
theorem t2 : labAt l4 l4.length nmF.data.toList = some 0 := by decide +kernel
theorem t3 : findP [hd2] nmF = 0 := by decide +kernel
theorem t4 : (endP l4 [2, 3] 10 64 0).e = 0 := by decide +kernel
theorem t5 : (endP l4 [2, 3] 10 64 0).reg 0 = 5 := by decide +kernel
theorem t6 : (endP l3 [2, 3] 10 64 0).e = 193 := by decide +kernel
theorem t7 : (beginsP (st0 64 0) [2, 3] 64).e = 0 := by decide +kernel
theorem t8 : (endP l4 [2, 3] 10 64 0).reg 4 = wrap64 ((beginsP (st0 64 0) [2, 3] 64).reg 4 + 8) := by decide +kernel
instance (s : St) : Decidable (keptOk s) := by unfold keptOk; infer_instance
theorem t9 : keptOk (endP l4 [2, 3] 10 64 0) := by decide +kernel
end Go.Proofs.YtgdkkcdmflopjaaDoor.Mc
namespace Go.Proofs.YtgdkkcdmflopjaaDoor.Mc
open Go.RowKit Go.Proofs.YtgdkkcdmflopjaaDoor.PA Go.Proofs.YtgdkkcdmflopjaaDoor.Pure Go.Proofs.MapFun Go.Proofs.YtgdkkcdmflopjaaDoorW.PrintWords Go.Proofs.YtgdkkcdmflopjaaDoorW.PrintLast Go.Proofs.YtgdkkcdmflopjaaDoorW.PrintMore
set_option linter.unusedVariables false
set_option linter.unusedSimpArgs false
def iImm (d n : Int) : S35 := ⟨1, d, 0, n, 0, false, 0, ⟨#[]⟩⟩
def iPush (s : Int) : S35 := ⟨18, 0, s, 0, 0, false, 0, ⟨#[]⟩⟩
def iPop (d : Int) : S35 := ⟨19, d, 0, 0, 0, false, 0, ⟨#[]⟩⟩
def pushesL : List Int → List S35
  | [] => []
  | v :: l => iImm 1 v :: iPush 1 :: pushesL l
def popsL : Nat → List S35
  | 0 => []
  | n + 1 => iPop 1 :: iTwo 0 0 1 :: iTwo 0 1 2 :: popsL n
def codeL (l : List Int) : List S35 := [iLab, iMov 2 4] ++ (pushesL l ++ (iImm 0 0 :: (popsL l.length ++ [iRet])))
theorem pushes_len : ∀ l : List Int, (pushesL l).length = 2 * l.length
  | [] => rfl
  | v :: l => by rw [pushesL, List.length_cons, List.length_cons, pushes_len l, List.length_cons]; omega
theorem pops_len : ∀ n, (popsL n).length = 3 * n
  | 0 => rfl
  | n + 1 => by rw [popsL, List.length_cons, List.length_cons, List.length_cons, pops_len n]; omega
theorem goes_step {l P S : List S35} {x : S35} {n : Nat} {s s' : St} (hl : l = P ++ x :: S) (hp : s.pc = (P.length : Int)) (hs : s.stp l.length x = (false, s')) (he : s'.e = 0) : goesP l (n + 1) s = goesP l n s' := by
  have hg : l.getD s.pc.toNat z35 = x := by
    rw [hl, hp, Int.toNat_natCast, List.getD_eq_getElem?_getD, List.getElem?_append_right (Nat.le_refl _), Nat.sub_self]
    rfl
  have hlen : s.pc < (l.length : Int) := by rw [hl, hp]; simp; omega
  rw [goesP_succ, if_neg (by omega), hg, hs]
  simp [he]
theorem goes_last {l P S : List S35} {x : S35} {n : Nat} {s s' : St} (hl : l = P ++ x :: S) (hp : s.pc = (P.length : Int)) (hs : s.stp l.length x = (true, s')) : goesP l (n + 1) s = s' := by
  have hg : l.getD s.pc.toNat z35 = x := by
    rw [hl, hp, Int.toNat_natCast, List.getD_eq_getElem?_getD, List.getElem?_append_right (Nat.le_refl _), Nat.sub_self]
    rfl
  have hlen : s.pc < (l.length : Int) := by rw [hl, hp]; simp; omega
  rw [goesP_succ, if_neg (by omega), hg, hs]
  simp
theorem goes_err {l P S : List S35} {x : S35} {n : Nat} {s s' : St} (hl : l = P ++ x :: S) (hp : s.pc = (P.length : Int)) (hs : s.stp l.length x = (false, s')) (he : s'.e ≠ 0) : goesP l (n + 1) s = s' := by
  have hg : l.getD s.pc.toNat z35 = x := by
    rw [hl, hp, Int.toNat_natCast, List.getD_eq_getElem?_getD, List.getElem?_append_right (Nat.le_refl _), Nat.sub_self]
    rfl
  have hlen : s.pc < (l.length : Int) := by rw [hl, hp]; simp; omega
  rw [goesP_succ, if_neg (by omega), hg, hs]
  simp [he]
theorem reg_setR (s : St) (i k : Nat) (v : Int) (hi : i < s.r.length) : (s.setR i v).reg k = if i = k then v else s.reg k := by
  simp only [St.reg, St.setR, List.getD_eq_getElem?_getD, List.getElem?_set]
  by_cases h : i = k
  · subst h; simp [hi]
  · simp [h]
theorem stp_imm (L : Int) (s : St) (d n : Int) : s.stp L (iImm d n) = (false, St.setR { s with pc := s.pc + 1 } d.toNat n) := rfl
theorem stp_mov (L : Int) (s : St) (d n : Int) : s.stp L (iMov d n) = (false, St.setR { s with pc := s.pc + 1 } d.toNat (s.reg n.toNat)) := rfl
theorem stp_lab (L : Int) (s : St) : s.stp L iLab = (false, { s with pc := s.pc + 1 }) := rfl
theorem stp_push (L : Int) (s : St) (d : Int) : s.stp L (iPush d) = (false, St.push { s with pc := s.pc + 1, fl := none } (s.reg d.toNat)) := rfl
theorem stp_pop (L : Int) (s : St) (d : Int) : s.stp L (iPop d) = (false, St.setR (St.pop { s with pc := s.pc + 1, fl := none }).2 d.toNat (St.pop { s with pc := s.pc + 1, fl := none }).1) := rfl
theorem stp_two (L : Int) (s : St) (d n op : Int) : s.stp L (iTwo d n op) = (false, St.setR { s with pc := s.pc + 1, fl := none } d.toNat (wv op 8 (s.reg d.toNat) (s.reg n.toNat))) := rfl
theorem stp_ret (L : Int) (s : St) : s.stp L iRet = St.returns L { s with pc := s.pc + 1, fl := none } := rfl
theorem lies8 {a : Int} (h : In64 a) : lies a 8 = true := by
  unfold In64 at h
  simp [lies, conv]
  omega
theorem conv8 (x y : Int) (h : x % 18446744073709551616 = y % 18446744073709551616) : conv 8 x = wrap64 y := by
  show (x + 9223372036854775808) % 18446744073709551616 - 9223372036854775808 = _
  unfold wrap64
  omega
theorem wv_add {a b : Int} (ha : In64 a) (hb : In64 b) : wv 1 8 a b = wrap64 (a + b) := by
  have h : wrapS 1 8 a b = (conv 8 (a % 18446744073709551616 + b % 18446744073709551616), 0) := by
    unfold wrapS
    rw [if_pos (by decide), if_pos ⟨lies8 ha, lies8 hb⟩]
    rfl
  unfold wv
  rw [h]
  exact conv8 _ _ (by omega)
theorem wv_sub {a b : Int} (ha : In64 a) (hb : In64 b) : wv 2 8 a b = wrap64 (a - b) := by
  have h : wrapS 2 8 a b = (conv 8 (a % 18446744073709551616 - b % 18446744073709551616), 0) := by
    unfold wrapS
    rw [if_pos (by decide), if_pos ⟨lies8 ha, lies8 hb⟩]
    rfl
  unfold wv
  rw [h]
  exact conv8 _ _ (by omega)
structure PI (W : Nat) (m : List Int) (q : Nat) (s : St) : Prop where
  e : s.e = 0
  pc : s.pc = (q : Int)
  rl : s.r.length = 16
  k : keptOk s
  ml : s.mem.length = W
  r4 : s.reg 4 = 8 * ((W : Int) - 1 - m.length)
  bot : s.mem.getD (W - 1) 0 = -1
  st : ∀ i, i < m.length → s.mem.getD (W - 1 - m.length + i) 0 = m.getD i 0
theorem w64_id {x : Int} (h : -9223372036854775808 ≤ x ∧ x ≤ 9223372036854775807) : wrap64 x = x := by unfold wrap64; omega
theorem PI.step {W : Nat} {m : List Int} {q : Nat} {s : St} (h : PI W m q s) (fl : Option (Int × Int)) : PI W m (q + 1) { s with pc := s.pc + 1, fl := fl } :=
  ⟨h.e, by show s.pc + 1 = _; rw [h.pc]; push_cast; rfl, h.rl, h.k, h.ml, h.r4, h.bot, h.st⟩
theorem PI.setR {W : Nat} {m : List Int} {q : Nat} {s : St} (h : PI W m q s) (d : Nat) (v : Int) (hd : d < 3) : PI W m q (s.setR d v) := by
  have hr : ∀ k, 3 ≤ k → (s.setR d v).reg k = s.reg k := fun k hk => by
    rw [reg_setR s d k v (by rw [h.rl]; omega), if_neg (by omega)]
  refine ⟨h.e, h.pc, by simp [St.setR, h.rl], ?_, h.ml, by rw [hr 4 (by omega)]; exact h.r4, h.bot, h.st⟩
  obtain ⟨k1, k2, k3, k4, k5, k6⟩ := h.k
  exact ⟨by rw [hr _ (by omega)]; exact k1, by rw [hr _ (by omega)]; exact k2, by rw [hr _ (by omega)]; exact k3, by rw [hr _ (by omega)]; exact k4, by rw [hr _ (by omega)]; exact k5, by rw [hr _ (by omega)]; exact k6⟩
theorem PI.get {W : Nat} {m : List Int} {q : Nat} {s : St} (h : PI W m q s) (d k : Nat) (v : Int) (hd : d < 3) : (s.setR d v).reg k = if d = k then v else s.reg k :=
  reg_setR s d k v (by rw [h.rl]; omega)
theorem PI.push {W : Nat} {m : List Int} {q : Nat} {s : St} (h : PI W m q s) (hW : m.length + 2 ≤ W) (hW' : W ≤ 8192) (v : Int) : PI W (v :: m) (q + 1) (St.push { s with pc := s.pc + 1, fl := none } v) ∧ (St.push { s with pc := s.pc + 1, fl := none } v).reg 0 = s.reg 0 := by
  have e4 : wrap64 (St.reg { s with pc := s.pc + 1, fl := none } 4 - 8) = 8 * ((W : Int) - 1 - ((m.length + 1 : Nat) : Int)) := by
    show wrap64 (s.reg 4 - 8) = _
    rw [h.r4, w64_id (by omega)]; omega
  have hok : wordOk (St.setR { s with pc := s.pc + 1, fl := none } 4 (8 * ((W : Int) - 1 - ((m.length + 1 : Nat) : Int)))) (8 * ((W : Int) - 1 - ((m.length + 1 : Nat) : Int))) = true := by
    refine wordOk_iff.2 ⟨by omega, by omega, ?_⟩
    show _ < ((s.mem.length : Nat) : Int)
    rw [h.ml]; omega
  have hj : (8 * ((W : Int) - 1 - ((m.length + 1 : Nat) : Int)) / 8).toNat = W - 1 - (m.length + 1) := by omega
  have hr : ∀ k, (St.push { s with pc := s.pc + 1, fl := none } v).reg k = if 4 = k then 8 * ((W : Int) - 1 - ((m.length + 1 : Nat) : Int)) else s.reg k := fun k => by
    unfold St.push St.store
    rw [e4, if_pos hok]
    exact reg_setR { s with pc := s.pc + 1, fl := none } 4 k _ (show 4 < s.r.length by rw [h.rl]; omega)
  have hm : (St.push { s with pc := s.pc + 1, fl := none } v).mem = s.mem.set (W - 1 - (m.length + 1)) v := by
    unfold St.push St.store
    rw [e4, if_pos hok, hj]; rfl
  refine ⟨⟨?_, ?_, ?_, ?_, ?_, ?_, ?_, ?_⟩, by rw [hr, if_neg (by decide)]⟩
  · unfold St.push St.store; rw [e4, if_pos hok]; exact h.e
  · unfold St.push St.store; rw [e4, if_pos hok]; show s.pc + 1 = _; rw [h.pc]; push_cast; rfl
  · unfold St.push St.store; rw [e4, if_pos hok]; show (s.r.set _ _).length = _; rw [List.length_set, h.rl]
  · obtain ⟨k1, k2, k3, k4, k5, k6⟩ := h.k
    exact ⟨by rw [hr, if_neg (by decide)]; exact k1, by rw [hr, if_neg (by decide)]; exact k2, by rw [hr, if_neg (by decide)]; exact k3, by rw [hr, if_neg (by decide)]; exact k4, by rw [hr, if_neg (by decide)]; exact k5, by rw [hr, if_neg (by decide)]; exact k6⟩
  · rw [hm, List.length_set, h.ml]
  · rw [hr, if_pos rfl, List.length_cons]
  · rw [hm, List.getD_eq_getElem?_getD, List.getElem?_set, if_neg (by omega), ← List.getD_eq_getElem?_getD]; exact h.bot
  · intro i hi
    rw [hm, List.getD_eq_getElem?_getD, List.getElem?_set]
    rw [List.length_cons] at hi ⊢
    cases i with
    | zero => rw [if_pos (by omega), if_pos (by rw [h.ml]; omega)]; rfl
    | succ i =>
      rw [if_neg (by omega), ← List.getD_eq_getElem?_getD, show W - 1 - (m.length + 1) + (i + 1) = W - 1 - m.length + i by omega]
      exact h.st i (by omega)
theorem PI.pop {W : Nat} {m : List Int} {v : Int} {q : Nat} {s : St} (h : PI W (v :: m) q s) (hW : m.length + 2 ≤ W) (hW' : W ≤ 8192) : (St.pop { s with pc := s.pc + 1, fl := none }).1 = v ∧ PI W m (q + 1) (St.pop { s with pc := s.pc + 1, fl := none }).2 ∧ (St.pop { s with pc := s.pc + 1, fl := none }).2.reg 0 = s.reg 0 := by
  have h4 : St.reg { s with pc := s.pc + 1, fl := none } 4 = 8 * ((W : Int) - 1 - ((m.length + 1 : Nat) : Int)) := h.r4
  have hok : wordOk { s with pc := s.pc + 1, fl := none } (8 * ((W : Int) - 1 - ((m.length + 1 : Nat) : Int))) = true := by
    refine wordOk_iff.2 ⟨by omega, by omega, ?_⟩
    show _ < ((s.mem.length : Nat) : Int)
    rw [h.ml]; omega
  have hl : St.load { s with pc := s.pc + 1, fl := none } (8 * ((W : Int) - 1 - ((m.length + 1 : Nat) : Int))) = (v, { s with pc := s.pc + 1, fl := none }) := by
    unfold St.load
    rw [if_pos hok]
    congr 1
    have := h.st 0 (by simp)
    rw [show (8 * ((W : Int) - 1 - ((m.length + 1 : Nat) : Int)) / 8).toNat = W - 1 - (v :: m).length + 0 by rw [List.length_cons]; omega]
    exact this
  have e8 : wrap64 (8 * ((W : Int) - 1 - ((m.length + 1 : Nat) : Int)) + 8) = 8 * ((W : Int) - 1 - m.length) := by rw [w64_id (by omega)]; omega
  have hp : St.pop { s with pc := s.pc + 1, fl := none } = (v, St.setR { s with pc := s.pc + 1, fl := none } 4 (8 * ((W : Int) - 1 - m.length))) := by
    unfold St.pop
    rw [h4, hl, e8]
  rw [hp]
  have hr : ∀ k, (St.setR { s with pc := s.pc + 1, fl := none } 4 (8 * ((W : Int) - 1 - m.length))).reg k = if 4 = k then 8 * ((W : Int) - 1 - m.length) else s.reg k := fun k =>
    reg_setR { s with pc := s.pc + 1, fl := none } 4 k _ (show 4 < s.r.length by rw [h.rl]; omega)
  refine ⟨rfl, ⟨h.e, ?_, ?_, ?_, h.ml, by rw [hr, if_pos rfl], h.bot, ?_⟩, by rw [hr, if_neg (by decide)]⟩
  · show s.pc + 1 = _; rw [h.pc]; push_cast; rfl
  · show (s.r.set _ _).length = _; rw [List.length_set, h.rl]
  · obtain ⟨k1, k2, k3, k4, k5, k6⟩ := h.k
    exact ⟨by rw [hr, if_neg (by decide)]; exact k1, by rw [hr, if_neg (by decide)]; exact k2, by rw [hr, if_neg (by decide)]; exact k3, by rw [hr, if_neg (by decide)]; exact k4, by rw [hr, if_neg (by decide)]; exact k5, by rw [hr, if_neg (by decide)]; exact k6⟩
  · intro i hi
    have := h.st (i + 1) (by rw [List.length_cons]; omega)
    rw [List.length_cons, show W - 1 - (m.length + 1) + (i + 1) = W - 1 - m.length + i by omega] at this
    exact this
theorem push_phase (W : Nat) (hW : W ≤ 8192) (n : Nat) (l T : List S35) : ∀ (vs m : List Int) (P : List S35) (s : St), l = P ++ (pushesL vs ++ T) → PI W m P.length s → m.length + vs.length + 1 ≤ W → ∃ s', goesP l (n + 2 * vs.length) s = goesP l n s' ∧ PI W (vs.reverse ++ m) (P.length + 2 * vs.length) s'
  | [], m, P, s, hl, h, hk => ⟨s, rfl, h⟩
  | v :: vs, m, P, s, hl, h, hk => by
    rw [List.length_cons] at hk
    have h1 := (h.step s.fl).setR 1 v (by omega)
    have e1 : goesP l (n + 2 * (v :: vs).length) s = goesP l (n + 2 * vs.length + 1) (St.setR { s with pc := s.pc + 1, fl := s.fl } 1 v) := by
      rw [List.length_cons, show n + 2 * (vs.length + 1) = n + 2 * vs.length + 1 + 1 by omega]
      exact goes_step (P := P) (x := iImm 1 v) hl h.pc (stp_imm _ _ _ _) h1.e
    have g1 : (St.setR { s with pc := s.pc + 1, fl := s.fl } 1 v).reg 1 = v := by rw [(h.step s.fl).get 1 1 v (by omega), if_pos rfl]
    generalize St.setR { s with pc := s.pc + 1, fl := s.fl } 1 v = s1 at h1 e1 g1
    have h2 := (h1.push (by omega) hW v).1
    have e2 : goesP l (n + 2 * vs.length + 1) s1 = goesP l (n + 2 * vs.length) (St.push { s1 with pc := s1.pc + 1, fl := none } v) := by
      refine goes_step (P := P ++ [iImm 1 v]) (x := iPush 1) (S := pushesL vs ++ T) (by rw [hl]; simp [pushesL]) (by rw [h1.pc]; simp) ?_ h2.e
      rw [stp_push]
      show _ = (false, St.push _ v)
      rw [← g1]; rfl
    obtain ⟨s', e3, h3⟩ := push_phase W hW n l T vs (v :: m) (P ++ [iImm 1 v, iPush 1]) _ (by rw [hl]; simp [pushesL]) (by simpa using h2) (by rw [List.length_cons]; omega)
    refine ⟨s', e1.trans (e2.trans e3), ?_⟩
    have := h3
    simp only [List.length_append, List.length_cons, List.length_nil, List.reverse_cons, List.append_assoc, List.singleton_append] at this ⊢
    rw [show P.length + 2 * (vs.length + 1) = P.length + (0 + 1 + 1) + 2 * vs.length by omega]
    exact this
def wantF (acc : Int) : List Int → Int
  | [] => acc
  | v :: m => wantF (wrap64 (wrap64 (2 * acc) - v)) m
theorem wantF_in : ∀ (m : List Int) {acc : Int}, In64 acc → In64 (wantF acc m)
  | [], _, h => h
  | v :: m, acc, _ => wantF_in m (w64_in _)
theorem pop_phase (W : Nat) (hW : W ≤ 8192) (n : Nat) (l T : List S35) : ∀ (m : List Int) (P : List S35) (s : St) (acc : Int), l = P ++ (popsL m.length ++ T) → PI W m P.length s → s.reg 0 = acc → In64 acc → (∀ x ∈ m, In64 x) → m.length + 1 ≤ W → ∃ s', goesP l (n + 3 * m.length) s = goesP l n s' ∧ PI W [] (P.length + 3 * m.length) s' ∧ s'.reg 0 = wantF acc m
  | [], P, s, acc, hl, h, h0, ha, hm, hk => ⟨s, rfl, h, h0⟩
  | v :: m, P, s, acc, hl, h, h0, ha, hm, hk => by
    rw [List.length_cons] at hk
    have hv : In64 v := hm v (List.mem_cons_self ..)
    obtain ⟨p1, p2, p3⟩ := h.pop (by omega) hW
    have h1 := p2.setR 1 v (by omega)
    have e1 : goesP l (n + 3 * (v :: m).length) s = goesP l (n + 3 * m.length + 2) (St.setR (St.pop { s with pc := s.pc + 1, fl := none }).2 1 v) := by
      rw [List.length_cons, show n + 3 * (m.length + 1) = n + 3 * m.length + 2 + 1 by omega]
      refine goes_step (P := P) (x := iPop 1) (S := iTwo 0 0 1 :: iTwo 0 1 2 :: (popsL m.length ++ T)) (by rw [hl]; simp [popsL]) h.pc ?_ h1.e
      rw [stp_pop, p1]; rfl
    have g1 : (St.setR (St.pop { s with pc := s.pc + 1, fl := none }).2 1 v).reg 1 = v := by rw [p2.get 1 1 v (by omega), if_pos rfl]
    have g0 : (St.setR (St.pop { s with pc := s.pc + 1, fl := none }).2 1 v).reg 0 = acc := by rw [p2.get 1 0 v (by omega), if_neg (by omega), p3, h0]
    generalize St.setR (St.pop { s with pc := s.pc + 1, fl := none }).2 1 v = s1 at h1 e1 g1 g0
    have h2 := (h1.step none).setR 0 (wrap64 (2 * acc)) (by omega)
    have e2 : goesP l (n + 3 * m.length + 2) s1 = goesP l (n + 3 * m.length + 1) (St.setR { s1 with pc := s1.pc + 1, fl := none } 0 (wrap64 (2 * acc))) := by
      refine goes_step (P := P ++ [iPop 1]) (x := iTwo 0 0 1) (S := iTwo 0 1 2 :: (popsL m.length ++ T)) (by rw [hl]; simp [popsL]) (by rw [h1.pc]; simp) ?_ h2.e
      rw [stp_two]
      show (false, St.setR _ 0 (wv 1 8 (s1.reg 0) (s1.reg 0))) = _
      rw [g0, wv_add ha ha, show acc + acc = 2 * acc by omega]
    have k1 : (St.setR { s1 with pc := s1.pc + 1, fl := none } 0 (wrap64 (2 * acc))).reg 1 = v := by rw [(h1.step none).get 0 1 _ (by omega), if_neg (by omega)]; exact g1
    have k0 : (St.setR { s1 with pc := s1.pc + 1, fl := none } 0 (wrap64 (2 * acc))).reg 0 = wrap64 (2 * acc) := by rw [(h1.step none).get 0 0 _ (by omega), if_pos rfl]
    generalize St.setR { s1 with pc := s1.pc + 1, fl := none } 0 (wrap64 (2 * acc)) = s2 at h2 e2 k1 k0
    have h3 := (h2.step none).setR 0 (wrap64 (wrap64 (2 * acc) - v)) (by omega)
    have e3 : goesP l (n + 3 * m.length + 1) s2 = goesP l (n + 3 * m.length) (St.setR { s2 with pc := s2.pc + 1, fl := none } 0 (wrap64 (wrap64 (2 * acc) - v))) := by
      refine goes_step (P := P ++ [iPop 1, iTwo 0 0 1]) (x := iTwo 0 1 2) (S := popsL m.length ++ T) (by rw [hl]; simp [popsL]) (by rw [h2.pc]; simp; omega) ?_ h3.e
      rw [stp_two]
      show (false, St.setR _ 0 (wv 2 8 (s2.reg 0) (s2.reg 1))) = _
      rw [k0, k1, wv_sub (w64_in _) hv]
    have j0 : (St.setR { s2 with pc := s2.pc + 1, fl := none } 0 (wrap64 (wrap64 (2 * acc) - v))).reg 0 = wrap64 (wrap64 (2 * acc) - v) := by rw [(h2.step none).get 0 0 _ (by omega), if_pos rfl]
    obtain ⟨s', e4, h4, j4⟩ := pop_phase W hW n l T m (P ++ [iPop 1, iTwo 0 0 1, iTwo 0 1 2]) _ _ (by rw [hl]; simp [popsL]) (by simpa using h3) j0 (w64_in _) (fun x hx => hm x (List.mem_cons_of_mem _ hx)) (by omega)
    refine ⟨s', e1.trans (e2.trans (e3.trans e4)), ?_, j4⟩
    have := h4
    simp only [List.length_append, List.length_cons, List.length_nil] at this ⊢
    rw [show P.length + 3 * (m.length + 1) = P.length + (0 + 1 + 1 + 1) + 3 * m.length by omega]
    exact this
theorem code_run (W : Nat) (hW : W ≤ 8192) (vs : List Int) (s : St) (h : PI W [] 0 s) (hv : ∀ x ∈ vs, In64 x) (hk : vs.length + 1 ≤ W) (n : Nat) :
    (goesP (codeL vs) (n + 5 * vs.length + 4) s).e = 0 ∧ (goesP (codeL vs) (n + 5 * vs.length + 4) s).reg 0 = wantF 0 vs.reverse ∧ keptOk (goesP (codeL vs) (n + 5 * vs.length + 4) s) ∧ (goesP (codeL vs) (n + 5 * vs.length + 4) s).reg 4 = 8 * (W : Int) := by
  have h1 := h.step s.fl
  have e1 : goesP (codeL vs) (n + 5 * vs.length + 4) s = goesP (codeL vs) (n + 5 * vs.length + 3) { s with pc := s.pc + 1, fl := s.fl } :=
    goes_step (P := []) (x := iLab) rfl h.pc (stp_lab _ _) h1.e
  generalize ({ s with pc := s.pc + 1, fl := s.fl } : St) = s1 at h1 e1
  have h2 := (h1.step s1.fl).setR 2 (s1.reg 4) (by omega)
  have e2 : goesP (codeL vs) (n + 5 * vs.length + 3) s1 = goesP (codeL vs) (n + 5 * vs.length + 2) (St.setR { s1 with pc := s1.pc + 1, fl := s1.fl } 2 (s1.reg 4)) :=
    goes_step (P := [iLab]) (x := iMov 2 4) rfl h1.pc (stp_mov _ _ _ _) h2.e
  generalize St.setR { s1 with pc := s1.pc + 1, fl := s1.fl } 2 (s1.reg 4) = s2 at h2 e2
  obtain ⟨s3, e3, h3⟩ := push_phase W hW (n + 3 * vs.length + 2) (codeL vs) (iImm 0 0 :: (popsL vs.length ++ [iRet])) vs [] [iLab, iMov 2 4] s2 rfl h2 (by simpa using hk)
  rw [show n + 3 * vs.length + 2 + 2 * vs.length = n + 5 * vs.length + 2 by omega] at e3
  rw [List.append_nil] at h3
  have h4 := (h3.step s3.fl).setR 0 0 (by omega)
  have e4 : goesP (codeL vs) (n + 3 * vs.length + 2) s3 = goesP (codeL vs) (n + 1 + 3 * vs.length) (St.setR { s3 with pc := s3.pc + 1, fl := s3.fl } 0 0) := by
    rw [show n + 3 * vs.length + 2 = n + 1 + 3 * vs.length + 1 by omega]
    exact goes_step (P := [iLab, iMov 2 4] ++ pushesL vs) (x := iImm 0 0) (S := popsL vs.length ++ [iRet]) (by simp [codeL]) (by rw [h3.pc]; simp [pushes_len]; omega) (stp_imm _ _ _ _) h4.e
  have g4 : (St.setR { s3 with pc := s3.pc + 1, fl := s3.fl } 0 0).reg 0 = 0 := by rw [(h3.step s3.fl).get 0 0 0 (by omega), if_pos rfl]
  generalize St.setR { s3 with pc := s3.pc + 1, fl := s3.fl } 0 0 = s4 at h4 e4 g4
  have hq : ([iLab, iMov 2 4] ++ pushesL vs ++ [iImm 0 0]).length = 2 + 2 * vs.length + 1 := by simp [pushes_len]; omega
  obtain ⟨s5, e5, h5, g5⟩ := pop_phase W hW (n + 1) (codeL vs) [iRet] vs.reverse ([iLab, iMov 2 4] ++ pushesL vs ++ [iImm 0 0]) s4 0 (by simp [codeL]) (by rw [hq]; exact h4) g4 in0 (fun x hx => hv x (List.mem_reverse.1 hx)) (by simpa using hk)
  rw [List.length_reverse] at e5
  have hr4 : St.reg { s5 with pc := s5.pc + 1, fl := none } 4 = 8 * ((W : Int) - 1) := by
    show s5.reg 4 = _
    rw [h5.r4]; simp
  have hok : wordOk { s5 with pc := s5.pc + 1, fl := none } (8 * ((W : Int) - 1)) = true := by
    refine wordOk_iff.2 ⟨by omega, by omega, ?_⟩
    show _ < ((s5.mem.length : Nat) : Int)
    rw [h5.ml]; omega
  have hp : St.pop { s5 with pc := s5.pc + 1, fl := none } = (-1, St.setR { s5 with pc := s5.pc + 1, fl := none } 4 (8 * (W : Int))) := by
    unfold St.pop
    rw [hr4]
    unfold St.load
    rw [if_pos hok]
    have : (8 * ((W : Int) - 1) / 8).toNat = W - 1 := by omega
    rw [this]
    show (s5.mem.getD (W - 1) 0, _) = _
    rw [h5.bot, w64_id (by omega)]
    rw [show 8 * ((W : Int) - 1) + 8 = 8 * (W : Int) by omega]
  have e6 : goesP (codeL vs) (n + 1) s5 = St.setR { s5 with pc := s5.pc + 1, fl := none } 4 (8 * (W : Int)) := by
    refine goes_last (P := [iLab, iMov 2 4] ++ pushesL vs ++ [iImm 0 0] ++ popsL vs.length) (x := iRet) (S := []) (by simp [codeL]) (by rw [h5.pc]; simp [pushes_len, pops_len]; omega) ?_
    rw [stp_ret]
    unfold St.returns
    rw [hp]
    rw [if_neg (by show ¬ (s5.e ≠ 0); rw [h5.e]; simp), if_pos rfl]
  have eq := e1.trans (e2.trans (e3.symm.symm.trans (e4.trans (e5.trans e6))))
  rw [eq]
  have hr : ∀ k, (St.setR { s5 with pc := s5.pc + 1, fl := none } 4 (8 * (W : Int))).reg k = if 4 = k then 8 * (W : Int) else s5.reg k := fun k =>
    reg_setR { s5 with pc := s5.pc + 1, fl := none } 4 k _ (show 4 < s5.r.length by rw [h5.rl]; omega)
  refine ⟨h5.e, by rw [hr, if_neg (by decide)]; exact g5, ?_, by rw [hr, if_pos rfl]⟩
  obtain ⟨k1, k2, k3, k4, k5, k6⟩ := h5.k
  exact ⟨by rw [hr, if_neg (by decide)]; exact k1, by rw [hr, if_neg (by decide)]; exact k2, by rw [hr, if_neg (by decide)]; exact k3, by rw [hr, if_neg (by decide)]; exact k4, by rw [hr, if_neg (by decide)]; exact k5, by rw [hr, if_neg (by decide)]; exact k6⟩
end Go.Proofs.YtgdkkcdmflopjaaDoor.Mc
