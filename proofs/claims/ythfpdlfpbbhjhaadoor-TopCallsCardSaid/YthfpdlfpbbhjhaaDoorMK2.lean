import Derived.Test.YthfpdlfpbbhjhaaDoorMW7
namespace Go.Proofs.YthfpdlfpbbhjhaaDoor.Mc
open Go.RowKit Go.Proofs.YthfpdlfpbbhjhaaDoor.PA Go.Proofs.YthfpdlfpbbhjhaaDoor.Pure Go.Proofs.MapFun Go.Proofs.YthfpdlfpbbhjhaaDoorW.PrintWords Go.Proofs.YthfpdlfpbbhjhaaDoorW.PrintLast Go.Proofs.YthfpdlfpbbhjhaaDoorW.PrintMore
set_option linter.unusedVariables false
set_option linter.unusedSimpArgs false
attribute [local go_sem] max2_int min2_int max_two min_two
def marksS : Nat → St → St
  | 0, s => s
  | k + 1, s => (marksS k s).setR k (-6148914691236517206)
def keptS : Nat → St → St
  | 0, s => s
  | k + 1, s => (keptS k s).setR (keptN k) ((k : Int) + 1)
def givenN (k : Nat) : Nat := [7, 6, 2, 1, 8, 9].getD k 0
theorem givenN_lt (k : Nat) (h : k < 6) : givenN k < 16 := by
  rcases (show k = 0 ∨ k = 1 ∨ k = 2 ∨ k = 3 ∨ k = 4 ∨ k = 5 by omega) with rfl | rfl | rfl | rfl | rfl | rfl <;> decide
theorem givenN_eq (k : Nat) (h : k < 6) : givenL.getD k 0 = (givenN k : Int) := by
  rcases (show k = 0 ∨ k = 1 ∨ k = 2 ∨ k = 3 ∨ k = 4 ∨ k = 5 by omega) with rfl | rfl | rfl | rfl | rfl | rfl <;> rfl
theorem partly7 (v : Int) (h : In64 v) : mach_partly.f v 7 = some v := by
  unfold mach_partly.f
  rw [size_yes (k := 7) (by unfold isK; omega)]
  have hw : wd 7 = 64 := by decide
  rw [hw]
  have hs : shl IntKind.u64 18446744073709551615 (wrap64 (8 * (64 / 8))) = 0 := by decide +kernel
  have h1 : bits BinOp.andNot IntKind.u64 (IntKind.u64.wrap v) 0 = IntKind.u64.wrap ((BitVec.ofInt 64 (IntKind.u64.wrap v) &&& ~~~BitVec.ofInt 64 0).toNat : Int) := rfl
  have h2 : bits BinOp.and IntKind.u64 (IntKind.u64.wrap (-6148914691236517206)) 0 = 0 := by rfl
  rw [Option.bind_some, if_pos (by decide +kernel), hs, h2, bits_or_u64, h1]
  congr 1
  have e1 : ~~~BitVec.ofInt 64 0 = BitVec.allOnes 64 := by decide
  have e2 : BitVec.ofInt 64 0 = 0#64 := by decide
  rw [e1, BitVec.and_allOnes, e2, BitVec.or_zero]
  unfold In64 at h
  simp only [wrap_u64, BitVec.toNat_ofInt]
  unfold wrap64
  omega
theorem partly_c (v : Int) (h : In64 v) (w : World) : Calls Tryd.prog 23 #[.int .i64 v, .int .i64 7] w fun e w' => e = .returned (.int .i64 v) ∧ ∃ n, w' = w.drewN n :=
  (mach_partly.calls v 7 v w (partly7 v h)).mono fun e w' h => by obtain ⟨h, ⟨n, h2⟩⟩ := h; exact ⟨h, n, h2⟩
end Go.Proofs.YthfpdlfpbbhjhaaDoor.Mc
namespace Go.Proofs.YthfpdlfpbbhjhaaDoor.Mc
open Go.RowKit Go.Proofs.YthfpdlfpbbhjhaaDoor.PA Go.Proofs.YthfpdlfpbbhjhaaDoor.Pure Go.Proofs.MapFun Go.Proofs.YthfpdlfpbbhjhaaDoorW.PrintWords Go.Proofs.YthfpdlfpbbhjhaaDoorW.PrintLast Go.Proofs.YthfpdlfpbbhjhaaDoorW.PrintMore
set_option linter.unusedVariables false
set_option linter.unusedSimpArgs false
attribute [local go_sem] max2_int min2_int max_two min_two
def argsG (args : List Int) : Nat → St → St
  | 0, s => s
  | k + 1, s => if k < 6 then (argsG args k s).setR (givenN k) (args.getD k 0) else (argsG args k s).store (wrap64 ((argsG args k s).reg 4 + 8 * ((k : Int) - 6))) (args.getD k 0)
def beginsG (s : St) (args : List Int) (stack : Int) : St := (argsG args args.length ((keptS 6 (marksS 16 s)).setR 4 (stack - (if args.length ≤ 6 then 0 else 16)))).push (-1)
theorem store_e {s : St} {a v : Int} (h : (s.store a v).e = 0) : s.e = 0 ∧ wordOk s a = true := by
  unfold St.store at h
  split at h
  · exact ⟨h, by assumption⟩
  · simp at h
theorem push_e {s : St} {v : Int} (h : (s.push v).e = 0) : s.e = 0 := (store_e h).1
theorem argsG_e1 (args : List Int) (s : St) (k : Nat) (h : (argsG args (k + 1) s).e = 0) : (argsG args k s).e = 0 := by
  unfold argsG at h
  split at h
  · exact h
  · exact (store_e h).1
theorem argsG_e (args : List Int) (s : St) (k : Nat) : ∀ d, (argsG args (k + d) s).e = 0 → (argsG args k s).e = 0
  | 0, h => h
  | d + 1, h => argsG_e args s k d (argsG_e1 args s (k + d) h)
theorem argsG_ok (args : List Int) (s : St) (k : Nat) (hk : ¬ k < 6) (h : (argsG args (k + 1) s).e = 0) : wordOk (argsG args k s) (wrap64 ((argsG args k s).reg 4 + 8 * ((k : Int) - 6))) = true := by
  unfold argsG at h
  rw [if_neg hk] at h
  exact (store_e h).2
theorem givenN_ne (k : Nat) (h : k < 6) : givenN k ≠ 4 := by
  rcases (show k = 0 ∨ k = 1 ∨ k = 2 ∨ k = 3 ∨ k = 4 ∨ k = 5 by omega) with rfl | rfl | rfl | rfl | rfl | rfl <;> decide
theorem argsG_r4 (args : List Int) (s : St) : ∀ k, (argsG args k s).reg 4 = s.reg 4
  | 0 => rfl
  | k + 1 => by
    unfold argsG
    split
    · rename_i h
      rw [← argsG_r4 args s k]
      simp only [St.reg, St.setR, List.getD_eq_getElem?_getD, List.getElem?_set]
      rw [if_neg (givenN_ne k h)]
    · rw [← argsG_r4 args s k]
      unfold St.store
      split <;> rfl
theorem w64_small {x : Int} (h : -9223372036854775808 ≤ x ∧ x ≤ 9223372036854775807) : wrap64 x = x := by unfold wrap64; omega
set_option maxRecDepth 100000 in
set_option maxHeartbeats 4000000 in
theorem beginsG_calls (Z : Ct) (O : Z.Ok) (s : St) (w : World) (h : Mac Z w s) (hT : Tab Z.w0) (args : List Int) (hn8 : args.length ≤ 8) (A3 : Option Addr) (c3 : Nat) (hA : Kd.C (Kd.int .i64) Z.w0 A3 args.length args) (hc3 : args.length ≤ c3)
    (Aa : Option Addr) (ca : Nat) (hAa : Kd.C (Kd.int .i64) Z.w0 Aa args.length (List.replicate args.length 7)) (hca : args.length ≤ ca) (nm : ByteArray) (rt g : Int) (hs : Bool) (b5 : Value) (stack : Int) (hst : 0 ≤ stack) (hst' : stack ≤ 65536) (he : (beginsG s args stack).e = 0)
    (HIN : ∀ k, In64 (args.getD k 0)) :
    Calls Tryd.prog 11 #[.pointer (some ⟨Z.b, 0, none⟩), .agg #[.string nm, .int .i64 rt, .slice Aa args.length ca, .bool hs, .int .i64 g, b5], .slice A3 args.length c3, .int .i64 stack] w fun e w' => e = .returned (.bool true) ∧ Mac Z w' (beginsG s args stack) := by
  obtain ⟨m, hm⟩ : ∃ m, args.length = m := ⟨_, rfl⟩
  rw [hm] at hA hc3 hAa hca hn8 ⊢
  have HMM := Lib.hid hm
  clear hm
  have H0 := Lib.hid (h.step O ((Below.refl _ _).alloc (Nat.le_refl _) (.cells #[.string nm, .int .i64 rt, .slice Aa m ca, .bool hs, .int .i64 g, b5] 28)))
  have hXb : w.heap.size ≠ Z.b := by have := h.lt; omega
  have hXm : w.heap.size ≠ Z.bm := by have := h.ltm; omega
  have hX0 : (w.alloc (.cells #[.string nm, .int .i64 rt, .slice Aa m ca, .bool hs, .int .i64 g, b5] 28)).heap[w.heap.size]? = some (.cells #[.string nm, .int .i64 rt, .slice Aa m ca, .bool hs, .int .i64 g, b5] 28 (0, 0)) := by
    show (w.heap.push _)[w.heap.size]? = _
    rw [Array.getElem?_push_size]
  have HX0 := Lib.hid hX0
  have hlt0 := (Array.getElem?_eq_some_iff.1 hX0).1
  have HL := Lib.hid hlt0
  have HA := Lib.hid (And.intro hT (And.intro hA hAa))
  have HE := Lib.hid he
  clear h hT hX0 hA hAa he hlt0
  go_enter Tryd.func11, Tryd.ntmps11
  go_wp2
  go_loopw [16] (fun i wr => ∃ k : Nat, k ≤ 16 ∧ i = .int .i64 k ∧ Mac Z wr (marksS k s) ∧ Fr Z (w.alloc (.cells #[.string nm, .int .i64 rt, .slice Aa m ca, .bool hs, .int .i64 g, b5] 28)) wr) (fun i _ => 16 - (intOf i).toNat)
  case atStart => exact ⟨0, Nat.zero_le _, rfl, H0.out, Fr.refl _ _⟩
  case round =>
    obtain ⟨k, hk, rfl, hM, hF⟩ := hrel
    by_cases hlt : k < 16
    · have hlt' : (k : Int) < 16 := by omega
      have cR := hM.reg k hlt
      have fR := hM.fz (3 + k)
      have HM := Lib.hid (And.intro (hM.setR O k hlt (-6148914691236517206)) (hF.set (3 + k) (.int .i64 (-6148914691236517206))))
      clear hM hF
      go_wp2
      go_roundw
      case rel => exact ⟨k + 1, by omega, by simp, HM.out.1, HM.out.2⟩
      case measure => simp [intOf]; omega
    obtain rfl : k = 16 := by omega
    rw [show ((16 : Nat) : Int) = 16 from rfl]
    have hTw := HA.out.1.to hM.below HA.out.1.size
    have t0 := hTw.k 0 (by omega)
    have t1 := hTw.k 1 (by omega)
    have t2 := hTw.k 2 (by omega)
    have t3 := hTw.k 3 (by omega)
    have t4 := hTw.k 4 (by omega)
    have t5 := hTw.k 5 (by omega)
    simp only [keptL, List.getD_cons_zero, List.getD_cons_succ] at t0 t1 t2 t3 t4 t5
    have HM := Lib.hid (And.intro hM hF)
    clear hM hF hTw
    go_wp2
    go_loopw [26] (fun i wr => ∃ k : Nat, k ≤ 6 ∧ i = .int .i64 k ∧ Mac Z wr (keptS k (marksS 16 s)) ∧ Fr Z (w.alloc (.cells #[.string nm, .int .i64 rt, .slice Aa m ca, .bool hs, .int .i64 g, b5] 28)) wr) (fun i _ => 6 - (intOf i).toNat)
    case atStart => exact ⟨0, Nat.zero_le _, rfl, HM.out.1, HM.out.2⟩
    case round =>
      clear t0 t1 t2 t3 t4 t5
      obtain ⟨k, hk, rfl, hM, hF⟩ := hrel
      by_cases hlt : k < 6
      · have hlt' : (k : Int) < 6 := by omega
        have hix := index_kept k hlt
        have hkl := keptN_lt k hlt
        have cR := hM.reg (keptN k) hkl
        have fR := hM.fz (3 + keptN k)
        have HM := Lib.hid (And.intro (hM.setR O (keptN k) hkl ((k : Int) + 1)) (hF.set (3 + keptN k) (.int .i64 ((k : Int) + 1))))
        clear hM hF
        go_wp2
        go_roundw
        case rel => exact ⟨k + 1, by omega, by simp, HM.out.1, HM.out.2⟩
        case measure => simp [intOf]; omega
      obtain rfl : k = 6 := by omega
      rw [show ((6 : Nat) : Int) = 6 from rfl]
      have cR := hM.reg 4 (by omega)
      have fR := hM.fz 7
      obtain ⟨S4, hS4⟩ : ∃ x, stack - (if m ≤ 6 then 0 else 16) = x := ⟨_, rfl⟩
      have HS4 := Lib.hid hS4
      have HM := Lib.hid (And.intro (hM.setR O 4 (by omega) S4) (hF.set 7 (.int .i64 S4)))
      have s4a : -16 ≤ S4 := by rw [← hS4]; split <;> omega
      have s4b : S4 ≤ 65536 := by rw [← hS4]; split <;> omega
      have hr4 : ((keptS 6 (marksS 16 s)).setR 4 S4).reg 4 = S4 := by
        obtain ⟨_, _, _, hq⟩ := hM
        simp [St.setR, St.reg, hq.r]
      obtain ⟨s0, hs0⟩ : ∃ x, (keptS 6 (marksS 16 s)).setR 4 S4 = x := ⟨_, rfl⟩
      have hee : ((argsG args m s0).push (-1)).e = 0 := by
        have := HE.out
        unfold beginsG at this
        rw [HMM.out, HS4.out, hs0] at this
        exact this
      rw [hs0] at HM hr4
      have HE2 := Lib.hid hee
      have HR4 := Lib.hid hr4
      have HS0 := Lib.hid hs0
      clear hM hF hS4 hee hr4 hs0
      rcases Nat.lt_or_ge 6 m with h6 | h6
      · have q : stack - 16 * (((m : Int) - 6 + 1) / 2) = S4 := by rw [← HS4.out, if_neg (by omega)]; omega
        have h6' : 6 < (m : Int) := by omega
        go_wp2
        (try rw [q])
        clear q h6'
        go_loopw [54] (fun i wr => ∃ k : Nat, k ≤ m ∧ i = .int .i64 k ∧ Mac Z wr (argsG args k s0) ∧ Fr Z (w.alloc (.cells #[.string nm, .int .i64 rt, .slice Aa m ca, .bool hs, .int .i64 g, b5] 28)) wr) (fun i _ => m - (intOf i).toNat)
        case atStart => exact ⟨0, Nat.zero_le _, rfl, HM.out.1, HM.out.2⟩
        case round =>
          clear cR fR
          obtain ⟨k, hk, rfl, hM, hF⟩ := hrel
          by_cases hlt : k < m
          · have hlt' : (k : Int) < m := by omega
            obtain ⟨ad, rfl, x0⟩ := at_int HA.out.2.1 k hlt
            obtain ⟨aa, rfl, y0⟩ := at_int HA.out.2.2 k hlt
            have y7 : (List.replicate m (7 : Int)).getD k 0 = 7 := by simp [List.getD_eq_getElem?_getD, List.getElem?_replicate, hlt]
            rw [y7] at y0
            have hb := hM.below
            have kx : ∀ {p : Addr} {v : Value}, Z.w0.cell? p = some v → wr.cell? p = some v := fun {p v} h => (hb.cell (World.block_lt_of_cell? Z.w0 _ h)).trans h
            have x1 := kx x0
            have y1 := kx y0
            have HN := Lib.hid (HIN k)
            obtain ⟨v, hv⟩ : ∃ v, args.getD k 0 = v := ⟨_, rfl⟩
            rw [hv] at x1 HN
            have hX := (hF.block w.heap.size hXb hXm HL.out).trans HX0.out
            have z2 := cell_at hX 2 (v := .slice (some aa) m ca) rfl
            have hT6 := HA.out.1
            clear x0 y0 hX
            by_cases h5 : k < 6
            · have h5' : (k : Int) < 6 := by omega
              have hg := hT6.g k h5
              rw [givenN_eq k h5] at hg
              have hgl := givenN_lt k h5
              have g1 := kx hg
              have HM := Lib.hid (And.intro hM (And.intro hF hv))
              clear hg hb kx hM hF hv hT6
              go_wp2_with (go_at_call 23; refine (partly_c v HN.out _).mono ?_; rintro e w1 ⟨rfl, n, rfl⟩; have hM2 := HM.out.1.drewN O (n + 1); have g2 := hM2.reg (givenN k) hgl; have fR := hM2.fz (3 + givenN k); have hF2 := (HM.out.2.1.trans (Fr.of (pw_below_drewN (Below.refl _ _) (n + 1)))).set (3 + givenN k) (.int .i64 v); have HM2 := Lib.hid (And.intro (hM2.setR O (givenN k) hgl v) hF2); clear hM2 hF2)
              go_region
              go_wp2
              go_roundw
              case rel => exact ⟨k + 1, by omega, by simp, by unfold argsG; rw [if_pos h5, HM.out.2.2]; exact HM2.out.1, HM2.out.2⟩
              case measure => simp [intOf]; omega
            · have h5' : ¬ (k : Int) < 6 := by omega
              have hok := argsG_ok args s0 k h5 (argsG_e args s0 (k + 1) (m - (k + 1)) (by rw [show k + 1 + (m - (k + 1)) = m by omega]; exact push_e HE2.out))
              rw [argsG_r4, HR4.out, w64_small (by omega)] at hok
              have hM0 := hM
              have HM := Lib.hid (And.intro hM (And.intro hF (And.intro hv hok)))
              have c4 := hM.reg 4 (by omega)
              rw [argsG_r4, HR4.out] at c4
              obtain ⟨p1, p2, p3⟩ := wordOk_iff.1 hok
              clear hb kx hM hF hv hT6 hok
              go_wp2_with (first
                | (go_at_call 23; refine (partly_c v HN.out _).mono ?_; rintro e w1 ⟨rfl, n, rfl⟩; have hM2 := HM.out.1.drewN O n; have HM2 := Lib.hid hM2; clear hM2)
                | (go_at_call 24; refine (word_ok Z (argsG args k s0) _ _ HM2.out HM.out.2.2.2).mono ?_; rintro e w2 ⟨rfl, rfl⟩; obtain ⟨fv, sv, evv, hq⟩ := HM2.out; have d1 := hq.word ((S4 + 8 * ((k : Int) - 6)) / 8).toNat (by omega); have d2 := hq.fzm ((S4 + 8 * ((k : Int) - 6)) / 8).toNat; have HM3 := Lib.hid (hq.setM O ((S4 + 8 * ((k : Int) - 6)) / 8).toNat v).mac; clear hq))
              go_roundw
              case rel => exact ⟨k + 1, by omega, by simp, by unfold argsG; rw [if_neg h5, argsG_r4, HR4.out, w64_small (by omega)]; unfold St.store; rw [if_pos HM.out.2.2.2, HM.out.2.2.1]; exact HM3.out, (HM.out.2.1.trans (Fr.of (pw_below_drewN (Below.refl _ _) _))).setM _ _⟩
              case measure => simp [intOf]; omega
          · obtain rfl : k = m := by omega
            have HM := Lib.hid (And.intro hM hF)
            clear hM hF
            go_wp2_with (go_at_call 25; refine (push_calls Z O _ (-1) _ HM.out.1).mono ?_; rintro e w1 ⟨⟨u, rfl⟩, hM2, _⟩; have cE := hM2.cE; rw [HE2.out] at cE; have HM2 := Lib.hid hM2; clear hM2)
            go_ret
            exact ⟨rfl, by unfold beginsG; rw [HMM.out, HS4.out, HS0.out]; exact HM2.out⟩
      · have q : stack = S4 := by rw [← HS4.out, if_pos (by omega)]; omega
        have h6' : ¬ 6 < (m : Int) := by omega
        go_wp2
        (try rw [q])
        clear h6'
        go_loopw [54] (fun i wr => ∃ k : Nat, k ≤ m ∧ i = .int .i64 k ∧ Mac Z wr (argsG args k s0) ∧ Fr Z (w.alloc (.cells #[.string nm, .int .i64 rt, .slice Aa m ca, .bool hs, .int .i64 g, b5] 28)) wr) (fun i _ => m - (intOf i).toNat)
        case atStart => exact ⟨0, Nat.zero_le _, rfl, HM.out.1, HM.out.2⟩
        case round =>
          clear cR fR
          obtain ⟨k, hk, rfl, hM, hF⟩ := hrel
          by_cases hlt : k < m
          · have hlt' : (k : Int) < m := by omega
            obtain ⟨ad, rfl, x0⟩ := at_int HA.out.2.1 k hlt
            obtain ⟨aa, rfl, y0⟩ := at_int HA.out.2.2 k hlt
            have y7 : (List.replicate m (7 : Int)).getD k 0 = 7 := by simp [List.getD_eq_getElem?_getD, List.getElem?_replicate, hlt]
            rw [y7] at y0
            have hb := hM.below
            have kx : ∀ {p : Addr} {v : Value}, Z.w0.cell? p = some v → wr.cell? p = some v := fun {p v} h => (hb.cell (World.block_lt_of_cell? Z.w0 _ h)).trans h
            have x1 := kx x0
            have y1 := kx y0
            have HN := Lib.hid (HIN k)
            obtain ⟨v, hv⟩ : ∃ v, args.getD k 0 = v := ⟨_, rfl⟩
            rw [hv] at x1 HN
            have hX := (hF.block w.heap.size hXb hXm HL.out).trans HX0.out
            have z2 := cell_at hX 2 (v := .slice (some aa) m ca) rfl
            have hT6 := HA.out.1
            clear x0 y0 hX
            by_cases h5 : k < 6
            · have h5' : (k : Int) < 6 := by omega
              have hg := hT6.g k h5
              rw [givenN_eq k h5] at hg
              have hgl := givenN_lt k h5
              have g1 := kx hg
              have HM := Lib.hid (And.intro hM (And.intro hF hv))
              clear hg hb kx hM hF hv hT6
              go_wp2_with (go_at_call 23; refine (partly_c v HN.out _).mono ?_; rintro e w1 ⟨rfl, n, rfl⟩; have hM2 := HM.out.1.drewN O (n + 1); have g2 := hM2.reg (givenN k) hgl; have fR := hM2.fz (3 + givenN k); have hF2 := (HM.out.2.1.trans (Fr.of (pw_below_drewN (Below.refl _ _) (n + 1)))).set (3 + givenN k) (.int .i64 v); have HM2 := Lib.hid (And.intro (hM2.setR O (givenN k) hgl v) hF2); clear hM2 hF2)
              go_region
              go_wp2
              go_roundw
              case rel => exact ⟨k + 1, by omega, by simp, by unfold argsG; rw [if_pos h5, HM.out.2.2]; exact HM2.out.1, HM2.out.2⟩
              case measure => simp [intOf]; omega
            · exact absurd hlt (by omega)
          · obtain rfl : k = m := by omega
            have HM := Lib.hid (And.intro hM hF)
            clear hM hF
            go_wp2_with (go_at_call 25; refine (push_calls Z O _ (-1) _ HM.out.1).mono ?_; rintro e w1 ⟨⟨u, rfl⟩, hM2, _⟩; have cE := hM2.cE; rw [HE2.out] at cE; have HM2 := Lib.hid hM2; clear hM2)
            go_ret
            exact ⟨rfl, by unfold beginsG; rw [HMM.out, HS4.out, HS0.out]; exact HM2.out⟩
end Go.Proofs.YthfpdlfpbbhjhaaDoor.Mc
namespace Go.Proofs.YthfpdlfpbbhjhaaDoor.Mc
open Go.RowKit Go.Proofs.YthfpdlfpbbhjhaaDoor.PA Go.Proofs.YthfpdlfpbbhjhaaDoor.Pure Go.Proofs.MapFun Go.Proofs.YthfpdlfpbbhjhaaDoorW.PrintWords Go.Proofs.YthfpdlfpbbhjhaaDoorW.PrintLast Go.Proofs.YthfpdlfpbbhjhaaDoorW.PrintMore
set_option linter.unusedVariables false
set_option linter.unusedSimpArgs false
def st0 (stack p : Int) : St := ⟨List.replicate 16 0, List.replicate (stack / 8).toNat 0, p, none, [], [], 0⟩
def endP (l : List S50) (args : List Int) (steps stack p : Int) : St := goesP l steps.toNat (beginsG (st0 stack p) args stack)
structure RunOk (l : List S50) (heads : List S28) (name : ByteArray) (args script : List Int) (steps stack : Int) (p : Nat) : Prop where
  right : rightP l heads = true
  plain : ∀ x ∈ l, plainB x ∧ x.f7.size ≤ 140737488351232
  kindsU : ∀ x ∈ l, kindU x
  len : l.length ≤ 40000
  names : ∀ c ∈ heads, c.f0.size ≤ 140737488351232
  one : heads.length = 1
  find : findP heads name = 0
  lab : labAt l l.length name.data.toList = some p
  nsize : name.size ≤ 140737488351232
  few : args.length ≤ 8
  kinds : (heads.getD 0 z28).f2 = List.replicate args.length 7
  ain : ∀ k, In64 (args.getD k 0)
  ret : (heads.getD 0 z28).f1 = 7
  noscr : script = []
  steps0 : 0 ≤ steps
  steps1 : steps ≤ 1000000
  stack0 : 16 ≤ stack
  stack1 : stack ≤ 65536
  stack16 : stack % 16 = 0
  beg : (beginsG (st0 stack p) args stack).e = 0
  kept : (endP l args steps stack p).e = 0 → keptOk (endP l args steps stack p) ∧ (endP l args steps stack p).reg 4 = wrap64 ((beginsG (st0 stack p) args stack).reg 4 + 8)
theorem endP_nat (l : List S50) (args : List Int) (N : Nat) (stack p : Int) : endP l args N stack p = goesP l N (beginsG (st0 stack p) args stack) := rfl
theorem st0_wf (stack p : Int) : (st0 stack p).Wf := by
  refine ⟨fun i => ?_, fun i => ?_, fun a b e => by cases e⟩
  · simp only [st0, St.reg, List.getD_eq_getElem?_getD, List.getElem?_replicate]; split <;> exact in0
  · simp only [st0, List.getD_eq_getElem?_getD, List.getElem?_replicate]; split <;> exact in0
theorem marksS_wf {s : St} (h : s.Wf) : ∀ k, (marksS k s).Wf
  | 0 => h
  | k + 1 => (marksS_wf h k).setR _ (by unfold In64; omega)
theorem keptS_wf {s : St} (h : s.Wf) : ∀ k, k ≤ 6 → (keptS k s).Wf
  | 0, _ => h
  | k + 1, hk => (keptS_wf h k (by omega)).setR _ (by unfold In64; omega)
theorem argsG_wf {s : St} (args : List Int) (ha : ∀ k, In64 (args.getD k 0)) (h : s.Wf) : ∀ k, (argsG args k s).Wf
  | 0 => h
  | k + 1 => by
    unfold argsG
    split
    · exact (argsG_wf args ha h k).setR _ (ha k)
    · exact (argsG_wf args ha h k).store _ (ha k)
theorem beginsG_wf {s : St} (h : s.Wf) (args : List Int) (ha : ∀ k, In64 (args.getD k 0)) (stack : Int) (hs : 0 ≤ stack ∧ stack ≤ 65536) : (beginsG s args stack).Wf :=
  ((argsG_wf args ha ((keptS_wf (marksS_wf h 16) 6 (Nat.le_refl _)).setR 4 (by unfold In64; split <;> omega)) _).push (by unfold In64; omega))
theorem marksS_pc (s : St) : ∀ k, (marksS k s).pc = s.pc
  | 0 => rfl
  | k + 1 => marksS_pc s k
theorem keptS_pc (s : St) : ∀ k, (keptS k s).pc = s.pc
  | 0 => rfl
  | k + 1 => keptS_pc s k
theorem argsG_pc (s : St) (args : List Int) : ∀ k, (argsG args k s).pc = s.pc
  | 0 => rfl
  | k + 1 => by
    unfold argsG
    split
    · exact argsG_pc s args k
    · rw [St.store_pc]; exact argsG_pc s args k
theorem beginsG_pc (s : St) (args : List Int) (stack : Int) : (beginsG s args stack).pc = s.pc := by
  unfold beginsG; rw [St.push_pc, argsG_pc, St.setR_pc, keptS_pc, marksS_pc]
theorem goesP_wf {l : List S50} (hl : ∀ x ∈ l, plainB x) : ∀ n s, s.Wf → 0 ≤ s.pc → (goesP l n s).Wf
  | 0, s, h, _ => h.err _
  | n + 1, s, h, hp => by
    rw [goesP_succ]
    split
    · exact h.err _
    · rename_i hlt
      have hx : In64 (l.getD s.pc.toNat z50).f3 := by
        have : l.getD s.pc.toNat z50 ∈ l := by rw [getD_get l _ (by omega)]; exact List.getElem_mem _
        exact (hl _ this).2.1
      have h2 := h.stp l.length (l.getD s.pc.toNat z50) hx
      split
      · exact h2
      split
      · exact h2
      · exact goesP_wf hl n _ h2 (St.stp_pc _ _ _ hp)
open Classical in
noncomputable def mach_Run.f (l : List S50) (heads : List S28) (name : ByteArray) (args script : List Int) (steps stack : Int) : Option (Int × Int × List S133) :=
  if h : ∃ p, RunOk l heads name args script steps stack p then
    some ((endP l args steps stack h.choose).e, (if (endP l args steps stack h.choose).e = 0 then toP ((endP l args steps stack h.choose).reg 0) 7 else 0), (endP l args steps stack h.choose).ev)
  else none
theorem mach_Run.eq {l : List S50} {heads : List S28} {name : ByteArray} {args script : List Int} {steps stack : Int} {p : Nat} (h : RunOk l heads name args script steps stack p) :
    mach_Run.f l heads name args script steps stack = some ((endP l args steps stack p).e, (if (endP l args steps stack p).e = 0 then toP ((endP l args steps stack p).reg 0) 7 else 0), (endP l args steps stack p).ev) := by
  have hx : ∃ p, RunOk l heads name args script steps stack p := ⟨p, h⟩
  have e : hx.choose = p := by have := hx.choose_spec.lab; rw [h.lab] at this; exact (Option.some.inj this).symm
  unfold mach_Run.f
  rw [dif_pos hx, e]
theorem mach_Run.back {l : List S50} {heads : List S28} {name : ByteArray} {args script : List Int} {steps stack r1 r2 : Int} {r3 : List S133} (h : mach_Run.f l heads name args script steps stack = some (r1, r2, r3)) :
    ∃ p, RunOk l heads name args script steps stack p ∧ r1 = (endP l args steps stack p).e ∧ r2 = (if (endP l args steps stack p).e = 0 then toP ((endP l args steps stack p).reg 0) 7 else 0) ∧ r3 = (endP l args steps stack p).ev := by
  by_cases hx : ∃ p, RunOk l heads name args script steps stack p
  · obtain ⟨p, hp⟩ := hx
    rw [mach_Run.eq hp] at h
    simp only [Option.some.injEq, Prod.mk.injEq] at h
    exact ⟨p, hp, h.1.symm, h.2.1.symm, h.2.2.symm⟩
  · unfold mach_Run.f at h
    rw [dif_neg hx] at h
    cases h
theorem made_words (n : Nat) : madeCells (Value.int .i64 0).cells n = ((List.replicate n (0 : Int)).map (Value.int .i64)).toArray := by
  apply Array.ext_getElem?
  intro i
  simp only [madeCells, Value.cells, List.map_replicate, Array.getElem?_map, List.getElem?_toArray, List.getElem?_replicate]
  by_cases h : i < n
  · simp [h, Nat.mod_one]
  · simp [h]
end Go.Proofs.YthfpdlfpbbhjhaaDoor.Mc
namespace Go.Proofs.YthfpdlfpbbhjhaaDoor.Mc
open Go.RowKit Go.Proofs.YthfpdlfpbbhjhaaDoor.PA Go.Proofs.YthfpdlfpbbhjhaaDoor.Pure Go.Proofs.MapFun Go.Proofs.YthfpdlfpbbhjhaaDoorW.PrintWords Go.Proofs.YthfpdlfpbbhjhaaDoorW.PrintLast Go.Proofs.YthfpdlfpbbhjhaaDoorW.PrintMore
set_option linter.unusedVariables false
set_option linter.unusedSimpArgs false
theorem alloc_at (w : World) (cs : Array Value) (t : TypeId) : (w.alloc (.cells cs t)).heap[w.heap.size]? = some (.cells cs t (0, 0)) := by
  show (w.heap.push _)[w.heap.size]? = _
  rw [Array.getElem?_push_size]
def mkCells (A0 : Option Addr) (n0 c0 : Nat) (bt : Nat) (A1 : Option Addr) (n1 c1 : Nat) (bm : Nat) (m : Nat) (p : Nat) (A4 : Option Addr) (c4 : Nat) : Array Value :=
  #[.slice A0 n0 c0, .map (some bt), .slice A1 n1 c1, .int .i64 0, .int .i64 0, .int .i64 0, .int .i64 0, .int .i64 0, .int .i64 0, .int .i64 0, .int .i64 0, .int .i64 0, .int .i64 0, .int .i64 0, .int .i64 0, .int .i64 0, .int .i64 0, .int .i64 0, .int .i64 0,
    .slice (some ⟨bm, 0, none⟩) m m, .int .i64 p, .pointer none, .slice A4 0 c4, .slice none 0 0, .int .i64 0]
theorem mac_made (w1 w2 : World) (hb : Below w1.heap.size w1 w2) (A0 : Option Addr) (c0 : Nat) (l : List S50) (hl : Kd.C k50 w1 A0 l.length l) (hc0 : l.length ≤ c0) (A1 : Option Addr) (c1 : Nat) (h : List S28) (hh : Kd.C k28 w1 A1 h.length h) (hc1 : h.length ≤ c1)
    (A4 : Option Addr) (c4 : Nat) (h4 : Kd.C (Kd.int .i64) w1 A4 0 []) (n : Nat) (hm : MapF Tryd.prog 9 Lit.string w2 w1.heap.size n (labF l l.length)) (stack : Int) (hs0 : 16 ≤ stack) (hs1 : stack ≤ 65536) (p : Nat) :
    ∃ Z : Ct, Z.Ok ∧ Z.w0 = w1 ∧ Z.b = w2.heap.size + 1 ∧ Z.l = l ∧ Mac Z ((w2.alloc (.cells (madeCells (Value.int .i64 0).cells (stack / 8).toNat) 2)).alloc (.cells (mkCells A0 l.length c0 w1.heap.size A1 h.length c1 w2.heap.size (stack / 8).toNat p A4 c4) 60)) (st0 stack p) := by
  have hlt := hm.lt
  have hsz := hb.size
  refine ⟨⟨w1, w2.heap.size + 1, w2.heap.size, w1.heap.size, l, A0, c0, h, A1, c1, labF l l.length, n⟩, ⟨by show w1.heap.size ≤ w2.heap.size + 1; omega, hsz, Nat.le_refl _, by show w2.heap.size + 1 ≠ w2.heap.size; omega, by show w2.heap.size + 1 ≠ w1.heap.size; omega, by show w2.heap.size ≠ w1.heap.size; omega, hl, hc0, hh, hc1⟩, rfl, rfl, rfl, .pointer none, .slice A4 0 c4, .slice none 0 0, ?_⟩
  have hs3 : (w2.alloc (.cells (madeCells (Value.int .i64 0).cells (stack / 8).toNat) 2)).heap.size = w2.heap.size + 1 := by show (w2.heap.push _).size = _; simp
  have hb3 : Below w2.heap.size w2 ((w2.alloc (.cells (madeCells (Value.int .i64 0).cells (stack / 8).toNat) 2)).alloc (.cells (mkCells A0 l.length c0 w1.heap.size A1 h.length c1 w2.heap.size (stack / 8).toNat p A4 c4) 60)) := ((Below.refl _ _).alloc (Nat.le_refl _) _).alloc (by rw [hs3]; omega) _
  refine ⟨?_, rfl, ⟨A4, c4, rfl, Nat.zero_le _, h4⟩, Kd.R_nil _ _ _ _ _, ?_, hm.block (hb3.block _ hlt), hb.trans (hb3.mono hsz), by simp [st0], ?_⟩
  · have := alloc_at (w2.alloc (.cells (madeCells (Value.int .i64 0).cells (stack / 8).toNat) 2)) (mkCells A0 l.length c0 w1.heap.size A1 h.length c1 w2.heap.size (stack / 8).toNat p A4 c4) 60
    rw [hs3] at this
    simpa [mcells, st0, mkCells] using this
  · have := alloc_at w2 (madeCells (Value.int .i64 0).cells (stack / 8).toNat) 2
    have h2 := ((Below.refl _ _).alloc (Nat.le_refl _) (.cells (mkCells A0 l.length c0 w1.heap.size A1 h.length c1 w2.heap.size (stack / 8).toNat p A4 c4) 60)).block w2.heap.size (show w2.heap.size < (w2.alloc (.cells (madeCells (Value.int .i64 0).cells (stack / 8).toNat) 2)).heap.size by rw [hs3]; omega)
    rw [this, made_words] at h2
    rw [made_words]
    exact h2
  · simp only [st0, List.length_replicate]; omega
end Go.Proofs.YthfpdlfpbbhjhaaDoor.Mc
