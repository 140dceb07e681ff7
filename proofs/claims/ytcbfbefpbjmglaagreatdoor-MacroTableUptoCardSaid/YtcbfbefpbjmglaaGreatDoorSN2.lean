import Derived.Test.YtcbfbefpbjmglaaGreatDoorZ
import Derived.Test.YtcbfbefpbjmglaaGreatDoorTB
import Derived.Test.YtcbfbefpbjmglaaGreatDoorSHh
import Derived.Test.YtcbfbefpbjmglaaGreatDoorMF
import Derived.Outline
set_option maxHeartbeats 8000000
set_option maxRecDepth 100000
set_option linter.unusedSimpArgs false
set_option linter.unusedVariables false
namespace Go.Proofs.YtcbfbefpbjmglaaGreatDoor.PA
open Go.RowKit YtcbfbefpbjmglaaGreatDoorT YtcbfbefpbjmglaaGreatDoorW PrintWords PrintLast PrintMore
attribute [local go_sem] max2_int min2_int max_two min_two max_three min_three max_four min_four
def burinref03_SameNames.l0 : Nat → List ByteArray → List ByteArray → Int → Option (Bool)
 | 0, _, _, _ => none
 | k + 1, x0, x1, x5 => if x5 < (x0.length : Int) then (if 0 ≤ x5 then (if x5 < (x1.length : Int) then (if (rdOf ByteArray.empty x0 x5).toList = (rdOf ByteArray.empty x1 x5).toList then (burinref03_SameNames.l0 k x0 x1 (wrap64 (x5 + 1))) else (some false)) else (none)) else (none)) else (some true)
def burinref03_SameNames.f (k : Nat) (l0 : List ByteArray) (l1 : List ByteArray) : Option (Bool) := if (l0.length : Int) = (l1.length : Int) then (burinref03_SameNames.l0 k l0 l1 0) else (some false)
theorem burinref03_SameNames.calls (k : Nat) (A0 : Option Addr) (c0 : Nat) (l0 : List ByteArray) (A1 : Option Addr) (c1 : Nat) (l1 : List ByteArray) (r : Bool) (w : World) (hr0 : Kd.C Kd.string w A0 l0.length l0) (hc0 : l0.length ≤ c0) (hr1 : Kd.C Kd.string w A1 l1.length l1) (hc1 : l1.length ≤ c1) (h : burinref03_SameNames.f k l0 l1 = some r) :
  Calls Tryz.prog 15 #[.slice A0 l0.length c0, .slice A1 l1.length c1] w fun e w' => e = .returned (.bool r) ∧ Drawn0 w w' := by
 have HR0 := Az.mk hr0
 have HC0 := Az.mk hc0
 clear hr0 hc0
 have HR1 := Az.mk hr1
 have HC1 := Az.mk hc1
 clear hr1 hc1
 have H : (if (l0.length : Int) = (l1.length : Int) then (burinref03_SameNames.l0 k l0 l1 0) else (some false)) = some r := h
 clear h
 by_cases c3 : (l0.length : Int) = (l1.length : Int)
 ·rw [if_pos c3] at H
  have c3b0 : ((l0.length : Int) == (l1.length : Int)) = true := beq_iff_eq.mpr c3
  have c3b1 : ((l0.length : Int) != (l1.length : Int)) = false := bne_eq_false_iff_eq.mpr c3
  have c3b2 : (l0.length == l1.length) = true := by first | simpa using c3 | (simp at c3 ⊢; omega)
  clear c3
  have H' := Az.mk H
  clear H
  go_enter Tryz.func15, Tryz.ntmps15
  go_wp2
  repeat (go_quiet (fail); try go_wp2)
  go_loopg [5] k (fun kq v5 w' => ∃ (x5_1 : Int), v5 = .int .i64 x5_1 ∧ Az (burinref03_SameNames.l0 kq l0 l1 x5_1 = some r) ∧ Az (kq ≤ k) ∧ Drawn0 w w')
  case atStart => exact ⟨(0), (by first | rfl | (simp; done) | (simp [*]; done)), H', ⟨Nat.le_refl _⟩, by repeat (first | exact Drawn0.refl _ | apply Drawn0.step)⟩
  case round =>
   clear H'
   try clear c1
   try clear c2
   try clear p2
   try clear c3
   try clear c3b0
   try clear c3b1
   try clear c3b2
   obtain ⟨x5_1, rfl, HA, HK1, ⟨m1, rfl⟩⟩ := hrel
   cases gk with
   | zero => exact absurd HA.out (by simp [burinref03_SameNames.l0])
   | succ k1 =>
    have H := HA.out
    clear HA
    simp only [burinref03_SameNames.l0] at H
    by_cases c4 : x5_1 < (l0.length : Int)
    ·rw [if_pos c4] at H
     have c4b0 : decide (x5_1 < (l0.length : Int)) = true := decide_eq_true c4
     clear c4
     by_cases c5 : 0 ≤ x5_1
     ·rw [if_pos c5] at H
      have c5b0 : decide (0 ≤ x5_1) = true := decide_eq_true c5
      clear c5
      by_cases c6 : x5_1 < (l1.length : Int)
      ·rw [if_pos c6] at H
       have c6b0 : decide (x5_1 < (l1.length : Int)) = true := decide_eq_true c6
       clear c6
       by_cases c7 : (rdOf ByteArray.empty l0 x5_1).toList = (rdOf ByteArray.empty l1 x5_1).toList
       ·rw [if_pos c7] at H
        have c7b0 : ((rdOf ByteArray.empty l0 x5_1).toList == (rdOf ByteArray.empty l1 x5_1).toList) = true := beq_iff_eq.mpr c7
        have c7b1 : ((rdOf ByteArray.empty l0 x5_1).toList != (rdOf ByteArray.empty l1 x5_1).toList) = false := bne_eq_false_iff_eq.mpr c7
        clear c7
        have H' := Az.mk H
        clear H
        have p520 : 0 ≤ (x5_1 : Int) := od (by assumption)
        have q520 : x5_1 < (l0.length : Int) := od (by assumption)
        obtain ⟨ad520, e520, hx520_0⟩ := Kd.at_string HR0.out x5_1 p520 q520
        cases e520
        replace p520 := eq_true p520
        replace q520 := eq_true q520
        have p521 : 0 ≤ (x5_1 : Int) := od (by assumption)
        have q521 : x5_1 < (l1.length : Int) := od (by assumption)
        obtain ⟨ad521, e521, hx521_0⟩ := Kd.at_string HR1.out x5_1 p521 q521
        cases e521
        replace p521 := eq_true p521
        replace q521 := eq_true q521
        go_wp2
        repeat (go_quiet (fail); try go_wp2)
        go_roundg k1
        case measure => have := HK1.out; omega
        case rel => exact ⟨(wrap64 (x5_1 + 1)), (by first | rfl | (simp; done) | (simp [*]; done)), H', ⟨by have := HK1.out; omega⟩, by repeat (first | exact Drawn0.refl _ | apply Drawn0.step)⟩
       ·rw [if_neg c7] at H
        have c7b0 : ((rdOf ByteArray.empty l0 x5_1).toList == (rdOf ByteArray.empty l1 x5_1).toList) = false := beq_eq_false_iff_ne.mpr c7
        have c7b1 : ((rdOf ByteArray.empty l0 x5_1).toList != (rdOf ByteArray.empty l1 x5_1).toList) = true := bne_iff_ne.mpr c7
        obtain rfl := Option.some.inj H
        have p520 : 0 ≤ (x5_1 : Int) := od (by assumption)
        have q520 : x5_1 < (l0.length : Int) := od (by assumption)
        obtain ⟨ad520, e520, hx520_0⟩ := Kd.at_string HR0.out x5_1 p520 q520
        cases e520
        replace p520 := eq_true p520
        replace q520 := eq_true q520
        have p521 : 0 ≤ (x5_1 : Int) := od (by assumption)
        have q521 : x5_1 < (l1.length : Int) := od (by assumption)
        obtain ⟨ad521, e521, hx521_0⟩ := Kd.at_string HR1.out x5_1 p521 q521
        cases e521
        replace p521 := eq_true p521
        replace q521 := eq_true q521
        go_wp2
        repeat (go_quiet (fail); try go_wp2)
        go_ret
        exact ⟨by first | rfl | (simp; done) | (simp [*]; done), by repeat (first | exact Drawn0.refl _ | apply Drawn0.step)⟩
      ·rw [if_neg c6] at H
       exact absurd H (by simp)
     ·rw [if_neg c5] at H
      exact absurd H (by simp)
    ·rw [if_neg c4] at H
     have c4b0 : decide (x5_1 < (l0.length : Int)) = false := decide_eq_false c4
     clear c4
     obtain rfl := Option.some.inj H
     go_wp2
     repeat (go_quiet (fail); try go_wp2)
     go_ret
     exact ⟨by first | rfl | (simp; done) | (simp [*]; done), by repeat (first | exact Drawn0.refl _ | apply Drawn0.step)⟩
 ·rw [if_neg c3] at H
  have c3b0 : ((l0.length : Int) == (l1.length : Int)) = false := beq_eq_false_iff_ne.mpr c3
  have c3b1 : ((l0.length : Int) != (l1.length : Int)) = true := bne_iff_ne.mpr c3
  have c3b2 : (l0.length == l1.length) = false := by first | simpa using c3 | (simp at c3 ⊢; omega)
  obtain rfl := Option.some.inj H
  go_enter Tryz.func15, Tryz.ntmps15
  go_wp2
  repeat (go_quiet (fail); try go_wp2)
  go_ret
  exact ⟨by first | rfl | (simp; done) | (simp [*]; done), by repeat (first | exact Drawn0.refl _ | apply Drawn0.step)⟩
end Go.Proofs.YtcbfbefpbjmglaaGreatDoor.PA
namespace Go.Proofs.YtcbfbefpbjmglaaGreatDoor.Mac
open Go.RowKit Go.Lib MapFun PA YtcbfbefpbjmglaaGreatDoorT YtcbfbefpbjmglaaGreatDoorW PrintWords PrintLast PrintMore
theorem lexed_f (s : ByteArray) (h : s.size ≤ 1048576) : burinlaw03_lexed.f s = some ((lexP [(1, s.data.toList)]).1.map toT) := by
 unfold burinlaw03_lexed.f
 rw [lex_one s (by omega)]; rfl
theorem headP_size {l : List S55} {x : Bool × List ByteArray × Bool × List S55} (h : headP l = some x) : x.2.1.length ≤ l.length ∧ (∀ p ∈ x.2.1, ∃ t ∈ l, p = t.f1) ∧ x.2.2.2.length ≤ l.length ∧ (∀ t ∈ x.2.2.2, t ∈ l) := by
 match l with
 | [] => rw [headP] at h; cases h; exact ⟨Nat.le_refl _, by simp, Nat.le_refl _, by simp⟩
 | t :: r =>
  rw [headP] at h
  split at h
  ·cases h; exact ⟨Nat.zero_le _, by simp, Nat.le_refl _, by simp⟩
  ·split at h
   ·obtain ⟨y, hy, h2⟩ := Option.bind_eq_some_iff.1 h
    have h2 := Option.some.inj h2
    rw [← h2]
    obtain ⟨k, st⟩ := y
    obtain ⟨_, _, g3, g4⟩ := paramsP_size hy
    refine ⟨?_, fun p hp => ?_, ?_, fun t' ht' => ?_⟩
    ·show st.1.length ≤ _
     rw [List.length_cons]; omega
    ·obtain ⟨t', h1, h2⟩ := g4 p hp
     exact ⟨t', List.mem_cons_of_mem _ h1, h2⟩
    ·show (r.drop k.toNat).length ≤ _
     rw [List.length_drop, List.length_cons]; omega
    ·exact List.mem_cons_of_mem _ (List.mem_of_mem_drop ht')
   ·cases h
theorem parseP_dom {l : List S55} {m : MacP} (hd : domL l = true) (h : parseP l = some m) : DomM m.nm m.params m.body := by
 unfold domL at hd
 rw [Bool.and_eq_true, decide_eq_true_eq, List.all_eq_true] at hd
 obtain ⟨hl, ha⟩ := hd
 have ha : ∀ t ∈ l, t.f1.size ≤ 1048576 := fun t ht => by have := ha t ht; rwa [decide_eq_true_eq] at this
 match l, h with
 | t :: r, h =>
  rw [parseP] at h
  split at h
  ·obtain ⟨x, hx, h2⟩ := Option.bind_eq_some_iff.1 h
   split at h2
   ·have h2 := Option.some.inj h2
    rw [← h2]
    obtain ⟨g1, g2, g3, g4⟩ := headP_size hx
    rw [List.length_cons] at hl
    refine ⟨ha t List.mem_cons_self, ?_, ?_, fun p hp => ?_, fun b hb => ?_⟩
    ·show x.2.1.length ≤ _; omega
    ·show (bareFrom 0 x.2.2.2).length ≤ _; rw [bareFrom_len]; omega
    ·obtain ⟨t', h1, rfl⟩ := g2 p hp
     exact ha t' (List.mem_cons_of_mem _ h1)
    ·obtain ⟨t', h1, h2⟩ := bareFrom_mem _ _ b hb
     rw [h2]; exact ha t' (List.mem_cons_of_mem _ (g4 t' h1))
   ·cases h2
  ·cases h
theorem below_turned {B mb : Nat} {w w1 w' : World} (h : Below B w w1) (ht : w1.mapTurned w' mb) (hB : B ≤ mb) : Below B w w' := by
 obtain ⟨g1, g2, g3, g4, hg⟩ := ht.grown
 refine ⟨g1.trans h.os, g2.trans h.tape, g3.trans h.output, Nat.le_trans h.size (by exact g4), fun k hk => ?_⟩
 rw [← h.block k hk]
 by_cases hk2 : k < w1.heap.size
 ·exact hg k hk2 (fun e => by cases e; omega)
 ·obtain ⟨_, _, _, _, hb, _⟩ := id ht
  have : mb < w1.heap.size := (Array.getElem?_eq_some_iff.1 hb).1
  omega
theorem getm_c (p mb n : Nat) (T : List UInt8 → Option MacP) (nm : ByteArray) (m : MacP) (hTn : T nm.data.toList = some m) (hnm : nm.size < maxLen) (w : World) (h : TabR w p mb n T) (hsz : ∀ y m, T y = some m → m.params.length ≤ 2000000 ∧ m.body.length ≤ 1000000) :
  Calls Tryz.prog 12 #[.pointer (some ⟨p, 0, none⟩), .string nm] w fun e w' => ∃ A2 k2 A4 k4, e = .returned (.tuple #[.agg #[.string m.nm, .bool m.fn, .slice A2 m.params.length k2, .bool m.more, .slice A4 m.body.length k4], .bool true]) ∧ Kd.string.R 9 w' w.heap.size (fun _ => True) (.slice A2 m.params.length k2) m.params ∧ Kd.R k55 55 w' w.heap.size (fun _ => True) (.slice A4 m.body.length k4) m.body ∧ Below w.heap.size w w' := by
 refine (get_c p mb n T nm hnm w h hsz).mono ?_
 rintro e w' ⟨v, rfl, hg, hb⟩
 rw [hTn] at hg ⊢
 obtain ⟨v2, v4, rfl, h2, h4⟩ := hg
 obtain ⟨A2, k2, rfl⟩ := Kd.R_slice h2
 obtain ⟨A4, k4, rfl⟩ := Kd.R_slice h4
 exact ⟨A2, k2, A4, k4, rfl, h2, h4, hb⟩
structure KInv (W7 W10 W : World) (Ba b8 : Nat) (ca : Array Value) (A5 A6 : Option Addr) (n5 n6 : Nat) : Prop where
 bel : Below W7.heap.size W7 W
 a : W.heap[Ba]? = some (.cells ca 32 (0, 0))
 hi : ∀ k, b8 ≤ k → k < W10.heap.size → W.heap[k]? = W10.heap[k]?
 sz : W10.heap.size ≤ W.heap.size
 r5 : 0 < n5 → ∃ g cs, A5 = some ⟨g, 0, none⟩ ∧ W.heap[g]? = some (.cells cs 9 (0, 0)) ∧ n5 ≤ cs.size ∧ W7.heap.size ≤ g ∧ g < b8
 r6 : 0 < n6 → ∃ g cs, A6 = some ⟨g, 0, none⟩ ∧ W.heap[g]? = some (.cells cs 55 (0, 0)) ∧ n6 * 6 ≤ cs.size ∧ W7.heap.size ≤ g ∧ g < b8
theorem KInv.put {W7 W10 W : World} {Ba b8 : Nat} {ca : Array Value} {A5 A6 : Option Addr} {n5 n6 : Nat} (h : KInv W7 W10 W Ba b8 ca A5 A6 n5 n6) {g : Nat} {cs : Array Value} {t : TypeId} (hg : W.heap[g]? = some (.cells cs t (0, 0))) (h1 : W7.heap.size ≤ g) (h2 : g < b8) (ht : t ≠ 32) (off : Nat) (u : Value) :
  KInv W7 W10 (W.setCell ⟨g, off, none⟩ u) Ba b8 ca A5 A6 n5 n6 := by
 have hp := bU hg off u rfl
 have hne : ∀ k, k ≠ g → (W.setCell ⟨g, off, none⟩ u).heap[k]? = W.heap[k]? := fun k hk => Below.heap_setCell W ⟨g, off, none⟩ u k hk
 refine ⟨h.bel.setCell (p := ⟨g, off, none⟩) h1 u, (hne Ba (fun e => ?_)).trans h.a, fun k hk hk2 => (hne k (by omega)).trans (h.hi k hk hk2), by simpa using h.sz, fun hn => ?_, fun hn => ?_⟩
 ·subst e
  have := h.a
  rw [hg] at this
  cases this
  exact ht rfl
 ·obtain ⟨g', cs', e1, e2, e3, e4, e5⟩ := h.r5 hn
  by_cases he : g' = g
  ·subst he
   rw [hg] at e2
   cases e2
   exact ⟨g', _, e1, hp, by simpa using e3, e4, e5⟩
  ·exact ⟨g', cs', e1, (hne g' he).trans e2, e3, e4, e5⟩
 ·obtain ⟨g', cs', e1, e2, e3, e4, e5⟩ := h.r6 hn
  by_cases he : g' = g
  ·subst he
   rw [hg] at e2
   cases e2
   exact ⟨g', _, e1, hp, by simpa using e3, e4, e5⟩
  ·exact ⟨g', cs', e1, (hne g' he).trans e2, e3, e4, e5⟩
theorem KInv.grow {W7 W10 W W' : World} {Ba b8 : Nat} {ca : Array Value} {A5 A6 : Option Addr} {n5 n6 : Nat} (h : KInv W7 W10 W Ba b8 ca A5 A6 n5 n6) (hb : Below W.heap.size W W') : KInv W7 W10 W' Ba b8 ca A5 A6 n5 n6 := by
 have hs := h.sz
 refine ⟨h.bel.trans (hb.mono h.bel.size), (hb.block _ (blk_lt h.a)).trans h.a, fun k h1 h2 => (hb.block k (by omega)).trans (h.hi k h1 h2), Nat.le_trans hs hb.size, fun hn => ?_, fun hn => ?_⟩
 ·obtain ⟨g', cs', e1, e2, e3⟩ := h.r5 hn
  exact ⟨g', cs', e1, (hb.block _ (blk_lt e2)).trans e2, e3⟩
 ·obtain ⟨g', cs', e1, e2, e3⟩ := h.r6 hn
  exact ⟨g', cs', e1, (hb.block _ (blk_lt e2)).trans e2, e3⟩
attribute [local go_sem] Oper.semAt_some
end Go.Proofs.YtcbfbefpbjmglaaGreatDoor.Mac
namespace Go.Proofs.YtcbfbefpbjmglaaGreatDoor.Mac
open Go.RowKit Go.Sort YtcbfbefpbjmglaaGreatDoorW.PrintWords MapFun PA YtcbfbefpbjmglaaGreatDoorT
def sortedN (ms : List MacP) : List ByteArray := ((ms.map nmB).mergeSort (fun x y => decide (x ≤ y))).map (fun x => ⟨x.toArray⟩)
theorem sortedN_len (ms : List MacP) : (sortedN ms).length = ms.length := by
 unfold sortedN
 rw [List.length_map, (List.mergeSort_perm _ _).length_eq, List.length_map]
theorem namesR_c (p mb n : Nat) (ms : List MacP) (w : World) (h : TabR w p mb n (look ms)) (hnd : (ms.map nmB).Nodup) (hn : n ≤ 1000) :
  Calls Tryz.prog 16 #[.pointer (some ⟨p, 0, none⟩)] w fun e w' => ∃ A c, e = .returned (.slice A (sortedN ms).length c) ∧ Kd.string.R 9 w' w.heap.size (fun _ => True) (.slice A (sortedN ms).length c) (sortedN ms) ∧ Below w.heap.size w w' := by
 refine (names_c p mb n ms w h hnd hn).mono ?_
 rintro e w' ⟨v, rfl, hrow, hb⟩
 have hR : Kd.string.R 9 w' w.heap.size (fun _ => True) v (sortedN ms) := by
  refine R_of_row ?_
  rw [sortedN_len]
  have he : (sortedN ms).map Value.string = ((ms.map nmB).mergeSort (fun x y => decide (x ≤ y))).map encStr := by
   unfold sortedN
   rw [List.map_map]; rfl
  rw [he]
  exact hrow
 obtain ⟨A, c, rfl⟩ := Kd.R_slice hR
 exact ⟨A, c, rfl, hR, hb⟩
theorem sameNames_l (l : List ByteArray) (hl : l.length ≤ 1000000) : ∀ d k i, i + d = l.length → d < k → burinref03_SameNames.l0 k l l (i : Int) = some true
 | 0, k, i, h1, h2 => by
  obtain ⟨k, rfl⟩ : ∃ m, k = m + 1 := ⟨k - 1, by omega⟩
  rw [burinref03_SameNames.l0, if_neg (by omega)]
 | d + 1, k, i, h1, h2 => by
  obtain ⟨k, rfl⟩ : ∃ m, k = m + 1 := ⟨k - 1, by omega⟩
  have hw : wrap64 ((i : Int) + 1) = ((i + 1 : Nat) : Int) := by unfold wrap64; omega
  rw [burinref03_SameNames.l0, if_pos (by omega), if_pos (by omega), if_pos (by omega), if_pos rfl, hw]
  exact sameNames_l l hl d k (i + 1) (by omega) (by omega)
theorem sameNames_f (l : List ByteArray) (hl : l.length ≤ 1000000) : burinref03_SameNames.f 1000001 l l = some true := by
 unfold burinref03_SameNames.f
 rw [if_pos rfl]
 exact sameNames_l l hl l.length _ 0 (by omega) (by omega)
end Go.Proofs.YtcbfbefpbjmglaaGreatDoor.Mac
namespace Go.Proofs.YtcbfbefpbjmglaaGreatDoor.Mac
open Go.RowKit MapFun PA YtcbfbefpbjmglaaGreatDoorT YtcbfbefpbjmglaaGreatDoorW PrintWords PrintLast PrintMore
def toksO (s : ByteArray) : List S55 := (lexP [(1, s.data.toList)]).1.map toT
def macO (s : ByteArray) : Option MacP := parseP (toksO s)
def macZ (s : ByteArray) : MacP := (macO s).getD ⟨⟨#[]⟩, false, [], false, []⟩
def macE (s : ByteArray) : Int := if (macO s).isSome then 0 else 30
theorem toksO_dom (s : ByteArray) (h : s.size ≤ 1048576) : domL (toksO s) = true := domL_lex s h
theorem lexed_o (s : ByteArray) (h : s.size ≤ 1048576) : burinlaw03_lexed.f s = some (toksO s) := lexed_f s h
theorem parse_o (s : ByteArray) (h : s.size ≤ 1048576) : macro_Parse.f (toksO s) = some ((macZ s).nm, (macZ s).fn, (macZ s).params, (macZ s).more, (macZ s).body, macE s) := by
 unfold macro_Parse.f
 rw [if_pos (toksO_dom s h)]
 unfold macZ macE macO
 cases parseP (toksO s) <;> rfl
theorem macZ_dom (s : ByteArray) (h : s.size ≤ 1048576) : DomM (macZ s).nm (macZ s).params (macZ s).body := by
 unfold macZ
 cases hm : macO s with
 | none => exact ⟨by decide, by decide, by decide, by simp, by simp⟩
 | some m => exact parseP_dom (toksO_dom s h) hm
def StepM (mb : Nat) (w w' : World) : Prop := ∃ w1, Below w.heap.size w w1 ∧ (w1 = w' ∨ w1.mapTurned w' mb)
theorem StepM.below {mb B : Nat} {w0 w w' : World} (h : StepM mb w w') (h0 : Below B w0 w) (hB : B ≤ mb) (hBs : B ≤ w.heap.size) : Below B w0 w' := by
 obtain ⟨w1, h1, h2⟩ := h
 have h3 : Below B w0 w1 := h0.trans (h1.mono hBs)
 rcases h2 with rfl | h2
 ·exact h3
 ·exact below_turned h3 h2 hB
theorem StepM.strs {mb : Nat} {w w' : World} {A : Option Addr} {n : Nat} {l : List ByteArray} (h : StepM mb w w') (hC : Kd.C Kd.string w A n l) : Kd.C Kd.string w' A n l := by
 obtain ⟨w1, h1, h2⟩ := h
 have h3 := Kd.C_below hC h1
 rcases h2 with rfl | h2
 ·exact h3
 ·exact Cs_turned h3 h2
theorem StepM.toks {mb : Nat} {w w' : World} {A : Option Addr} {n : Nat} {l : List S55} (h : StepM mb w w') (hC : Kd.C k55 w A n l) : Kd.C k55 w' A n l := by
 obtain ⟨w1, h1, h2⟩ := h
 have h3 := Kd.C_below hC h1
 rcases h2 with rfl | h2
 ·exact h3
 ·exact Ck_turned h3 h2
theorem StepM.tab {mb p mb' n : Nat} {w w' : World} {T : List UInt8 → Option MacP} (h : StepM mb w w') (hT : TabR w p mb' n T) (hne : mb' ≠ mb) : TabR w' p mb' n T := by
 obtain ⟨w1, h1, h2⟩ := h
 have h3 := hT.below h1
 rcases h2 with rfl | h2
 ·exact h3
 ·exact h3.turnedO h2 hne
theorem StepM.block {mb i : Nat} {w w' : World} {cs : Array Value} {ty : TypeId} {fr : Nat × Nat} (h : StepM mb w w') (hb : w.heap[i]? = some (.cells cs ty fr)) : w'.heap[i]? = some (.cells cs ty fr) := by
 obtain ⟨w1, h1, h2⟩ := h
 have h3 : w1.heap[i]? = some (.cells cs ty fr) := (h1.block _ (blk_lt hb)).trans hb
 rcases h2 with rfl | h2
 ·exact h3
 ·exact turned_other h2 h3
theorem tab_step {mb : Nat} {w w' : World} (h : Tab w) (hs : StepM mb w w') : Tab w' := by
 obtain ⟨w1, h1, h2⟩ := hs
 have h3 := h.grow h1
 rcases h2 with rfl | h2
 ·exact h3
 ·obtain ⟨⟨t, fr, e⟩, m, e2⟩ := h3
  exact ⟨⟨t, fr, turned_other h2 e⟩, m, cell_turned h2 e2⟩
theorem names_s (p mb n : Nat) (ms : List MacP) (SS : List ByteArray) (w : World) (h : TabR w p mb n (look ms)) (hnd : (ms.map nmB).Nodup) (hn : n ≤ 1000) (hS : sortedN ms = SS) :
  Calls Tryz.prog 16 #[.pointer (some ⟨p, 0, none⟩)] w fun e w' => ∃ A c, e = .returned (.slice A SS.length c) ∧ Kd.C Kd.string w' A SS.length SS ∧ SS.length ≤ c ∧ Below w.heap.size w w' := by
 subst hS
 refine (namesR_c p mb n ms w h hnd hn).mono ?_
 rintro e w' ⟨A, c, rfl, hR, hb⟩
 have h2 := Kd.R_reads' hR
 exact ⟨A, c, rfl, h2.2.2, h2.2.1, hb⟩
theorem requal_self (m : MacP) (hd : DomM m.nm m.params m.body) (hr : rightP m.nm m.fn m.params m.more m.body = true) : burinref03_Equal.f 3000000 m.nm m.fn m.params m.more m.body m.nm m.fn m.params m.more m.body = some true := by
 obtain ⟨d1, d2, d3, _⟩ := hd
 obtain ⟨_, h16, _⟩ := rightP_parts hr
 rw [requal_f _ _ _ _ _ _ _ _ _ _ _ (by omega) d3 (by omega), toksEq_refl, strsEq_refl]; simp
end Go.Proofs.YtcbfbefpbjmglaaGreatDoor.Mac
namespace Go.Proofs.YtcbfbefpbjmglaaGreatDoor.Mac
open Go.RowKit MapFun PA YtcbfbefpbjmglaaGreatDoorT YtcbfbefpbjmglaaGreatDoorW PrintWords PrintLast PrintMore
structure MRow where
 nm : ByteArray
 fn : Bool
 Ap : Option Addr
 pn : Nat
 cp : Nat
 more : Bool
 Ab : Option Addr
 bn : Nat
 cb : Nat
def MRow.cells (x : MRow) : List Value := [.string x.nm, .bool x.fn, .slice x.Ap x.pn x.cp, .bool x.more, .slice x.Ab x.bn x.cb]
def MRow.val (x : MRow) : Value := .agg #[.string x.nm, .bool x.fn, .slice x.Ap x.pn x.cp, .bool x.more, .slice x.Ab x.bn x.cb]
def kM : Kd MRow where
 sz := 5
 E := []
 K := fun _ x cs => cs = x.cells
 M := fun _ _ _ x cs => cs = x.cells
 K_len := fun h => by rw [h]; rfl
 K_one := fun h u hu => by
  rw [h] at hu
  unfold MRow.cells at hu
  simp only [List.mem_cons, List.not_mem_nil, or_false] at hu
  rcases hu with rfl | rfl | rfl | rfl | rfl <;> rfl
 K_below := fun _ h => h
 K_of_M := fun h => h
 M_mono := fun _ h => h
 M_bound := fun h => h
 M_move := fun _ h => h
 M_lower := fun _ h => h
def RowAt (q : Nat) (W : World) (A : Option Addr) (e n : Nat) : Prop := 0 < n → ∀ ad, A = some ad → ad.block < q ∨ ∃ cs fr, W.heap[ad.block]? = some (.cells cs e fr)
theorem RowAt.below {q : Nat} {W W' : World} {A : Option Addr} {e n : Nat} (h : RowAt q W A e n) (hb : Below W.heap.size W W') : RowAt q W' A e n := fun hn ad ha => by
 rcases h hn ad ha with h1 | ⟨cs, fr, h1⟩
 ·exact Or.inl h1
 ·exact Or.inr ⟨cs, fr, (hb.block _ (Array.getElem?_eq_some_iff.1 h1).1).trans h1⟩
theorem RowAt.turned {q : Nat} {W W' : World} {A : Option Addr} {e n b : Nat} (h : RowAt q W A e n) (ht : W.mapTurned W' b) : RowAt q W' A e n := fun hn ad ha => by
 rcases h hn ad ha with h1 | ⟨cs, fr, h1⟩
 ·exact Or.inl h1
 ·exact Or.inr ⟨cs, fr, turned_other ht h1⟩
theorem RowAt.step {q mb : Nat} {W W' : World} {A : Option Addr} {e n : Nat} (h : RowAt q W A e n) (hs : StepM mb W W') : RowAt q W' A e n := by
 obtain ⟨w1, h1, h2⟩ := hs
 have h3 := h.below h1
 rcases h2 with rfl | h2
 ·exact h3
 ·exact h3.turned h2
structure MacX (q : Nat) (W : World) (m : MacP) (x : MRow) : Prop where
 nm : x.nm = m.nm
 fn : x.fn = m.fn
 more : x.more = m.more
 pn : x.pn = m.params.length
 bn : x.bn = m.body.length
 P : Kd.C Kd.string W x.Ap m.params.length m.params
 pc : m.params.length ≤ x.cp
 B : Kd.C k55 W x.Ab m.body.length m.body
 bc : m.body.length ≤ x.cb
 RP : RowAt q W x.Ap 9 m.params.length
 RB : RowAt q W x.Ab 55 m.body.length
theorem MacX.below {W W' : World} {q : Nat} {m : MacP} {x : MRow} (h : MacX q W m x) (hb : Below W.heap.size W W') : MacX q W' m x :=
 ⟨h.nm, h.fn, h.more, h.pn, h.bn, Kd.C_below h.P hb, h.pc, Kd.C_below h.B hb, h.bc, h.RP.below hb, h.RB.below hb⟩
theorem MacX.turned {W W' : World} {b : Nat} {q : Nat} {m : MacP} {x : MRow} (h : MacX q W m x) (ht : W.mapTurned W' b) : MacX q W' m x :=
 ⟨h.nm, h.fn, h.more, h.pn, h.bn, Cs_turned h.P ht, h.pc, Ck_turned h.B ht, h.bc, h.RP.turned ht, h.RB.turned ht⟩
theorem MacX.step {W W' : World} {mb : Nat} {q : Nat} {m : MacP} {x : MRow} (h : MacX q W m x) (hs : StepM mb W W') : MacX q W' m x :=
 ⟨h.nm, h.fn, h.more, h.pn, h.bn, hs.strs h.P, h.pc, hs.toks h.B, h.bc, h.RP.step hs, h.RB.step hs⟩
theorem CM_turned {W W' : World} {A : Option Addr} {n b : Nat} {l : List MRow} (h : Kd.C kM W A n l) (ht : W.mapTurned W' b) : Kd.C kM W' A n l := C_turned (W := W) (W' := W') (fun _ _ h => h) h ht
theorem CM_at {w : World} {A : Option Addr} {xs : List MRow} (h : Kd.C kM w A xs.length xs) (k : Nat) (hk : k < xs.length) : ∃ ad, A = some ad ∧ w.cell? (ad.add (k * 5)) = some (.string xs[k].nm) ∧ w.cell? ⟨(ad.add (k * 5)).block, (ad.add (k * 5)).off + 1, none⟩ = some (.bool xs[k].fn) ∧ w.cell? ⟨(ad.add (k * 5)).block, (ad.add (k * 5)).off + 2, none⟩ = some (.slice xs[k].Ap xs[k].pn xs[k].cp) ∧ w.cell? ⟨(ad.add (k * 5)).block, (ad.add (k * 5)).off + 3, none⟩ = some (.bool xs[k].more) ∧ w.cell? ⟨(ad.add (k * 5)).block, (ad.add (k * 5)).off + 4, none⟩ = some (.slice xs[k].Ab xs[k].bn xs[k].cb) := by
 obtain ⟨ad, e, hc⟩ := h.2.2 (by omega)
 obtain ⟨c, h1, h2, h3⟩ := hc k _ (List.getElem?_eq_getElem hk)
 have h2 : c = xs[k].cells := h2
 subst h2
 exact ⟨ad, e, h3 0 _ rfl, by rw [← add_field _ _ 1 (by omega)]; exact h3 1 _ rfl, by rw [← add_field _ _ 2 (by omega)]; exact h3 2 _ rfl, by rw [← add_field _ _ 3 (by omega)]; exact h3 3 _ rfl, by rw [← add_field _ _ 4 (by omega)]; exact h3 4 _ rfl⟩
def RefR (W : World) (q : Nat) (ps : List (MacP × MRow)) : Prop :=
 ∃ A c, W.heap[q]? = some (.cells #[.slice A ps.length c] 29 (0, 0)) ∧ ps.length ≤ c ∧ Kd.C kM W A (ps.map Prod.snd).length (ps.map Prod.snd) ∧ (∀ p ∈ ps, MacX q W p.1 p.2) ∧ Ty W A 33 ps.length
theorem RefR.below {W W' : World} {q : Nat} {ps : List (MacP × MRow)} (h : RefR W q ps) (hb : Below W.heap.size W W') : RefR W' q ps := by
 obtain ⟨A, c, h1, h2, h3, h4, h5⟩ := h
 exact ⟨A, c, (hb.block _ (blk_lt h1)).trans h1, h2, Kd.C_below h3 hb, fun p hp => (h4 p hp).below hb, h5.below hb⟩
theorem RefR.step {W W' : World} {q mb : Nat} {ps : List (MacP × MRow)} (h : RefR W q ps) (hs : StepM mb W W') : RefR W' q ps := by
 obtain ⟨A, c, h1, h2, h3, h4, h6⟩ := h
 refine ⟨A, c, hs.block h1, h2, ?_, fun p hp => (h4 p hp).step hs, ?_⟩
 ·obtain ⟨w1, g1, g2⟩ := hs
  have h5 := Kd.C_below h3 g1
  rcases g2 with rfl | g2
  ·exact h5
  ·exact CM_turned h5 g2
 ·obtain ⟨w1, g1, g2⟩ := hs
  have h5 := h6.below g1
  rcases g2 with rfl | g2
  ·exact h5
  ·exact h5.turned g2
def findI (ps : List (MacP × MRow)) (nm : ByteArray) : Option Nat := ps.findIdx? (fun p => p.1.nm.toList == nm.toList)
def findV (ps : List (MacP × MRow)) (nm : ByteArray) : Int := match findI ps nm with | some i => i | none => -1
set_option maxHeartbeats 400000 in
theorem find_c (q : Nat) (ps : List (MacP × MRow)) (nm : ByteArray) (w : World) (h : RefR w q ps) (hl : ps.length ≤ 1000) :
  Calls Tryz.prog 26 #[.pointer (some ⟨q, 0, none⟩), .string nm] w fun e w' => e = .returned (.int .i64 (findV ps nm)) ∧ w' = w := by
 obtain ⟨A, c, h1, h2, h3, h4, _⟩ := h
 have q0 := bC h1 0
 have H := Lib.hid (And.intro h2 (And.intro h3 h4))
 clear h1 h2 h3 h4
 go_enter Tryz.func26, Tryz.ntmps26
 go_wp2
 go_loop [5] (fun i => ∃ k : Nat, k ≤ ps.length ∧ i = .int .i64 k ∧ ∀ j (hj : j < ps.length), j < k → (ps[j].1.nm.toList == nm.toList) = false) (fun i => ps.length - (RowKit.intOf i).toNat)
 case atStart => exact ⟨0, Nat.zero_le _, rfl, fun _ _ h => absurd h (Nat.not_lt_zero _)⟩
 case round =>
  obtain ⟨k, hk, rfl, hall⟩ := hrel
  have HA := Lib.hid hall
  clear hall
  by_cases hlt : k < ps.length
  ·have hk2 : k < (ps.map Prod.snd).length := by rw [List.length_map]; exact hlt
   obtain ⟨ad, rfl, x0, x1, x2, x3, x4⟩ := CM_at H.out.2.1 k hk2
   clear x1 x2 x3 x4
   have hx := H.out.2.2 ps[k] (List.getElem_mem hlt)
   have e0 : (ps.map Prod.snd)[k].nm = ps[k].1.nm := by rw [List.getElem_map]; exact hx.nm
   rw [e0] at x0
   have HW := Lib.hid (show wrap64 ((k : Int) + 1) = ((k + 1 : Nat) : Int) by unfold wrap64; omega)
   generalize hs1 : ps[k].1.nm = s1 at x0
   have HS1 := Lib.hid hs1
   clear hs1 e0 hx hk2
   by_cases heq : s1.toList = nm.toList
   ·have heq1 : (s1.toList == nm.toList) = true := beq_iff_eq.mpr heq
    have HQ := Lib.hid heq1
    clear heq
    go_wp2
    go_ret
    refine ⟨?_, rfl⟩
    have : findI ps nm = some k := by
     unfold findI
     rw [List.findIdx?_eq_some_iff_getElem]
     exact ⟨hlt, by rw [HS1.out]; exact HQ.out, fun j hj => by rw [HA.out j (by omega) hj]; simp⟩
    rw [show findV ps nm = (k : Int) by unfold findV; rw [this]]
    rfl
   ·have heq1 : (s1.toList == nm.toList) = false := beq_eq_false_iff_ne.mpr heq
    have HQ := Lib.hid heq1
    clear heq
    go_wp2
    go_round
    case rel =>
     refine ⟨k + 1, hlt, by first | rw [HW.out] | simp, fun j hj h1 => ?_⟩
     rcases Nat.lt_succ_iff_lt_or_eq.1 h1 with h1 | rfl
     ·exact HA.out j hj h1
     ·rw [HS1.out]; exact HQ.out
    case measure => (try rw [HW.out]); simp [RowKit.intOf]; omega
  ·have HZ := Lib.hid (show k = ps.length by omega)
   go_wp2
   go_ret
   refine ⟨?_, rfl⟩
   have : findI ps nm = none := by
    unfold findI
    rw [List.findIdx?_eq_none_iff_findIdx_eq, List.findIdx_eq_length]
    intro p hp
    obtain ⟨j, hj, rfl⟩ := List.getElem_of_mem hp
    exact HA.out j hj (by rw [HZ.out]; exact hj)
   rw [show findV ps nm = -1 by unfold findV; rw [this]]
   rfl
end Go.Proofs.YtcbfbefpbjmglaaGreatDoor.Mac
namespace Go.Proofs.YtcbfbefpbjmglaaGreatDoor.Mac
open Go.RowKit MapFun PA YtcbfbefpbjmglaaGreatDoorT YtcbfbefpbjmglaaGreatDoorW PrintWords PrintLast PrintMore
attribute [local go_sem] Oper.semAt_some
theorem rget5 {W : World} {B : Nat} {A : Value} {cs : Array Value} {rest : List Value} {t1 t2 t3 v0 v1 v2 v3 v4 : Value} {b : Bool} {R : Ending → World → Prop} (h : W.heap[B]? = some (.cells cs 33 (0, 0))) (hs : cs.size = 5)
  (hR : R (.returned (.tuple #[.agg #[v0, v1, v2, v3, v4], .bool b])) (set5 W B v0 v1 v2 v3 v4)) :
  bodyPost Tryz.prog Tryz.f13 R .ret { tmps := (A :: t1 :: t2 :: t3 :: .pointer (some ⟨B, 0, none⟩) :: .bool b :: rest).toArray, defers := [] } (set5 W B v0 v1 v2 v3 v4) := by
 obtain ⟨h1, h2, _⟩ := put5 h hs v0 v1 v2 v3 v4
 refine bodyPost_ret (results_ct rfl _ _ B 33 _ (0, 0) _ (by simp) h1 Tryz.underlying33 rfl (by kernel_rfl)) rfl ?_
 simpa using hR
def gotV : Option MRow → Value
 | none => .agg #[.string ⟨#[]⟩, .bool false, .slice none 0 0, .bool false, .slice none 0 0]
 | some x => x.val
theorem findI_lt {ps : List (MacP × MRow)} {nm : ByteArray} {i : Nat} (h : findI ps nm = some i) : ∃ hi : i < ps.length, (ps[i].1.nm.toList == nm.toList) = true := by
 unfold findI at h
 obtain ⟨h1, h2, _⟩ := List.findIdx?_eq_some_iff_getElem.1 h
 exact ⟨h1, h2⟩
set_option maxHeartbeats 1000000 in
theorem rget_c (q : Nat) (ps : List (MacP × MRow)) (nm : ByteArray) (w : World) (h : RefR w q ps) (hl : ps.length ≤ 1000) :
  Calls Tryz.prog 13 #[.pointer (some ⟨q, 0, none⟩), .string nm] w fun e w' => e = .returned (.tuple #[gotV ((findI ps nm).map fun i => ((ps.map Prod.snd).getD i ⟨⟨#[]⟩, false, none, 0, 0, false, none, 0, 0⟩)), .bool (findI ps nm).isSome]) ∧ Below w.heap.size w w' := by
 obtain ⟨B, hBw⟩ : ∃ B, w.heap.size = B := ⟨_, rfl⟩
 obtain ⟨W0, hW0⟩ : ∃ W0, w.alloc (.cells #[.string ⟨#[]⟩, .bool false, .slice none 0 0, .bool false, .slice none 0 0] 33) = W0 := ⟨_, rfl⟩
 have hb0 : Below w.heap.size w W0 := by rw [← hW0]; exact (Below.refl _ w).alloc (Nat.le_refl _) _
 have qB : W0.heap[B]? = some (.cells #[.string ⟨#[]⟩, .bool false, .slice none 0 0, .bool false, .slice none 0 0] 33 (0, 0)) := by rw [← hW0, ← hBw]; exact blk_new w _
 have h0 := h.below hb0
 have hR := h0
 obtain ⟨A, c, h1, h2, h3, h4, _⟩ := h0
 have q0 := bC h1 0
 have HF := Lib.hid (find_c q ps nm W0 hR hl)
 have HX := Lib.hid (And.intro qB (And.intro hb0 (And.intro h2 (And.intro h3 h4))))
 clear h qB hb0 h1 h2 h3 h4 hR
 obtain ⟨fv, hfv⟩ : ∃ fv, findV ps nm = fv := ⟨_, rfl⟩
 rw [hfv] at HF
 have HV := Lib.hid hfv
 clear hfv
 cases hf : findI ps nm with
 | none =>
  have hfv : fv = -1 := by rw [← HV.out]; unfold findV; rw [hf]
  subst hfv
  have H0 := Lib.hid (And.intro hW0 hBw)
  go_enter Tryz.func13, Tryz.ntmps13
  go_upto_region 1 with (fail)
  try rw [H0.out.1]
  try rw [H0.out.2]
  clear hW0 hBw
  go_wp2_with (go_at_call 26; refine HF.out.mono ?_; rintro e W2 ⟨rfl, rfl⟩; have b0 := bC HX.out.1 0; have b1 := bC HX.out.1 1; have b2 := bC HX.out.1 2; have b3 := bC HX.out.1 3; have b4 := bC HX.out.1 4; have z0 := frz_blk HX.out.1 0; have z1 := frz_blk HX.out.1 1; have z2 := frz_blk HX.out.1 2; have z3 := frz_blk HX.out.1 3; have z4 := frz_blk HX.out.1 4)
  refine rget5 HX.out.1 rfl ?_
  obtain ⟨_, p2, p3⟩ := put5 HX.out.1 rfl (.string ⟨#[]⟩) (.bool false) (.slice none 0 0) (.bool false) (.slice none 0 0)
  refine ⟨rfl, ?_⟩
  have hb := HX.out.2.1
  rw [H0.out.2] at hb ⊢
  exact hb.trans p2
 | some i =>
  obtain ⟨hi, _⟩ := findI_lt hf
  have hfv : fv = i := by rw [← HV.out]; unfold findV; rw [hf]
  subst hfv
  have hi2 : i < (ps.map Prod.snd).length := by rw [List.length_map]; exact hi
  obtain ⟨ad, rfl, x0, x1, x2, x3, x4⟩ := CM_at HX.out.2.2.2.1 i hi2
  have hg : (ps.map Prod.snd).getD i ⟨⟨#[]⟩, false, none, 0, 0, false, none, 0, 0⟩ = (ps.map Prod.snd)[i] := by simp [hi]
  rw [Option.map_some, hg]
  generalize (ps.map Prod.snd)[i] = x at x0 x1 x2 x3 x4
  obtain ⟨nm1, fn, Ap, pn, cp, more, Ab, bn, cb⟩ := x
  have H0 := Lib.hid (And.intro hW0 (And.intro hBw hi))
  clear hg hi2
  go_enter Tryz.func13, Tryz.ntmps13
  go_upto_region 1 with (fail)
  try rw [H0.out.1]
  try rw [H0.out.2.1]
  clear hW0 hBw
  go_wp2_with (go_at_call 26; refine HF.out.mono ?_; rintro e W2 ⟨rfl, rfl⟩; have b0 := bC HX.out.1 0; have b1 := bC HX.out.1 1; have b2 := bC HX.out.1 2; have b3 := bC HX.out.1 3; have b4 := bC HX.out.1 4; have z0 := frz_blk HX.out.1 0; have z1 := frz_blk HX.out.1 1; have z2 := frz_blk HX.out.1 2; have z3 := frz_blk HX.out.1 3; have z4 := frz_blk HX.out.1 4)
  refine rget5 HX.out.1 rfl ?_
  obtain ⟨_, p2, p3⟩ := put5 HX.out.1 rfl (.string nm1) (.bool fn) (.slice Ap pn cp) (.bool more) (.slice Ab bn cb)
  refine ⟨rfl, ?_⟩
  have hb := HX.out.2.1
  rw [H0.out.2.1] at hb ⊢
  exact hb.trans p2
set_option maxHeartbeats 1000000 in
theorem rnames_c (q : Nat) (ps : List (MacP × MRow)) (w : World) (h : RefR w q ps) (hl : ps.length ≤ 1000) :
  Calls Tryz.prog 17 #[.pointer (some ⟨q, 0, none⟩)] w fun e w' => ∃ A c, e = .returned (.slice A ps.length c) ∧ Kd.string.R 9 w' w.heap.size (fun _ => True) (.slice A ps.length c) (ps.map fun p => p.1.nm) ∧ Below w.heap.size w w' := by
 have HR := Lib.hid h
 clear h
 go_enter Tryz.func17, Tryz.ntmps17
 go_wp2
 go_loopw [3, 4] (fun names i W => ∃ k : Nat, k ≤ ps.length ∧ i = .int .i64 k ∧ Kd.string.R 9 W w.heap.size (fun _ => True) names ((ps.take k).map fun p => p.1.nm) ∧ Below w.heap.size w W) (fun _ i _ => ps.length - (RowKit.intOf i).toNat)
 case atStart => exact ⟨0, Nat.zero_le _, rfl, Kd.R_nil _ _ _ _ _, Below.refl _ _⟩
 case round =>
  obtain ⟨k, hk, rfl, hR, hb⟩ := hrel
  obtain ⟨A, c, h1, h2, h3, h4, _⟩ := HR.out.below hb
  have q0 := bC h1 0
  obtain ⟨NA, nc, rfl⟩ := Kd.R_slice hR
  by_cases hlt : k < ps.length
  ·have hk2 : k < (ps.map Prod.snd).length := by rw [List.length_map]; exact hlt
   obtain ⟨ad, rfl, x0, x1, x2, x3, x4⟩ := CM_at h3 k hk2
   clear x1 x2 x3 x4
   have hx := h4 ps[k] (List.getElem_mem hlt)
   have e0 : (ps.map Prod.snd)[k].nm = ps[k].1.nm := by rw [List.getElem_map]; exact hx.nm
   rw [e0] at x0
   have HW := Lib.hid (show wrap64 ((k : Int) + 1) = ((k + 1 : Nat) : Int) by unfold wrap64; omega)
   have ht : (ps.take (k + 1)).map (fun p => p.1.nm) = (ps.take k).map (fun p => p.1.nm) ++ [ps[k].1.nm] := by rw [List.take_succ_eq_append_getElem hlt, List.map_append]; rfl
   have hlen : (ps.take k).length = k := by rw [List.length_take]; omega
   generalize ps[k].1.nm = s1 at x0 ht
   rw [List.length_map, hlen] at hR ⊢
   have H := Lib.hid (And.intro hR (And.intro hb (And.intro ht hlen)))
   clear e0 hx hR hb ht h1 h2 h3 h4 hlen
   go_wp2_with ((with_reducible refine gate_builtin (b := .append) (xs := #[.tmp 14, .tmp 23]) rfl ?_); at_builtin; refine Kd.R_append Kd.string (w0 := w) w.heap.size rfl (.tmp 14) (.tmp 23) 30 9 (.string ⟨#[]⟩) 16 rfl Tryz.underlying30 info9 rfl (by decide) (by omega) (.slice NA k nc) ((ps.take k).map fun p => p.1.nm) s1 [.string s1] (fun _ => True) (fun _ => False) rfl rfl ?aP (fun _ hk => hk.elim) ?aF ?aO ?aB ?aS ?aL ?_; (case aP => exact rfl); (case aF => exact (fun _ _ => trivial)); (case aO => exact H.out.1); (case aB => exact H.out.2.1); (case aS => exact H.out.2.1.size); (case aL => (rw [List.length_map, H.out.2.2.2]; omega)); intro v8 w8 ho8 hb8 hg8 hat8; have H8 := Lib.hid (And.intro ho8 hb8); clear ho8 hb8 hg8 hat8)
   exact ⟨⟨k + 1, hlt, by first | rw [HW.out] | simp, by rw [H.out.2.2.1]; exact H8.out.1, H8.out.2⟩, by (try rw [HW.out]); simp [RowKit.intOf]; omega⟩
  ·have hkl : k = ps.length := by omega
   subst hkl
   rw [List.take_length] at hR
   have hln : ((ps.take ps.length).map fun p => p.1.nm).length = ps.length := by rw [List.take_length, List.length_map]
   have hln2 : (ps.map fun p => p.1.nm).length = ps.length := by rw [List.length_map]
   rw [hln2] at hR
   rw [hln]
   have H := Lib.hid (And.intro hR hb)
   clear hR hb hln hln2 h1 h2 h3 h4
   go_wp2
   go_ret
   exact ⟨_, _, rfl, H.out.1, H.out.2⟩
end Go.Proofs.YtcbfbefpbjmglaaGreatDoor.Mac
