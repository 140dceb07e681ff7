import Derived.Test.YtinfkbdhnbefmaaDoorShelf
import Derived.Laws.RangeAny
import Derived.WalkKit
import Derived.Deep.LoopGhost
import Derived.Outline
import Derived.WalkLawsBesides
import Derived.WalkSpells
import Derived.Deep.QuietTactic
import Derived.BigQuiet
import Derived.Shelf.Strings.IndexAnyAll
import Derived.Lib.OthersKept
import Derived.RangeFuncNested
import Derived.RangeFuncBox
import Derived.RangeFuncBound
import Derived.RangeFuncCalls
import Derived.RangeFuncLeaves
import Derived.Shelf.Abstract
import Derived.Shelf.RegionOpen
import Derived.OwnWalkIn
import Derived.TacticsInMore
import Derived.LoopNIn
import Derived.LoopIn
import Derived.RegionIn
import Derived.BigRegionIn
import Derived.Lib.Hide
import Derived.Maps.AppendAt
import Derived.Laws.OwnMore
namespace Go.Proofs.YtinfkbdhnbefmaaDoorU
set_option linter.unusedVariables false
set_option linter.unusedSimpArgs false
open Go.Shelf Go.RowKit Go.Lib
theorem bl_drewN {B : Nat} {w W : World} (h : Below B w W) (n : Nat) : Below B w (W.drewN n) := ⟨h.os, h.tape, h.output, h.size, h.block⟩
set_option maxHeartbeats 1000000 in
set_option maxRecDepth 1000000 in
theorem ix_rune_err (w : World) :
    Calls Tryd.prog 57 #[.string ⟨#[13, 10]⟩, .int .i32 65533] w fun e w' => e = .returned (.int .i64 (-1)) ∧ Below w.heap.size w w' := by
  have n0 := fun ty => run_next_ascii (P := Tryd.prog) w ⟨#[13, 10]⟩ 0 ty (by decide) (by decide)
  have n1 := fun ty => run_next_ascii (P := Tryd.prog) w ⟨#[13, 10]⟩ 1 ty (by decide) (by decide)
  have n2 := fun ty => run_next_end (P := Tryd.prog) w ⟨#[13, 10]⟩ 2 ty (by decide)
  have c0 : ((⟨#[13, 10]⟩ : ByteArray)[0]'(by decide)) = 13 := rfl
  have c1 : ((⟨#[13, 10]⟩ : ByteArray)[1]'(by decide)) = 10 := rfl
  rw [c0] at n0
  rw [c1] at n1
  clear c0 c1
  go_enter Tryd.func57, Tryd.ntmps57
  go_wp2
  go_loopg [5, 6] 2 (fun g _ _ wx => ∃ i : Nat, i + g = 2 ∧ wx = w.iter ⟨#[13, 10]⟩ i)
  case atStart => exact ⟨0, rfl, rfl⟩
  case round =>
    obtain ⟨i, hig, rfl⟩ := hrel
    have hc : (gk = 0 ∧ i = 2) ∨ (gk = 1 ∧ i = 1) ∨ (gk = 2 ∧ i = 0) := by omega
    rcases hc with ⟨rfl, rfl⟩ | ⟨rfl, rfl⟩ | ⟨rfl, rfl⟩
    · go_wp2
      go_ret
      exact ⟨rfl, (Below.refl _ _).alloc (Nat.le_refl _) _⟩
    · go_wp2
      go_roundg 0
      case measure => omega
      case rel => exact ⟨2, rfl, rfl⟩
    · go_wp2
      go_roundg 1
      case measure => omega
      case rel => exact ⟨1, rfl, rfl⟩
theorem encode_hi (r : Int) (h0 : 128 ≤ r) : ∃ rs : ByteArray, Utf8.encode r = rs ∧ 2 ≤ rs.size ∧ rs.size ≤ 4 ∧ ∀ h : rs.size - 1 < rs.size, 128 ≤ ((rs[rs.size - 1]'h).toNat : Int) := by
  obtain ⟨c, hcc⟩ : ∃ c, (if Utf8.valid r then r.toNat else Utf8.runeError) = c := ⟨_, rfl⟩
  have hc : 128 ≤ c := by
    rw [← hcc]; split
    · omega
    · decide
  have hn : (UInt8.ofNat (0x80 + c % 64)).toNat = 0x80 + c % 64 := by simp; omega
  have last : (128 : Int) ≤ ((UInt8.ofNat (0x80 + c % 64)).toNat : Int) := by rw [hn]; omega
  have n1 : ¬ c < 0x80 := by omega
  by_cases h1 : c < 0x800
  · have e : Utf8.encode r = ⟨#[UInt8.ofNat (0xC0 + c / 64), UInt8.ofNat (0x80 + c % 64)]⟩ := by
      unfold Utf8.encode; rw [hcc]; simp only [if_neg n1, if_pos h1]
    exact ⟨_, e, by show 2 ≤ 2; decide, by show 2 ≤ 4; decide, fun h => last⟩
  · by_cases h2 : c < 0x10000
    · have e : Utf8.encode r = ⟨#[UInt8.ofNat (0xE0 + c / 4096), UInt8.ofNat (0x80 + c / 64 % 64), UInt8.ofNat (0x80 + c % 64)]⟩ := by
        unfold Utf8.encode; rw [hcc]; simp only [if_neg n1, if_neg h1, if_pos h2]
      exact ⟨_, e, by show 2 ≤ 3; decide, by show 3 ≤ 4; decide, fun h => last⟩
    · have e : Utf8.encode r = ⟨#[UInt8.ofNat (0xF0 + c / 262144), UInt8.ofNat (0x80 + c / 4096 % 64), UInt8.ofNat (0x80 + c / 64 % 64), UInt8.ofNat (0x80 + c % 64)]⟩ := by
        unfold Utf8.encode; rw [hcc]; simp only [if_neg n1, if_neg h1, if_neg h2]
      exact ⟨_, e, by show 2 ≤ 4; decide, by show 4 ≤ 4; decide, fun h => last⟩
set_option maxHeartbeats 1000000 in
set_option maxRecDepth 1000000 in
theorem ix_rune_hi (r : Int) (w : World) (h0 : 128 ≤ r) (h1 : r ≤ 2147483647) (he : (r == 65533) = false) :
    Calls Tryd.prog 57 #[.string ⟨#[13, 10]⟩, .int .i32 r] w fun e w' => e = .returned (.int .i64 (-1)) ∧ Below w.heap.size w w' := by
  cases hv : Lib.validRune r
  · go_enter Tryd.func57, Tryd.ntmps57
    go_wp2_with (go_at_call 69; refine (Tryd.utf8_ValidRune _ _).mono ?_; rintro e w' ⟨rfl, hw⟩; rw [hw])
    go_ret
    exact ⟨rfl, Below.refl _ _⟩
  · obtain ⟨rs, hrs, s2, s4, hl⟩ := encode_hi r h0
    have hc : ∀ W : World, (convert 21 9 (.int .i32 r)).run Tryd.prog W = .ok (.string rs) W := by
      intro W
      rw [← hrs]
      simp [convert, run_underlying Tryd.underlying21, run_underlying Tryd.underlying9, Conv.intToString]
    clear hrs
    have hlb : rs.size - 1 < rs.size := by omega
    obtain ⟨x, hx⟩ : ∃ x : UInt8, rs[rs.size - 1]'hlb = x := ⟨_, rfl⟩
    have hx128 : 128 ≤ (x.toNat : Int) := by rw [← hx]; exact hl hlb
    clear hl
    by_cases h2 : rs.size = 2
    · have hne : ¬ x = 10 := by rintro rfl; exact absurd hx128 (by decide)
      have h1 : rs.size - 1 = 1 := by omega
      have hx1 : rs[1]'(by omega) = x := by simpa [h1] using hx
      have hlt : (rs.size : Int) - 1 < 2 := by omega
      have hi1 : (rs.size : Int) - 1 = 1 := by omega
      have hne' : ((((⟨#[13, 10]⟩ : ByteArray)[1]'(by decide)).toNat : Int) != (x.toNat : Int)) = true := by
        rw [bne_iff_ne]
        show ((10 : UInt8).toNat : Int) ≠ _
        have : (10 : UInt8).toNat = 10 := rfl
        omega
      have hw2 : IntKind.i64.wrap 2 = 2 := by decide +kernel
      have hib : ∀ W : World, Calls Tryd.prog 44 #[.string ByteArray.empty, .int .u8 (x.toNat : Int)] W fun e w' => e = .returned (.int .i64 (-1)) ∧ w' = W := fun W => (Tryd.strings_IndexByte ByteArray.empty (x.toNat : Int) W).mono fun e w' ⟨h1, h2⟩ => ⟨h1, h2⟩
      go_enter Tryd.func57, Tryd.ntmps57
      go_wp2_with (go_at_call 69; refine (Tryd.utf8_ValidRune _ _).mono ?_; rintro e w' ⟨rfl, hw⟩; rw [hw])
      go_step3
      go_wp2
      refine wp_loop_rounds 1 ?_
      rw [rounds_succ]
      go_wp2
      go_step3
      go_wp2
      go_quiet (fail)
      have HB : Below w.heap.size w (w.drewN nq) := bl_drewN (Below.refl _ _) _
      generalize w.drewN nq = w2 at HB ⊢
      go_wp2
      go_quiet ((go_at_call 44; exact Calls.quiet_of_same (hib _)))
      go_wp2
      simp only [Exit.noGoto_ret, Exit.inBlock, Exit.then, Exit.noGoto]
      go_ret
      exact ⟨rfl, bl_drewN HB _⟩
    · have hge : ¬ ((rs.size : Int) - 1 < 2) := by omega
      go_enter Tryd.func57, Tryd.ntmps57
      go_wp2_with (go_at_call 69; refine (Tryd.utf8_ValidRune _ _).mono ?_; rintro e w' ⟨rfl, hw⟩; rw [hw])
      go_step3
      go_wp2
      refine wp_loop_rounds 1 ?_
      rw [rounds_succ]
      go_wp2
      rw [Exit.noGoto_ret]
      go_ret
      exact ⟨rfl, Below.refl _ _⟩
end Go.Proofs.YtinfkbdhnbefmaaDoorU

namespace Go.Proofs.YtinfkbdhnbefmaaDoorU
set_option linter.unusedVariables false
set_option linter.unusedSimpArgs false
open Go.Shelf Go.RowKit Go.Lib

theorem ix_rune_any (r : Int) (w : World) (h0 : 128 ≤ r) (h1 : r ≤ 2147483647) :
    Calls Tryd.prog 57 #[.string ⟨#[13, 10]⟩, .int .i32 r] w fun e w' => e = .returned (.int .i64 (-1)) ∧ Below w.heap.size w w' := by
  by_cases he : r = 65533
  · subst he; exact ix_rune_err w
  · exact ix_rune_hi r w h0 h1 (beq_eq_false_iff_ne.2 he)

/-- What a code point beyond ASCII takes: bytes beyond ASCII alone. -/
theorem decode_span (s : ByteArray) (i : Nat) (h : i < s.size) (ha : 128 ≤ (s[i]'h).toNat) :
    1 ≤ (Utf8.decode s i).2 ∧ i + (Utf8.decode s i).2 ≤ s.size ∧ ∀ j (hj : j < s.size), i ≤ j → j < i + (Utf8.decode s i).2 → 128 ≤ (s[j]'hj).toNat := by
  have hn : ¬ (s[i]'h).toNat < 128 := by omega
  have hat : ∀ k (hk : i + k < s.size), (s.get! (i + k)).toNat = (s[i + k]'hk).toNat := by
    intro k hk; simp [ByteArray.get!, getElem!_pos, hk]; rfl
  have hone : ∀ j (hj : j < s.size), i ≤ j → j < i + 1 → 128 ≤ (s[j]'hj).toNat := by
    intro j hj h1 h2
    have : j = i := by omega
    subst this; exact ha
  have hcont : ∀ k, (decide (i + k < s.size) && (s.get! (i + k)).toNat / 64 == 2) = true → ∃ hk : i + k < s.size, 128 ≤ (s[i + k]'hk).toNat := by
    intro k hk
    rw [Bool.and_eq_true, decide_eq_true_eq, beq_iff_eq] at hk
    refine ⟨hk.1, ?_⟩
    rw [← hat k hk.1]; omega
  have hat0 : (s.get! (i + 0)).toNat = (s[i]'h).toNat := hat 0 h
  unfold Utf8.decode
  simp only [hat0, hn, if_false]
  split
  · rename_i hc
    rw [Bool.and_eq_true] at hc
    obtain ⟨k1, c1⟩ := hcont 1 hc.2
    split
    · refine ⟨by omega, by omega, fun j hj h1 h2 => ?_⟩
      by_cases e : j = i
      · subst e; exact ha
      · have : j = i + 1 := by omega
        subst this; exact c1
    · exact ⟨by omega, by omega, hone⟩
  · split
    · rename_i hc
      rw [Bool.and_eq_true, Bool.and_eq_true] at hc
      obtain ⟨k1, c1⟩ := hcont 1 hc.1.2
      obtain ⟨k2, c2⟩ := hcont 2 hc.2
      split
      · refine ⟨by omega, by omega, fun j hj h1 h2 => ?_⟩
        by_cases e : j = i
        · subst e; exact ha
        · by_cases e1 : j = i + 1
          · subst e1; exact c1
          · have : j = i + 2 := by omega
            subst this; exact c2
      · exact ⟨by omega, by omega, hone⟩
    · split
      · rename_i hc
        rw [Bool.and_eq_true, Bool.and_eq_true, Bool.and_eq_true] at hc
        obtain ⟨k1, c1⟩ := hcont 1 hc.1.1.2
        obtain ⟨k2, c2⟩ := hcont 2 hc.1.2
        obtain ⟨k3, c3⟩ := hcont 3 hc.2
        split
        · refine ⟨by omega, by omega, fun j hj h1 h2 => ?_⟩
          by_cases e : j = i
          · subst e; exact ha
          · by_cases e1 : j = i + 1
            · subst e1; exact c1
            · by_cases e2 : j = i + 2
              · subst e2; exact c2
              · have : j = i + 3 := by omega
                subst this; exact c3
        · exact ⟨by omega, by omega, hone⟩
      · exact ⟨by omega, by omega, hone⟩

set_option maxHeartbeats 8000000 in
set_option maxRecDepth 1000000 in
theorem ix_any_short (s : ByteArray) (w : World) (h8 : s.size ≤ 8) :
    Calls Tryd.prog 38 #[.string s, .string ⟨#[13, 10]⟩] w fun e w' => e = .returned (.int .i64 (Lib.indexAny s.data.toList [13, 10])) ∧ Below w.heap.size w w' := by
  have h8z : decide ((8 : Int) < (s.size : Int)) = false := decide_eq_false (by omega)
  go_enter Tryd.func38, Tryd.ntmps38
  go_wp2_with (go_at_call 58; refine (Tryd.strings_shouldUseASCIISet _ _).mono ?_; rintro e w' ⟨rfl, hw⟩; rw [hw, h8z])
  go_loopg [9, 10] s.size (fun g _ _ wx => ∃ i : Nat, i + g = s.size ∧ wx.heap[w.heap.size]? = some (.stringIter s i) ∧ Below w.heap.size w wx ∧ Lib.NoAny s.data.toList [13, 10] i)
  case atStart => exact ⟨0, by omega, World.alloc_heap_new w _, (Below.refl _ _).alloc (Nat.le_refl _) _, Lib.NoAny.zero _ _⟩
  case round =>
    obtain ⟨i, hig, hit, hbel, hno⟩ := hrel
    have HN : Aside (Lib.NoAny s.data.toList [13, 10] i) := hno
    have HB : Aside (Below w.heap.size w wr) := hbel
    have HI : Aside (wr.heap[w.heap.size]? = some (.stringIter s i)) := hit
    clear hno hbel hit
    cases gk with
    | zero =>
      obtain rfl : i = s.size := by omega
      have hnx := fun ty => run_next_end_at (P := Tryd.prog) wr w.heap.size s s.size ty HI.out (by omega)
      go_wp2
      go_ret
      exact ⟨by rw [Lib.indexAny_none (by rw [← Lib.size_eq]; exact HN.out)]; rfl, HB.out⟩
    | succ g =>
      have hi : i < s.size := by omega
      obtain ⟨x, hx⟩ : ∃ x : UInt8, s[i]'hi = x := ⟨_, rfl⟩
      have hxl : s.data.toList[i]? = some x := by rw [← hx]; exact Lib.data_getElem? s i hi
      by_cases hx128 : x.toNat < 128
      · have hnx := fun ty => run_next_ascii_at (P := Tryd.prog) wr w.heap.size s i ty HI.out hi (by rw [hx]; exact hx128)
        rw [hx] at hnx
        obtain ⟨W1, hW1⟩ : ∃ W1, wr.iterAt w.heap.size s (i + 1) = W1 := ⟨_, rfl⟩
        have HI1 : Aside (W1.heap[w.heap.size]? = some (.stringIter s (i + 1))) := by rw [← hW1]; exact iterAt_heap wr w.heap.size s i (i + 1) HI.out
        have HB1 : Aside (Below w.heap.size w W1) := by rw [← hW1]; exact below_iterAt HB.out (Nat.le_refl _) s (i + 1)
        rw [hW1] at hnx
        clear hW1 HI HB
        have Hx : Aside (s.data.toList[i]? = some x) := hxl
        clear hxl hx
        have hcon := Lib.contains_iff_indexByte [13, 10] x
        have hback : ((x.toNat : Int)).toNat.toUInt8 = x := by simp
        cases hin : ([13, 10] : List UInt8).contains x
        · rw [hin] at hcon
          have hlt : ¬ ((0 : Int) ≤ Lib.indexByte [13, 10] x) := of_decide_eq_false hcon.symm
          clear hcon
          have hc : ∀ W : World, Calls Tryd.prog 57 #[.string ⟨#[13, 10]⟩, .int .i32 (x.toNat : Int)] W fun e w' => e = .returned (.int .i64 (Lib.indexByte [13, 10] x)) ∧ w' = W := fun W => (Tryd.strings_IndexRune_ascii ⟨#[13, 10]⟩ (x.toNat : Int) W (by omega) (by omega)).mono fun e w' ⟨h1, h2⟩ => ⟨by rw [h1, hback], h2⟩
          go_wp2_with (go_at_call 57; refine (hc _).mono ?_; rintro e w' ⟨rfl, hw⟩; rw [hw])
          go_roundg g
          case measure => omega
          case rel => exact ⟨i + 1, by omega, HI1.out, HB1.out, HN.out.succ Hx.out hin⟩
        · rw [hin] at hcon
          have hge : (0 : Int) ≤ Lib.indexByte [13, 10] x := of_decide_eq_true hcon.symm
          clear hcon
          have hc : ∀ W : World, Calls Tryd.prog 57 #[.string ⟨#[13, 10]⟩, .int .i32 (x.toNat : Int)] W fun e w' => e = .returned (.int .i64 (Lib.indexByte [13, 10] x)) ∧ w' = W := fun W => (Tryd.strings_IndexRune_ascii ⟨#[13, 10]⟩ (x.toNat : Int) W (by omega) (by omega)).mono fun e w' ⟨h1, h2⟩ => ⟨by rw [h1, hback], h2⟩
          go_wp2_with (go_at_call 57; refine (hc _).mono ?_; rintro e w' ⟨rfl, hw⟩; rw [hw])
          go_ret
          exact ⟨by rw [Lib.indexAny_hit HN.out Hx.out hin]; rfl, HB1.out⟩
      · have hnx := fun ty => run_next_any_at (P := Tryd.prog) wr w.heap.size s i ty HI.out hi
        have hd := (decode_high s i hi (by rw [hx]; omega)).1
        have hdl := decode_le s i
        obtain ⟨k1, k2, k3⟩ := decode_span s i hi (by rw [hx]; omega)
        obtain ⟨r, hr⟩ : ∃ r, (Utf8.decode s i).1 = r := ⟨_, rfl⟩
        obtain ⟨m, hm⟩ : ∃ m, (Utf8.decode s i).2 = m := ⟨_, rfl⟩
        rw [hr] at hnx hd hdl
        rw [hm] at hnx k1 k2 k3
        obtain ⟨W1, hW1⟩ : ∃ W1, wr.iterAt w.heap.size s (i + m) = W1 := ⟨_, rfl⟩
        have HI1 : Aside (W1.heap[w.heap.size]? = some (.stringIter s (i + m))) := by rw [← hW1]; exact iterAt_heap wr w.heap.size s i (i + m) HI.out
        have HB1 : Aside (Below w.heap.size w W1) := by rw [← hW1]; exact below_iterAt HB.out (Nat.le_refl _) s (i + m)
        have hlt1 : w.heap.size < W1.heap.size := (Array.getElem?_eq_some_iff.1 HI1.out).1
        rw [hW1] at hnx
        have hno2 : Aside (Lib.NoAny s.data.toList [13, 10] (i + m)) := by
          intro j b hj hb
          by_cases hji : j < i
          · exact HN.out j b hji hb
          · have hjs : j < s.size := by omega
            have hbj : s[j]'hjs = b := by
              have := Lib.data_getElem? s j hjs
              rw [this] at hb; injection hb
            have := k3 j hjs (by omega) hj
            rw [hbj] at this
            have h13 : b ≠ 13 := by rintro rfl; exact absurd this (by decide)
            have h10 : b ≠ 10 := by rintro rfl; exact absurd this (by decide)
            simp [h13, h10]
        clear hW1 HI HB HN k3 hxl hx hr hm
        have hc : ∀ W : World, Calls Tryd.prog 57 #[.string ⟨#[13, 10]⟩, .int .i32 (r : Int)] W fun e w' => e = .returned (.int .i64 (-1)) ∧ Below W.heap.size W w' := fun W => ix_rune_any (r : Int) W (by omega) (by omega)
        go_wp2_with (go_at_call 57; refine (hc _).mono ?_; rintro e w' ⟨rfl, hw⟩)
        go_roundg (s.size - (i + m))
        case measure => omega
        case rel => exact ⟨i + m, by omega, (hw.block _ hlt1).trans HI1.out, HB1.out.trans (hw.mono (by omega)), hno2.out⟩
theorem info93 : (Tryd.prog.info? 93).map (fun i => (i.zero, i.size)) = some (some (.agg (Array.replicate 256 (.bool false))), 256) := by kernel_rfl
/-- **strings.IndexAny(s, "\r\n"): where the first of both bytes stands, whatever s.** -/
theorem ix_any (s : ByteArray) (w : World) (hs : s.size < 4294967281) :
    Calls Tryd.prog 38 #[.string s, .string ⟨#[13, 10]⟩] w fun e w' => e = .returned (.int .i64 (Lib.indexAny s.data.toList [13, 10])) ∧ Below w.heap.size w w' := by
  by_cases h8 : s.size ≤ 8
  · exact ix_any_short s w h8
  · refine (Tryd.strings_IndexAny_long (zero_of_info info93).1 s ⟨#[13, 10]⟩ w (by decide) (by omega) hs (by decide) ?_).mono ?_
    · intro j b hb
      have : j = 0 ∨ j = 1 ∨ 2 ≤ j := by omega
      rcases this with rfl | rfl | h
      · have e : b = 13 := by simpa using hb.symm
        subst e; decide
      · have e : b = 10 := by simpa using hb.symm
        subst e; decide
      · have : ([13, 10] : List UInt8)[j]? = none := List.getElem?_eq_none h
        have hb' : ([13, 10] : List UInt8)[j]? = some b := hb
        rw [this] at hb'; cases hb'
    · rintro e w' ⟨h1, h2⟩
      refine ⟨h1, ?_⟩
      rw [h2]
      exact ((Below.refl _ _).alloc (Nat.le_refl _) _).alloc (by simp) _
end Go.Proofs.YtinfkbdhnbefmaaDoorU

namespace Go.Proofs.RangeCell
set_option linter.unusedVariables false
set_option linter.unusedSimpArgs false
open Go.RowKit

/-- WHAT A BODY KEEPS OF THE ITERATOR's OWN VARIABLE. -/
def KeepsBox (Bn : Nat) (T : TypeId) (W W' : World) : Prop := ∀ v, Boxed W Bn T v → Boxed W' Bn T v
theorem KeepsBox.refl (Bn : Nat) (T : TypeId) (W : World) : KeepsBox Bn T W W := fun _ h => h
theorem KeepsBox.trans {Bn : Nat} {T : TypeId} {A B C : World} (h : KeepsBox Bn T A B) (k : KeepsBox Bn T B C) : KeepsBox Bn T A C := fun v hv => k v (h v hv)
theorem KeepsBox.putObj {Bn : Nat} {T : TypeId} {W : World} {l : Nat} {o : Obj} (o' : Obj) (hl : W.heap[l]? = some o) (ho : o.isCells = false) : KeepsBox Bn T W (W.putObj l o') := fun v hv => by
  have hne : Bn ≠ l := by
    rintro rfl
    rw [show W.heap[Bn]? = _ from hv] at hl; cases hl; cases ho
  exact (World.putObj_heap_other hne).trans hv

/-- AN ITERATOR THAT KEEPS ITS STATE IN ONE VARIABLE (the block Bn, of type T), AND A BODY THAT NEVER LEAVES: what it hands over, and what it asks of the rounds. -/
def SeqCell {α : Type} (F : Fence) (n : Nat) (P : Program) (g : Nat) (Bn : Nat) (T : TypeId) (d : Value) (encs : α → Array Value) (xs : List α) : Prop :=
  ∀ (l : Nat) (J : List α → World → Prop) (W : World),
    (∀ s A B, J s A → Below A.heap.size A B → J s B) →
    (∀ s A v v', J s A → Boxed A Bn T v → J s (A.setCell ⟨Bn, 0, none⟩ v')) →
    (∀ pre x W1, J pre W1 → (pre ++ [x]) <+: xs → YieldAt F (n - 1) P l (encs x) W1 fun e W' => e = .returned (.bool true) ∧ J (pre ++ [x]) W' ∧ KeepsBox Bn T W1 W') →
    Boxed W Bn T d → J [] W →
    CallsIn F n P g (#[.func (.yield l) #[] #[]] ++ #[.pointer (some ⟨Bn, 0, none⟩)]) W fun e W' => (∃ v, e = .returned v) ∧ J xs W'

/-- HOW THE BODY OF A ROUND IS LEFT. -/
def cellPost {α : Type} (B Bn : Nat) (T : TypeId) (I : List α → World → Prop) (xs : List α) (W : World) : Exit → Act → World → Prop
  | .normal, _, W' => KeepsFrom B W W' ∧ KeepsBox Bn T W W' ∧ I xs W'
  | _, _, _ => False

variable {F : Fence} {n : Nat} {P : Program}
theorem wpIn_rangeFunc_cell {α : Type} {g : Operand} {ps : Array Tmp} {assign body : Code} {Q : Exit → Act → World → Prop} {a : Act} {w : World}
    (hro : F.round = none) (h1 : 1 ≤ n) {gf : Nat} {Bn : Nat} {T : TypeId} {d : Value} (hg : a.eval g = .func (.func gf) #[] #[.pointer (some ⟨Bn, 0, none⟩)]) (hFg : F.fn gf) (eg : ∀ args w, (callFunc gf args).run P w = .ok (.enter gf args) w)
    {encs : α → Array Value} {xs : List α} (hseq : SeqCell F (n - 1) P gf Bn T d encs xs) (hbox : Boxed w Bn T d) (hps : ∀ x, (encs x).size = ps.size)
    (I : List α → World → Prop) (hIa : ∀ s A B, I s A → Below A.heap.size A B → I s B) (hIb : ∀ s A v v', I s A → Boxed A Bn T v → I s (A.setCell ⟨Bn, 0, none⟩ v'))
    (hIc : ∀ s A l o o', I s A → w.heap.size ≤ l → A.heap[l]? = some o → o.isCells = false → I s (A.putObj l o')) (h0 : I [] w) (a₁ : α → Act)
    (hassign : ∀ (l : Nat) (x : α) (W : World) (K : Act → World → Prop), K (a₁ x) W →
      assign.wpIn (F.inRound l) (n - 1 - 1) P (Exit.then K (fun _ _ _ => False)) { tmps := (ps.zip (encs x)).foldl (fun t (p, v) => t.setIfInBounds p v) a.tmps, defers := [] } W)
    (hbody : ∀ (l : Nat) (pre : List α) (x : α) (W : World), I pre W → (pre ++ [x]) <+: xs → body.wpIn (F.inRound l) (n - 1 - 1) P (cellPost w.heap.size Bn T I (pre ++ [x]) W) (a₁ x) W)
    (hdone : ∀ (D : Nat) (W : World), w.heap.size ≤ D → I xs W → W.heap[D]? = some (.deferred (some [])) → Q .normal { a with defers := { target := .collected D, args := #[] } :: a.defers } W) :
    (Code.rangeFunc g ps assign body).wpIn F n P Q a w := by
  refine wpIn_rangeFunc ?_
  intro fn hfn
  rw [hro]
  obtain ⟨rec, hrec⟩ : ∃ rec : LoopState → Option Code → Loop, rec = fun st pe => { state := st, pending := pe, fn, tmps := a.tmps, params := ps, assign, body, defers := w.heap.size } := ⟨_, rfl⟩
  obtain ⟨W1, hW1⟩ : ∃ W1, (w.alloc (.deferred (some []))).alloc (.loop (rec .ready none)) = W1 := ⟨_, rfl⟩
  have hL1 : W1.heap[w.heap.size + 1]? = some (.loop (rec .ready none)) := by
    rw [← hW1]; have := World.alloc_heap_new (w.alloc (.deferred (some []))) (.loop (rec .ready none)); rwa [World.size_alloc] at this
  have hK1 : W1.heap[w.heap.size]? = some (.deferred (some [])) := by
    rw [← hW1]; exact (Below.heap_alloc _ _ _ (by simp)).trans (World.alloc_heap_new w _)
  have hb1 : Below w.heap.size w W1 := by
    rw [← hW1]; exact ((Below.refl _ w).alloc (Nat.le_refl _) _).alloc (by simp) _
  have hI1 : I [] W1 := hIa _ _ _ h0 hb1
  have hB1 : Boxed W1 Bn T d := (hb1.block _ hbox.lt).trans hbox
  refine ⟨w.heap.size + 1, [{ target := .collected w.heap.size, args := #[] }], W1, { target := .fn (.func gf) #[.pointer (some ⟨Bn, 0, none⟩)], args := #[.func (.yield (w.heap.size + 1)) #[] #[]] }, W1, gf,
    #[.func (.yield (w.heap.size + 1)) #[] #[]] ++ #[.pointer (some ⟨Bn, 0, none⟩)], W1, ?_, ?_, ?_, ?_, fun _ => h1, ?_⟩
  · rw [← hW1, hrec]; exact run_enterLoop_outer _ _ _ _ _
  · simp only [resolve, hg]
    simp [go_sem]
  · intro f' hf'; simp [Target.leads] at hf'; subst hf'; exact hFg
  · simp [invoke, go_sem, eg]
  · refine (hseq (w.heap.size + 1)
      (fun pre W => I pre W ∧ W.heap[w.heap.size + 1]? = some (.loop (rec .ready none)) ∧ W.heap[w.heap.size]? = some (.deferred (some [])))
      W1
      (fun s A B hs hb => ⟨hIa s A B hs.1 hb, (hb.block _ (Array.getElem?_eq_some_iff.1 hs.2.1).1).trans hs.2.1, (hb.block _ (Array.getElem?_eq_some_iff.1 hs.2.2).1).trans hs.2.2⟩)
      (fun s A v v' hs hbx => by
        have hne : ∀ k o, A.heap[k]? = some o → o.isCells = false → k ≠ Bn := fun k o hk ho e => by
          subst e; rw [show A.heap[k]? = _ from hbx] at hk; cases hk; cases ho
        exact ⟨hIb s A v v' hs.1 hbx, (Below.heap_setCell A ⟨Bn, 0, none⟩ v' _ (hne _ _ hs.2.1 rfl)).trans hs.2.1, (Below.heap_setCell A ⟨Bn, 0, none⟩ v' _ (hne _ _ hs.2.2 rfl)).trans hs.2.2⟩)
      ?_ hB1 ⟨hI1, hL1, hK1⟩).mono ?_
    · -- one round
      rintro pre x W ⟨hi, hl, hk⟩ hlen
      have hlt : w.heap.size + 1 < W.heap.size := (Array.getElem?_eq_some_iff.1 hl).1
      have hy := run_yield (P := P) (args := encs x) hl (by rw [hrec]; exact hps x)
      rw [hrec] at hy
      refine ⟨fn, _, assign, body, hy, roundIn_of_wpIn hfn (hassign _ x W _ ⟨_, run_beginRound hl (by rw [hrec]), ?_⟩)⟩
      have hl2 : (W.putObj (w.heap.size + 1) (.loop { rec .ready none with state := .busy })).heap[w.heap.size + 1]? = some (.loop { rec .ready none with state := .busy }) := World.putObj_heap_same hlt
      have hk2 : (W.putObj (w.heap.size + 1) (.loop { rec .ready none with state := .busy })).heap[w.heap.size]? = some (.deferred (some [])) := (World.putObj_heap_other (by omega)).trans hk
      have hw2 : KeepsBox Bn T W (W.putObj (w.heap.size + 1) (.loop { rec .ready none with state := .busy })) := KeepsBox.putObj _ hl rfl
      refine wpIn_mono (hbody _ pre x _ (hIc _ _ _ _ _ hi (by omega) hl rfl) hlen) ?_
      have fin : ∀ (jump : Option Code) (W3 : World), KeepsFrom w.heap.size (W.putObj (w.heap.size + 1) (.loop { rec .ready none with state := .busy })) W3 →
          (Instr.endRound (w.heap.size + 1) jump).run P W3 = .ok (.bool jump.isNone) (W3.putObj (w.heap.size + 1) (.loop (rec (if jump.isNone then .ready else .done) jump))) ∧
          W3.heap[w.heap.size + 1]? = some (.loop { rec .ready none with state := .busy }) ∧
          (W3.putObj (w.heap.size + 1) (.loop (rec (if jump.isNone then .ready else .done) jump))).heap[w.heap.size + 1]? = some (.loop (rec (if jump.isNone then .ready else .done) jump)) ∧
          (W3.putObj (w.heap.size + 1) (.loop (rec (if jump.isNone then .ready else .done) jump))).heap[w.heap.size]? = some (.deferred (some [])) := fun jump W3 hk3 => by
        have hl3 := hk3.same _ _ (by omega) hl2 rfl
        have := run_endRound (P := P) jump hl3
        rw [hrec] at this ⊢
        exact ⟨this, by rw [hrec] at hl3; exact hl3, World.putObj_heap_same (Array.getElem?_eq_some_iff.1 hl3).1, (World.putObj_heap_other (by omega)).trans (hk3.same _ _ (Nat.le_refl _) hk2 rfl)⟩
      rintro e a3 W3 hp
      cases e with
      | normal =>
        obtain ⟨hk3, hkp3, hi3⟩ := hp
        obtain ⟨hr, hl3, hl4, hk4⟩ := fin none W3 hk3
        exact ⟨_, _, hr, rfl, ⟨hIc _ _ _ _ _ hi3 (by omega) hl3 rfl, hl4, hk4⟩, (hw2.trans hkp3).trans (KeepsBox.putObj _ hl3 rfl)⟩
      | ret => exact hp.elim
      | exit id => exact hp.elim
      | goto t => exact hp.elim
      | panic ch => exact hp.elim
      | outgrown => exact hp.elim
    · -- behind the iterator
      rintro e W2 ⟨⟨v, rfl⟩, hi, hl, hk⟩
      exact ⟨none, _, by have := run_endLoop (P := P) hl (by rw [hrec]; simp); rw [hrec] at this; exact this, hdone _ _ (Nat.le_refl _) (hIc _ _ _ _ _ hi (by omega) hl rfl) ((World.putObj_heap_other (by omega)).trans hk)⟩
end Go.Proofs.RangeCell

namespace Go.Proofs.YtinfkbdhnbefmaaDoorU
set_option linter.unusedVariables false
set_option linter.unusedSimpArgs false
open Go.Shelf Go.RowKit Go.Lib Go.Proofs.RangeCell
attribute [local go_sem] Oper.semAt_some

/-! ### Physical lines, plainly -/
/-- The first physical line of a text that is not empty, and what is behind it. -/
def cutLine (l : List UInt8) : List UInt8 × List UInt8 :=
  if Lib.indexAny l [13, 10] < 0 then (l, [])
  else (l.take (Lib.indexAny l [13, 10]).toNat,
    if l[(Lib.indexAny l [13, 10]).toNat]? = some 13 then Lib.trimPrefix (l.drop ((Lib.indexAny l [13, 10]).toNat + 1)) [10] else l.drop ((Lib.indexAny l [13, 10]).toNat + 1))
theorem trimPrefix_len (s p : List UInt8) : (Lib.trimPrefix s p).length ≤ s.length := by
  unfold Lib.trimPrefix; split
  · simp
  · exact Nat.le_refl _
theorem cutLine_lt {l : List UInt8} (h : l ≠ []) : (cutLine l).2.length < l.length := by
  have hl : 0 < l.length := List.length_pos_iff.2 h
  unfold cutLine
  split
  · simpa using hl
  · show (if _ then _ else _ : List UInt8).length < _
    split
    · have := trimPrefix_len (l.drop ((Lib.indexAny l [13, 10]).toNat + 1)) [10]
      simp at this ⊢; omega
    · simp; omega
def physN : Nat → List UInt8 → List (List UInt8)
  | 0, _ => []
  | k + 1, l => if l = [] then [] else (cutLine l).1 :: physN k (cutLine l).2
/-- A text's physical lines. -/
def phys (l : List UInt8) : List (List UInt8) := physN l.length l
theorem physN_more : ∀ (k : Nat) (l : List UInt8), l.length ≤ k → physN k l = phys l := by
  have key : ∀ (k j : Nat) (l : List UInt8), l.length ≤ k → l.length ≤ j → physN k l = physN j l := by
    intro k
    induction k with
    | zero =>
      intro j l h _
      obtain rfl : l = [] := List.eq_nil_of_length_eq_zero (by omega)
      cases j <;> simp [physN]
    | succ k ih =>
      intro j l h hj
      cases j with
      | zero =>
        obtain rfl : l = [] := List.eq_nil_of_length_eq_zero (by omega)
        simp [physN]
      | succ j =>
        unfold physN
        by_cases hn : l = []
        · rw [if_pos hn, if_pos hn]
        · have := cutLine_lt hn
          rw [if_neg hn, if_neg hn, ih j _ (by omega) (by omega)]
  intro k l h
  exact key k _ l h (Nat.le_refl _)
theorem phys_nil : phys [] = [] := rfl
theorem phys_cons {l : List UInt8} (h : l ≠ []) : phys l = (cutLine l).1 :: phys (cutLine l).2 := by
  have hl := cutLine_lt h
  rw [← physN_more (l.length + 1) l (by omega)]
  show (if l = [] then [] else _) = _
  rw [if_neg h, physN_more _ _ (by omega)]
/-- They, with their numbers. -/
def numbered : Nat → List (List UInt8) → List (Nat × List UInt8)
  | _, [] => []
  | n, x :: r => (n, x) :: numbered (n + 1) r
def bstr (l : List UInt8) : ByteArray := ⟨l.toArray⟩
def encN (x : Nat × List UInt8) : Array Value := #[.int .i64 (x.1 : Int), .string (bstr x.2)]

theorem indexAny_lt {l c : List UInt8} {i : Nat} (h : Lib.indexAny l c = (i : Int)) : i < l.length := by
  induction l generalizing i with
  | nil => simp [Lib.indexAny] at h
  | cons b l ih =>
    rw [Lib.indexAny] at h
    split at h
    · simp only [List.length_cons]; omega
    · split at h
      · omega
      · have hge := Lib.indexAny_ge c l
        rename_i h1 h2
        have h2' : Lib.indexAny l c ≠ -1 := fun e => h2 (beq_iff_eq.2 e)
        obtain ⟨j, hj⟩ : ∃ j : Nat, Lib.indexAny l c = (j : Int) := ⟨(Lib.indexAny l c).toNat, (Int.toNat_of_nonneg (by omega)).symm⟩
        have := ih hj
        simp only [List.length_cons]; omega
theorem phys_len : ∀ (k : Nat) (l : List UInt8), l.length ≤ k → (phys l).length ≤ l.length := by
  intro k
  induction k with
  | zero => intro l h; obtain rfl : l = [] := List.eq_nil_of_length_eq_zero (by omega); exact Nat.le_refl _
  | succ k ih =>
    intro l h
    by_cases hn : l = []
    · subst hn; exact Nat.le_refl _
    · have := cutLine_lt hn
      have := ih (cutLine l).2 (by omega)
      rw [phys_cons hn, List.length_cons]; omega
theorem numbered_len : ∀ (l : List (List UInt8)) (k : Nat), (numbered k l).length = l.length
  | [], _ => rfl
  | _ :: l, k => by rw [numbered, List.length_cons, List.length_cons, numbered_len l]
set_option maxRecDepth 100000 in
set_option maxHeartbeats 4000000 in
theorem physical_seq (n : Nat) (hn : 1 ≤ n) (Bn : Nat) (data : ByteArray) (hs : data.size < 4294967281) :
    SeqCell Fence.wide n Tryd.prog 37 Bn 9 (.string data) encN (numbered 1 (phys data.data.toList)) := by
  intro l J W hJa hJb hY hBox h0
  show CallsIn Fence.wide n Tryd.prog 37 #[.func (.yield l) #[] #[], .pointer (some ⟨Bn, 0, none⟩)] W _
  refine callsIn_of_wp Tryd.func37 rfl trivial ?_ rfl
  simp only [Tryd.ntmps37, List.size_toArray, List.length_cons, List.length_nil, Nat.reduceAdd, Nat.reduceSub, Array.replicate_succ, Array.replicate_zero, List.push_toArray, List.append_toArray, List.nil_append, List.cons_append]
  gi_wp2
  gi_loopw [3] (fun p wr => ∃ (pre : List (Nat × List UInt8)) (d : ByteArray), p = .int .i64 ((pre.length + 1 : Nat) : Int) ∧ Boxed wr Bn 9 (.string d) ∧ J pre wr ∧ d.size ≤ data.size ∧ numbered 1 (phys data.data.toList) = pre ++ numbered (pre.length + 1) (phys d.data.toList))
    (fun p wr => match wr.cell? ⟨Bn, 0, none⟩ with | some (.string d) => d.size | _ => 0)
  case atStart =>
    exact ⟨[], data, rfl, hBox, h0, Nat.le_refl _, rfl⟩
  case round =>
    obtain ⟨pre, d, rfl, hb, hj, hds, hx⟩ := hrel
    have hc := hb.cell
    have hf := hb.frozen
    by_cases h00 : d.data.toList = []
    · have HX : Aside (numbered 1 (phys data.data.toList) = pre ++ numbered (pre.length + 1) (phys d.data.toList)) := hx
      clear hx
      have he : d.toList.isEmpty = true := by rw [Lib.toList_data, h00]; rfl
      have he2 : d.toList = [] := by rw [Lib.toList_data, h00]
      gi_wp2
      go_end0
      exact ⟨⟨_, rfl⟩, by rw [HX.out, h00, phys_nil]; simpa [numbered] using hj⟩
    · have hpc := phys_cons h00
      have HX : Aside (numbered 1 (phys data.data.toList) = pre ++ (pre.length + 1, (cutLine d.data.toList).1) :: numbered (pre.length + 1 + 1) (phys (cutLine d.data.toList).2)) := by rw [hx, hpc]; rfl
      have hpl : pre.length + 1 < 4294967281 := by
        have h1 := congrArg List.length HX.out
        rw [numbered_len, List.length_append, List.length_cons] at h1
        have h2 := phys_len _ data.data.toList (Nat.le_refl _)
        have h3 := Lib.size_eq data
        omega
      have HP : Aside (wrap64 ((pre.length : Int) + 1 + 1) = ((pre ++ [(pre.length + 1, (cutLine d.data.toList).1)]).length + 1 : Nat)) := Lib.hid (by rw [show wrap64 ((pre.length : Int) + 1 + 1) = (pre.length : Int) + 1 + 1 by unfold wrap64; omega]; simp)
      clear hpl
      clear hx hpc
      have he : d.toList.isEmpty = false := by
        rw [Lib.toList_data]; cases h : d.data.toList with
        | nil => exact absurd h h00
        | cons _ _ => rfl
      have hix : ∀ W : World, CallsIn Fence.wide (n - 1) Tryd.prog 38 #[.string d, .string ⟨#[13, 10]⟩] W fun e w' => e = .returned (.int .i64 (Lib.indexAny d.data.toList [13, 10])) ∧ Below W.heap.size W w' := fun W => callsIn_wide.2 (ix_any d W (by omega))
      by_cases hneg : Lib.indexAny d.data.toList [13, 10] < 0
      · have hcut : cutLine d.data.toList = (d.data.toList, []) := by unfold cutLine; rw [if_pos hneg]
        have hYd : ∀ W2, J pre W2 → ∃ fn tmps assign body, (Instr.yield l #[.int .i64 ((pre.length : Int) + 1), .string d]).run Tryd.prog W2 = .ok (.round l fn tmps assign body) W2 ∧ RoundIn Fence.wide (n - 1) Tryd.prog l fn tmps assign body W2 fun e W' =>
            e = .returned (.bool true) ∧ J (pre ++ [(pre.length + 1, d.data.toList)]) W' ∧ KeepsBox Bn 9 W2 W' := fun W2 hj2 => by
          obtain ⟨fn, tmps, assign, body, hy, hR⟩ := hY pre (pre.length + 1, d.data.toList) W2 hj2 (by rw [HX.out, hcut]; exact ⟨numbered (pre.length + 1 + 1) (phys []), by simp⟩)
          exact ⟨fn, tmps, assign, body, hy, hR⟩
        have hend : numbered 1 (phys data.data.toList) = pre ++ [(pre.length + 1, d.data.toList)] := by rw [HX.out, hcut, phys_nil]; rfl
        have HE := Lib.hid hend
        clear hend hcut
        gi_wp2_with (first | (refine ⟨trivial, ?_⟩; gi_at_call 38; refine (hix _).mono ?_; rintro e W2 ⟨rfl, hB2⟩; have hj2 := hJa _ _ _ hj hB2; have hb2 : Boxed W2 Bn 9 (.string d) := (hB2.block _ hb.lt).trans hb; have hc2 := hb2.cell; obtain ⟨fn, tmps, assign, body, hy, hR⟩ := hYd W2 hj2))
        refine hR.mono ?_
        rintro e W3 ⟨rfl, hj3, hk3⟩
        gi_wp2
        go_outline
        refine bodyPost_ret (results_none rfl _ _ _) rfl ?_
        exact ⟨⟨_, rfl⟩, by rw [HE.out]; exact hj3⟩
      · have hi0 : 0 ≤ Lib.indexAny d.data.toList [13, 10] := by omega
        obtain ⟨i, hi⟩ : ∃ i : Nat, Lib.indexAny d.data.toList [13, 10] = (i : Int) := ⟨_, (Int.toNat_of_nonneg hi0).symm⟩
        have hlen := indexAny_lt hi
        have his : i < d.size := by rw [Lib.size_eq]; exact hlen
        obtain ⟨x, hx⟩ : ∃ x : UInt8, d[i]'his = x := ⟨_, rfl⟩
        have hxl : d.data.toList[i]? = some x := by rw [← hx]; exact Lib.data_getElem? d i his
        rw [hi] at hix
        have htp : ∀ (t : ByteArray) (W : World), CallsIn Fence.wide (n - 1) Tryd.prog 39 #[.string t, .string ⟨#[10]⟩] W fun e w' => e = .returned (.string ⟨(Lib.trimPrefix t.data.toList [10]).toArray⟩) ∧ w' = W := fun t W => callsIn_wide.2 (Tryd.strings_TrimPrefix t ⟨#[10]⟩ W)
        have hcut : ∀ r : List UInt8, (if x = 13 then Lib.trimPrefix (d.data.toList.drop (i + 1)) [10] else d.data.toList.drop (i + 1)) = r → cutLine d.data.toList = (d.data.toList.take i, r) := fun r hr => by
          unfold cutLine; rw [if_neg hneg, hi]; simp only [Int.toNat_natCast]; rw [hxl, ← hr]
          by_cases h13 : x = 13 <;> simp [h13]
        have hshort : ∀ r : List UInt8, cutLine d.data.toList = (d.data.toList.take i, r) → r.length < d.size := fun r hr => by
          have := cutLine_lt h00; rw [hr] at this; rw [Lib.size_eq]; exact this
        have hYd : ∀ r : List UInt8, cutLine d.data.toList = (d.data.toList.take i, r) → ∀ W2, J pre W2 → ∃ fn tmps assign body, (Instr.yield l #[.int .i64 ((pre.length : Int) + 1), .string (d.extract 0 i)]).run Tryd.prog W2 = .ok (.round l fn tmps assign body) W2 ∧ RoundIn Fence.wide (n - 1) Tryd.prog l fn tmps assign body W2 fun e W' =>
            e = .returned (.bool true) ∧ J (pre ++ [(pre.length + 1, d.data.toList.take i)]) W' ∧ KeepsBox Bn 9 W2 W' := fun r hr W2 hj2 => by
          obtain ⟨fn, tmps, assign, body, hy, hR⟩ := hY pre (pre.length + 1, d.data.toList.take i) W2 hj2 (by rw [HX.out, hr]; exact ⟨numbered (pre.length + 1 + 1) (phys r), by simp⟩)
          refine ⟨fn, tmps, assign, body, ?_, hR⟩
          have : bstr (d.data.toList.take i) = d.extract 0 i := by
            apply ByteArray.ext; apply Array.ext'; simp [bstr]
          rw [← this]; exact hy
        have hext : (d.extract (i + 1) d.size).data.toList = d.data.toList.drop (i + 1) := by
          have : d.data.toList.length = d.size := (Lib.size_eq d).symm
          simp
          exact List.take_of_length_le (by simp only [List.length_drop]; omega)
        by_cases h13 : x = 13
        · subst h13
          have hct := hcut _ (if_pos rfl)
          have hsh := hshort _ hct
          have hYe := hYd _ hct
          obtain ⟨T, hT⟩ : ∃ T : ByteArray, T = ⟨(Lib.trimPrefix (d.data.toList.drop (i + 1)) [10]).toArray⟩ := ⟨_, rfl⟩
          have htp : ∀ (W : World), CallsIn Fence.wide (n - 1) Tryd.prog 39 #[.string (d.extract (i + 1) d.size), .string ⟨#[10]⟩] W fun e w' => e = .returned (.string T) ∧ w' = W := fun W => callsIn_wide.2 (by
            refine (Tryd.strings_TrimPrefix (d.extract (i + 1) d.size) ⟨#[10]⟩ W).mono ?_
            rintro e w' ⟨rfl, rfl⟩
            rw [hext, hT]; exact ⟨rfl, rfl⟩)
          have hTl : T.data.toList = Lib.trimPrefix (d.data.toList.drop (i + 1)) [10] := by rw [hT]
          clear hT
          rw [← hTl] at hct hsh
          have HT := Lib.hid (And.intro hct hsh)
          clear hct hsh hTl hext hcut
          gi_wp2_with (first | (refine ⟨trivial, ?_⟩; gi_at_call 38; refine (hix _).mono ?_; rintro e W2 ⟨rfl, hB2⟩; have hj2 := hJa _ _ _ hj hB2; have hb2 : Boxed W2 Bn 9 (.string d) := (hB2.block _ hb.lt).trans hb; have hc2 := hb2.cell))
          gi_region
          have hj3 := hJa _ _ _ hj2 (bl_drewN (Below.refl _ W2) 1)
          have hb3 : Boxed (W2.drewN 1) Bn 9 (.string d) := hb2
          have hc3 := hb3.cell
          obtain ⟨W3, hW3⟩ : ∃ W3, W2.drewN 1 = W3 := ⟨_, rfl⟩
          rw [hW3] at hj3 hb3 hc3
          rw [show W2.drew = W3 from hW3]
          obtain ⟨fn, tmps, assign, body, hy, hR⟩ := hYe W3 hj3
          gi_wp2_with (first | (refine ⟨trivial, ?_⟩; gi_at_call 39; refine (htp _).mono ?_; rintro e W2' ⟨rfl, rfl⟩))
          refine hR.mono ?_
          rintro e W4 ⟨rfl, hj4, hk4⟩
          have hb4 := hk4 _ hb3
          have hc4 := hb4.cell
          have hf4 := hb4.frozen
          gi_wp2
          go_roundw
          case measure =>
            have h1 := HT.out.2
            rw [World.cell?_setCell_same _ _ _ hb4.cell, hc]
            show T.size < d.size; rw [Lib.size_eq T]; exact h1
          case rel =>
            refine ⟨pre ++ [(pre.length + 1, (cutLine d.data.toList).1)], _, congrArg (Value.int .i64) HP.out, hb4.set _, hJb _ _ _ _ ?_ hb4, ?_, ?_⟩
            · rw [HT.out.1]; exact hj4
            · have h1 := HT.out.2; rw [← Lib.size_eq] at h1; omega
            · rw [HX.out, HT.out.1]; simp
        · have hct := hcut _ (if_neg h13)
          have hsh := hshort _ hct
          have hYe := hYd _ hct
          rw [← hext] at hct hsh
          have HT := Lib.hid (And.intro hct hsh)
          clear hct hsh hext hcut
          have hx13 : (x == 13) = false := by simpa using h13
          have hx13i : ¬ ((x.toNat : Int) = 13) := fun e => h13 (UInt8.toNat_inj.1 (by rw [show (13 : UInt8).toNat = 13 from rfl]; omega))
          gi_wp2_with (first | (refine ⟨trivial, ?_⟩; gi_at_call 38; refine (hix _).mono ?_; rintro e W2 ⟨rfl, hB2⟩; have hj2 := hJa _ _ _ hj hB2; have hb2 : Boxed W2 Bn 9 (.string d) := (hB2.block _ hb.lt).trans hb; have hc2 := hb2.cell))
          gi_region
          have hj3 := hJa _ _ _ hj2 (bl_drewN (Below.refl _ W2) 1)
          have hb3 : Boxed (W2.drewN 1) Bn 9 (.string d) := hb2
          have hc3 := hb3.cell
          obtain ⟨W3, hW3⟩ : ∃ W3, W2.drewN 1 = W3 := ⟨_, rfl⟩
          rw [hW3] at hj3 hb3 hc3
          rw [show W2.drew = W3 from hW3]
          obtain ⟨fn, tmps, assign, body, hy, hR⟩ := hYe W3 hj3
          gi_wp2
          refine hR.mono ?_
          rintro e W4 ⟨rfl, hj4, hk4⟩
          have hb4 := hk4 _ hb3
          have hc4 := hb4.cell
          have hf4 := hb4.frozen
          gi_wp2
          go_roundw
          case measure =>
            have h1 := HT.out.2
            rw [World.cell?_setCell_same _ _ _ hb4.cell, hc]
            show (d.extract (i + 1) d.size).size < d.size; rw [Lib.size_eq (d.extract (i + 1) d.size)]; exact h1
          case rel =>
            refine ⟨pre ++ [(pre.length + 1, (cutLine d.data.toList).1)], _, congrArg (Value.int .i64) HP.out, hb4.set _, hJb _ _ _ _ ?_ hb4, ?_, ?_⟩
            · rw [HT.out.1]; exact hj4
            · have h1 := HT.out.2; rw [← Lib.size_eq] at h1; omega
            · rw [HX.out, HT.out.1]; simp
end Go.Proofs.YtinfkbdhnbefmaaDoorU

namespace Go.Proofs.YtinfkbdhnbefmaaDoorU
set_option linter.unusedVariables false
set_option linter.unusedSimpArgs false
open Go.Shelf Go.RowKit Go.Lib Go.Proofs.RangeCell
attribute [local go_sem] Oper.semAt_some

theorem numbered_pre : ∀ (l : List (List UInt8)) (k : Nat) (pre : List (Nat × List UInt8)) (x : Nat × List UInt8), (pre ++ [x]) <+: numbered k l → x.1 = k + pre.length
  | [], k, pre, x, h => by
    have := List.eq_nil_of_prefix_nil h
    simp at this
  | y :: l, k, [], x, h => by
    obtain ⟨r, hr⟩ := h
    simp [numbered] at hr
    rw [hr.1]; simp
  | y :: l, k, p :: pre, x, h => by
    rw [numbered, List.cons_append] at h
    have := numbered_pre l (k + 1) pre x (List.cons_prefix_cons.1 h).2
    rw [this, List.length_cons]; omega

set_option maxHeartbeats 1000000 in
theorem physical_in (n : Nat) (d : ByteArray) (w : World) :
    CallsIn Fence.wide n Tryd.prog 27 #[.string d] w fun e w' => e = .returned (.func (.func 37) #[] #[.pointer (some ⟨w.heap.size, 0, none⟩)]) ∧ w' = w.alloc (.cells #[.string d] 9) := by
  refine callsIn_of_wp Tryd.func27 rfl trivial ?_ rfl
  simp only [Tryd.ntmps27, List.size_toArray, List.length_cons, List.length_nil, Nat.reduceAdd, Nat.reduceSub, Array.replicate_succ, Array.replicate_zero, List.push_toArray, List.append_toArray, List.nil_append, List.cons_append]
  gi_wp2
  go_ret
  exact ⟨rfl, rfl⟩

theorem keepsBox_other {Bn B : Nat} {T t : TypeId} {W : World} {v : Value} (_ : Boxed W B t v) (hne : B ≠ Bn) (u : Value) : KeepsBox Bn T W (W.setCell ⟨B, 0, none⟩ u) := fun _ hv => hv.other (Ne.symm hne) u

theorem below_put {n₀ : Nat} {w W : World} (h : Below n₀ w W) (hn : n₀ ≤ w.heap.size) (l : Nat) (o' : Obj) (hl : w.heap.size ≤ l) : Below n₀ w (W.putObj l o') :=
  h.trans ((Below.refl n₀ W).grown (grownBy_putObj' W l o') (Nat.le_trans hn h.size) (fun k e => by cases e; omega))
end Go.Proofs.YtinfkbdhnbefmaaDoorU

namespace Go.Proofs.YtinfkbdhnbefmaaDoorU
set_option linter.unusedVariables false
set_option linter.unusedSimpArgs false
open Go.Shelf Go.RowKit Go.Lib Go.Proofs.RangeCell
attribute [local go_sem] Oper.semAt_some

/-- What one physical line makes of the lines so far, and whether the last one goes on. -/
def lineStep (st : List (Nat × List UInt8) × Bool) (x : Nat × List UInt8) : List (Nat × List UInt8) × Bool :=
  (if st.2 then st.1.dropLast ++ [((st.1.getLastD (0, [])).1, Lib.trimSuffix (st.1.getLastD (0, [])).2 [92] ++ x.2)] else st.1 ++ [x], Lib.hasSuffix x.2 [92])
def lineFold (xs : List (Nat × List UInt8)) : List (Nat × List UInt8) × Bool := xs.foldl lineStep ([], false)
theorem lineFold_snoc (pre : List (Nat × List UInt8)) (x : Nat × List UInt8) : lineFold (pre ++ [x]) = lineStep (lineFold pre) x := by
  simp [lineFold]
def lineCells (x : Nat × List UInt8) : List Value := [.int .i64 (x.1 : Int), .string (bstr x.2)]
def cellsOf (l : List (Nat × List UInt8)) : List Value := l.flatMap lineCells
theorem cellsOf_snoc (l : List (Nat × List UInt8)) (x : Nat × List UInt8) : cellsOf (l ++ [x]) = cellsOf l ++ lineCells x := by simp [cellsOf]
theorem cellsOf_len (l : List (Nat × List UInt8)) : (cellsOf l).length = l.length * 2 := by
  induction l with
  | nil => rfl
  | cons x l ih => simp only [cellsOf, List.flatMap_cons, List.length_append] at ih ⊢; rw [ih, List.length_cons, Nat.succ_mul, Nat.add_comm]; rfl
def total (l : List (Nat × List UInt8)) : Nat := (l.map (fun x => x.2.length)).sum
theorem trimSuffix_len (s p : List UInt8) : (Lib.trimSuffix s p).length ≤ s.length := by
  unfold Lib.trimSuffix; split
  · simp
  · exact Nat.le_refl _
theorem lineFold_ok (pre : List (Nat × List UInt8)) : ∀ (k : Nat), pre.length ≤ k → ((lineFold pre).2 = true → (lineFold pre).1 ≠ []) ∧ (lineFold pre).1.length ≤ pre.length ∧ ∀ x ∈ (lineFold pre).1, x.2.length ≤ total pre := by
  intro k
  induction k generalizing pre with
  | zero =>
    intro h
    obtain rfl : pre = [] := List.eq_nil_of_length_eq_zero (by omega)
    simp [lineFold]
  | succ k ih =>
    intro h
    rcases List.eq_nil_or_concat pre with rfl | ⟨l, x, rfl⟩
    · simp [lineFold]
    · rw [List.concat_eq_append] at h ⊢
      obtain ⟨h1, h2, h3⟩ := ih l (by simp at h; omega)
      have ht : total (l ++ [x]) = total l + x.2.length := by simp [total]
      rw [lineFold_snoc, ht]
      unfold lineStep
      by_cases ho : (lineFold l).2 = true
      · have hn := h1 ho
        rw [if_pos ho]
        refine ⟨fun _ => by simp, ?_, ?_⟩
        · have := List.length_pos_iff.2 hn
          simp only [List.length_append, List.length_dropLast, List.length_singleton]; omega
        · intro y hy
          rcases List.mem_append.1 hy with hy | hy
          · have := h3 y ((List.dropLast_sublist _).subset hy); omega
          · simp only [List.mem_singleton] at hy; subst hy
            have hm : (lineFold l).1.getLastD (0, []) ∈ (lineFold l).1 := by
              rw [List.getLastD_eq_getLast?, List.getLast?_eq_some_getLast hn]; exact List.getLast_mem hn
            have := h3 _ hm
            have := trimSuffix_len ((lineFold l).1.getLastD (0, [])).2 [92]
            simp only [List.length_append]; omega
      · rw [if_neg ho]
        refine ⟨fun _ => by simp, by simp; omega, ?_⟩
        intro y hy
        rcases List.mem_append.1 hy with hy | hy
        · have := h3 y hy; omega
        · simp only [List.mem_singleton] at hy; subst hy; omega
theorem cutLine_len (l : List UInt8) : (cutLine l).1.length + (cutLine l).2.length ≤ l.length := by
  unfold cutLine
  split
  · simp
  · have := trimPrefix_len (l.drop ((Lib.indexAny l [13, 10]).toNat + 1)) [10]
    simp only [List.length_drop] at this
    show (l.take _).length + (if _ then _ else _ : List UInt8).length ≤ _
    split <;> simp only [List.length_take, List.length_drop] at this ⊢ <;> omega
theorem total_phys : ∀ (k : Nat) (l : List UInt8) (j : Nat), l.length ≤ k → total (numbered j (phys l)) ≤ l.length := by
  intro k
  induction k with
  | zero => intro l j h; obtain rfl : l = [] := List.eq_nil_of_length_eq_zero (by omega); exact Nat.le_refl _
  | succ k ih =>
    intro l j h
    by_cases hn : l = []
    · subst hn; exact Nat.le_refl _
    · have h1 := cutLine_lt hn
      have h2 := ih (cutLine l).2 (j + 1) (by omega)
      have h3 := cutLine_len l
      rw [phys_cons hn, numbered]
      simp only [total, List.map_cons, List.sum_cons] at h2 ⊢; omega
theorem total_pre {pre : List (Nat × List UInt8)} {x : Nat × List UInt8} {l : List (Nat × List UInt8)} (h : (pre ++ [x]) <+: l) : total pre + x.2.length ≤ total l := by
  obtain ⟨r, rfl⟩ := h
  simp only [total, List.map_append, List.sum_append, List.map_cons, List.map_nil, List.sum_cons, List.sum_nil]; omega
theorem pre_len {pre : List (Nat × List UInt8)} {x : Nat × List UInt8} {l : List (Nat × List UInt8)} (h : (pre ++ [x]) <+: l) : pre.length < l.length := by
  obtain ⟨r, rfl⟩ := h
  simp only [List.length_append, List.length_singleton]; omega
theorem grown_of_below {W W' : World} (h : Below W.heap.size W W') : W.grownBy W' none := ⟨h.os, h.tape, h.output, h.size, fun k hk _ => h.block k hk⟩
theorem cells_two_new (w : World) (x y : Value) (t : TypeId) : ∀ j u, [x, y][j]? = some u → (w.alloc (.cells #[x, y] t)).cell? ((⟨w.heap.size, 0, none⟩ : Addr).add j) = some u := by
  intro j u hj
  match j, hj with
  | 0, hj => simp at hj; subst hj; show World.cell? _ ⟨w.heap.size, 0 + 0, none⟩ = _; unfold World.cell?; rw [World.alloc_heap_new]; rfl
  | 1, hj => simp at hj; subst hj; show World.cell? _ ⟨w.heap.size, 0 + 1, none⟩ = _; unfold World.cell?; rw [World.alloc_heap_new]; rfl

def LinesI (n₀ : Nat) (w : World) (pre : List (Nat × List UInt8)) (W : World) : Prop :=
  ∃ v, Boxed W n₀ 22 v ∧ W.ownsRow n₀ 31 2 v (lineFold pre).1.length (cellsOf (lineFold pre).1) ∧ Boxed W (n₀ + 1) 4 (.bool (lineFold pre).2) ∧ Below n₀ w W

set_option maxRecDepth 100000 in
set_option maxHeartbeats 4000000 in
theorem text_Lines_calls (d : ByteArray) (w : World) (hs : ¬ (65536 < (d.size : Int))) :
    Calls Tryd.prog 20 #[.string d] w fun e w' => ∃ v, e = .returned (.tuple #[v, .int .i64 0]) ∧ w'.ownsRow w.heap.size 31 2 v (lineFold (numbered 1 (phys d.data.toList))).1.length (cellsOf (lineFold (numbered 1 (phys d.data.toList))).1) ∧ Below w.heap.size w w' := by
  have info31 : (Tryd.prog.info? 31).map (fun i => (i.zero, i.size, i.bytes)) = some (some (.agg #[(.int .i64 0), (.string ⟨#[]⟩)]), 2, 24) := by kernel_rfl
  obtain ⟨i0, hi, hz0, hz1, hz2⟩ := info_parts info31
  refine (callsIn_wide (n := 5)).1 ?_
  refine callsIn_of_wp_marks Tryd.func20 rfl trivial ?_ rfl
  simp only [Tryd.ntmps20, List.size_toArray, List.length_cons, List.length_nil, Nat.reduceAdd, Nat.reduceSub, Array.replicate_succ, Array.replicate_zero, List.push_toArray, List.append_toArray, List.nil_append, List.cons_append]
  gi_wp2
  refine wpIn_wide.2 (wp_scope_straight ((wpIn_wide (n := 5)).1 ?_))
  gi_wp2
  refine wpIn_label ?_
  gi_wp2_with (refine ⟨trivial, ?_⟩; gi_at_call 27; refine (physical_in _ _ _).mono ?_; rintro e w' ⟨rfl, rfl⟩)
  have bL := Boxed.new w 22 (.slice none 0 0)
  have bO := Boxed.new (w.alloc (.cells #[.slice none 0 0] 22)) 4 (.bool false)
  have bN := Boxed.new ((w.alloc (.cells #[.slice none 0 0] 22)).alloc (.cells #[.bool false] 4)) 9 (.string d)
  simp only [World.size_alloc] at bO bN
  have hB0 : Below w.heap.size w (((w.alloc (.cells #[.slice none 0 0] 22)).alloc (.cells #[.bool false] 4)).alloc (.cells #[.string d] 9)) := (((Below.refl _ w).alloc (Nat.le_refl _) _).alloc (by simp) _).alloc (by simp; omega) _
  refine wpIn_rangeFunc_cell rfl (by decide) (gf := 37) (Bn := w.heap.size + 1 + 1) (T := 9) (d := .string d) rfl trivial (enters_of Tryd.func37 (by kernel_rfl) rfl)
    (physical_seq _ (by decide) _ d (by omega)) bN (fun _ => rfl)
    (LinesI w.heap.size w)
    ?hIa ?hIb ?hIc ⟨_, (bL.alloc _).alloc _, World.ownsRow_nil _ _ _ _, bO.alloc _, hB0⟩
    (fun x => { tmps := #[.string d, undef, .slice none 0 0, .int .i64 0, .pointer (some ⟨w.heap.size, 0, none⟩), .pointer (some ⟨w.heap.size + 1, 0, none⟩), .int .i64 x.1, .string (bstr x.2), undef, .string d, .int .i64 d.size, .bool (decide (65536 < (d.size : Int))), .string d, .func (.func 37) #[] #[.pointer (some ⟨w.heap.size + 1 + 1, 0, none⟩)], .int .i64 x.1, .string (bstr x.2), undef, undef, undef, undef, undef, undef, undef, undef, undef, undef, undef, undef, undef, undef, undef, undef, undef, undef, undef, undef, undef, undef, undef, undef, undef, undef, undef, undef], defers := [] }) ?assign ?body ?done
  case hIa =>
    rintro s A B ⟨v, h1, h2, h3, h4⟩ hb
    exact ⟨v, (hb.block _ h1.lt).trans h1, h2.kept (grown_of_below hb) (by by_cases e : v.ownBlock = none; exact .inl e; exact .inr e), (hb.block _ h3.lt).trans h3, h4.trans (hb.mono h4.size)⟩
  case hIb =>
    rintro s A v v' ⟨u, h1, h2, h3, h4⟩ hb
    exact ⟨u, h1.other (by omega) _, h2.kept (grownBy_setCell' A _ v') (.inr (Ne.symm (hb.not_row (by decide) h2))), h3.other (by omega) _, h4.setCell (p := ⟨w.heap.size + 1 + 1, 0, none⟩) (by simp; omega) _⟩
  case hIc =>
    rintro s A l o o' ⟨u, h1, h2, h3, h4⟩ hl ho hoc
    have hl' : w.heap.size + 1 + 1 + 1 ≤ l := by simpa using hl
    exact ⟨u, (World.putObj_heap_other (by omega)).trans h1, ownsRow_putObj h2 o' ho hoc, (World.putObj_heap_other (by omega)).trans h3, below_put h4 (Nat.le_refl _) l o' (by omega)⟩
  case assign =>
    intro l x W K hK
    simp only [encN]
    gi_wp2
    exact hK
  case body =>
    rintro l pre x W ⟨v, hbL, hrow, hbO, hB⟩ hp
    have hcL := hbL.cell
    have hcO := hbO.cell
    have hfO := hbO.frozen
    have hok := lineFold_ok pre _ (Nat.le_refl _)
    have htp := total_pre hp
    have htt := total_phys _ d.data.toList 1 (Nat.le_refl _)
    have hpl := pre_len hp
    rw [numbered_len] at hpl
    have hpn := phys_len _ d.data.toList (Nat.le_refl _)
    rw [← Lib.size_eq] at htt hpn
    have hSuf : ∀ W' : World, CallsIn (Fence.wide.inRound l) (5 - 1 - 1 - 1) Tryd.prog 28 #[.string (bstr x.2), .string ⟨#[92]⟩] W' fun e w' => e = .returned (.bool (Lib.hasSuffix x.2 [92])) ∧ w' = W' := fun W' => CallsIn.inRound l (callsIn_wide.2 (Tryd.strings_HasSuffix (bstr x.2) ⟨#[92]⟩ W' (by rw [Lib.size_eq]; simp [bstr]; omega)))
    have HX : Aside (lineFold (pre ++ [x]) = lineStep (lineFold pre) x) := Lib.hid (lineFold_snoc pre x)
    have HF : Aside (((lineFold pre).2 = true → (lineFold pre).1 ≠ []) ∧ (lineFold pre).1.length ≤ 65536 ∧ ∀ y ∈ (lineFold pre).1, y.2.length + x.2.length ≤ 65536) := Lib.hid ⟨hok.1, by omega, fun y hy => by have := hok.2.2 y hy; omega⟩
    clear hok htp htt hpl hpn
    obtain ⟨L, hL⟩ : ∃ L, (lineFold pre).1 = L := ⟨_, rfl⟩
    obtain ⟨O, hO⟩ : ∃ O, (lineFold pre).2 = O := ⟨_, rfl⟩
    have hLO : lineFold pre = (L, O) := by rw [← hL, ← hO]
    rw [hO] at hcO hbO
    rw [hL] at hrow
    rw [hO, hL] at HF
    rw [hLO] at HX
    have hlen : L.length ≤ 65536 := HF.out.2.1
    obtain ⟨H, hH⟩ : ∃ H, Lib.hasSuffix x.2 [92] = H := ⟨_, rfl⟩
    rw [hH] at hSuf
    clear hL hO hLO hs
    cases O with
    | false =>
      gi_wp2_with (first | (refine ⟨trivial, ?_⟩; gi_at_call 28; refine (hSuf _).mono ?_; rintro e w' ⟨rfl, rfl⟩) | (gi_at_builtin; refine wpListIn_append_own _ rfl _ _ 22 rfl w.heap.size 31 i0 (.agg #[(.int .i64 0), (.string ⟨#[]⟩)]) 2 24 Tryd.underlying22 hi hz0 hz1 hz2 rfl (by decide) _ _ _ rfl (hrow.alloc _) ⟨W.heap.size, 0, none⟩ 1 1 [.int .i64 x.1, .string (bstr x.2)] rfl rfl (cells_two_new _ _ _ _) (by simp [Value.oneCell']) (by simp [maxLen]; omega) (by omega) (by have := hB.size; simp; omega) ?_; intro v' w1 hown' hgrow _; obtain ⟨g', cap', rfl⟩ := ownsRow_succ hown'; obtain ⟨hv1, hv2, hr2, hk2, hb2⟩ := hbL.appended (by decide) hrow hB.size (Nat.le_refl _) hown' hgrow; have hc1 := hv1.cell; have hf1 := hv1.frozen; have hO2 := ((hbO.alloc _).kept hgrow (hbO.not_row (by decide) hrow)).other (B' := w.heap.size) (by omega) (.slice (some ⟨g', 0, none⟩) (L.length + 1) cap'); have hN2 : KeepsBox (w.heap.size + 1 + 1) 9 W (w1.setCell ⟨w.heap.size, 0, none⟩ (.slice (some ⟨g', 0, none⟩) (L.length + 1) cap')) := (fun u hu => ((hu.alloc _).kept hgrow (hu.not_row (by decide) hrow)).other (by omega) _); have hcO2 := hO2.cell; have hfO2 := hO2.frozen))
      refine ⟨(hk2.from _).trans ((KeepsOthers.setCell _ _ _).from _), hN2.trans (keepsBox_other hO2 (by omega) _), ?_⟩
      unfold LinesI
      rw [HX.out]
      rw [show (lineStep (L, false) x).2 = H from hH]
      refine ⟨_, hv2.other (by omega) _, ?_, hO2.set _, hB.trans (hb2.setCell (p := ⟨w.heap.size + 1, 0, none⟩) (by simp) _)⟩
      have hr3 := hr2.kept (grownBy_setCell' _ (w.heap.size + 1) (.bool H)) (.inr (Ne.symm (hO2.not_row (by decide) hr2)))
      simp only [lineStep, Bool.false_eq_true, if_false]
      rw [cellsOf_snoc, List.length_append]
      exact hr3
    | true =>
      have hne := HF.out.1 rfl
      obtain ⟨m, hm⟩ : ∃ m, L.length = m + 1 := ⟨L.length - 1, by have := List.length_pos_iff.2 hne; omega⟩
      obtain ⟨L', y, rfl⟩ : ∃ L' y, L = L' ++ [y] := ⟨_, _, (List.dropLast_concat_getLast hne).symm⟩
      have hL' : L'.length = m := by simpa using hm
      rw [hm] at hrow
      obtain ⟨g, cap, rfl⟩ := ownsRow_succ hrow
      have hylen := HF.out.2.2 y (by simp)
      have hcell : W.cell? ⟨g, m * 2 + 1, none⟩ = some (.string (bstr y.2)) := by
        rw [hrow.cellAt (m * 2 + 1) (by omega), cellsOf_snoc, List.getElem?_append_right (by rw [cellsOf_len]; omega), cellsOf_len, hL']
        simp [lineCells]
      have hfr := hrow.frozenAt (m * 2 + 1)
      have hTrim : ∀ W' : World, CallsIn (Fence.wide.inRound l) (5 - 1 - 1 - 1) Tryd.prog 29 #[.string (bstr y.2), .string ⟨#[92]⟩] W' fun e w' => e = .returned (.string (bstr (Lib.trimSuffix y.2 [92]))) ∧ w' = W' := fun W' => CallsIn.inRound l (callsIn_wide.2 (Tryd.strings_TrimSuffix (bstr y.2) ⟨#[92]⟩ W' (by rw [Lib.size_eq]; simp [bstr]; omega)))
      have hml : m ≤ 65536 := by omega
      have hTl := trimSuffix_len y.2 [92]
      have hsum : ¬ (9223372036854775807 < (bstr (Lib.trimSuffix y.2 [92])).size + (bstr x.2).size) := by
        rw [Lib.size_eq, Lib.size_eq]; simp [bstr]; omega
      have hst := hrow.stored (m * 2 + 1) (.string (bstr (Lib.trimSuffix y.2 [92]) ++ bstr x.2))
      have hgr := hst.2
      have hO3 : Boxed (W.setCell ⟨g, m * 2 + 1, none⟩ (.string (bstr (Lib.trimSuffix y.2 [92]) ++ bstr x.2))) (w.heap.size + 1) 4 (.bool true) := hbO.kept hgr (by simpa [Value.ownBlock] using hbO.not_row (by decide) hrow)
      have hL3 : Boxed (W.setCell ⟨g, m * 2 + 1, none⟩ (.string (bstr (Lib.trimSuffix y.2 [92]) ++ bstr x.2))) w.heap.size 22 (.slice (some ⟨g, 0, none⟩) (m + 1) cap) := hbL.kept hgr (by simpa [Value.ownBlock] using hbL.not_row (by decide) hrow)
      have hN3 : KeepsBox (w.heap.size + 1 + 1) 9 W (W.setCell ⟨g, m * 2 + 1, none⟩ (.string (bstr (Lib.trimSuffix y.2 [92]) ++ bstr x.2))) := fun u hu => hu.kept hgr (by simpa [Value.ownBlock] using hu.not_row (by decide) hrow)
      have hcells : (cellsOf (L' ++ [y])).set (m * 2 + 1) (.string (bstr (Lib.trimSuffix y.2 [92]) ++ bstr x.2)) = cellsOf (L' ++ [(y.1, Lib.trimSuffix y.2 [92] ++ x.2)]) := by
        rw [cellsOf_snoc, cellsOf_snoc, List.set_append_right _ _ (by rw [cellsOf_len]; omega), cellsOf_len, hL', show m * 2 + 1 - m * 2 = 1 by omega]
        have : bstr (Lib.trimSuffix y.2 [92]) ++ bstr x.2 = bstr (Lib.trimSuffix y.2 [92] ++ x.2) := by
          apply ByteArray.ext; apply Array.ext'; simp [bstr]
        rw [this]; rfl
      have hr3 := hst.1
      rw [hcells] at hr3
      have hgb := (hrow.lt g rfl).1
      have hcO3 := hO3.cell
      have hfO3 := hO3.frozen
      gi_wp2_with (first | (refine ⟨trivial, ?_⟩; gi_at_call 28; refine (hSuf _).mono ?_; rintro e w' ⟨rfl, rfl⟩) | (refine ⟨trivial, ?_⟩; gi_at_call 29; refine (hTrim _).mono ?_; rintro e w' ⟨rfl, rfl⟩))
      refine ⟨(((KeepsOthers.setCell _ _ _).trans (KeepsOthers.setCell _ _ _)).from _), hN3.trans (keepsBox_other hO3 (by omega) _), ?_⟩
      unfold LinesI
      rw [HX.out]
      rw [show (lineStep (L' ++ [y], true) x).2 = H from hH]
      refine ⟨_, hL3.other (by omega) _, ?_, hO3.set _, hB.trans (((Below.refl _ _).setCell (p := ⟨g, m * 2 + 1, none⟩) hgb _).setCell (p := ⟨w.heap.size + 1, 0, none⟩) (by simp) _)⟩
      have hr4 := hr3.kept (grownBy_setCell' _ (w.heap.size + 1) (.bool H)) (.inr (Ne.symm (hO3.not_row (by decide) hr3)))
      simp only [lineStep, if_true]
      rw [List.dropLast_concat, show (L' ++ [y]).getLastD (0, []) = y by simp, List.length_append, hL']
      exact hr4
  case done =>
    rintro D W hD ⟨v, hbL, hrow, hbO, hB⟩ hK
    have hc := hbL.cell
    gi_wp2
    show bodyPostM _ _ _ _ _ Exit.ret _ _
    refine ⟨by simp, .inl ⟨_, _, rfl, run_takeDeferred hK, ?_⟩⟩
    exact ⟨_, results_tmp2 rfl _ _ _, v, rfl, ownsRow_putObj hrow _ hK rfl, below_put hB (Nat.le_refl _) D _ (by simp at hD; omega)⟩
set_option maxHeartbeats 1000000 in
theorem text_Lines_long (d : ByteArray) (w : World) (hs : 65536 < (d.size : Int)) :
    Calls Tryd.prog 20 #[.string d] w fun e w' => e = .returned (.tuple #[.slice none 0 0, .int .i64 10]) ∧ w' = w := by
  refine (callsIn_wide (n := 5)).1 ?_
  refine callsIn_of_wp_marks Tryd.func20 rfl trivial ?_ rfl
  simp only [Tryd.ntmps20, List.size_toArray, List.length_cons, List.length_nil, Nat.reduceAdd, Nat.reduceSub, Array.replicate_succ, Array.replicate_zero, List.push_toArray, List.append_toArray, List.nil_append, List.cons_append]
  gi_wp2
  refine wpIn_wide.2 (wp_scope_straight ((wpIn_wide (n := 5)).1 ?_))
  gi_wp2
  show bodyPostM _ _ _ _ _ Exit.ret _ _
  exact ⟨_, results_tmp2 rfl _ _ _, rfl, rfl⟩
end Go.Proofs.YtinfkbdhnbefmaaDoorU
