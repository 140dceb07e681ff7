import Derived.Test.YtcbfbefpbjmglaaGreatDoorShelf2
import Derived.Test.YtcbfbefpbjmglaaGreatDoorProg
import Derived.WalkKit
import Derived.Below
import Derived.Deep.LoopGhost
import Derived.Deep.QuietTactic
import Derived.BigQuiet
import Derived.RegionTactic
import Derived.Lib.Hide
import Derived.WalkSpells
import Derived.OneCell
import Derived.RangeFuncBox
import Derived.RangeFuncNested
import Derived.RangeFuncBound
import Derived.RangeFuncCalls
import Derived.RangeFuncLeaves
import Derived.Shelf.RegionOpen
import Derived.OwnWalkIn
import Derived.TacticsInMore
import Derived.LoopNIn
import Derived.LoopIn
import Derived.RegionIn
import Derived.BigRegionIn
set_option maxHeartbeats 8000000
set_option maxRecDepth 100000
set_option linter.unusedSimpArgs false
set_option linter.unusedVariables false
namespace Go.Proofs.YtcbfbefpbjmglaaGreatDoorT
open Go.RowKit Go.Lib
def isL (c : UInt8) : Bool := (97 ≤ c.toNat && c.toNat ≤ 122) || (65 ≤ c.toNat && c.toNat ≤ 90) || c.toNat == 95
def isD (c : UInt8) : Bool := 48 ≤ c.toNat && c.toNat ≤ 57
def isW (c : UInt8) : Bool := isL c || isD c
theorem or_tab : ∀ n : Nat, n < 256 → (decide (97 ≤ bits .or .u8 (n : Int) 32) && decide (bits .or .u8 (n : Int) 32 ≤ 122) || (n : Int) == 95) = ((97 ≤ n && n ≤ 122) || (65 ≤ n && n ≤ 90) || n == 95) := by decide +kernel
set_option maxHeartbeats 1000000 in
theorem isDigit_calls (c : UInt8) (w : World) :
  Calls Tryz.prog 74 #[.int .u8 (c.toNat : Int)] w fun e w' => e = .returned (.bool (isD c)) ∧ w' = w := by
 have h : isD c = (decide (48 ≤ (c.toNat : Int)) && decide ((c.toNat : Int) ≤ 57)) := Bool.eq_iff_iff.2 (by simp only [isD, Bool.and_eq_true, decide_eq_true_eq]; omega)
 by_cases h1 : 48 ≤ (c.toNat : Int)
 ·rw [h, decide_eq_true h1, Bool.true_and]
  go_enter Tryz.func74, Tryz.ntmps74
  go_wp2
  all_goals go_ret
  all_goals exact ⟨rfl, rfl⟩
 ·rw [h, decide_eq_false h1, Bool.false_and]
  go_enter Tryz.func74, Tryz.ntmps74
  go_wp2
  all_goals go_ret
  all_goals exact ⟨rfl, rfl⟩
set_option maxHeartbeats 1000000 in
theorem isLetter_calls (c : UInt8) (w : World) :
  Calls Tryz.prog 70 #[.int .u8 (c.toNat : Int)] w fun e w' => e = .returned (.bool (isL c)) ∧ w' = w := by
 have h := or_tab c.toNat c.toNat_lt
 obtain ⟨B, hB⟩ : ∃ B, bits .or .u8 (c.toNat : Int) 32 = B := ⟨_, rfl⟩
 rw [hB] at h
 have h' : isL c = _ := h.symm
 clear h
 rw [h']
 by_cases h1 : 97 ≤ B
 ·by_cases h2 : B ≤ 122
  ·rw [decide_eq_true h1, decide_eq_true h2]
   go_enter Tryz.func70, Tryz.ntmps70
   go_wp2
   all_goals go_ret
   all_goals exact ⟨rfl, rfl⟩
  ·rw [decide_eq_true h1, decide_eq_false h2]
   go_enter Tryz.func70, Tryz.ntmps70
   go_wp2
   all_goals go_ret
   all_goals exact ⟨by first | rfl | simp_all, rfl⟩
 ·rw [decide_eq_false h1, Bool.false_and, Bool.false_or]
  go_enter Tryz.func70, Tryz.ntmps70
  go_wp2
  all_goals go_ret
  all_goals exact ⟨by first | rfl | simp_all, rfl⟩
end Go.Proofs.YtcbfbefpbjmglaaGreatDoorT
namespace Go.Proofs.YtcbfbefpbjmglaaGreatDoorT
open Go.RowKit Go.Lib
set_option maxHeartbeats 1000000 in
theorem isWord_calls (c : UInt8) (w : World) :
  Calls Tryz.prog 73 #[.int .u8 (c.toNat : Int)] w fun e w' => e = .returned (.bool (isW c)) ∧ w' = w := by
 have hL := isLetter_calls c
 have hD := isDigit_calls c
 unfold isW
 cases h : isL c with
 | true =>
  rw [h] at hL
  go_enter Tryz.func73, Tryz.ntmps73
  go_wp2_with (first | (go_at_call 70; refine (hL _).mono ?_; rintro e w' ⟨rfl, rfl⟩) | (go_at_call 74; refine (hD _).mono ?_; rintro e w' ⟨rfl, rfl⟩))
  all_goals go_ret
  all_goals exact ⟨rfl, rfl⟩
 | false =>
  rw [h] at hL
  go_enter Tryz.func73, Tryz.ntmps73
  go_wp2_with (first | (go_at_call 70; refine (hL _).mono ?_; rintro e w' ⟨rfl, rfl⟩) | (go_at_call 74; refine (hD _).mono ?_; rintro e w' ⟨rfl, rfl⟩))
  all_goals go_ret
  all_goals exact ⟨rfl, rfl⟩
def upto (on : Nat → Bool) : Nat → Nat → Nat
 | 0, i => i
 | k + 1, i => if on i then upto on k (i + 1) else i
theorem upto_le (on : Nat → Bool) : ∀ k i, upto on k i ≤ k + i
 | 0, i => by simp [upto]
 | k + 1, i => by
  unfold upto; split
  ·have := upto_le on k (i + 1); omega
  ·omega
set_option maxHeartbeats 2000000 in
theorem many_calls (f b : Nat) (s : ByteArray) (on : Nat → Bool) (hs : s.size ≤ 9223372036854775807) (w : World) (ht : ∀ i, (callFunc f #[.int .i64 (i : Int), .pointer (some ⟨b, 0, none⟩)]).run Tryz.prog w = .ok (.enter f #[.int .i64 (i : Int), .pointer (some ⟨b, 0, none⟩)]) w)
  (hon : ∀ i, i < s.size → Calls Tryz.prog f #[.int .i64 (i : Int), .pointer (some ⟨b, 0, none⟩)] w fun e w' => e = .returned (.bool (on i)) ∧ w' = w) :
  Calls Tryz.prog 71 #[.string s, .func (.func f) #[] #[.pointer (some ⟨b, 0, none⟩)]] w fun e w' => e = .returned (.int .i64 (upto on s.size 0 : Nat)) ∧ w' = w := by
 obtain ⟨R, hR⟩ : ∃ R, upto on s.size 0 = R := ⟨_, rfl⟩
 have HR := hid hR
 rw [hR]
 clear hR
 go_enter Tryz.func71, Tryz.ntmps71
 go_wp2
 go_loopg [5] (s.size) (fun g p wr => ∃ i : Nat, i + g = s.size ∧ p = .int .i64 (i : Int) ∧ wr = w ∧ Aside (R = upto on g i))
 case atStart => exact ⟨0, by omega, rfl, rfl, hid HR.out.symm⟩
 case round =>
  obtain ⟨i, hig, rfl, rfl, hu⟩ := hrel
  cases gk with
  | zero =>
   have h1 : ¬ ((i : Int) < s.size) := by omega
   have hu' : R = i := hu.out
   subst hu'
   go_wp2
   go_ret
   exact ⟨rfl, rfl⟩
  | succ g =>
   have h1 : ((i : Int) < s.size) := by omega
   have hi : i < s.size := by omega
   have hc := hon i hi
   have hti := ht i
   cases hb : on i with
   | false =>
    have hu' : R = i := by have := hu.out; unfold upto at this; rw [hb] at this; exact this
    subst hu'
    rw [hb] at hc
    go_wp2_with (refine hc.mono ?_; rintro e w' ⟨rfl, rfl⟩)
    go_ret
    exact ⟨rfl, rfl⟩
   | true =>
    have hu' : R = upto on g (i + 1) := by have := hu.out; unfold upto at this; rw [hb] at this; exact this
    have HU := hid hu'
    rw [hb] at hc
    clear hu hu'
    go_wp2_with (refine hc.mono ?_; rintro e w' ⟨rfl, rfl⟩)
    go_roundg g
    case measure => omega
    case rel => exact ⟨i + 1, by omega, by first | rfl | (simp; done), rfl, HU⟩
end Go.Proofs.YtcbfbefpbjmglaaGreatDoorT
namespace Go.Proofs.YtcbfbefpbjmglaaGreatDoorT
open Go.RowKit Go.Lib
def at_ (s : ByteArray) (i : Nat) : UInt8 := s.data.toList.getD i 0
theorem at_get (s : ByteArray) (i : Nat) (h : i < s.size) : s[i]'h = at_ s i := by
 unfold at_
 rw [List.getD_eq_getElem?_getD, Lib.data_getElem? s i h]; rfl
set_option maxHeartbeats 1000000 in
theorem word_at (s : ByteArray) (b i : Nat) (hi : i < s.size) (hs : s.size ≤ 9223372036854775807) (w : World) (hb : w.cell? ⟨b, 0, none⟩ = some (.string s)) :
  Calls Tryz.prog 72 #[.int .i64 (i : Int), .pointer (some ⟨b, 0, none⟩)] w fun e w' => e = .returned (.bool (isW (at_ s i))) ∧ w' = w := by
 obtain ⟨c, hc⟩ : ∃ c, at_ s i = c := ⟨_, rfl⟩
 have hg := at_get s i hi
 rw [hc] at hg
 rw [hc]
 clear hc
 have h1 := isWord_calls c
 go_enter Tryz.func72, Tryz.ntmps72
 go_wp2_with (first | (go_at_call 73; refine (h1 _).mono ?_; rintro e w' ⟨rfl, rfl⟩))
 go_ret
 exact ⟨rfl, rfl⟩
def isE (c : UInt8) : Bool := c == 101 || c == 69 || c == 112 || c == 80
def onN (s : ByteArray) (i : Nat) : Bool := isW (at_ s i) || at_ s i == 46 || (decide (0 < i) && (at_ s i == 43 || at_ s i == 45) && isE (at_ s (i - 1)))
theorem ixE (c : UInt8) : (0 ≤ Lib.indexByte [101, 69, 112, 80] c) ↔ isE c = true := by
 unfold isE
 simp only [Lib.indexByte, Bool.or_eq_true, beq_iff_eq]
 repeat' split
 all_goals simp_all [eq_comm]
theorem u8i (c d : UInt8) : ((c.toNat : Int) = (d.toNat : Int)) ↔ c = d := ⟨fun h => UInt8.toNat_inj.1 (by omega), fun h => by rw [h]⟩
set_option maxHeartbeats 4000000 in
theorem num_at (s : ByteArray) (b i : Nat) (hi : i < s.size) (hs : s.size ≤ 9223372036854775807) (w : World) (hb : w.cell? ⟨b, 0, none⟩ = some (.string s)) :
  Calls Tryz.prog 96 #[.int .i64 (i : Int), .pointer (some ⟨b, 0, none⟩)] w fun e w' => e = .returned (.bool (onN s i)) ∧ w' = w := by
 have HO : ∀ c, at_ s i = c → onN s i = (isW c || c == 46 || (decide (0 < i) && (c == 43 || c == 45) && isE (at_ s (i - 1)))) := fun c h => by rw [← h]; rfl
 obtain ⟨c, hc⟩ : ∃ c, at_ s i = c := ⟨_, rfl⟩
 rw [HO c hc]
 have hg := at_get s i hi
 rw [hc] at hg
 clear hc HO
 have h1 := isWord_calls c
 by_cases hW : isW c = true
 ·rw [hW] at h1
  rw [hW]
  go_enter Tryz.func96, Tryz.ntmps96
  go_wp2_with (first | (go_at_call 73; refine (h1 _).mono ?_; rintro e w' ⟨rfl, rfl⟩))
  go_ret
  exact ⟨rfl, rfl⟩
 ·have hW : isW c = false := by simpa using hW
  rw [hW] at h1
  rw [hW]
  by_cases h46 : c = 46
  ·subst h46
   go_enter Tryz.func96, Tryz.ntmps96
   go_wp2_with (first | (go_at_call 73; refine (h1 _).mono ?_; rintro e w' ⟨rfl, rfl⟩))
   go_ret
   exact ⟨rfl, rfl⟩
  ·have e46 : ¬ ((c.toNat : Int) = 46) := fun e => h46 ((u8i c 46).1 e)
   have b46 : (c == 46) = false := by simpa using h46
   rw [b46]
   by_cases h0 : (i : Int) > 0
   ·obtain ⟨j, rfl⟩ : ∃ j, i = j + 1 := ⟨i - 1, by omega⟩
    have hj : j < s.size := by omega
    have hgj := at_get s j hj
    have hji : ((j + 1 : Nat) : Int) - 1 = (j : Int) := by omega
    rw [Nat.add_sub_cancel]
    obtain ⟨d, hd⟩ : ∃ d, at_ s j = d := ⟨_, rfl⟩
    rw [hd] at hgj
    rw [hd]
    clear hd
    have hw : wrap64 (((j + 1 : Nat) : Int) - 1) = (j : Int) := by unfold wrap64; omega
    have h44 : ∀ W, Calls Tryz.prog 69 #[.string ⟨#[101, 69, 112, 80]⟩, .int .u8 (d.toNat : Int)] W fun e w' => e = .returned (.int .i64 (Lib.indexByte [101, 69, 112, 80] d)) ∧ w' = W := fun W => by
     have := Tryz.strings_IndexByte ⟨#[101, 69, 112, 80]⟩ (d.toNat : Int) W
     simpa using this
    have hE := ixE d
    obtain ⟨E, hEE⟩ : ∃ E, Lib.indexByte [101, 69, 112, 80] d = E := ⟨_, rfl⟩
    rw [hEE] at hE h44
    clear hEE
    have hres : ∀ q : Bool, (false || false || (decide (0 < j + 1) && q && isE d)) = (q && isE d) := fun q => by simp
    rw [hres]
    clear hres
    by_cases hp : (c == 43 || c == 45) = true
    ·rw [hp, Bool.true_and]
     have hE' : isE d = decide (0 ≤ E) := Bool.eq_iff_iff.2 (by rw [decide_eq_true_eq, hE])
     rw [hE']
     clear hE hE'
     have hc : c = 43 ∨ c = 45 := by simpa using hp
     clear hp b46
     rcases hc with rfl | rfl
     ·go_enter Tryz.func96, Tryz.ntmps96
      go_wp2_with (first | (go_at_call 73; refine (h1 _).mono ?_; rintro e w' ⟨rfl, rfl⟩) | (go_at_call 69; refine (h44 _).mono ?_; rintro e w' ⟨rfl, rfl⟩))
      go_ret
      exact ⟨rfl, rfl⟩
     ·go_enter Tryz.func96, Tryz.ntmps96
      go_wp2_with (first | (go_at_call 73; refine (h1 _).mono ?_; rintro e w' ⟨rfl, rfl⟩) | (go_at_call 69; refine (h44 _).mono ?_; rintro e w' ⟨rfl, rfl⟩))
      go_ret
      exact ⟨rfl, rfl⟩
    ·have hp : (c == 43 || c == 45) = false := by simpa using hp
     rw [hp, Bool.false_and]
     have n43 : ¬ ((c.toNat : Int) = 43) := fun e => by rw [(u8i c 43).1 e] at hp; exact absurd hp (by decide)
     have n45 : ¬ ((c.toNat : Int) = 45) := fun e => by rw [(u8i c 45).1 e] at hp; exact absurd hp (by decide)
     clear hp b46 hE h44
     go_enter Tryz.func96, Tryz.ntmps96
     go_wp2_with (first | (go_at_call 73; refine (h1 _).mono ?_; rintro e w' ⟨rfl, rfl⟩))
     go_ret
     exact ⟨by show Ending.returned (.bool ((c.toNat : Int) == 46)) = _; rw [beq_eq_false_iff_ne.2 e46], rfl⟩
   ·have hd0 : decide (0 < i) = false := by simp; omega
    rw [hd0]
    go_enter Tryz.func96, Tryz.ntmps96
    go_wp2_with (first | (go_at_call 73; refine (h1 _).mono ?_; rintro e w' ⟨rfl, rfl⟩))
    go_ret
    exact ⟨by show Ending.returned (.bool ((c.toNat : Int) == 46)) = _; rw [beq_eq_false_iff_ne.2 e46]; rfl, rfl⟩
end Go.Proofs.YtcbfbefpbjmglaaGreatDoorT
namespace Go.Proofs.YtcbfbefpbjmglaaGreatDoorT
open Go.RowKit Go.Lib
def quo (s : ByteArray) : Nat → Nat → Nat
 | 0, _ => 0
 | k + 1, i => if s.size ≤ i then 0 else if at_ s i = 92 then quo s k (i + 2) else if at_ s i = at_ s 0 then i + 1 else quo s k (i + 1)
theorem quo_le (s : ByteArray) : ∀ k i, quo s k i ≤ s.size
 | 0, i => by simp [quo]
 | k + 1, i => by
  unfold quo
  have h1 := quo_le s k (i + 1)
  have h2 := quo_le s k (i + 2)
  repeat' split
  all_goals omega
theorem quo_more (s : ByteArray) : ∀ k i, s.size ≤ i + k → quo s (k + 1) i = quo s k i
 | 0, i, h => by show (if s.size ≤ i then 0 else _) = 0; rw [if_pos (by omega)]
 | k + 1, i, h => by
  have h1 := quo_more s k (i + 1) (by omega)
  have h2 := quo_more s k (i + 2) (by omega)
  show (if s.size ≤ i then 0 else if at_ s i = 92 then quo s (k + 1) (i + 2) else if at_ s i = at_ s 0 then i + 1 else quo s (k + 1) (i + 1)) = (if s.size ≤ i then 0 else if at_ s i = 92 then quo s k (i + 2) else if at_ s i = at_ s 0 then i + 1 else quo s k (i + 1))
  rw [h1, h2]
set_option maxHeartbeats 4000000 in
theorem quoted_calls (s : ByteArray) (h0 : 0 < s.size) (hs : s.size < 9223372036854775806) (w : World) :
  Calls Tryz.prog 76 #[.string s] w fun e w' => e = .returned (.int .i64 (quo s s.size 1 : Nat)) ∧ w' = w := by
 obtain ⟨R, hR⟩ : ∃ R, quo s s.size 1 = R := ⟨_, rfl⟩
 have HR := hid hR
 rw [hR]
 clear hR
 have hq := at_get s 0 h0
 obtain ⟨q, hqq⟩ : ∃ q, at_ s 0 = q := ⟨_, rfl⟩
 rw [hqq] at hq
 have HQ := hid hqq
 clear hqq
 go_enter Tryz.func76, Tryz.ntmps76
 go_wp2
 go_loopg [3] (s.size + 1) (fun g p wr => ∃ i : Nat, p = .int .i64 (i : Int) ∧ s.size ≤ i + g ∧ i ≤ s.size + 1 ∧ wr = w ∧ Aside (R = quo s g i))
 case atStart => exact ⟨1, rfl, by omega, by omega, rfl, hid (by rw [quo_more s s.size 1 (by omega)]; exact HR.out.symm)⟩
 case round =>
  obtain ⟨i, rfl, hig, hi1, rfl, hu⟩ := hrel
  by_cases h1 : ((i : Int) < s.size)
  ·have hi : i < s.size := by omega
   obtain ⟨g, rfl⟩ : ∃ g, gk = g + 1 := ⟨gk - 1, by omega⟩
   have hg := at_get s i hi
   obtain ⟨c, hc⟩ : ∃ c, at_ s i = c := ⟨_, rfl⟩
   rw [hc] at hg
   have hqu : R = if c = 92 then quo s g (i + 2) else if c = q then i + 1 else quo s g (i + 1) := by
    have := hu.out
    rw [quo, if_neg (by omega), hc, HQ.out] at this
    exact this
   clear hu hc
   by_cases h92 : c = 92
   ·subst h92
    rw [if_pos rfl] at hqu
    have HU := hid hqu
    clear hqu
    have hw1 : wrap64 ((i : Int) + 1) = ((i + 1 : Nat) : Int) := by unfold wrap64; omega
    have hw2 : wrap64 (((i + 1 : Nat) : Int) + 1) = ((i + 2 : Nat) : Int) := by unfold wrap64; omega
    go_wp2
    go_roundg g
    case measure => omega
    case rel => exact ⟨i + 2, by first | rfl | (simp; done) | (congr 1; omega), by omega, by omega, rfl, HU⟩
   ·rw [if_neg h92] at hqu
    have n92 : ¬ ((c.toNat : Int) = 92) := fun e => h92 ((u8i c 92).1 e)
    by_cases hcq : c = q
    ·rw [if_pos hcq] at hqu
     subst hcq
     subst hqu
     go_wp2
     go_ret
     exact ⟨by first | rfl | (simp; done), rfl⟩
    ·rw [if_neg hcq] at hqu
     have HU := hid hqu
     clear hqu
     have ncq : ¬ ((c.toNat : Int) = (q.toNat : Int)) := fun e => hcq ((u8i c q).1 e)
     go_wp2
     go_roundg g
     case measure => omega
     case rel => exact ⟨i + 1, by first | rfl | (simp; done) | (congr 1; omega), by omega, by omega, rfl, HU⟩
  ·have hu' : R = 0 := by
    have := hu.out
    cases gk with
    | zero => exact this
    | succ g => rw [quo, if_pos (by omega)] at this; exact this
   subst hu'
   go_wp2
   go_ret
   exact ⟨rfl, rfl⟩
end Go.Proofs.YtcbfbefpbjmglaaGreatDoorT
namespace Go.Proofs.YtcbfbefpbjmglaaGreatDoorT
open Go.RowKit Go.Lib
theorem below_new {w : World} (o : Obj) : Below w.heap.size w (w.alloc o) := (Below.refl _ w).alloc (Nat.le_refl _) o
set_option maxHeartbeats 1000000 in
theorem numeric_calls (s : ByteArray) (hs : s.size ≤ 9223372036854775807) (w : World) :
  Calls Tryz.prog 75 #[.string s] w fun e w' => e = .returned (.int .i64 (upto (onN s) s.size 0 : Nat)) ∧ Below w.heap.size w w' := by
 have hm := many_calls 96 w.heap.size s (onN s) hs (w.alloc (.cells #[.string s] 9)) (fun i => enters_of Tryz.func96 (by kernel_rfl) rfl _ _) (fun i hi => num_at s w.heap.size i hi hs _ (Boxed.new w 9 (.string s)).cell)
 have hB := below_new (w := w) (.cells #[.string s] 9)
 have hc := (Boxed.new w 9 (.string s)).cell
 obtain ⟨R, hR⟩ : ∃ R, upto (onN s) s.size 0 = R := ⟨_, rfl⟩
 rw [hR] at hm
 rw [hR]
 clear hR
 go_enter Tryz.func75, Tryz.ntmps75
 go_wp2_with (first | (go_at_call 71; refine hm.mono ?_; rintro e w' ⟨rfl, rfl⟩))
 go_ret
 exact ⟨rfl, hB⟩
set_option maxHeartbeats 1000000 in
theorem word_calls (s : ByteArray) (b : Nat) (hs : s.size ≤ 9223372036854775807) (w : World) (hb : w.cell? ⟨b, 0, none⟩ = some (.string s)) :
  Calls Tryz.prog 71 #[.string s, .func (.func 72) #[] #[.pointer (some ⟨b, 0, none⟩)]] w fun e w' => e = .returned (.int .i64 (upto (fun i => isW (at_ s i)) s.size 0 : Nat)) ∧ w' = w :=
 many_calls 72 b s _ hs w (fun i => enters_of Tryz.func72 (by kernel_rfl) rfl _ _) (fun i hi => word_at s b i hi hs w hb)
def sgs : List (List UInt8) := [[46, 46, 46], [60, 60, 61], [62, 62, 61], [45, 62], [43, 43], [45, 45], [60, 60], [62, 62], [60, 61], [62, 61], [61, 61], [33, 61], [38, 38], [124, 124], [42, 61], [47, 61], [37, 61], [43, 61], [45, 61], [38, 61], [94, 61], [124, 61], [35, 35], [91], [93], [40], [41], [123], [125], [46], [38], [42], [43], [45], [126], [33], [47], [37], [60], [62], [94], [124], [63], [58], [59], [61], [44], [35]]
def sgv : Array Value := (sgs.map fun l => Value.string ⟨l.toArray⟩).toArray
def Tab (w : World) : Prop := (∃ t fr, w.heap[0]? = some (.cells sgv t fr)) ∧ ∃ m, w.cell? ⟨1, 0, none⟩ = some (.int .i64 m)
theorem cell_in {w : World} {p : Addr} {v : Value} (h : w.cell? p = some v) : p.block < w.heap.size := by
 rcases Nat.lt_or_ge p.block w.heap.size with h1 | h1
 ·exact h1
 ·unfold World.cell? at h; rw [Array.getElem?_eq_none h1] at h; cases h
theorem Tab.below {w w' : World} (h : Tab w) {B : Nat} (hB : 2 ≤ B) (hb : Below B w w') : Tab w' := by
 obtain ⟨⟨t, fr, h1⟩, m, h2⟩ := h
 exact ⟨⟨t, fr, (hb.block 0 (by omega)).trans h1⟩, m, (hb.cell (p := ⟨1, 0, none⟩) (by show 1 < B; omega)).trans h2⟩
theorem Tab.two {w : World} (h : Tab w) : 2 ≤ w.heap.size := by
 obtain ⟨_, m, h2⟩ := h
 have := cell_in h2
 exact this
theorem Tab.grow {w w' : World} (h : Tab w) (hb : Below w.heap.size w w') : Tab w' := h.below h.two hb
theorem sgv_get (i : Nat) (h : i < 48) : sgv[i]? = some (.string ⟨(sgs.getD i []).toArray⟩) := by
 have hl : sgs.length = 48 := rfl
 unfold sgv
 rw [List.getElem?_toArray, List.getElem?_map, List.getElem?_eq_getElem (by omega), List.getD_eq_getElem?_getD, List.getElem?_eq_getElem (by omega)]
 rfl
theorem index_tab (tt : Array Value) (i : Nat) (hi : i < 48) (v : Value) (h : tt[i]? = some v) (W : World) : (Instr.index 125 (.agg tt) (.int .i64 (i : Int))).run Tryz.prog W = .ok v W := by
 simp [Instr.index, go_sem, part, Tryz.isAgg9, Tryz.sizeOf9, h]
 intro h1
 omega
def sgn (l : List UInt8) (t : List (List UInt8)) : Nat × Nat := match t.find? (fun x => Lib.hasPrefix l x) with | some x => (5, x.length) | none => (6, 1)
def nextP (s : ByteArray) : Nat × Nat :=
 if isL (at_ s 0) then (1, upto (fun i => isW (at_ s i)) s.size 0)
 else if isD (at_ s 0) || (at_ s 0 == 46 && (decide (1 < s.size) && isD (at_ s 1))) then (2, upto (onN s) s.size 0)
 else if at_ s 0 = 34 then (4, quo s s.size 1)
 else if at_ s 0 = 39 then (3, if quo s s.size 1 = 2 then 0 else quo s s.size 1)
 else sgn s.data.toList sgs
theorem sgn_step (l : List UInt8) (i : Nat) (h : i < 48) : sgn l (sgs.drop i) = if Lib.hasPrefix l (sgs.getD i []) then (5, (sgs.getD i []).length) else sgn l (sgs.drop (i + 1)) := by
 have hl : sgs.length = 48 := rfl
 rw [List.drop_eq_getElem_cons (by omega), List.getD_eq_getElem?_getD, List.getElem?_eq_getElem (by omega)]
 unfold sgn
 rw [List.find?_cons]
 simp only [Option.getD_some]
 cases Lib.hasPrefix l sgs[i] <;> rfl
set_option maxHeartbeats 4000000 in
theorem next_sign (s : ByteArray) (hs : s.size < 9223372036854775806) (h0 : 0 < s.size) (c : UInt8) (hc : at_ s 0 = c) (h : isL c = false) (h' : isD c = false)
 (n46 : c = 46 → ∀ h : 1 < s.size, isD (s[1]'h) = false) (n34 : ¬ ((c.toNat : Int) = 34)) (n39 : ¬ ((c.toNat : Int) = 39)) (w : World) (hT : Tab w) (R : Nat × Nat) (HR : Aside (sgn s.data.toList sgs = R)) :
  Calls Tryz.prog 56 #[.string s] w fun e w' => e = .returned (.tuple #[.int .i64 (R.1 : Nat), .int .i64 (R.2 : Nat)]) ∧ Below w.heap.size w w' := by
 have hL := isLetter_calls c
 have hD := isDigit_calls c
 rw [h] at hL
 rw [h'] at hD
 have hg := at_get s 0 h0
 rw [hc] at hg
 clear hc
 have hb := (Boxed.new w 9 (.string s)).cell
 have hB := below_new (w := w) (.cells #[.string s] 9)
 obtain ⟨⟨ht, fr, hT0⟩, -⟩ := hT.grow hB
 have hTs : sgv.size = 48 := by unfold sgv; rw [List.size_toArray, List.length_map]; rfl
 have hTg := sgv_get
 obtain ⟨tt, htt⟩ : ∃ tt, sgv = tt := ⟨_, rfl⟩
 rw [htt] at hT0 hTs hTg
 clear htt
 have hP := Tryz.strings_HasPrefix s
 have HTG := hid hTg
 clear hTg
 have hinf : (Tryz.prog.info? 125).map (·.size) = some tt.size := by rw [hTs]; kernel_rfl
 have b46 : ∀ W : World, (c.toNat : Int) = 46 → ∀ h : 1 < s.size, Calls Tryz.prog 74 #[.int .u8 ((s[1]'h).toNat : Int)] W fun e w' => e = .returned (.bool false) ∧ w' = W := fun W e h => by
  have := isDigit_calls (s[1]'h) W
  rwa [n46 ((u8i c 46).1 e) h] at this
 clear n46
 go_enter Tryz.func56, Tryz.ntmps56
 have HB := hid hB
 clear hB
 by_cases e46 : (c.toNat : Int) = 46
 ·have b46' := fun W => b46 W e46
  clear b46
  obtain rfl := (u8i c 46).1 e46
  by_cases h1 : (s.size : Int) > 1
  ·have h1' : 1 < s.size := by omega
   have b46 := fun W => b46' W h1'
   clear b46'
   go_wp2_with (first | (go_at_call 70; refine (hL _).mono ?_; rintro e w' ⟨rfl, rfl⟩) | (go_at_call 74; refine (hD _).mono ?_; rintro e w' ⟨rfl, rfl⟩) | (go_at_call 74; refine (b46 _).mono ?_; rintro e w' ⟨rfl, rfl⟩) | (refine wpList_load_row rfl 125 _ rfl 0 rfl ht _ fr _ hT0 Tryz.underlying125 rfl hinf ?_))
   go_loopg [49] 48 (fun g p wr => ∃ i : Nat, i + g = 48 ∧ p = .int .i64 (i : Int) ∧ wr = w.alloc (.cells #[.string s] 9) ∧ Aside (R = sgn s.data.toList (sgs.drop i)))
   case atStart => exact ⟨0, rfl, rfl, rfl, hid HR.out.symm⟩
   case round =>
    obtain ⟨i, hig, rfl, rfl, hu⟩ := hrel
    cases gk with
    | zero =>
     obtain rfl : i = 48 := by omega
     have hu' : R = (6, 1) := hu.out
     have HU := hid hu'
     clear hu hu'
     go_wp2
     go_ret2
     rw [HU.out]
     exact ⟨rfl, HB.out⟩
    | succ g =>
     have hi : i < 48 := by omega
     have hti := index_tab tt i hi _ (HTG.out i hi)
     obtain ⟨x, hx⟩ : ∃ x : List UInt8, sgs.getD i [] = x := ⟨_, rfl⟩
     rw [hx] at hti
     have hPx := hP ⟨x.toArray⟩
     have hxd : (⟨x.toArray⟩ : ByteArray).data.toList = x := rfl
     rw [hxd] at hPx
     have hst := hu.out
     rw [sgn_step _ _ hi, hx] at hst
     have hxs : (⟨x.toArray⟩ : ByteArray).size = x.length := rfl
     clear hu hxd hx
     cases hh : Lib.hasPrefix s.data.toList x with
     | true =>
      rw [hh] at hst hPx
      have HU : Aside (R = (5, x.length)) := hid hst
      clear hst
      go_wp2_with (first | (go_at_call 68; refine (hPx _).mono ?_; rintro e w' ⟨rfl, rfl⟩))
      go_ret2
      rw [HU.out]
      exact ⟨rfl, HB.out⟩
     | false =>
      rw [hh] at hst hPx
      have HU : Aside (R = sgn s.data.toList (sgs.drop (i + 1))) := hid hst
      clear hst
      have hwr : wrap64 ((i : Int) + 1) = ((i + 1 : Nat) : Int) := by unfold wrap64; omega
      go_wp2_with (first | (go_at_call 68; refine (hPx _).mono ?_; rintro e w' ⟨rfl, rfl⟩))
      go_roundg g
      case measure => omega
      case rel => exact ⟨i + 1, by omega, by first | rfl | (simp; done), rfl, HU⟩
  ·clear b46'
   go_wp2_with (first | (go_at_call 70; refine (hL _).mono ?_; rintro e w' ⟨rfl, rfl⟩) | (go_at_call 74; refine (hD _).mono ?_; rintro e w' ⟨rfl, rfl⟩) | (refine wpList_load_row rfl 125 _ rfl 0 rfl ht _ fr _ hT0 Tryz.underlying125 rfl hinf ?_))
   go_loopg [49] 48 (fun g p wr => ∃ i : Nat, i + g = 48 ∧ p = .int .i64 (i : Int) ∧ wr = w.alloc (.cells #[.string s] 9) ∧ Aside (R = sgn s.data.toList (sgs.drop i)))
   case atStart => exact ⟨0, rfl, rfl, rfl, hid HR.out.symm⟩
   case round =>
    obtain ⟨i, hig, rfl, rfl, hu⟩ := hrel
    cases gk with
    | zero =>
     obtain rfl : i = 48 := by omega
     have hu' : R = (6, 1) := hu.out
     have HU := hid hu'
     clear hu hu'
     go_wp2
     go_ret2
     rw [HU.out]
     exact ⟨rfl, HB.out⟩
    | succ g =>
     have hi : i < 48 := by omega
     have hti := index_tab tt i hi _ (HTG.out i hi)
     obtain ⟨x, hx⟩ : ∃ x : List UInt8, sgs.getD i [] = x := ⟨_, rfl⟩
     rw [hx] at hti
     have hPx := hP ⟨x.toArray⟩
     have hxd : (⟨x.toArray⟩ : ByteArray).data.toList = x := rfl
     rw [hxd] at hPx
     have hst := hu.out
     rw [sgn_step _ _ hi, hx] at hst
     have hxs : (⟨x.toArray⟩ : ByteArray).size = x.length := rfl
     clear hu hxd hx
     cases hh : Lib.hasPrefix s.data.toList x with
     | true =>
      rw [hh] at hst hPx
      have HU : Aside (R = (5, x.length)) := hid hst
      clear hst
      go_wp2_with (first | (go_at_call 68; refine (hPx _).mono ?_; rintro e w' ⟨rfl, rfl⟩))
      go_ret2
      rw [HU.out]
      exact ⟨rfl, HB.out⟩
     | false =>
      rw [hh] at hst hPx
      have HU : Aside (R = sgn s.data.toList (sgs.drop (i + 1))) := hid hst
      clear hst
      have hwr : wrap64 ((i : Int) + 1) = ((i + 1 : Nat) : Int) := by unfold wrap64; omega
      go_wp2_with (first | (go_at_call 68; refine (hPx _).mono ?_; rintro e w' ⟨rfl, rfl⟩))
      go_roundg g
      case measure => omega
      case rel => exact ⟨i + 1, by omega, by first | rfl | (simp; done), rfl, HU⟩
 ·clear b46
  go_wp2_with (first | (go_at_call 70; refine (hL _).mono ?_; rintro e w' ⟨rfl, rfl⟩) | (go_at_call 74; refine (hD _).mono ?_; rintro e w' ⟨rfl, rfl⟩) | (refine wpList_load_row rfl 125 _ rfl 0 rfl ht _ fr _ hT0 Tryz.underlying125 rfl hinf ?_))
  go_loopg [49] 48 (fun g p wr => ∃ i : Nat, i + g = 48 ∧ p = .int .i64 (i : Int) ∧ wr = w.alloc (.cells #[.string s] 9) ∧ Aside (R = sgn s.data.toList (sgs.drop i)))
  case atStart => exact ⟨0, rfl, rfl, rfl, hid HR.out.symm⟩
  case round =>
   obtain ⟨i, hig, rfl, rfl, hu⟩ := hrel
   cases gk with
   | zero =>
    obtain rfl : i = 48 := by omega
    have hu' : R = (6, 1) := hu.out
    have HU := hid hu'
    clear hu hu'
    go_wp2
    go_ret2
    rw [HU.out]
    exact ⟨rfl, HB.out⟩
   | succ g =>
    have hi : i < 48 := by omega
    have hti := index_tab tt i hi _ (HTG.out i hi)
    obtain ⟨x, hx⟩ : ∃ x : List UInt8, sgs.getD i [] = x := ⟨_, rfl⟩
    rw [hx] at hti
    have hPx := hP ⟨x.toArray⟩
    have hxd : (⟨x.toArray⟩ : ByteArray).data.toList = x := rfl
    rw [hxd] at hPx
    have hst := hu.out
    rw [sgn_step _ _ hi, hx] at hst
    have hxs : (⟨x.toArray⟩ : ByteArray).size = x.length := rfl
    clear hu hxd hx
    cases hh : Lib.hasPrefix s.data.toList x with
    | true =>
     rw [hh] at hst hPx
     have HU : Aside (R = (5, x.length)) := hid hst
     clear hst
     go_wp2_with (first | (go_at_call 68; refine (hPx _).mono ?_; rintro e w' ⟨rfl, rfl⟩))
     go_ret2
     rw [HU.out]
     exact ⟨rfl, HB.out⟩
    | false =>
     rw [hh] at hst hPx
     have HU : Aside (R = sgn s.data.toList (sgs.drop (i + 1))) := hid hst
     clear hst
     have hwr : wrap64 ((i : Int) + 1) = ((i + 1 : Nat) : Int) := by unfold wrap64; omega
     go_wp2_with (first | (go_at_call 68; refine (hPx _).mono ?_; rintro e w' ⟨rfl, rfl⟩))
     go_roundg g
     case measure => omega
     case rel => exact ⟨i + 1, by omega, by first | rfl | (simp; done), rfl, HU⟩
end Go.Proofs.YtcbfbefpbjmglaaGreatDoorT
namespace Go.Proofs.YtcbfbefpbjmglaaGreatDoorT
open Go.RowKit Go.Lib
def memS (l : List UInt8) (t : List (List UInt8)) : Bool := t.any (fun x => decide (x = l))
end Go.Proofs.YtcbfbefpbjmglaaGreatDoorT
namespace Go.Proofs.YtcbfbefpbjmglaaGreatDoorT
open Go.RowKit Go.Lib
set_option maxHeartbeats 4000000 in
theorem next_calls (s : ByteArray) (hs : s.size < 9223372036854775806) (h0 : 0 < s.size) (w : World) (hT : Tab w) :
  Calls Tryz.prog 56 #[.string s] w fun e w' => e = .returned (.tuple #[.int .i64 ((nextP s).1 : Nat), .int .i64 ((nextP s).2 : Nat)]) ∧ Below w.heap.size w w' := by
 obtain ⟨R, hR⟩ : ∃ R, nextP s = R := ⟨_, rfl⟩
 rw [hR]
 have hg := at_get s 0 h0
 unfold nextP at hR
 obtain ⟨c, hc⟩ : ∃ c, at_ s 0 = c := ⟨_, rfl⟩
 rw [hc] at hR hg
 have hL := isLetter_calls c
 have hD := isDigit_calls c
 have hb := (Boxed.new w 9 (.string s)).cell
 have hB := below_new (w := w) (.cells #[.string s] 9)
 by_cases hl : isL c = true
 ·rw [if_pos hl] at hR
  rw [hl] at hL
  have hm := word_calls s w.heap.size (by omega) _ hb
  obtain ⟨N, hN⟩ : ∃ N, upto (fun i => isW (at_ s i)) s.size 0 = N := ⟨_, rfl⟩
  rw [hN] at hm hR
  subst hR
  clear hN hl
  go_enter Tryz.func56, Tryz.ntmps56
  go_wp2_with (first | (go_at_call 70; refine (hL _).mono ?_; rintro e w' ⟨rfl, rfl⟩) | (go_at_call 71; refine hm.mono ?_; rintro e w' ⟨rfl, rfl⟩))
  go_ret2
  exact ⟨rfl, hB⟩
 ·have hl : isL c = false := by simpa using hl
  rw [if_neg (by rw [hl]; decide)] at hR
  rw [hl] at hL
  have hnum : ∀ W : World, Below w.heap.size w W → Calls Tryz.prog 75 #[.string s] W fun e w' => e = .returned (.int .i64 (upto (onN s) s.size 0 : Nat)) ∧ Below w.heap.size w w' := fun W h => (numeric_calls s (by omega) W).mono fun e w' q => ⟨q.1, h.trans (q.2.mono h.size)⟩
  have hn := hnum _ hB
  clear hnum
  obtain ⟨N, hN⟩ : ∃ N, upto (onN s) s.size 0 = N := ⟨_, rfl⟩
  rw [hN] at hn hR
  clear hN
  by_cases hd : isD c = true
  ·rw [if_pos (by rw [hd]; rfl)] at hR
   rw [hd] at hD
   subst hR
   go_enter Tryz.func56, Tryz.ntmps56
   go_wp2_with (first | (go_at_call 70; refine (hL _).mono ?_; rintro e w' ⟨rfl, rfl⟩) | (go_at_call 74; refine (hD _).mono ?_; rintro e w' ⟨rfl, rfl⟩) | (go_at_call 75; refine hn.mono ?_; rintro e w' ⟨rfl, hB2⟩))
   go_ret2
   exact ⟨rfl, hB2⟩
  ·have hd : isD c = false := by simpa using hd
   rw [hd, Bool.false_or] at hR
   have hD' := hD
   rw [hd] at hD
   by_cases hdot : c = 46 ∧ 1 < s.size ∧ isD (at_ s 1) = true
   ·obtain ⟨rfl, h1, h2⟩ := hdot
    have hg1 := at_get s 1 h1
    obtain ⟨d, hd1⟩ : ∃ d, at_ s 1 = d := ⟨_, rfl⟩
    rw [hd1] at hg1 h2 hR
    have hD1 := isDigit_calls d
    rw [h2] at hD1
    rw [h2, if_pos (by simpa using h1)] at hR
    subst hR
    clear hd1 hD' hc
    have h1' : (s.size : Int) > 1 := by omega
    go_enter Tryz.func56, Tryz.ntmps56
    go_wp2_with (first | (go_at_call 70; refine (hL _).mono ?_; rintro e w' ⟨rfl, rfl⟩) | (go_at_call 74; refine (hD _).mono ?_; rintro e w' ⟨rfl, rfl⟩) | (go_at_call 74; refine (hD1 _).mono ?_; rintro e w' ⟨rfl, rfl⟩) | (go_at_call 75; refine hn.mono ?_; rintro e w' ⟨rfl, hB2⟩))
    go_ret2
    exact ⟨rfl, hB2⟩
   ·have hcond : ¬ ((c == 46 && (decide (1 < s.size) && isD (at_ s 1))) = true) := by
     simpa [Bool.and_eq_true, beq_iff_eq, decide_eq_true_eq] using hdot
    rw [if_neg hcond] at hR
    clear hcond
    have n46 : c = 46 → ∀ h : 1 < s.size, isD (s[1]'h) = false := fun h46 h1 => by
     rw [at_get s 1 h1]
     cases hh : isD (at_ s 1) with
     | false => rfl
     | true => exact absurd ⟨h46, h1, hh⟩ hdot
    clear hdot
    by_cases h34 : c = 34
    ·rw [if_pos h34] at hR
     have hq := quoted_calls s h0 (by omega)
     obtain ⟨q, hqq⟩ : ∃ q, quo s s.size 1 = q := ⟨_, rfl⟩
     rw [hqq] at hq hR
     subst hR h34
     clear hqq hc n46 hD' hl hd
     go_enter Tryz.func56, Tryz.ntmps56
     go_wp2_with (first | (go_at_call 70; refine (hL _).mono ?_; rintro e w' ⟨rfl, rfl⟩) | (go_at_call 74; refine (hD _).mono ?_; rintro e w' ⟨rfl, rfl⟩) | (go_at_call 76; refine (hq _).mono ?_; rintro e w' ⟨rfl, rfl⟩))
     go_ret2
     exact ⟨rfl, hB⟩
    ·rw [if_neg h34] at hR
     by_cases h39 : c = 39
     ·rw [if_pos h39] at hR
      have hq := quoted_calls s h0 (by omega)
      have hql := quo_le s s.size 1
      obtain ⟨q, hqq⟩ : ∃ q, quo s s.size 1 = q := ⟨_, rfl⟩
      rw [hqq] at hq hR hql
      subst hR h39
      clear hqq hc n46 hD' hl hd
      by_cases h2 : q = 2
      ·subst h2
       rw [if_pos rfl]
       go_enter Tryz.func56, Tryz.ntmps56
       go_wp2_with (first | (go_at_call 70; refine (hL _).mono ?_; rintro e w' ⟨rfl, rfl⟩) | (go_at_call 74; refine (hD _).mono ?_; rintro e w' ⟨rfl, rfl⟩) | (go_at_call 76; refine (hq _).mono ?_; rintro e w' ⟨rfl, rfl⟩))
       go_ret2
       exact ⟨rfl, hB⟩
      ·rw [if_neg h2]
       have h2' : ¬ ((q : Int) = 2) := by omega
       go_enter Tryz.func56, Tryz.ntmps56
       go_wp2_with (first | (go_at_call 70; refine (hL _).mono ?_; rintro e w' ⟨rfl, rfl⟩) | (go_at_call 74; refine (hD _).mono ?_; rintro e w' ⟨rfl, rfl⟩) | (go_at_call 76; refine (hq _).mono ?_; rintro e w' ⟨rfl, rfl⟩))
       go_ret2
       exact ⟨rfl, hB⟩
     ·rw [if_neg h39] at hR
      exact next_sign s hs h0 c hc hl hd n46 (fun e => h34 ((u8i c 34).1 e)) (fun e => h39 ((u8i c 39).1 e)) w hT R (hid hR)
end Go.Proofs.YtcbfbefpbjmglaaGreatDoorT
namespace Go.Proofs.YtcbfbefpbjmglaaGreatDoorT
open Go.RowKit Go.Lib
structure St where
 op : Bool
 fr : Int
 sp : Bool
 fs : Bool
def XAt (W : World) (X : Nat) (st : St) : Prop := W.heap[X]? = some (.cells #[.bool st.op, .int .i64 st.fr, .bool st.sp, .bool st.fs] 82 (0, 0))
theorem XAt.lt {W : World} {X : Nat} {st : St} (h : XAt W X st) : X < W.heap.size := (Array.getElem?_eq_some_iff.1 h).1
theorem XAt.c0 {W : World} {X : Nat} {st : St} (h : XAt W X st) : W.cell? ⟨X, 0, none⟩ = some (.bool st.op) := by simp [World.cell?, show W.heap[X]? = _ from h]
theorem XAt.c1 {W : World} {X : Nat} {st : St} (h : XAt W X st) : W.cell? ⟨X, 1, none⟩ = some (.int .i64 st.fr) := by simp [World.cell?, show W.heap[X]? = _ from h]
theorem XAt.c2 {W : World} {X : Nat} {st : St} (h : XAt W X st) : W.cell? ⟨X, 2, none⟩ = some (.bool st.sp) := by simp [World.cell?, show W.heap[X]? = _ from h]
theorem XAt.c3 {W : World} {X : Nat} {st : St} (h : XAt W X st) : W.cell? ⟨X, 3, none⟩ = some (.bool st.fs) := by simp [World.cell?, show W.heap[X]? = _ from h]
theorem XAt.fz {W : World} {X : Nat} {st : St} (h : XAt W X st) (i : Nat) : W.frozen? ⟨X, i, none⟩ = false := by simp [World.frozen?, show W.heap[X]? = _ from h]
theorem heap_setCell_same {W : World} {X i : Nat} {v : Value} {c : Array Value} {t : TypeId} {fr : Nat × Nat} (h : W.heap[X]? = some (.cells c t fr)) : (W.setCell ⟨X, i, none⟩ v).heap[X]? = some (.cells (c.setIfInBounds i v) t fr) := by
 obtain ⟨hlt, he⟩ := Array.getElem?_eq_some_iff.1 h
 unfold World.setCell
 rw [Array.getElem?_eq_some_iff]
 refine ⟨by simpa using hlt, ?_⟩
 simp [Array.getElem_modify, he]
theorem XAt.s0 {W : World} {X : Nat} {st : St} (h : XAt W X st) (b : Bool) : XAt (W.setCell ⟨X, 0, none⟩ (.bool b)) X { st with op := b } := heap_setCell_same h
theorem XAt.s1 {W : World} {X : Nat} {st : St} (h : XAt W X st) (b : Int) : XAt (W.setCell ⟨X, 1, none⟩ (.int .i64 b)) X { st with fr := b } := heap_setCell_same h
theorem XAt.s2 {W : World} {X : Nat} {st : St} (h : XAt W X st) (b : Bool) : XAt (W.setCell ⟨X, 2, none⟩ (.bool b)) X { st with sp := b } := heap_setCell_same h
theorem XAt.s3 {W : World} {X : Nat} {st : St} (h : XAt W X st) (b : Bool) : XAt (W.setCell ⟨X, 3, none⟩ (.bool b)) X { st with fs := b } := heap_setCell_same h
structure Stir (X : Nat) (w w' : World) : Prop where
 os : w'.os = w.os
 tape : w'.tape = w.tape
 output : w'.output = w.output
 size : w.heap.size ≤ w'.heap.size
 block : ∀ k, k < w.heap.size → k ≠ X → w'.heap[k]? = w.heap[k]?
 kx : ∀ c t fr, w.heap[X]? = some (.cells c t fr) → ∃ c', w'.heap[X]? = some (.cells c' t fr)
theorem Stir.refl (X : Nat) (w : World) : Stir X w w := ⟨rfl, rfl, rfl, Nat.le_refl _, fun _ _ _ => rfl, fun c _ _ h => ⟨c, h⟩⟩
theorem Stir.trans {X : Nat} {a b c : World} (h : Stir X a b) (k : Stir X b c) : Stir X a c :=
 ⟨k.os.trans h.os, k.tape.trans h.tape, k.output.trans h.output, Nat.le_trans h.size k.size, fun i hi hn => (k.block i (Nat.lt_of_lt_of_le hi h.size) hn).trans (h.block i hi hn),
   fun c t fr hc => by obtain ⟨c1, h1⟩ := h.kx c t fr hc; exact k.kx c1 t fr h1⟩
theorem Stir.of {X : Nat} {w w' : World} (h : Below w.heap.size w w') : Stir X w w' := ⟨h.os, h.tape, h.output, h.size, fun k hk _ => h.block k hk, fun c t fr hc => ⟨c, (h.block X (Array.getElem?_eq_some_iff.1 hc).1).trans hc⟩⟩
theorem Stir.grow {X : Nat} {w A B : World} (h : Stir X w A) (k : Below A.heap.size A B) : Stir X w B := h.trans (.of k)
theorem Stir.drewN {X : Nat} {w A : World} (h : Stir X w A) (n : Nat) : Stir X w (A.drewN n) := ⟨h.os, h.tape, h.output, h.size, h.block, h.kx⟩
theorem size_setCell (w : World) (a : Addr) (v : Value) : (w.setCell a v).heap.size = w.heap.size := by simp [World.setCell]
theorem Stir.set {X : Nat} {w A : World} (h : Stir X w A) (i : Nat) (v : Value) : Stir X w (A.setCell ⟨X, i, none⟩ v) :=
 ⟨h.os, h.tape, h.output, by rw [size_setCell]; exact h.size, fun k hk hn => (Below.heap_setCell A ⟨X, i, none⟩ v k hn).trans (h.block k hk hn),
   fun c t fr hc => by obtain ⟨c1, h1⟩ := h.kx c t fr hc; exact ⟨_, heap_setCell_same h1⟩⟩
theorem Stir.below {X B : Nat} {w w' : World} (h : Stir X w w') (hX : B ≤ X) (hB : B ≤ w.heap.size) : Below B w w' := ⟨h.os, h.tape, h.output, h.size, fun k hk => h.block k (by omega) (by omega)⟩
theorem Tab.stir {X : Nat} {w w' : World} (h : Tab w) (hX : 2 ≤ X) (hs : Stir X w w') : Tab w' := h.below (B := 2) (Nat.le_refl 2) (hs.below hX h.two)
theorem XAt.grow {X : Nat} {w w' : World} {st : St} (h : XAt w X st) (hb : Below w.heap.size w w') : XAt w' X st := (hb.block X h.lt).trans h
def isB (c : UInt8) : Bool := c == 32 || c == 9 || c == 11 || c == 12
def skipP (line : Int) : Nat → List UInt8 → St → List UInt8 × St
 | 0, _, st => ([], st)
 | k + 1, l, st =>
  if l = [] then ([], st)
  else if st.op then skipP line k (Lib.cut l [42, 47]).2.1 { st with sp := true, op := !(Lib.cut l [42, 47]).2.2 }
  else if Lib.hasPrefix l [47, 47] then ([], st)
  else if Lib.hasPrefix l [47, 42] then skipP line k (l.drop 2) { st with op := true, fr := line }
  else if isB (l.headD 0) then skipP line k (l.drop 1) { st with sp := true }
  else (l, st)
theorem cut_lt {l : List UInt8} (h : l ≠ []) : (Lib.cut l [42, 47]).2.1.length < l.length := by
 have hl : 0 < l.length := List.length_pos_iff.2 h
 unfold Lib.cut
 split
 ·simp only [List.length_drop, List.length_cons, List.length_nil]; omega
 ·simpa using hl
def bstr (l : List UInt8) : ByteArray := ⟨l.toArray⟩
theorem bstr_size (l : List UInt8) : (bstr l).size = l.length := by rw [Lib.size_eq]; rfl
theorem ixB (c : UInt8) : (0 ≤ Lib.indexByte [32, 9, 11, 12] c) ↔ isB c = true := by
 unfold isB
 simp only [Lib.indexByte, Bool.or_eq_true, beq_iff_eq]
 repeat' split
 all_goals simp_all [eq_comm]
theorem at_head (l : List UInt8) : at_ (bstr l) 0 = l.headD 0 := by cases l <;> rfl
theorem hasPrefix_len {l p : List UInt8} (h : Lib.hasPrefix l p = true) : p.length ≤ l.length := by
 induction p generalizing l with
 | nil => exact Nat.zero_le _
 | cons a p ih =>
  cases l with
  | nil => simp [Lib.hasPrefix] at h
  | cons b l =>
   have := ih (l := l) (by simp [Lib.hasPrefix] at h ⊢; exact h.2)
   simp only [List.length_cons]; omega
theorem bext (l : List UInt8) (i : Nat) : (bstr l).extract i (bstr l).size = bstr (l.drop i) := by
 apply ByteArray.ext; apply Array.ext'; simp [bstr, ByteArray.size]
 exact List.take_of_length_le (by simp)
theorem bempty (l : List UInt8) : (bstr l).toList.isEmpty = l.isEmpty := by rw [Lib.toList_data]; rfl
theorem skip_calls (X : Nat) (hX : 2 ≤ X) (l : List UInt8) (hs : l.length < 4294967281) (line : Int) (st : St) (w : World) (hT : Tab w) (hx : XAt w X st) :
  Calls Tryz.prog 55 #[.pointer (some ⟨X, 0, none⟩), .string (bstr l), .int .i64 line] w fun e w' => e = .returned (.string (bstr (skipP line (l.length + 1) l st).1)) ∧ XAt w' X (skipP line (l.length + 1) l st).2 ∧ Stir X w w' := by
 obtain ⟨R, hR⟩ : ∃ R, skipP line (l.length + 1) l st = R := ⟨_, rfl⟩
 have HR := hid hR
 rw [hR]
 clear hR
 go_enter Tryz.func55, Tryz.ntmps55
 go_wp2
 go_loopg [1] (l.length + 1) (fun g p wr => ∃ (m : List UInt8) (s1 : St), p = .string (bstr m) ∧ XAt wr X s1 ∧ Stir X w wr ∧ m.length < g ∧ m.length ≤ l.length ∧ Aside (R = skipP line g m s1))
 case atStart => exact ⟨l, st, rfl, hx, Stir.refl _ _, by omega, Nat.le_refl _, hid HR.out.symm⟩
 case round =>
  obtain ⟨m, s1, rfl, hx1, hS, hmg, hml, hu⟩ := hrel
  obtain ⟨g, rfl⟩ : ∃ g, gk = g + 1 := ⟨gk - 1, by omega⟩
  clear hx
  have h0 := hx1.c0
  have h1 := hx1.c1
  have h2 := hx1.c2
  have h3 := hx1.c3
  have hf := hx1.fz
  have hcut := Tryz.strings_Cut (bstr m) ⟨#[42, 47]⟩
  by_cases hn : m = []
  ·subst hn
   have hu' : R = ([], s1) := hu.out
   have HU := hid hu'
   clear hu hu'
   have hem : (bstr []).toList.isEmpty = true := bempty []
   go_wp2
   go_ret
   rw [HU.out]
   exact ⟨rfl, hx1, hS⟩
  ·have hue : R = if s1.op then skipP line g (Lib.cut m [42, 47]).2.1 { s1 with sp := true, op := !(Lib.cut m [42, 47]).2.2 }
     else if Lib.hasPrefix m [47, 47] then ([], s1)
     else if Lib.hasPrefix m [47, 42] then skipP line g (m.drop 2) { s1 with op := true, fr := line }
     else if isB (m.headD 0) then skipP line g (m.drop 1) { s1 with sp := true }
     else (m, s1) := by
    have := hu.out
    rw [skipP, if_neg hn] at this
    exact this
   clear hu
   have hem : (bstr m).toList.isEmpty = false := by rw [bempty m]; cases m with
    | nil => exact absurd rfl hn
    | cons _ _ => rfl
   by_cases hop : s1.op = true
   ·rw [if_pos hop] at hue
    obtain ⟨_, mx, hmx⟩ := hT.stir hX hS
    have hc := hcut mx wr (by rw [bstr_size]; omega) hmx
    have hlt := cut_lt hn
    rw [show (bstr m).data.toList = m from rfl, show (⟨#[42, 47]⟩ : ByteArray).data.toList = [42, 47] from rfl] at hc
    obtain ⟨C, hC⟩ : ∃ C, Lib.cut m [42, 47] = C := ⟨_, rfl⟩
    rw [hC] at hc hlt hue
    obtain ⟨c1, c2, c3⟩ := C
    simp only at hc hlt hue
    rw [hop] at h0
    clear hC hcut
    cases c3 with
    | true =>
     have HU := hid hue
     clear hue
     go_wp2_with (first | (go_at_call 67; refine hc.mono ?_; rintro e w' ⟨rfl, n, rfl⟩))
     go_roundg g
     case measure => omega
     case rel => exact ⟨c2, _, rfl, (show XAt (wr.drewN n) X s1 from hx1).s2 true |>.s0 false, ((hS.drewN n).set 2 _).set 0 _, by omega, by omega, HU⟩
    | false =>
     have HU := hid hue
     clear hue
     go_wp2_with (first | (go_at_call 67; refine hc.mono ?_; rintro e w' ⟨rfl, n, rfl⟩))
     go_roundg g
     case measure => omega
     case rel => 
      have hx2 := (show XAt (wr.drewN n) X s1 from hx1).s2 true
      exact ⟨c2, { s1 with sp := true, op := !false }, rfl, by rw [show (!false) = s1.op by rw [hop]; rfl]; exact hx2, (hS.drewN n).set 2 _, by omega, by omega, HU⟩
   ·have hop : s1.op = false := by simpa using hop
    rw [hop, if_neg (by decide)] at hue
    rw [hop] at h0
    clear hcut
    have hp1 := Tryz.strings_HasPrefix (bstr m) ⟨#[47, 47]⟩
    have hp2 := Tryz.strings_HasPrefix (bstr m) ⟨#[47, 42]⟩
    rw [show (bstr m).data.toList = m from rfl, show (⟨#[47, 47]⟩ : ByteArray).data.toList = [47, 47] from rfl] at hp1
    rw [show (bstr m).data.toList = m from rfl, show (⟨#[47, 42]⟩ : ByteArray).data.toList = [47, 42] from rfl] at hp2
    cases hA : Lib.hasPrefix m [47, 47] with
    | true =>
     rw [hA, if_pos rfl] at hue
     rw [hA] at hp1
     have HU := hid hue
     clear hue
     go_wp2_with (first | (go_at_call 68; refine (hp1 _).mono ?_; rintro e w' ⟨rfl, rfl⟩))
     go_ret
     rw [HU.out]
     exact ⟨rfl, hx1, hS⟩
    | false =>
     rw [hA, if_neg (by decide)] at hue
     rw [hA] at hp1
     clear hA
     cases hA : Lib.hasPrefix m [47, 42] with
     | true =>
      rw [hA, if_pos rfl] at hue
      rw [hA] at hp2
      have hml2 : 2 ≤ m.length := hasPrefix_len hA
      have hms : 2 ≤ (bstr m).size := by rw [bstr_size]; exact hml2
      have hbe := bext m 2
      have hdl : (m.drop 2).length < m.length := by simp only [List.length_drop]; omega
      clear hA
      have HU := hid hue
      clear hue
      have hms' : (2 : Int) ≤ (bstr m).size := by omega
      go_wp2_with (first | (go_at_call 68; refine (hp1 _).mono ?_; rintro e w' ⟨rfl, rfl⟩) | (go_at_call 68; refine (hp2 _).mono ?_; rintro e w' ⟨rfl, rfl⟩))
      go_region
      go_wp2
      go_roundg g
      case measure => omega
      case rel => exact ⟨m.drop 2, { s1 with op := true, fr := line }, rfl, (hx1.s0 true).s1 line, ((hS.set 0 (.bool true)).set 1 (.int .i64 line)).drewN 1, by omega, by omega, HU⟩
     | false =>
      rw [hA, if_neg (by decide)] at hue
      rw [hA] at hp2
      clear hA
      have hb0 : 0 < m.length := List.length_pos_iff.2 hn
      have hg := at_get (bstr m) 0 (by rw [bstr_size]; exact hb0)
      rw [at_head] at hg
      have hms : 0 < (bstr m).size := by rw [bstr_size]; exact hb0
      obtain ⟨c, hc⟩ : ∃ c, m.headD 0 = c := ⟨_, rfl⟩
      rw [hc] at hg hue
      have h44 : ∀ W, Calls Tryz.prog 69 #[.string ⟨#[32, 9, 11, 12]⟩, .int .u8 (c.toNat : Int)] W fun e w' => e = .returned (.int .i64 (Lib.indexByte [32, 9, 11, 12] c)) ∧ w' = W := fun W => by
       have := Tryz.strings_IndexByte ⟨#[32, 9, 11, 12]⟩ (c.toNat : Int) W
       simpa using this
      have hE := ixB c
      obtain ⟨E, hEE⟩ : ∃ E, Lib.indexByte [32, 9, 11, 12] c = E := ⟨_, rfl⟩
      rw [hEE] at hE h44
      clear hEE hc
      by_cases hB : isB c = true
      ·rw [if_pos hB] at hue
       have hE0 : 0 ≤ E := hE.2 hB
       clear hE hB
       have hbe := bext m 1
       have hdl : (m.drop 1).length < m.length := by simp only [List.length_drop]; omega
       have HU := hid hue
       clear hue
       go_wp2_with (first | (go_at_call 68; refine (hp1 _).mono ?_; rintro e w' ⟨rfl, rfl⟩) | (go_at_call 68; refine (hp2 _).mono ?_; rintro e w' ⟨rfl, rfl⟩) | (go_at_call 69; refine (h44 _).mono ?_; rintro e w' ⟨rfl, rfl⟩))
       go_region
       go_wp2
       go_roundg g
       case measure => omega
       case rel =>
        have hx2 := hx1.s2 true
        rw [hop] at hx2
        exact ⟨m.drop 1, ⟨false, s1.fr, true, s1.fs⟩, by rw [List.drop_one], hx2, (hS.set 2 (.bool true)).drewN 1, by omega, by omega, HU⟩
      ·rw [if_neg hB] at hue
       have hE0 : ¬ (0 ≤ E) := fun h => hB (hE.1 h)
       clear hE hB
       have HU := hid hue
       clear hue
       go_wp2_with (first | (go_at_call 68; refine (hp1 _).mono ?_; rintro e w' ⟨rfl, rfl⟩) | (go_at_call 68; refine (hp2 _).mono ?_; rintro e w' ⟨rfl, rfl⟩) | (go_at_call 69; refine (h44 _).mono ?_; rintro e w' ⟨rfl, rfl⟩))
       go_ret
       rw [HU.out]
       exact ⟨rfl, hx1, hS⟩
end Go.Proofs.YtcbfbefpbjmglaaGreatDoorT
namespace Go.Proofs.YtcbfbefpbjmglaaGreatDoorT
open Go.RowKit Go.Lib
attribute [local go_sem] Oper.semAt_some
structure TokP where
 kind : Nat
 s : List UInt8
 line : Int
 sp : Bool
 fs : Bool
def tokC (t : TokP) : List Value := [.int .i64 (t.kind : Int), .string (bstr t.s), .string ⟨#[]⟩, .int .i64 t.line, .bool t.sp, .bool t.fs]
def tokV (t : TokP) : Value := .agg (tokC t).toArray
theorem skipP_len (line : Int) : ∀ k l st, (skipP line k l st).1.length ≤ l.length
 | 0, l, st => by simp [skipP]
 | k + 1, l, st => by
  unfold skipP
  by_cases h : l = []
  ·rw [if_pos h]; simp
  ·rw [if_neg h]
   have hc := cut_lt h
   split
   ·have := skipP_len line k (Lib.cut l [42, 47]).2.1 { st with sp := true, op := !(Lib.cut l [42, 47]).2.2 }; omega
   ·split
    ·simp
    ·split
     ·have := skipP_len line k (l.drop 2) { st with op := true, fr := line }; simp only [List.length_drop] at this; omega
     ·split
      ·have := skipP_len line k (l.drop 1) { st with sp := true }; simp only [List.length_drop] at this; omega
      ·exact Nat.le_refl _
theorem sgn_le (l : List UInt8) (hl : 0 < l.length) (t : List (List UInt8)) : (sgn l t).2 ≤ l.length := by
 unfold sgn
 split
 ·rename_i x hx
  have := List.find?_some hx
  exact hasPrefix_len this
 ·exact hl
theorem nextP_le (l : List UInt8) (h : l ≠ []) : (nextP (bstr l)).2 ≤ l.length := by
 have hl : 0 < l.length := List.length_pos_iff.2 h
 have h1 := upto_le (fun i => isW (at_ (bstr l) i)) (bstr l).size 0
 have h2 := upto_le (onN (bstr l)) (bstr l).size 0
 have h3 := quo_le (bstr l) (bstr l).size 1
 have h4 := sgn_le l hl sgs
 have h5 := bstr_size l
 unfold nextP
 repeat' split
 all_goals first | (simp only; omega) | exact h4
def toksA (line : Int) : Nat → List UInt8 → St → List TokP × St
 | 0, _, st => ([], st)
 | k + 1, m, st =>
  if m = [] then ([], st)
  else if (nextP (bstr m)).2 = 0 then ([⟨(nextP (bstr m)).1, [], line, st.sp, st.fs⟩], st)
  else
   (⟨(nextP (bstr m)).1, m.take (nextP (bstr m)).2, line, st.sp, st.fs⟩ :: (toksA line k (skipP line ((m.drop (nextP (bstr m)).2).length + 1) (m.drop (nextP (bstr m)).2) { st with sp := false, fs := false }).1 (skipP line ((m.drop (nextP (bstr m)).2).length + 1) (m.drop (nextP (bstr m)).2) { st with sp := false, fs := false }).2).1,
    (toksA line k (skipP line ((m.drop (nextP (bstr m)).2).length + 1) (m.drop (nextP (bstr m)).2) { st with sp := false, fs := false }).1 (skipP line ((m.drop (nextP (bstr m)).2).length + 1) (m.drop (nextP (bstr m)).2) { st with sp := false, fs := false }).2).2)
theorem toksA_more (line : Int) : ∀ (k j : Nat) (m : List UInt8) (st : St), m.length < k → m.length < j → toksA line k m st = toksA line j m st := by
 intro k
 induction k with
 | zero => intro j m st h; omega
 | succ k ih =>
  intro j m st h hj
  obtain ⟨j, rfl⟩ : ∃ i, j = i + 1 := ⟨j - 1, by omega⟩
  unfold toksA
  by_cases hm : m = []
  ·rw [if_pos hm, if_pos hm]
  ·rw [if_neg hm, if_neg hm]
   by_cases h0 : (nextP (bstr m)).2 = 0
   ·rw [if_pos h0, if_pos h0]
   ·rw [if_neg h0, if_neg h0]
    have hle := nextP_le m hm
    have hs := skipP_len line ((m.drop (nextP (bstr m)).2).length + 1) (m.drop (nextP (bstr m)).2) { st with sp := false, fs := false }
    have hd : (m.drop (nextP (bstr m)).2).length + (nextP (bstr m)).2 = m.length := by rw [List.length_drop]; omega
    rw [ih j _ _ (by omega) (by omega)]
def toksL (line : Int) (m : List UInt8) (st : St) : List TokP × St := toksA line (m.length + 1) m st
def after (line : Int) (m : List UInt8) (st : St) : List UInt8 × St := skipP line ((m.drop (nextP (bstr m)).2).length + 1) (m.drop (nextP (bstr m)).2) { st with sp := false, fs := false }
theorem toksL_nil (line : Int) (st : St) : toksL line [] st = ([], st) := rfl
theorem toksL_zero (line : Int) (m : List UInt8) (st : St) (h : m ≠ []) (h0 : (nextP (bstr m)).2 = 0) : toksL line m st = ([⟨(nextP (bstr m)).1, [], line, st.sp, st.fs⟩], st) := by
 unfold toksL toksA
 rw [if_neg h, if_pos h0]
theorem after_lt (line : Int) (m : List UInt8) (st : St) (h : m ≠ []) (h0 : (nextP (bstr m)).2 ≠ 0) : (after line m st).1.length < m.length := by
 have hle := nextP_le m h
 have hs := skipP_len line ((m.drop (nextP (bstr m)).2).length + 1) (m.drop (nextP (bstr m)).2) { st with sp := false, fs := false }
 have hd : (m.drop (nextP (bstr m)).2).length + (nextP (bstr m)).2 = m.length := by rw [List.length_drop]; omega
 unfold after
 omega
theorem toksL_cons (line : Int) (m : List UInt8) (st : St) (h : m ≠ []) (h0 : (nextP (bstr m)).2 ≠ 0) :
  toksL line m st = (⟨(nextP (bstr m)).1, m.take (nextP (bstr m)).2, line, st.sp, st.fs⟩ :: (toksL line (after line m st).1 (after line m st).2).1, (toksL line (after line m st).1 (after line m st).2).2) := by
 have hlt := after_lt line m st h h0
 show toksA line (m.length + 1) m st = _
 rw [toksA, if_neg h, if_neg h0]
 show (_ :: (toksA line m.length (after line m st).1 (after line m st).2).1, (toksA line m.length (after line m st).1 (after line m st).2).2) = _
 rw [toksA_more line m.length ((after line m st).1.length + 1) _ _ hlt (by omega)]
 rfl
def begin_ (st : St) : St := if st.op then st else { st with sp := false, fs := true }
def lineP (line : Int) (S : List UInt8) (st : St) : List TokP × St := toksL line (skipP line (S.length + 1) S (begin_ st)).1 (skipP line (S.length + 1) S (begin_ st)).2
end Go.Proofs.YtcbfbefpbjmglaaGreatDoorT
namespace Go.Proofs.YtcbfbefpbjmglaaGreatDoorT
open Go.RowKit Go.Lib
attribute [local go_sem] Oper.semAt_some
def SeqToks (n : Nat) (X Bx Bl : Nat) (N : Int) (S : List UInt8) (st : St) : Prop :=
 ∀ (l : Nat) (J Jx : List TokP → World → Prop) (W : World),
  (∀ s A B, J s A → Stir X A B → J s B) →
  (∀ s A, J s A → Tab A ∧ Boxed A Bx 80 (.pointer (some ⟨X, 0, none⟩)) ∧ A.heap[Bl]? = some (.cells #[.int .i64 N, .string (bstr S)] 63 (0, 0))) →
  (∀ pre t W1 st1, J pre W1 → XAt W1 X st1 → (pre ++ [t]) <+: (lineP N S st).1 → YieldAt Fence.wide (n - 1) Tryz.prog l #[tokV t] W1 fun e W' =>
   (e = .returned (.bool true) ∧ t.s ≠ [] ∧ J (pre ++ [t]) W' ∧ XAt W' X st1) ∨ (e = .returned (.bool false) ∧ Jx (pre ++ [t]) W')) →
  XAt W X st → J [] W →
  CallsIn Fence.wide n Tryz.prog 54 (#[.func (.yield l) #[] #[]] ++ #[.pointer (some ⟨Bx, 0, none⟩), .pointer (some ⟨Bl, 0, none⟩)]) W fun e W' =>
   (∃ v, e = .returned v) ∧ ((J (lineP N S st).1 W' ∧ XAt W' X (lineP N S st).2) ∨ (∃ pre, pre <+: (lineP N S st).1 ∧ Jx pre W'))
theorem cell_two {W : World} {B : Nat} {a b : Value} {t : TypeId} (h : W.heap[B]? = some (.cells #[a, b] t (0, 0))) : W.cell? ⟨B, 0, none⟩ = some a ∧ W.cell? ⟨B, 1, none⟩ = some b := by
 constructor <;> simp [World.cell?, h]
theorem wpIn_seq_of {F : Fence} {n : Nat} {P : Program} {x y : Code} {Q : Exit → Act → World → Prop} {a : Act} {w : World} (PP : Act → World → Prop) (h1 : x.wpIn F n P (Exit.then PP Q) a w)
  (h2 : ∀ a w, PP a w → y.wpIn F n P Q a w) : (x.seq y).wpIn F n P Q a w :=
 wpIn_seq (wpIn_mono h1 fun e a w q => by cases e <;> first | exact h2 _ _ q | exact q)
theorem bl_drewN {B : Nat} {w W : World} (h : Below B w W) (n : Nat) : Below B w (W.drewN n) := ⟨h.os, h.tape, h.output, h.size, h.block⟩
theorem cell_six {W : World} {B : Nat} {a b c d e f : Value} {t : TypeId} (h : W.heap[B]? = some (.cells #[a, b, c, d, e, f] t (0, 0))) : W.cell? ⟨B, 0, none⟩ = some a ∧ W.cell? ⟨B, 1, none⟩ = some b ∧ W.cell? ⟨B, 2, none⟩ = some c ∧ W.cell? ⟨B, 3, none⟩ = some d ∧ W.cell? ⟨B, 4, none⟩ = some e ∧ W.cell? ⟨B, 5, none⟩ = some f := by
 refine ⟨?_, ?_, ?_, ?_, ?_, ?_⟩ <;> simp [World.cell?, h]
theorem Carry4 {W : World} {p : Addr} {v : Value} (h : W.cell? p = some v) (o : Obj) : (W.alloc o).cell? p = some v := ((below_new (w := W) o).cell (cell_in h)).trans h
set_option maxHeartbeats 2000000 in
theorem toks_seq (n : Nat) (hn : 1 ≤ n) (X Bx Bl : Nat) (hX : 2 ≤ X) (hXx : Bx ≠ X) (hXl : Bl ≠ X) (N : Int) (S : List UInt8) (hS : S.length < 4294967281) (st : St) : SeqToks n X Bx Bl N S st := by
 intro l J Jx W hJs hJk hY hx h0
 show CallsIn Fence.wide n Tryz.prog 54 #[.func (.yield l) #[] #[], .pointer (some ⟨Bx, 0, none⟩), .pointer (some ⟨Bl, 0, none⟩)] W _
 obtain ⟨hT0, hbx0, hbl0⟩ := hJk _ _ h0
 have hsk : ∀ (m : List UInt8) (s1 : St) (W1 : World), m.length ≤ S.length → Tab W1 → XAt W1 X s1 → CallsIn Fence.wide (n - 1) Tryz.prog 55 #[.pointer (some ⟨X, 0, none⟩), .string (bstr m), .int .i64 N] W1 fun e w' => e = .returned (.string (bstr (skipP N (m.length + 1) m s1).1)) ∧ XAt w' X (skipP N (m.length + 1) m s1).2 ∧ Stir X W1 w' :=
  fun m s1 W1 hm hT hx => callsIn_wide.2 (skip_calls X hX m (by omega) N s1 W1 hT hx)
 obtain ⟨XS, hXS⟩ : ∃ XS, lineP N S st = XS := ⟨_, rfl⟩
 rw [hXS] at hY
 rw [hXS]
 obtain ⟨s0, hs0⟩ : ∃ s0, begin_ st = s0 := ⟨_, rfl⟩
 obtain ⟨⟨m0, s1⟩, hz⟩ : ∃ z, skipP N (S.length + 1) S s0 = z := ⟨_, rfl⟩
 have hm0 : m0.length ≤ S.length := by have := skipP_len N (S.length + 1) S s0; rw [hz] at this; exact this
 have hXS' : XS = toksL N m0 s1 := by rw [← hXS]; unfold lineP; rw [hs0, hz]
 have HXS := hid hXS'
 clear hXS hXS'
 have HJs := hid hJs
 have HJk := hid hJk
 have HSK := hid hsk
 have HY := hid hY
 clear hJs hJk hsk hY
 obtain ⟨hl0, hl1⟩ := cell_two hbl0
 have hcx := hbx0.cell
 have hc0 := hx.c0
 have hc1 := hx.c1
 have hc2 := hx.c2
 have hc3 := hx.c3
 have hfz := hx.fz
 refine callsIn_of_wp Tryz.func54 rfl trivial ?_ rfl
 simp only [Tryz.ntmps54, List.size_toArray, List.length_cons, List.length_nil, Nat.reduceAdd, Nat.reduceSub, Array.replicate_succ, Array.replicate_zero, List.push_toArray, List.append_toArray, List.nil_append, List.cons_append]
 obtain ⟨PP, hPP⟩ : ∃ PP : Act → World → Prop, PP = fun a W1 => ∃ v8 v9 v10 v11 v12 v13 v14 v15 v16 v17 v18 : Value, a = { tmps := #[.func (.yield l) #[] #[], .pointer (some ⟨Bx, 0, none⟩), .pointer (some ⟨Bl, 0, none⟩), undef, undef, undef, undef, undef, v8, v9, v10, v11, v12, v13, v14, v15, v16, v17, v18, undef, undef, undef, undef, undef, undef, undef, undef, undef, undef, undef, undef, undef, undef, undef, undef, undef, undef, undef, undef, undef, undef, undef, undef, undef, undef, undef, undef, undef, undef, undef, undef, undef, undef, undef, undef, undef, undef, undef, undef, undef, undef, undef, undef, undef, undef], defers := [] } ∧ XAt W1 X s0 ∧ J [] W1 := ⟨_, rfl⟩
 refine wpIn_seq_of PP ?_ ?_
 ·cases hop : st.op with
  | true =>
   have hs0' : s0 = st := by rw [← hs0]; unfold begin_; rw [hop]; rfl
   rw [hop] at hc0
   have HPP := hid hPP
   clear hPP
   gi_wp2
   rw [HPP.out]
   exact ⟨_, _, _, _, _, _, _, _, _, _, _, rfl, by rw [hs0']; exact hx, h0⟩
  | false =>
   have hs0' : s0 = ⟨false, st.fr, false, true⟩ := by rw [← hs0]; unfold begin_; rw [hop]; rfl
   rw [hop] at hc0
   have HPP := hid hPP
   clear hPP
   gi_wp2
   gi_region
   show PP _ _
   rw [HPP.out]
   exact ⟨_, _, _, _, _, _, _, _, _, _, _, rfl, by rw [hs0']; have := (hx.s3 true).s2 false; rw [hop] at this; exact this, HJs.out _ _ _ h0 ((((Stir.refl X W).set 3 (.bool true)).set 2 (.bool false)).drewN 1)⟩
 ·intro a1 W1 hP1
  rw [hPP] at hP1
  obtain ⟨v8, v9, v10, v11, v12, v13, v14, v15, v16, v17, v18, rfl, hx1, hj1⟩ := hP1
  clear hPP PP hc0 hc1 hc2 hc3 hfz hcx hl0 hl1 hbx0 hbl0 hx h0 hT0
  obtain ⟨hT1, hbx1, hbl1⟩ := HJk.out _ _ hj1
  obtain ⟨hl0, hl1⟩ := cell_two hbl1
  have hcx := hbx1.cell
  have hsk1 := HSK.out S s0 W1 (Nat.le_refl _) hT1 hx1
  rw [hz] at hsk1
  gi_wp2_with (first | (refine ⟨trivial, ?_⟩; gi_at_call 55; refine hsk1.mono ?_; rintro e W2 ⟨rfl, hx2, hS2⟩))
  clear hcx hl0 hl1 hT1
  have hj2 := HJs.out _ _ _ hj1 hS2
  clear hsk1 hz hbx1 hbl1
  gi_loopw [4] (fun p wr => ∃ (pre : List TokP) (m : List UInt8) (s1 : St), p = .string (bstr m) ∧ XAt wr X s1 ∧ J pre wr ∧ m.length ≤ S.length ∧ Aside (XS = (pre ++ (toksL N m s1).1, (toksL N m s1).2)))
   (fun p wr => match p with | .string d => d.size | _ => 0)
  case atStart => exact ⟨[], m0, s1, rfl, hx2, hj2, hm0, HXS⟩
  case round =>
   obtain ⟨pre, m, s3, rfl, hx3, hj3, hm3, HX⟩ := hrel
   obtain ⟨hT3, hbx3, hbl3⟩ := HJk.out _ _ hj3
   obtain ⟨hl0, hl1⟩ := cell_two hbl3
   have hcx := hbx3.cell
   by_cases hn : m = []
   ·subst hn
    have hem : (bstr []).toList.isEmpty = true := bempty []
    gi_wp2
    go_end0
    refine ⟨⟨_, rfl⟩, .inl ?_⟩
    rw [HX.out]
    exact ⟨by rw [toksL_nil, List.append_nil]; exact hj3, hx3⟩
   ·have hem : (bstr m).toList.isEmpty = false := by rw [bempty m]; cases m with
     | nil => exact absurd rfl hn
     | cons _ _ => rfl
    have hle := nextP_le m hn
    have hpos : 0 < m.length := List.length_pos_iff.2 hn
    have hnx : ∀ W4 : World, Tab W4 → CallsIn Fence.wide (n - 1) Tryz.prog 56 #[.string (bstr m)] W4 fun e w' => e = .returned (.tuple #[.int .i64 ((nextP (bstr m)).1 : Nat), .int .i64 ((nextP (bstr m)).2 : Nat)]) ∧ Below W4.heap.size W4 w' :=
     fun W4 hT4 => callsIn_wide.2 (next_calls (bstr m) (by rw [bstr_size]; omega) (by rw [bstr_size]; exact hpos) W4 hT4)
    have hnx3 := hnx wr hT3
    clear hnx hT3
    obtain ⟨⟨K1, N1⟩, hq⟩ : ∃ q, nextP (bstr m) = q := ⟨_, rfl⟩
    rw [hq] at hnx3 hle
    simp only at hnx3 hle
    have hcons : N1 ≠ 0 → XS = (pre ++ (⟨K1, m.take N1, N, s3.sp, s3.fs⟩ :: (toksL N (after N m s3).1 (after N m s3).2).1), (toksL N (after N m s3).1 (after N m s3).2).2) := fun h => by
     have := HX.out
     rw [toksL_cons N m s3 hn (by rw [hq]; exact h), hq] at this
     exact this
    have hzero : N1 = 0 → XS = (pre ++ [⟨K1, [], N, s3.sp, s3.fs⟩], s3) := fun h => by
     have := HX.out
     rw [toksL_zero N m s3 hn (by rw [hq]; exact h), hq] at this
     exact this
    have hpre : (pre ++ [⟨K1, m.take N1, N, s3.sp, s3.fs⟩]) <+: XS.1 := by
     by_cases h : N1 = 0
     ·rw [hzero h]
      subst h
      exact ⟨[], by simp⟩
     ·rw [hcons h]
      exact ⟨(toksL N (after N m s3).1 (after N m s3).2).1, by simp⟩
    have hafter : after N m s3 = skipP N ((m.drop N1).length + 1) (m.drop N1) ⟨s3.op, s3.fr, false, false⟩ := by unfold after; rw [hq]
    have hltA : N1 ≠ 0 → (after N m s3).1.length < m.length := fun h => after_lt N m s3 hn (by rw [hq]; exact h)
    have HC := hid (And.intro hcons (And.intro hpre (And.intro hafter hltA)))
    clear hcons hzero hpre hafter hltA HX hq
    have hYt := fun W5 st5 hj5 hx5 => HY.out pre ⟨K1, m.take N1, N, s3.sp, s3.fs⟩ W5 st5 hj5 hx5 HC.out.2.1
    have hbt : (bstr m).extract 0 N1 = bstr (m.take N1) := by apply ByteArray.ext; apply Array.ext'; simp [bstr]
    have hbd := bext m N1
    have hles : N1 ≤ (bstr m).size := by rw [bstr_size]; exact hle
    as_aux_lemma =>
     gi_wp2_with (first | (refine ⟨trivial, ?_⟩; gi_at_call 56; refine hnx3.mono ?_; rintro e W4 ⟨rfl, hB4⟩; have hj4 := HJs.out _ _ _ hj3 (Stir.of hB4); have hx4 := hx3.grow hB4; obtain ⟨hT4, hbx4, hbl4⟩ := HJk.out _ _ hj4; obtain ⟨hm0', hm1'⟩ := cell_two hbl4; have hcx4 := hbx4.cell; have hd2 := hx4.c2; have hd3 := hx4.c3; have ha1 := fun o => Carry4 hcx4 o; have ha2 := fun o => Carry4 hd2 o; have ha3 := fun o => Carry4 hd3 o; have ha4 := fun o => Carry4 hm0' o))
     as_aux_lemma =>
      gi_region
      as_aux_lemma =>
       obtain ⟨W5, hW5⟩ : ∃ W5, (W4.alloc (.cells #[.int .i64 (K1 : Int), .string (bstr (m.take N1)), .string ⟨#[]⟩, .int .i64 N, .bool s3.sp, .bool s3.fs] 55)).drew = W5 := ⟨_, rfl⟩
       have hB5 : Below W4.heap.size W4 W5 := by rw [← hW5]; exact bl_drewN (below_new _) 1
       have hb5 : W5.heap[W4.heap.size]? = some (.cells #[.int .i64 (K1 : Int), .string (bstr (m.take N1)), .string ⟨#[]⟩, .int .i64 N, .bool s3.sp, .bool s3.fs] 55 (0, 0)) := by rw [← hW5]; exact World.alloc_heap_new _ _
       rw [hW5]
       clear hW5
       obtain ⟨hk0, hk1, hk2, hk3, hk4, hk5⟩ := cell_six hb5
       have hj5 := HJs.out _ _ _ hj4 (Stir.of hB5)
       have hx5 := hx4.grow hB5
       obtain ⟨fn, tmps, assign, bdy, hy, hR⟩ := hYt W5 _ hj5 hx5
       rw [show (#[tokV ⟨K1, m.take N1, N, s3.sp, s3.fs⟩] : Array Value) = #[.agg #[.int .i64 (K1 : Int), .string (bstr (m.take N1)), .string ⟨#[]⟩, .int .i64 N, .bool s3.sp, .bool s3.fs]] from rfl] at hy
       clear hT4 hB4 hB5 hbt hpos hx3 hj3 hj4 hx4 hj5 hx5
       clear ha1 ha2 ha3 ha4 hcx hl0 hl1 hcx4 hm0' hm1' hd2 hd3 hb5 hYt hnx3 hbx3 hbl3 hbx4 hbl4
       as_aux_lemma =>
        gi_wp2
        refine hR.mono ?_
        rintro e W6 (⟨rfl, hne, hj6, hx6⟩ | ⟨rfl, hj6⟩)
        ·have hN0 : N1 ≠ 0 := fun h => hne (by subst h; rfl)
         obtain ⟨hT6, hbx6, hbl6⟩ := HJk.out _ _ hj6
         obtain ⟨hl0, hl1⟩ := cell_two hbl6
         have hcx := hbx6.cell
         have hc2 := hx6.c2
         have hc3 := hx6.c3
         have hfz := hx6.fz
         clear hk0 hk1 hk2 hk3 hk4 hk5 hy hR hT6 hbx6 hbl6
         as_aux_lemma =>
          gi_wp2
          as_aux_lemma =>
           gi_region
           as_aux_lemma =>
            obtain ⟨W7, hW7⟩ : ∃ W7, ((W6.setCell ⟨X, 3, none⟩ (.bool false)).setCell ⟨X, 2, none⟩ (.bool false)).drew = W7 := ⟨_, rfl⟩
            have hS7 : Stir X W6 W7 := by rw [← hW7]; exact (((Stir.refl X W6).set 3 (.bool false)).set 2 (.bool false)).drewN 1
            have hx7 : XAt W7 X ⟨s3.op, s3.fr, false, false⟩ := by rw [← hW7]; exact (hx6.s3 false).s2 false
            rw [hW7]
            clear hW7 hcx hl0 hl1 hc2 hc3 hfz
            have hj7 := HJs.out _ _ _ hj6 hS7
            obtain ⟨hT7, hbx7, hbl7⟩ := HJk.out _ _ hj7
            obtain ⟨hl0, hl1⟩ := cell_two hbl7
            have hcx := hbx7.cell
            have hsk7 := HSK.out (m.drop N1) _ W7 (by simp only [List.length_drop]; omega) hT7 hx7
            rw [← HC.out.2.2.1] at hsk7
            have hlt7 := HC.out.2.2.2 hN0
            have HX7 := hid (HC.out.1 hN0)
            obtain ⟨⟨m8, s8⟩, hz8⟩ : ∃ z, after N m s3 = z := ⟨_, rfl⟩
            rw [hz8] at hsk7 hlt7 HX7
            simp only at hsk7 hlt7
            clear hz8 hbx7 hbl7 hT7 hx7 hles hbd hle hx6 hj6
            as_aux_lemma =>
             gi_wp2_with (first | (refine ⟨trivial, ?_⟩; gi_at_call 55; refine hsk7.mono ?_; rintro e W8 ⟨rfl, hx8, hS8⟩))
             go_roundw
             case measure => show (bstr m8).size < (bstr m).size; rw [bstr_size, bstr_size]; exact hlt7
             case rel => exact ⟨_, m8, s8, rfl, hx8, HJs.out _ _ _ hj7 hS8, by omega, hid (by rw [HX7.out]; simp)⟩
        ·clear hk0 hk1 hk2 hk3 hk4 hk5 hy hR
         gi_wp2
         refine bodyPost_ret (results_none rfl _ _ _) rfl ?_
         exact ⟨⟨_, rfl⟩, .inr ⟨_, HC.out.2.1, hj6⟩⟩
end Go.Proofs.YtcbfbefpbjmglaaGreatDoorT
namespace Go.Proofs.YtcbfbefpbjmglaaGreatDoorT
open Go.RowKit Go.Lib
def tokPost (B : Nat) (X : Nat) (st1 : St) (id : Nat) (I Ix : List TokP → World → Prop) (pre : List TokP) (t : TokP) (W : World) : Exit → Act → World → Prop
 | .normal, _, W' => KeepsFrom B W W' ∧ t.s ≠ [] ∧ I (pre ++ [t]) W' ∧ XAt W' X st1
 | .exit id', _, W' => id' = id ∧ KeepsFrom B W W' ∧ Ix (pre ++ [t]) W'
 | _, _, _ => False
theorem XAt.put {W : World} {X l : Nat} {st : St} {o : Obj} (h : XAt W X st) (o' : Obj) (hl : W.heap[l]? = some o) (ho : o.isCells = false) : XAt (W.putObj l o') X st := by
 have hne : X ≠ l := by rintro rfl; rw [show W.heap[X]? = _ from h] at hl; cases hl; cases ho
 exact (World.putObj_heap_other hne).trans h
theorem wpIn_rangeFunc_toks {n : Nat} {g : Operand} {ps : Array Tmp} {assign body : Code} {Q : Exit → Act → World → Prop} {a : Act} {w : World}
  (h1 : 1 ≤ n) {X Bx Bl : Nat} {N : Int} {S : List UInt8} {st : St} (hg : a.eval g = .func (.func 54) #[] #[.pointer (some ⟨Bx, 0, none⟩), .pointer (some ⟨Bl, 0, none⟩)])
  (hX : X < w.heap.size) (hseq : SeqToks (n - 1) X Bx Bl N S st) (hx : XAt w X st) (hps : ps.size = 1)
  (I Ix : List TokP → World → Prop) (hIa : ∀ s A B, I s A → Stir X A B → I s B)
  (hIk : ∀ s A, I s A → Tab A ∧ Boxed A Bx 80 (.pointer (some ⟨X, 0, none⟩)) ∧ A.heap[Bl]? = some (.cells #[.int .i64 N, .string (bstr S)] 63 (0, 0)))
  (hIc : ∀ s A l o o', I s A → w.heap.size ≤ l → A.heap[l]? = some o → o.isCells = false → I s (A.putObj l o'))
  (hIxc : ∀ s A l o o', Ix s A → w.heap.size ≤ l → A.heap[l]? = some o → o.isCells = false → Ix s (A.putObj l o'))
  (h0 : I [] w) (id : Nat) (a₁ : TokP → Nat → Act)
  (hassign : ∀ (l : Nat) (x : TokP) (W : World) (K : Act → World → Prop), K (a₁ x W.heap.size) (W.alloc (.cells (tokC x).toArray 55)) →
   assign.wpIn (Fence.wide.inRound l) (n - 1 - 1) Tryz.prog (Exit.then K (fun _ _ _ => False)) { tmps := (ps.zip #[tokV x]).foldl (fun t (p, v) => t.setIfInBounds p v) a.tmps, defers := [] } W)
  (hbody : ∀ (l : Nat) (pre : List TokP) (x : TokP) (W : World) (st1 : St) (B : Nat), I pre W → XAt W X st1 → W.heap[B]? = some (.cells (tokC x).toArray 55 (0, 0)) → w.heap.size ≤ B → (pre ++ [x]) <+: (lineP N S st).1 → body.wpIn (Fence.wide.inRound l) (n - 1 - 1) Tryz.prog (tokPost w.heap.size X st1 id I Ix pre x W) (a₁ x B) W)
  (hdone : ∀ (D : Nat) (W : World), w.heap.size ≤ D → I (lineP N S st).1 W → XAt W X (lineP N S st).2 → W.heap[D]? = some (.deferred (some [])) → Q .normal { a with defers := { target := .collected D, args := #[] } :: a.defers } W)
  (hstop : ∀ (D : Nat) (pre : List TokP) (W : World), w.heap.size ≤ D → pre <+: (lineP N S st).1 → Ix pre W → W.heap[D]? = some (.deferred (some [])) → Q (.exit id) { a with defers := { target := .collected D, args := #[] } :: a.defers } W) :
  (Code.rangeFunc g ps assign body).wpIn Fence.wide n Tryz.prog Q a w := by
 have hro : Fence.wide.round = none := rfl
 refine wpIn_rangeFunc ?_
 intro fn hfn
 rw [hro]
 obtain ⟨rec, hrec⟩ : ∃ rec : LoopState → Option Code → Loop, rec = fun st pe => { state := st, pending := pe, fn, tmps := a.tmps, params := ps, assign, body, defers := w.heap.size } := ⟨_, rfl⟩
 obtain ⟨W1, hW1⟩ : ∃ W1, (w.alloc (.deferred (some []))).alloc (.loop (rec .ready none)) = W1 := ⟨_, rfl⟩
 have hL1 : W1.heap[w.heap.size + 1]? = some (.loop (rec .ready none)) := by
  rw [← hW1]; have := World.alloc_heap_new (w.alloc (.deferred (some []))) (.loop (rec .ready none)); rwa [World.size_alloc] at this
 have hK1 : W1.heap[w.heap.size]? = some (.deferred (some [])) := by
  rw [← hW1]; exact (Below.heap_alloc _ _ _ (by simp)).trans (World.alloc_heap_new w _)
 have hb1 : Below w.heap.size w W1 := by
  rw [← hW1]; exact ((Below.refl _ w).alloc (Nat.le_refl _) _).alloc (by simp) _
 have hI1 : I [] W1 := hIa _ _ _ h0 (Stir.of hb1)
 have hX1 : XAt W1 X st := hx.grow hb1
 refine ⟨w.heap.size + 1, [{ target := .collected w.heap.size, args := #[] }], W1, { target := .fn (.func 54) #[.pointer (some ⟨Bx, 0, none⟩), .pointer (some ⟨Bl, 0, none⟩)], args := #[.func (.yield (w.heap.size + 1)) #[] #[]] }, W1, 54,
  #[.func (.yield (w.heap.size + 1)) #[] #[]] ++ #[.pointer (some ⟨Bx, 0, none⟩), .pointer (some ⟨Bl, 0, none⟩)], W1, ?_, ?_, ?_, ?_, fun _ => h1, ?_⟩
 ·rw [← hW1, hrec]; exact run_enterLoop_outer _ _ _ _ _
 ·simp only [resolve, hg]
  simp [go_sem]
 ·intro f' hf'; trivial
 ·simp [invoke, go_sem]
 ·refine (hseq (w.heap.size + 1)
   (fun pre W => I pre W ∧ W.heap[w.heap.size + 1]? = some (.loop (rec .ready none)) ∧ W.heap[w.heap.size]? = some (.deferred (some [])))
   (fun pre W => Ix pre W ∧ W.heap[w.heap.size + 1]? = some (.loop (rec .done (some (.exit id)))) ∧ W.heap[w.heap.size]? = some (.deferred (some [])))
   W1
   (fun s A B hs hb => ⟨hIa s A B hs.1 hb, (hb.block _ (Array.getElem?_eq_some_iff.1 hs.2.1).1 (by omega)).trans hs.2.1, (hb.block _ (Array.getElem?_eq_some_iff.1 hs.2.2).1 (by omega)).trans hs.2.2⟩)
   (fun s A hs => hIk s A hs.1)
   ?_ hX1 ⟨hI1, hL1, hK1⟩).mono ?_
  ·-- one round
   rintro pre x W0 st1 ⟨hi, hl, hk⟩ hx1 hlen
   have hy := run_yield (P := Tryz.prog) (args := #[tokV x]) hl (by rw [hrec]; exact hps.symm)
   rw [hrec] at hy
   have hbn := below_new (w := W0) (.cells (tokC x).toArray 55)
   have hbox := World.alloc_heap_new W0 (.cells (tokC x).toArray 55)
   have hi := hIa _ _ _ hi (Stir.of hbn)
   have hlW : w.heap.size + 1 < W0.heap.size := (Array.getElem?_eq_some_iff.1 hl).1
   have hl := (hbn.block _ (Array.getElem?_eq_some_iff.1 hl).1).trans hl
   have hk := (hbn.block _ (Array.getElem?_eq_some_iff.1 hk).1).trans hk
   have hx1 := hx1.grow hbn
   refine ⟨fn, _, assign, body, hy, roundIn_of_wpIn hfn (hassign _ x W0 _ ?_)⟩
   obtain ⟨W, hW⟩ : ∃ W, W0.alloc (.cells (tokC x).toArray 55) = W := ⟨_, rfl⟩
   rw [hW] at hl hk hx1 hi hbox
   rw [hW]
   refine ⟨_, run_beginRound hl (by rw [hrec]), ?_⟩
   have hlt : w.heap.size + 1 < W.heap.size := (Array.getElem?_eq_some_iff.1 hl).1
   have hl2 : (W.putObj (w.heap.size + 1) (.loop { rec .ready none with state := .busy })).heap[w.heap.size + 1]? = some (.loop { rec .ready none with state := .busy }) := World.putObj_heap_same hlt
   have hk2 : (W.putObj (w.heap.size + 1) (.loop { rec .ready none with state := .busy })).heap[w.heap.size]? = some (.deferred (some [])) := (World.putObj_heap_other (by omega)).trans hk
   refine wpIn_mono (hbody _ pre x _ st1 W0.heap.size (hIc _ _ _ _ _ hi (by omega) hl rfl) (hx1.put _ hl rfl) ((World.putObj_heap_other (by omega)).trans hbox) (by omega) hlen) ?_
   have fin : ∀ (jump : Option Code) (W3 : World), KeepsFrom w.heap.size (W.putObj (w.heap.size + 1) (.loop { rec .ready none with state := .busy })) W3 →
     (Instr.endRound (w.heap.size + 1) jump).run Tryz.prog W3 = .ok (.bool jump.isNone) (W3.putObj (w.heap.size + 1) (.loop (rec (if jump.isNone then .ready else .done) jump))) ∧
     W3.heap[w.heap.size + 1]? = some (.loop { rec .ready none with state := .busy }) ∧
     (W3.putObj (w.heap.size + 1) (.loop (rec (if jump.isNone then .ready else .done) jump))).heap[w.heap.size + 1]? = some (.loop (rec (if jump.isNone then .ready else .done) jump)) ∧
     (W3.putObj (w.heap.size + 1) (.loop (rec (if jump.isNone then .ready else .done) jump))).heap[w.heap.size]? = some (.deferred (some [])) := fun jump W3 hk3 => by
    have hl3 := hk3.same _ _ (by omega) hl2 rfl
    have := run_endRound (P := Tryz.prog) jump hl3
    rw [hrec] at this ⊢
    exact ⟨this, by rw [hrec] at hl3; exact hl3, World.putObj_heap_same (Array.getElem?_eq_some_iff.1 hl3).1, (World.putObj_heap_other (by omega)).trans (hk3.same _ _ (Nat.le_refl _) hk2 rfl)⟩
   rintro e a3 W3 hp
   cases e with
   | normal =>
    obtain ⟨hk3, hne, hi3, hx3⟩ := hp
    obtain ⟨hr, hl3, hl4, hk4⟩ := fin none W3 hk3
    exact ⟨_, _, hr, .inl ⟨rfl, hne, ⟨hIc _ _ _ _ _ hi3 (by omega) hl3 rfl, hl4, hk4⟩, hx3.put _ hl3 rfl⟩⟩
   | exit id' =>
    obtain ⟨rfl, hk3, hi3⟩ := hp
    obtain ⟨hr, hl3, hl4, hk4⟩ := fin (some (.exit id')) W3 hk3
    exact ⟨_, _, hr, .inr ⟨rfl, hIxc _ _ _ _ _ hi3 (by omega) hl3 rfl, hl4, hk4⟩⟩
   | ret => exact hp.elim
   | goto t => exact hp.elim
   | panic ch => exact hp.elim
   | outgrown => exact hp.elim
  ·-- behind the iterator
   rintro e W2 ⟨⟨v, rfl⟩, (⟨⟨hi, hl, hk⟩, hx2⟩ | ⟨pre, hpre, hi, hl, hk⟩)⟩
   ·exact ⟨none, _, by have := run_endLoop (P := Tryz.prog) hl (by rw [hrec]; simp); rw [hrec] at this; exact this, hdone _ _ (Nat.le_refl _) (hIc _ _ _ _ _ hi (by omega) hl rfl) (hx2.put _ hl rfl) ((World.putObj_heap_other (by omega)).trans hk)⟩
   ·exact ⟨some (.exit id), _, by have := run_endLoop (P := Tryz.prog) hl (by rw [hrec]; simp); rw [hrec] at this; exact this, wpIn_exit (hstop _ pre _ (Nat.le_refl _) hpre (hIxc _ _ _ _ _ hi (by omega) hl rfl) ((World.putObj_heap_other (by omega)).trans hk))⟩
def Marks (B : Nat) (Ds : List Nat) (w : World) : Prop := Ds.Nodup ∧ ∀ D ∈ Ds, B ≤ D ∧ w.heap[D]? = some (.deferred (some []))
theorem Marks.lt {B : Nat} {Ds : List Nat} {w : World} (h : Marks B Ds w) : ∀ D ∈ Ds, D < w.heap.size := fun D hD => (Array.getElem?_eq_some_iff.1 (h.2 D hD).2).1
theorem Marks.stir {B X : Nat} {Ds : List Nat} {w w' : World} (h : Marks B Ds w) (hx : X < B) (hs : Stir X w w') : Marks B Ds w' :=
 ⟨h.1, fun D hD => ⟨(h.2 D hD).1, (hs.block D (h.lt D hD) (by have := (h.2 D hD).1; omega)).trans (h.2 D hD).2⟩⟩
def XTy (W : World) (X : Nat) : Prop := ∃ c fr, W.heap[X]? = some (.cells c 82 fr)
theorem XAt.ty {W : World} {X : Nat} {st : St} (h : XAt W X st) : XTy W X := ⟨_, _, h⟩
theorem XTy.stir {X : Nat} {w w' : World} (h : XTy w X) (hs : Stir X w w') : XTy w' X := by
 obtain ⟨c, fr, h⟩ := h
 obtain ⟨c', h'⟩ := hs.kx _ _ _ h
 exact ⟨c', fr, h'⟩
theorem XTy.put {W : World} {X l : Nat} {o : Obj} (h : XTy W X) (o' : Obj) (hl : W.heap[l]? = some o) (ho : o.isCells = false) : XTy (W.putObj l o') X := by
 obtain ⟨c, fr, h⟩ := h
 have hne : X ≠ l := by rintro rfl; rw [h] at hl; cases hl; cases ho
 exact ⟨c, fr, (World.putObj_heap_other hne).trans h⟩
theorem Marks.put {B l : Nat} {Ds : List Nat} {w : World} (h : Marks B Ds w) (hl : l ∉ Ds) (o : Obj) : Marks B Ds (w.putObj l o) :=
 ⟨h.1, fun D hD => ⟨(h.2 D hD).1, (World.putObj_heap_other (by rintro rfl; exact hl hD)).trans (h.2 D hD).2⟩⟩
theorem leaves_marks {F : Fence} {n : Nat} {P : Program} {fn : Func} {tmps : Array Value} {R : Ending → World → Prop} (B : Nat) (Inv : World → Prop)
  (hInv : ∀ A D o', Inv A → B ≤ D → A.heap[D]? = some (.deferred (some [])) → Inv (A.putObj D o')) (hend : ∀ w', Inv w' → LeavesIn F n P fn tmps R [] .returning w') :
  ∀ (Ds : List Nat) (w : World), Marks B Ds w → Inv w → LeavesInM F n P fn tmps R (Ds.map fun D => { target := .collected D, args := #[] }) .returning w := by
 intro Ds
 induction Ds with
 | nil => intro w _ hi; exact hend w hi
 | cons D Ds ih =>
  intro w hm hi
  have hD := hm.2 D (by simp)
  have hn := List.nodup_cons.1 hm.1
  refine ⟨by simp, .inl ⟨_, _, rfl, run_takeDeferred hD.2, ?_⟩⟩
  exact ih _ (Marks.put ⟨hn.2, fun E hE => hm.2 E (by simp [hE])⟩ hn.1 _) (hInv _ _ _ hi hD.1 hD.2)
end Go.Proofs.YtcbfbefpbjmglaaGreatDoorT
namespace Go.Proofs.YtcbfbefpbjmglaaGreatDoorT
open Go.RowKit Go.Lib
attribute [local go_sem] Oper.semAt_some
def foldT : List TokP → List TokP → List TokP × Int
 | out, [] => (out, 0)
 | out, t :: r => if t.s = [] then (out, 21) else if out.length = 20000 then (out, 22) else foldT (out ++ [t]) r
theorem foldT_snoc (t : TokP) : ∀ (pre out o : List TokP), foldT out pre = (o, 0) → foldT out (pre ++ [t]) = if t.s = [] then (o, 21) else if o.length = 20000 then (o, 22) else (o ++ [t], 0) := by
 intro pre
 induction pre with
 | nil =>
  intro out o h
  simp only [foldT, Prod.mk.injEq, and_true] at h
  subst h
  show foldT out [t] = _
  simp only [foldT]
 | cons x pre ih =>
  intro out o h
  rw [List.cons_append]
  rw [foldT] at h ⊢
  by_cases h1 : x.s = []
  ·rw [if_pos h1] at h; cases h
  ·rw [if_neg h1] at h ⊢
   by_cases h2 : out.length = 20000
   ·rw [if_pos h2] at h; cases h
   ·rw [if_neg h2] at h ⊢
    exact ih _ _ h
theorem foldT_stop : ∀ (pre out rest : List TokP) (o : List TokP) (e : Int), foldT out pre = (o, e) → e ≠ 0 → foldT out (pre ++ rest) = (o, e) := by
 intro pre
 induction pre with
 | nil => intro out rest o e h he; simp only [foldT, Prod.mk.injEq] at h; exact absurd h.2.symm he
 | cons x pre ih =>
  intro out rest o e h he
  rw [List.cons_append]
  rw [foldT] at h ⊢
  by_cases h1 : x.s = []
  ·rw [if_pos h1] at h ⊢; exact h
  ·rw [if_neg h1] at h ⊢
   by_cases h2 : out.length = 20000
   ·rw [if_pos h2] at h ⊢; exact h
   ·rw [if_neg h2] at h ⊢
    exact ih _ _ _ _ h he
theorem foldT_len : ∀ (l out o : List TokP) (e : Int), foldT out l = (o, e) → out.length ≤ 20000 → o.length ≤ 20000 := by
 intro l
 induction l with
 | nil => intro out o e h hl; simp only [foldT, Prod.mk.injEq] at h; rw [← h.1]; exact hl
 | cons x l ih =>
  intro out o e h hl
  rw [foldT] at h
  by_cases h1 : x.s = []
  ·rw [if_pos h1] at h; simp only [Prod.mk.injEq] at h; rw [← h.1]; exact hl
  ·rw [if_neg h1] at h
   by_cases h2 : out.length = 20000
   ·rw [if_pos h2] at h; simp only [Prod.mk.injEq] at h; rw [← h.1]; exact hl
   ·rw [if_neg h2] at h
    exact ih _ _ _ h (by rw [List.length_append, List.length_singleton]; omega)
def lexF : List (Int × List UInt8) → List TokP → St → List TokP × Int × Int
 | [], out, st => if st.op then ([], 20, st.fr) else (out, 0, 0)
 | (N, S) :: r, out, st => if (foldT out (lineP N S st).1).2 = 0 then lexF r (foldT out (lineP N S st).1).1 (lineP N S st).2 else ([], (foldT out (lineP N S st).1).2, N)
def st0 : St := ⟨false, 0, false, false⟩
def lexP (l : List (Int × List UInt8)) : List TokP × Int × Int := lexF l [] st0
def toksC : List TokP → List Value
 | [] => []
 | t :: r => tokC t ++ toksC r
theorem toksC_len : ∀ l : List TokP, (toksC l).length = l.length * 6
 | [] => rfl
 | t :: r => by rw [toksC, List.length_append, toksC_len r, List.length_cons]; show 6 + _ = _; omega
theorem toksC_snoc (t : TokP) : ∀ l : List TokP, toksC (l ++ [t]) = toksC l ++ tokC t
 | [] => by show tokC t ++ [] = [] ++ tokC t; simp
 | x :: r => by rw [List.cons_append, toksC, toksC_snoc t r, toksC, List.append_assoc]
theorem XTy.not_row {W : World} {X : Nat} (h : XTy W X) {base k : Nat} {v : Value} {xs : List Value} (hr : W.ownsRow base 55 6 v k xs) : v.ownBlock ≠ some X := by
 obtain ⟨c, fr, h⟩ := h
 rcases hr.2 with ⟨rfl, _⟩ | ⟨g, cap, cur, rfl, _, hgb, _⟩
 ·simp [Value.ownBlock]
 ·intro e'
  obtain rfl : g = X := by simpa [Value.ownBlock] using e'
  have := h.symm.trans hgb
  simp at this
theorem Stir.grown {X : Nat} {w w' : World} (h : Stir X w w') : w.grownBy w' (some X) := ⟨h.os, h.tape, h.output, h.size, fun k hk hn => h.block k hk (fun e => hn (by rw [e]))⟩
theorem Boxed.stir {X B : Nat} {w w' : World} {t : TypeId} {v : Value} (h : Boxed w B t v) (hs : Stir X w w') (hne : B ≠ X) : Boxed w' B t v := (hs.block B h.lt hne).trans h
theorem grown_of_below {W W' : World} (h : Below W.heap.size W W') : W.grownBy W' none := ⟨h.os, h.tape, h.output, h.size, fun k hk _ => h.block k hk⟩
theorem below_put {B : Nat} {w W : World} (h : Below B w W) (hB : B ≤ w.heap.size) (l : Nat) (o : Obj) (hl : B ≤ l) : Below B w (W.putObj l o) :=
 ⟨h.os, h.tape, h.output, by simpa [World.putObj] using h.size, fun k hk => (World.putObj_heap_other (by omega)).trans (h.block k hk)⟩
theorem Tab.put {w : World} (h : Tab w) {l : Nat} (hl : 2 ≤ l) (o : Obj) : Tab (w.putObj l o) := by
 obtain ⟨⟨t, fr, h1⟩, m, h2⟩ := h
 refine ⟨⟨t, fr, (World.putObj_heap_other (by omega)).trans h1⟩, m, ?_⟩
 rw [← h2]
 unfold World.cell?
 rw [World.putObj_heap_other (show (1 : Nat) ≠ l by omega)]
def LexI (w : World) (out : List TokP) (W : World) : Prop :=
 (∃ v, Boxed W w.heap.size 31 v ∧ W.ownsRow w.heap.size 55 6 v out.length (toksC out)) ∧ Boxed W (w.heap.size + 1) 36 (.int .i64 0) ∧ Boxed W (w.heap.size + 2) 3 (.int .i64 0) ∧ Below w.heap.size w W
theorem LexI.stir {w A B : World} {out : List TokP} (h : LexI w out A) (hx : XTy A (w.heap.size + 3)) (hs : Stir (w.heap.size + 3) A B) : LexI w out B := by
 obtain ⟨⟨v, h1, h2⟩, h3, h4, h5⟩ := h
 refine ⟨⟨v, Boxed.stir h1 hs (by omega), h2.kept hs.grown (.inr (hx.not_row h2))⟩, Boxed.stir h3 hs (by omega), Boxed.stir h4 hs (by omega), h5.trans (hs.below (by omega) h5.size)⟩
theorem ownsRow_putObj {W : World} {base e size k l : Nat} {v : Value} {xs : List Value} {o : Obj} (h : W.ownsRow base e size v k xs) (o' : Obj) (hl : W.heap[l]? = some o) (ho : o.isCells = false) : (W.putObj l o').ownsRow base e size v k xs := by
 refine h.kept (grownBy_putObj' W l o') (.inr ?_)
 rcases h.2 with ⟨rfl, _⟩ | ⟨g, cap, cur, rfl, _, hgb, _⟩
 ·simp [Value.ownBlock]
 ·intro e'
  obtain rfl : g = l := by simpa [Value.ownBlock] using e'
  rw [hgb] at hl; cases hl; cases ho
theorem LexI.put {w A : World} {out : List TokP} {l : Nat} {o : Obj} (h : LexI w out A) (hl : w.heap.size + 4 ≤ l) (o' : Obj) (hlo : A.heap[l]? = some o) (ho : o.isCells = false) : LexI w out (A.putObj l o') := by
 obtain ⟨⟨v, h1, h2⟩, h3, h4, h5⟩ := h
 exact ⟨⟨v, (World.putObj_heap_other (by omega)).trans h1, ownsRow_putObj h2 o' hlo ho⟩, (World.putObj_heap_other (by omega)).trans h3, (World.putObj_heap_other (by omega)).trans h4, below_put h5 (Nat.le_refl _) l o' (by omega)⟩
theorem Marks.set {B : Nat} {Ds : List Nat} {w : World} (h : Marks B Ds w) {p : Addr} (hp : p.block < B) (v : Value) : Marks B Ds (w.setCell p v) :=
 ⟨h.1, fun D hD => ⟨(h.2 D hD).1, (Below.heap_setCell w p v D (by have := (h.2 D hD).1; omega)).trans (h.2 D hD).2⟩⟩
end Go.Proofs.YtcbfbefpbjmglaaGreatDoorT
namespace Go.Proofs.YtcbfbefpbjmglaaGreatDoorT
open Go.RowKit Go.Lib
attribute [local go_sem] Oper.semAt_some
theorem wpIn_loop_k {F : Fence} {n : Nat} {P : Program} {a : Act} {w : World} {Q : Exit → Act → World → Prop} {c : Code} (I : Act → World → Prop) (μ : Act → World → Nat) (h₀ : I a w)
  (round : ∀ a w, I a w → ∀ K : Act → World → Prop, (∀ a' w', I a' w' → μ a' w' < μ a w → K a' w') → c.wpIn F n P (Exit.then K Q) a w) : (Code.loop c).wpIn F n P Q a w :=
 wpIn_loop I μ h₀ fun a w h => round a w h _ (fun _ _ h1 h2 => ⟨h1, h2⟩)
theorem toks_calls (X : Nat) (N : Int) (S : List UInt8) (w : World) :
  Calls Tryz.prog 36 #[.pointer (some ⟨X, 0, none⟩), .agg #[.int .i64 N, .string (bstr S)]] w fun e w' => e = .returned (.func (.func 54) #[] #[.pointer (some ⟨w.heap.size, 0, none⟩), .pointer (some ⟨w.heap.size + 1, 0, none⟩)]) ∧ Below w.heap.size w w' ∧
   Boxed w' w.heap.size 80 (.pointer (some ⟨X, 0, none⟩)) ∧ w'.heap[w.heap.size + 1]? = some (.cells #[.int .i64 N, .string (bstr S)] 63 (0, 0)) := by
 have hB : Below w.heap.size w ((w.alloc (.cells #[.pointer (some ⟨X, 0, none⟩)] 80)).alloc (.cells #[.int .i64 N, .string (bstr S)] 63)) := (below_new _).alloc (by simp) _
 have h2 : Boxed ((w.alloc (.cells #[.pointer (some ⟨X, 0, none⟩)] 80)).alloc (.cells #[.int .i64 N, .string (bstr S)] 63)) w.heap.size 80 (.pointer (some ⟨X, 0, none⟩)) := (Boxed.new w 80 _).alloc _
 have h3 : ((w.alloc (.cells #[.pointer (some ⟨X, 0, none⟩)] 80)).alloc (.cells #[.int .i64 N, .string (bstr S)] 63)).heap[w.heap.size + 1]? = some (.cells #[.int .i64 N, .string (bstr S)] 63 (0, 0)) := by
  have := World.alloc_heap_new (w.alloc (.cells #[.pointer (some ⟨X, 0, none⟩)] 80)) (.cells #[.int .i64 N, .string (bstr S)] 63)
  rwa [World.size_alloc] at this
 go_enter Tryz.func36, Tryz.ntmps36
 go_wp2
 go_ret
 exact ⟨by first | rfl | simp, hB, h2, h3⟩
theorem kf_drewN {B : Nat} {W W' : World} (h : KeepsFrom B W W') (n : Nat) : KeepsFrom B W (W'.drewN n) := ⟨h.size, h.same⟩
theorem keep5 {W4 w1 : World} {tmp : Obj} {v4 v' : Value} {b k n₀ m : Nat} {xs : List Value} {c : Array Value} {t : TypeId} {fr : Nat × Nat} (hrow : W4.ownsRow n₀ 55 6 v4 m xs) (hg : (W4.alloc tmp).grownBy w1 v4.ownBlock)
  (hk : W4.heap[k]? = some (.cells c t fr)) (ht : t ≠ 55) (hb : k ≠ b) : (w1.setCell ⟨b, 0, none⟩ v').heap[k]? = some (.cells c t fr) := by
 have hlt := (Array.getElem?_eq_some_iff.1 hk).1
 have h1 : (W4.alloc tmp).heap[k]? = some (.cells c t fr) := ((below_new (w := W4) tmp).block k hlt).trans hk
 have h2 : w1.heap[k]? = some (.cells c t fr) := (hg.block k (by rw [World.size_alloc]; omega) (fun e => by
  rcases hrow.2 with ⟨rfl, _⟩ | ⟨g, cap, cur, rfl, _, hgb, _⟩
  ·simp [Value.ownBlock] at e
  ·obtain rfl : k = g := by simpa [Value.ownBlock] using e
   rw [hk] at hgb
   simp at hgb
   exact ht hgb.2.1)).trans h1
 exact (Below.heap_setCell w1 ⟨b, 0, none⟩ v' k hb).trans h2
theorem cells_six_new (w : World) (a b c d e f : Value) (t : TypeId) : ∀ j u, [a, b, c, d, e, f][j]? = some u → (w.alloc (.cells #[a, b, c, d, e, f] t)).cell? ((⟨w.heap.size, 0, none⟩ : Addr).add j) = some u := by
 obtain ⟨h0, h1, h2, h3, h4, h5⟩ := cell_six (World.alloc_heap_new w (.cells #[a, b, c, d, e, f] t))
 intro j u hj
 match j, hj with
 | 0, hj => simp at hj; subst hj; exact h0
 | 1, hj => simp at hj; subst hj; exact h1
 | 2, hj => simp at hj; subst hj; exact h2
 | 3, hj => simp at hj; subst hj; exact h3
 | 4, hj => simp at hj; subst hj; exact h4
 | 5, hj => simp at hj; subst hj; exact h5
set_option maxHeartbeats 2000000 in
theorem lex_calls (A : Option Addr) (c : Nat) (L : List (Int × List UInt8)) (w : World) (hT : Tab w) (hL : ∀ x ∈ L, x.2.length < 4294967281) (hLn : L.length < 9223372036854775806)
  (hA : 0 < L.length → ∃ ad, A = some ad ∧ ∀ i x, L[i]? = some x → w.cell? (ad.add (i * 2)) = some (.int .i64 x.1) ∧ w.cell? ⟨(ad.add (i * 2)).block, (ad.add (i * 2)).off + 1, none⟩ = some (.string (bstr x.2))) :
  Calls Tryz.prog 22 #[.slice A L.length c] w fun e w' => ∃ v, e = .returned (.tuple #[v, .int .i64 (lexP L).2.1, .int .i64 (lexP L).2.2]) ∧ w'.ownsRow w.heap.size 55 6 v (lexP L).1.length (toksC (lexP L).1) ∧ Below w.heap.size w w' := by
 refine (callsIn_wide (n := 5)).1 ?_
 refine callsIn_of_wp_marks Tryz.func22 rfl trivial ?_ rfl
 simp only [Tryz.ntmps22, List.size_toArray, List.length_cons, List.length_nil, Nat.reduceAdd, Nat.reduceSub, Array.replicate_succ, Array.replicate_zero, List.push_toArray, List.append_toArray, List.nil_append, List.cons_append]
 have info55 : (Tryz.prog.info? 55).map (fun i => (i.zero, i.size, i.bytes)) = some (some (.agg #[.int .i64 0, .string ⟨#[]⟩, .string ⟨#[]⟩, .int .i64 0, .bool false, .bool false]), 6, 56) := by kernel_rfl
 obtain ⟨i0, hi0, hz0, hz1, hz2⟩ := info_parts info55
 clear info55
 obtain ⟨LP, hLP⟩ : ∃ LP, lexP L = LP := ⟨_, rfl⟩
 rw [hLP]
 have HLP := hid hLP
 clear hLP
 gi_wp2
 refine wpIn_wide.2 (wp_scope_straight ((wpIn_wide (n := 5)).1 ?_))
 gi_wp2
 refine wpIn_label ?_
 gi_wp2
 rename_i Q K hK
 obtain ⟨pO, hpO⟩ : ∃ p, w.heap.size = p := ⟨_, rfl⟩
 obtain ⟨pE, hpE⟩ : ∃ p, w.heap.size + 1 = p := ⟨_, rfl⟩
 obtain ⟨pA, hpA⟩ : ∃ p, w.heap.size + 1 + 1 = p := ⟨_, rfl⟩
 obtain ⟨pX, hpX⟩ : ∃ p, w.heap.size + 1 + 1 + 1 = p := ⟨_, rfl⟩
 rw [hpX, hpA, hpE, hpO]
 obtain ⟨W1, hW1⟩ : ∃ W1, ((((w.alloc (.cells #[.slice none 0 0] 31)).alloc (.cells #[.int .i64 0] 36)).alloc (.cells #[.int .i64 0] 3)).alloc (.cells #[.bool false, .int .i64 0, .bool false, .bool false] 82)) = W1 := ⟨_, rfl⟩
 have hI1 : LexI w [] W1 := by
  rw [← hW1]
  have b0 := Boxed.new w 31 (.slice none 0 0)
  have b1 := Boxed.new (w.alloc (.cells #[.slice none 0 0] 31)) 36 (.int .i64 0)
  have b2 := Boxed.new ((w.alloc (.cells #[.slice none 0 0] 31)).alloc (.cells #[.int .i64 0] 36)) 3 (.int .i64 0)
  simp only [World.size_alloc] at b1 b2
  refine ⟨⟨_, ((b0.alloc _).alloc _).alloc _, World.ownsRow_nil _ _ _ _⟩, (b1.alloc _).alloc _, b2.alloc _, (((below_new _).alloc (by simp) _).alloc (by simp; omega) _).alloc (by simp; omega) _⟩
 have hx1 : XAt W1 (w.heap.size + 3) st0 := by
  rw [← hW1]
  have := World.alloc_heap_new (((w.alloc (.cells #[.slice none 0 0] 31)).alloc (.cells #[.int .i64 0] 36)).alloc (.cells #[.int .i64 0] 3)) (.cells #[.bool false, .int .i64 0, .bool false, .bool false] 82)
  simp only [World.size_alloc] at this
  exact this
 have hm1 : Marks (w.heap.size + 4) [] W1 := ⟨List.nodup_nil, fun D h => by cases h⟩
 rw [hW1]
 clear hW1
 have HPOST : Aside (∀ (a : Act) (W : World), (∃ (Ds : List Nat) (v16 v10 v17 v18 v19 v20 v21 v22 v40 : Value) (out : List TokP) (e n : Int) (st : St), a = { tmps := #[.slice A L.length c, undef, .slice none 0 0, .int .i64 0, .int .i64 0, .pointer (some ⟨pO, 0, none⟩), .pointer (some ⟨pE, 0, none⟩), .pointer (some ⟨pA, 0, none⟩), .pointer (some ⟨pX, 0, none⟩), undef, v10, undef, .agg #[.bool false, .int .i64 0, .bool false, .bool false], .pointer (some ⟨pX, 0, none⟩), .slice A L.length c, .int .i64 (L.length : Int), v16, v17, v18, v19, v20, v21, v22, undef, undef, undef, undef, undef, undef, undef, undef, undef, undef, undef, undef, undef, undef, undef, undef, undef, v40, undef, undef, undef, undef, undef, undef, undef, undef, undef, undef, undef, undef, undef, undef, undef, undef, undef], defers := Ds.map fun D => { target := .collected D, args := #[] } } ∧ Marks (w.heap.size + 4) Ds W ∧
   Boxed W (w.heap.size + 1) 36 (.int .i64 e) ∧ Boxed W (w.heap.size + 2) 3 (.int .i64 n) ∧ Below w.heap.size w W ∧
   ((e = 0 ∧ (∃ v, Boxed W w.heap.size 31 v ∧ W.ownsRow w.heap.size 55 6 v out.length (toksC out)) ∧ XAt W (w.heap.size + 3) st ∧ lexP L = (if st.op then ([], 20, st.fr) else (out, 0, 0))) ∨ (e ≠ 0 ∧ lexP L = ([], e, n)))) → K a W) := by
  refine hid ?_
  rintro a W ⟨Ds, v16, v10, v17, v18, v19, v20, v21, v22, v40, out, e, n, st, rfl, hM, hbE, hbA, hBl, hcase⟩
  refine hK _ _ ?_
  clear hK hI1 hx1 hm1 hA hL hT
  have hcE : W.cell? ⟨pE, 0, none⟩ = some (.int .i64 e) := by rw [← hpE]; exact hbE.cell
  have hcA : W.cell? ⟨pA, 0, none⟩ = some (.int .i64 n) := by rw [← hpA]; exact hbA.cell
  have hfE : W.frozen? ⟨pE, 0, none⟩ = false := by rw [← hpE]; exact hbE.frozen
  have hfA : W.frozen? ⟨pA, 0, none⟩ = false := by rw [← hpA]; exact hbA.frozen
  rcases hcase with ⟨rfl, ⟨v, hbO, hrow⟩, hx, hlx⟩ | ⟨he, hlx⟩
  ·have hc0 : W.cell? ⟨pX, 0, none⟩ = some (.bool st.op) := by rw [← hpX]; exact hx.c0
   have hc1 : W.cell? ⟨pX, 1, none⟩ = some (.int .i64 st.fr) := by rw [← hpX]; exact hx.c1
   have hcO : W.cell? ⟨pO, 0, none⟩ = some v := by rw [← hpO]; exact hbO.cell
   have HM := hid (And.intro hM (And.intro hBl (And.intro hrow (And.intro hbE hbA))))
   clear hM hBl hrow hbE hbA hx hbO
   have HP := hid (And.intro hpO (And.intro hpE hpA))
   have hne1 : ¬ pE = pA := by omega
   have hne2 : ¬ pA = pE := by omega
   clear hpO hpE hpA hpX
   cases hop : st.op with
   | false =>
    rw [hop] at hlx hc0
    have HL := hid (HLP.out.symm.trans hlx)
    clear hlx
    gi_wp2
    show LeavesInM _ _ _ _ _ _ _ _ _
    refine leaves_marks (w.heap.size + 4) (fun W' => W'.ownsRow w.heap.size 55 6 v out.length (toksC out) ∧ Below w.heap.size w W') (fun A D o' h hD hk => ⟨ownsRow_putObj h.1 o' hk rfl, below_put h.2 (Nat.le_refl _) D o' (by omega)⟩) ?_ Ds _ HM.out.1 ⟨HM.out.2.2.1, HM.out.2.1⟩
    rintro w' ⟨h1, h2⟩
    rw [HL.out]
    exact ⟨_, results_tmp3 rfl _ _ _, v, rfl, h1, h2⟩
   | true =>
    rw [hop] at hlx hc0
    have HL := hid (HLP.out.symm.trans hlx)
    clear hlx
    gi_wp2
    gi_region
    gi_wp2
    gi_region
    gi_wp2
    show LeavesInM _ _ _ _ _ _ _ _ _
    refine leaves_marks (w.heap.size + 4) (fun W' => Below w.heap.size w W') (fun A D o' h hD hk => below_put h (Nat.le_refl _) D o' (by omega)) ?_ Ds _ ?_ ?_
    ·intro w' h2
     rw [HL.out]
     exact ⟨_, results_tmp3 rfl _ _ _, .slice none 0 0, rfl, World.ownsRow_nil _ _ _ _, h2⟩
    ·exact (HM.out.1.set (p := ⟨pE, 0, none⟩) (by have := HP.out; show pE < _; omega) (.int .i64 20)).set (p := ⟨pA, 0, none⟩) (by have := HP.out; show pA < _; omega) (.int .i64 st.fr)
    ·have := HP.out
     exact bl_drewN (bl_drewN ((HM.out.2.1.setCell (p := ⟨pE, 0, none⟩) (by show _ ≤ pE; omega) (.int .i64 20)).setCell (p := ⟨pA, 0, none⟩) (by show _ ≤ pA; omega) (.int .i64 st.fr)) 1) 1
  ·have HM := hid (And.intro hM (And.intro hBl (And.intro hbE hbA)))
   clear hM hBl hbE hbA
   have HP := hid (And.intro hpO (And.intro hpE hpA))
   clear hpO hpE hpA hpX
   have HL := hid (HLP.out.symm.trans hlx)
   clear hlx
   gi_wp2
   gi_region
   gi_wp2
   show LeavesInM _ _ _ _ _ _ _ _ _
   refine leaves_marks (w.heap.size + 4) (fun W' => Below w.heap.size w W') (fun A D o' h hD hk => below_put h (Nat.le_refl _) D o' (by omega)) ?_ Ds _ ?_ ?_
   ·intro w' h2
    rw [HL.out]
    exact ⟨_, results_tmp3 rfl _ _ _, .slice none 0 0, rfl, World.ownsRow_nil _ _ _ _, h2⟩
   ·exact HM.out.1
   ·exact bl_drewN HM.out.2.1 1
 have HM1 := hid hm1
 refine wpIn_loop_k (fun a W => ∃ (i : Nat) (Ds : List Nat) (v10 v17 v18 v19 v20 v21 v22 v40 : Value) (out : List TokP) (st : St), a = { tmps := #[.slice A L.length c, undef, .slice none 0 0, .int .i64 0, .int .i64 0, .pointer (some ⟨pO, 0, none⟩), .pointer (some ⟨pE, 0, none⟩), .pointer (some ⟨pA, 0, none⟩), .pointer (some ⟨pX, 0, none⟩), undef, v10, undef, .agg #[.bool false, .int .i64 0, .bool false, .bool false], .pointer (some ⟨pX, 0, none⟩), .slice A L.length c, .int .i64 (L.length : Int), .int .i64 (i : Int), v17, v18, v19, v20, v21, v22, undef, undef, undef, undef, undef, undef, undef, undef, undef, undef, undef, undef, undef, undef, undef, undef, undef, v40, undef, undef, undef, undef, undef, undef, undef, undef, undef, undef, undef, undef, undef, undef, undef, undef, undef], defers := Ds.map fun D => { target := .collected D, args := #[] } } ∧ i ≤ L.length ∧ LexI w out W ∧ XAt W (w.heap.size + 3) st ∧ Marks (w.heap.size + 4) Ds W ∧ out.length ≤ 20000 ∧ lexP L = lexF (L.drop i) out st)
  (fun (a : Act) _ => match a.tmps[16]? with | some (Value.int _ j) => L.length - j.toNat | _ => 0) ⟨0, [], undef, undef, undef, undef, undef, undef, undef, undef, [], st0, rfl, by omega, hI1, hx1, hm1, by simp, rfl⟩ ?_
 clear hI1 hx1 hm1 HM1 hK
 rintro a W ⟨i, Ds, v10, v17, v18, v19, v20, v21, v22, v40, out, st, rfl, hi, hI, hx, hM, ho, hlx⟩ KK hKK
 have HKK := hid hKK
 clear hKK
 have HQ := hid (And.intro hpO (And.intro hpE (And.intro hpA hpX)))
 obtain ⟨⟨v, hbO, hrow⟩, hbE, hbA, hBl⟩ := hI
 by_cases h1 : (i : Int) < L.length
 ·have hil : i < L.length := by omega
  obtain ⟨x, hxi⟩ : ∃ x, L[i]? = some x := ⟨_, List.getElem?_eq_getElem hil⟩
  obtain ⟨ad, rfl, hcells⟩ := hA (by omega)
  obtain ⟨hx0, hx1⟩ := hcells i x hxi
  have hy0 := (hBl.cell (cell_in hx0)).trans hx0
  have hy1 := (hBl.cell (cell_in hx1)).trans hx1
  have HA := hid hA
  have HCS := hid hcells
  clear hx0 hx1 hA hcells
  obtain ⟨N, S⟩ := x
  simp only at hy0 hy1
  have hSl : S.length < 4294967281 := hL _ (List.mem_of_getElem? hxi)
  have HL := hid hL
  clear hL
  have hlx2 : lexP L = if (foldT out (lineP N S st).1).2 = 0 then lexF (L.drop (i + 1)) (foldT out (lineP N S st).1).1 (lineP N S st).2 else ([], (foldT out (lineP N S st).1).2, N) := by
   rw [hlx, List.drop_eq_getElem_cons hil]
   have : L[i] = (N, S) := by rw [List.getElem?_eq_getElem hil] at hxi; exact Option.some.inj hxi
   rw [this, lexF]
  have HX := hid (And.intro hlx2 (And.intro hSl hxi))
  clear hlx hlx2 hxi hSl
  have hTW := hT.grow hBl
  have hcall := fun W' => toks_calls pX N S W'
  gi_wp2_with (first | (refine ⟨trivial, ?_⟩; gi_at_call 36; refine (callsIn_wide.2 (hcall _)).mono ?_; rintro e W3 ⟨rfl, hB3, hbx, hbl⟩))
  have eX : w.heap.size + 3 = pX := hpX
  have hBW : Below W.heap.size W W3 := (below_new _).trans (hB3.mono (by simp))
  have hk3 : W3.heap[W.heap.size]? = some (.cells #[.int .i64 N, .string (bstr S)] 63 (0, 0)) := (hB3.block W.heap.size (by simp)).trans (World.alloc_heap_new _ _)
  have hbx3 : Boxed W3 (W.heap.size + 1) 80 (.pointer (some ⟨pX, 0, none⟩)) := by simpa using hbx
  have hbl3 : W3.heap[W.heap.size + 1 + 1]? = some (.cells #[.int .i64 N, .string (bstr S)] 63 (0, 0)) := by simpa using hbl
  have hXlt := hx.lt
  rw [eX] at hx hXlt
  have hx3 := hx.grow hBW
  have hI3 : LexI w out W3 := LexI.stir ⟨⟨v, hbO, hrow⟩, hbE, hbA, hBl⟩ (by rw [eX]; exact hx.ty) (Stir.of hBW)
  have hM3 := hM.stir (X := pX) (by omega) (Stir.of hBW)
  have hT3 := hTW.grow hBW
  have hsz3 := hBW.size
  have hT2 := hT.two
  have h3lt := hk3
  have hlt3 : W.heap.size + 1 + 1 < W3.heap.size := (Array.getElem?_eq_some_iff.1 hbl3).1
  have hXne : pX < W.heap.size := hXlt
  clear hB3 hbx hbl hcall hy0 hy1 hbO hrow hbE hbA hM hx hTW h3lt
  obtain ⟨I, hI⟩ : ∃ I : List TokP → World → Prop, I = fun pre W' => ∃ o, foldT out pre = (o, 0) ∧ LexI w o W' ∧ Marks (w.heap.size + 4) Ds W' ∧ W'.heap[W.heap.size]? = some (.cells #[.int .i64 N, .string (bstr S)] 63 (0, 0)) ∧ Tab W' ∧ Boxed W' (W.heap.size + 1) 80 (.pointer (some ⟨pX, 0, none⟩)) ∧ W'.heap[W.heap.size + 1 + 1]? = some (.cells #[.int .i64 N, .string (bstr S)] 63 (0, 0)) ∧ XTy W' pX := ⟨_, rfl⟩
  obtain ⟨Ix, hIx⟩ : ∃ Ix : List TokP → World → Prop, Ix = fun pre W' => ∃ o e, foldT out pre = (o, e) ∧ e ≠ 0 ∧ Boxed W' (w.heap.size + 1) 36 (.int .i64 e) ∧ Boxed W' (w.heap.size + 2) 3 (.int .i64 N) ∧ Below w.heap.size w W' ∧ Marks (w.heap.size + 4) Ds W' := ⟨_, rfl⟩
  have hIa : ∀ s A B, I s A → Stir pX A B → I s B := by
   rw [hI]
   rintro s A B ⟨o, h1, h2, h3, h4, h5, h6, h7, h8⟩ hs
   have e4 := (Array.getElem?_eq_some_iff.1 h4).1
   have e7 := (Array.getElem?_eq_some_iff.1 h7).1
   refine ⟨o, h1, h2.stir (by rw [eX]; exact h8) (by rw [eX]; exact hs), h3.stir (by omega) hs, (hs.block _ e4 (by omega)).trans h4, h5.stir (by omega) hs, Boxed.stir h6 hs (by omega), (hs.block _ e7 (by omega)).trans h7, h8.stir hs⟩
  have hIk : ∀ s A, I s A → Tab A ∧ Boxed A (W.heap.size + 1) 80 (.pointer (some ⟨pX, 0, none⟩)) ∧ A.heap[W.heap.size + 1 + 1]? = some (.cells #[.int .i64 N, .string (bstr S)] 63 (0, 0)) := by
   rw [hI]
   rintro s A ⟨o, h1, h2, h3, h4, h5, h6, h7, h8⟩
   exact ⟨h5, h6, h7⟩
  have hIc : ∀ s A l o o', I s A → W3.heap.size ≤ l → A.heap[l]? = some o → o.isCells = false → I s (A.putObj l o') := by
   rw [hI]
   rintro s A l ob ob' ⟨o, h1, h2, h3, h4, h5, h6, h7, h8⟩ hl hlo hc
   refine ⟨o, h1, h2.put (by omega) ob' hlo hc, h3.put (fun hm => ?_) ob', (World.putObj_heap_other (by omega)).trans h4, h5.put (by omega) ob', (World.putObj_heap_other (by omega)).trans h6, (World.putObj_heap_other (by omega)).trans h7, h8.put ob' hlo hc⟩
   have := hM3.lt l hm
   omega
  have hIxc : ∀ s A l o o', Ix s A → W3.heap.size ≤ l → A.heap[l]? = some o → o.isCells = false → Ix s (A.putObj l o') := by
   rw [hIx]
   rintro s A l ob ob' ⟨o, e, h1, h2, h3, h4, h5, h6⟩ hl hlo hc
   refine ⟨o, e, h1, h2, (World.putObj_heap_other (by omega)).trans h3, (World.putObj_heap_other (by omega)).trans h4, below_put h5 (Nat.le_refl _) l ob' (by omega), h6.put (fun hm => ?_) ob'⟩
   have := hM3.lt l hm
   omega
  have h0 : I [] W3 := by rw [hI]; exact ⟨out, rfl, hI3, hM3, hk3, hT3, hbx3, hbl3, hx3.ty⟩
  refine wpIn_rangeFunc_toks (n := 5) (by decide) (X := pX) (Bx := W.heap.size + 1) (Bl := W.heap.size + 1 + 1) (N := N) (S := S) (st := st) rfl (by omega)
   (toks_seq 4 (by decide) pX (W.heap.size + 1) (W.heap.size + 1 + 1) (by omega) (by omega) (by omega) N S HX.out.2.1 st) hx3 rfl I Ix hIa hIk hIc hIxc h0 0
   (fun x Bt => { tmps := #[(.slice (some ad) L.length c), undef, .slice none 0 0, .int .i64 0, .int .i64 0, .pointer (some ⟨pO, 0, none⟩), .pointer (some ⟨pE, 0, none⟩), .pointer (some ⟨pA, 0, none⟩), .pointer (some ⟨pX, 0, none⟩), undef, .pointer (some ⟨W.heap.size, 0, none⟩), .pointer (some ⟨Bt, 0, none⟩), .agg #[.bool false, .int .i64 0, .bool false, .bool false], .pointer (some ⟨pX, 0, none⟩), (.slice (some ad) L.length c), .int .i64 (L.length : Int), .int .i64 (i : Int), .bool true, .pointer (some (ad.add (i * 2))), .agg #[.int .i64 N, .string (bstr S)], .pointer (some ⟨pX, 0, none⟩), .agg #[.int .i64 N, .string (bstr S)], .func (.func 54) #[] #[.pointer (some ⟨W.heap.size + 1, 0, none⟩), .pointer (some ⟨W.heap.size + 1 + 1, 0, none⟩)], tokV x, undef, undef, undef, undef, undef, undef, undef, undef, undef, undef, undef, undef, undef, undef, undef, undef, v40, undef, undef, undef, undef, undef, undef, undef, undef, undef, undef, undef, undef, undef, undef, undef, undef, undef], defers := [] }) ?assign ?body ?done ?stop
  case assign =>
   intro l x W' K' hK'
   obtain ⟨kd, sx, ln, spx, fsx⟩ := x
   simp only [tokV, tokC]
   gi_wp2
   exact hK'
  case stop =>
   intro D pre W' hD hpre hx' hk'
   rw [hIx] at hx'
   obtain ⟨o, e, h1, h2, h3, h4, h5, h6⟩ := hx'
   show K _ _
   refine HPOST.out _ _ ⟨D :: Ds, _, _, _, _, _, _, _, _, _, o, e, N, st, rfl, ⟨List.nodup_cons.2 ⟨fun hm => ?_, h6.1⟩, fun E hE => ?_⟩, h3, h4, h5, .inr ⟨h2, ?_⟩⟩
   ·have := hM3.lt D hm; omega
   ·rcases List.mem_cons.1 hE with rfl | hE
    ·exact ⟨by omega, hk'⟩
    ·exact h6.2 E hE
   ·obtain ⟨rest, hrest⟩ := hpre
    have hst := foldT_stop pre out rest o e h1 h2
    rw [hrest] at hst
    rw [HX.out.1, hst, if_neg h2]
  case done =>
   intro D W' hD hi' hx' hk'
   rw [hI] at hi'
   obtain ⟨o, h1, h2, h3, h4, h5, h6, h7, h8⟩ := hi'
   have hol := foldT_len _ _ _ _ h1 ho
   have HD := hid (And.intro h1 (And.intro h2 (And.intro h3 (And.intro hx' (And.intro hk' (And.intro hol (And.intro hD hM3)))))))
   clear h1 h2 h3 h4 h5 h6 h7 h8 hx' hk' hol hD hI hIx hIa hIk hIc hIxc h0 hM3 hT3 hI3 hbx3 hbl3 hx3 hk3 hBl hT
   gi_wp2
   refine HKK.out _ _ ⟨i + 1, D :: Ds, _, _, _, _, _, _, _, _, o, _, rfl, by omega, HD.out.2.1, by rw [eX]; exact HD.out.2.2.2.1, ⟨List.nodup_cons.2 ⟨fun hm => ?_, HD.out.2.2.1.1⟩, fun E hE => ?_⟩, HD.out.2.2.2.2.2.1, ?_⟩ ?_
   ·have := HD.out.2.2.2.2.2.2.2.lt D hm
    have := HD.out.2.2.2.2.2.2.1
    omega
   ·rcases List.mem_cons.1 hE with rfl | hE
    ·exact ⟨by have := HD.out.2.2.2.2.2.2.1; omega, HD.out.2.2.2.2.1⟩
    ·exact HD.out.2.2.1.2 E hE
   ·rw [HX.out.1, HD.out.1, if_pos rfl]
   ·show L.length - ((i : Int) + 1).toNat < L.length - ((i : Int)).toNat
    omega
  case body =>
   intro l pre x W4 st4 Bt hi4 hx4 hbt hBt hpre
   rw [hI] at hi4
   obtain ⟨o, hfo, h2, h3, h4, h5, h6, h7, h8⟩ := hi4
   have hol := foldT_len _ _ _ _ hfo ho
   have hsn := foldT_snoc x pre out o hfo
   obtain ⟨TP, hTP⟩ : ∃ TP, tokPost W3.heap.size pX st4 0 I Ix pre x W4 = TP := ⟨_, rfl⟩
   rw [hTP]
   obtain ⟨⟨v4, hbO4, hrow4⟩, hbE4, hbA4, hBl4⟩ := h2
   have hcE : W4.cell? ⟨pE, 0, none⟩ = some (.int .i64 0) := by rw [← hpE]; exact hbE4.cell
   have hcA : W4.cell? ⟨pA, 0, none⟩ = some (.int .i64 0) := by rw [← hpA]; exact hbA4.cell
   have hfE : W4.frozen? ⟨pE, 0, none⟩ = false := by rw [← hpE]; exact hbE4.frozen
   have hfA : W4.frozen? ⟨pA, 0, none⟩ = false := by rw [← hpA]; exact hbA4.frozen
   have hcO : W4.cell? ⟨pO, 0, none⟩ = some v4 := by rw [← hpO]; exact hbO4.cell
   have hfO : W4.frozen? ⟨pO, 0, none⟩ = false := by rw [← hpO]; exact hbO4.frozen
   obtain ⟨hn0, hn1⟩ := cell_two h4
   obtain ⟨hk0, hk1, hk2, hk3, hk4, hk5⟩ := cell_six hbt
   have hne1 : ¬ pE = pA := by omega
   have hne2 : ¬ pA = pE := by omega
   have hem := bempty x.s
   have HB := hid (And.intro hTP (And.intro hI (And.intro hIx (And.intro hfo (And.intro h3 (And.intro hBl4 (And.intro hsn (And.intro hx4 (And.intro h5 (And.intro h6 (And.intro h7 h8)))))))))))
   have HR := hid (And.intro hbO4 (And.intro hrow4 (And.intro hbE4 (And.intro hbA4 (And.intro h4 hbt)))))
   clear hTP hI hIx hfo h3 hBl4 hsn hx4 h5 h6 h7 h8 hIa hIk hIc hIxc h0 hM3 hT3 hI3 hbx3 hbl3 hx3 hBl hT h4 hbt
   have HS := hid hol
   by_cases hs : x.s = []
   ·have hem2 : (bstr x.s).toList.isEmpty = true := by rw [hem, hs]; rfl
    have HE := hid hs
    clear hem hs hol
    gi_wp2
    gi_region
    all_goals gi_wp2
    all_goals
     rw [← HB.out.1]
     refine ⟨rfl, kf_drewN (((KeepsOthers.setCell _ _ _).trans (KeepsOthers.setCell _ _ _)).from _) 1, ?_⟩
     rw [HB.out.2.2.1]
     refine ⟨o, 21, by rw [HB.out.2.2.2.2.2.2.1, if_pos HE.out], by decide, ?_, ?_, ?_, ?_⟩
     ·subst hpE hpA
      exact (HR.out.2.2.1.set (.int .i64 21)).other (by omega) (.int .i64 N)
     ·subst hpE hpA
      exact (HR.out.2.2.2.1.other (by omega) (.int .i64 21)).set (.int .i64 N)
     ·exact bl_drewN ((HB.out.2.2.2.2.2.1.setCell (p := ⟨pE, 0, none⟩) (by show _ ≤ pE; omega) (.int .i64 21)).setCell (p := ⟨pA, 0, none⟩) (by show _ ≤ pA; omega) (.int .i64 N)) 1
     ·exact (HB.out.2.2.2.2.1.set (p := ⟨pE, 0, none⟩) (by show pE < _; omega) (.int .i64 21)).set (p := ⟨pA, 0, none⟩) (by show pA < _; omega) (.int .i64 N)
   ·have hem2 : (bstr x.s).toList.isEmpty = false := by rw [hem]; cases hq : x.s with
     | nil => exact absurd hq hs
     | cons _ _ => rfl
    have HE := hid hs
    clear hem hs
    obtain ⟨p4, c4, rfl⟩ : ∃ p4 c4, v4 = .slice p4 o.length c4 := by
     rcases HR.out.2.1.2 with ⟨rfl, h0⟩ | ⟨g, cap, _, rfl, _⟩
     ·exact ⟨none, 0, by rw [h0]⟩
     ·exact ⟨_, _, rfl⟩
    by_cases h20 : (o.length : Int) = 20000
    ·clear hrow4
     gi_wp2
     gi_region
     all_goals gi_wp2
     all_goals
      rw [← HB.out.1]
      refine ⟨rfl, kf_drewN (((KeepsOthers.setCell _ _ _).trans (KeepsOthers.setCell _ _ _)).from _) 1, ?_⟩
      rw [HB.out.2.2.1]
      refine ⟨o, 22, by rw [HB.out.2.2.2.2.2.2.1, if_neg HE.out, if_pos (by omega)], by decide, ?_, ?_, ?_, ?_⟩
      ·subst hpE hpA
       exact (HR.out.2.2.1.set (.int .i64 22)).other (by omega) (.int .i64 N)
      ·subst hpE hpA
       exact (HR.out.2.2.2.1.other (by omega) (.int .i64 22)).set (.int .i64 N)
      ·exact bl_drewN ((HB.out.2.2.2.2.2.1.setCell (p := ⟨pE, 0, none⟩) (by show _ ≤ pE; omega) (.int .i64 22)).setCell (p := ⟨pA, 0, none⟩) (by show _ ≤ pA; omega) (.int .i64 N)) 1
      ·exact (HB.out.2.2.2.2.1.set (p := ⟨pE, 0, none⟩) (by show pE < _; omega) (.int .i64 22)).set (p := ⟨pA, 0, none⟩) (by show pA < _; omega) (.int .i64 N)
    ·have hO1 := hbO4
     clear hrow4 hbO4
     gi_wp2_with (first | (gi_at_builtin; refine wpListIn_append_own _ rfl _ _ 31 rfl w.heap.size 55 i0 (.agg #[.int .i64 0, .string ⟨#[]⟩, .string ⟨#[]⟩, .int .i64 0, .bool false, .bool false]) 6 56 Tryz.underlying31 hi0 hz0 hz1 hz2 rfl (by decide) _ _ _ rfl (HR.out.2.1.alloc _) ⟨W4.heap.size, 0, none⟩ 1 1 [.int .i64 (x.kind : Int), .string (bstr x.s), .string ⟨#[]⟩, .int .i64 x.line, .bool x.sp, .bool x.fs] rfl rfl (cells_six_new _ _ _ _ _ _ _ _) (by simp [Value.oneCell']) (by simp [maxLen]; omega) (by omega) (by have := HB.out.2.2.2.2.2.1.size; simp; omega) ?_; intro v' w1 hown' hgrow _; obtain ⟨g', cap', rfl⟩ := ownsRow_succ hown'; obtain ⟨hv1, hv2, hr2, hkp2, hb2⟩ := HR.out.1.appended (by decide) HR.out.2.1 HB.out.2.2.2.2.2.1.size (Nat.le_refl _) hown' hgrow; have hc1 : w1.cell? ⟨pO, 0, none⟩ = _ := hpO ▸ hv1.cell; have hf1 : w1.frozen? ⟨pO, 0, none⟩ = false := hpO ▸ hv1.frozen))
     rw [← HB.out.1]
     subst hpO
     refine ⟨hkp2.from _, HE.out, ?_, ?_⟩
     ·rw [HB.out.2.1]
      refine ⟨o ++ [x], by rw [HB.out.2.2.2.2.2.2.1, if_neg HE.out, if_neg (by omega)], ⟨⟨_, hv2, by rw [List.length_append, toksC_snoc]; exact hr2⟩, ?_, ?_, HB.out.2.2.2.2.2.1.trans hb2⟩, ?_, ?_, ?_, ?_, ?_, ?_⟩
      ·exact keep5 HR.out.2.1 hgrow HR.out.2.2.1 (by decide) (by omega)
      ·exact keep5 HR.out.2.1 hgrow HR.out.2.2.2.1 (by decide) (by omega)
      ·exact ⟨HB.out.2.2.2.2.1.1, fun D hD => ⟨(HB.out.2.2.2.2.1.2 D hD).1, hkp2.same D _ (HB.out.2.2.2.2.1.2 D hD).2 rfl⟩⟩
      ·exact keep5 HR.out.2.1 hgrow HR.out.2.2.2.2.1 (by decide) (by omega)
      ·exact HB.out.2.2.2.2.2.2.2.2.1.below hT2 hb2
      ·exact keep5 HR.out.2.1 hgrow HB.out.2.2.2.2.2.2.2.2.2.1 (by decide) (by omega)
      ·exact keep5 HR.out.2.1 hgrow HB.out.2.2.2.2.2.2.2.2.2.2.1 (by decide) (by omega)
      ·exact XAt.ty (keep5 HR.out.2.1 hgrow HB.out.2.2.2.2.2.2.2.1 (by decide) (by omega))
     ·exact keep5 HR.out.2.1 hgrow HB.out.2.2.2.2.2.2.2.1 (by decide) (by omega)
 ·obtain rfl : i = L.length := by omega
  have HL := hid (And.intro hlx (And.intro hM (And.intro hbE (And.intro hbA (And.intro hBl (And.intro hbO (And.intro hrow hx)))))))
  clear hlx hM hbE hbA hBl hbO hrow hx hpO hpE hpA hpX hL hA hT
  gi_wp2
  refine HPOST.out _ _ ⟨Ds, _, _, _, _, _, _, _, _, _, out, 0, 0, st, rfl, HL.out.2.1, HL.out.2.2.1, HL.out.2.2.2.1, HL.out.2.2.2.2.1, .inl ⟨rfl, ⟨v, HL.out.2.2.2.2.2.1, HL.out.2.2.2.2.2.2.1⟩, HL.out.2.2.2.2.2.2.2, ?_⟩⟩
  rw [HL.out.1, List.drop_length, lexF]
end Go.Proofs.YtcbfbefpbjmglaaGreatDoorT
