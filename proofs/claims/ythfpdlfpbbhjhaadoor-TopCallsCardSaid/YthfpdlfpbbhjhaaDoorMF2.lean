import Derived.Test.YthfpdlfpbbhjhaaDoorMW5
import Derived.Laws.RangeAny
import Derived.Lib.Strings
import Derived.Test.YthfpdlfpbbhjhaaDoorMZ
namespace Go.Proofs.YthfpdlfpbbhjhaaDoor.Mc
open Go.RowKit Go.Proofs.YthfpdlfpbbhjhaaDoor.PA Go.Proofs.MapFun Go.Proofs.YthfpdlfpbbhjhaaDoorW.PrintWords Go.Proofs.YthfpdlfpbbhjhaaDoorW.PrintLast Go.Proofs.YthfpdlfpbbhjhaaDoorW.PrintMore
set_option linter.unusedVariables false
set_option linter.unusedSimpArgs false
theorem at_int {w : World} {A : Option Addr} {n : Nat} {xs : List Int} (h : Kd.C (Kd.int .i64) w A n xs) (i : Nat) (h1 : i < n) : ∃ ad, A = some ad ∧ w.cell? (ad.add i) = some (.int .i64 (xs.getD i 0)) := by
  obtain ⟨ad, c, e, _, hK, hc⟩ := ReadsRow.get_ h 0 (i : Int) (by omega) (by omega)
  have hK' : c = [.int .i64 (xs.getD (i : Int).toNat 0)] := hK
  rw [Int.toNat_natCast] at hK'
  subst hK'
  have := hc 0 _ rfl
  simp only [Int.toNat_natCast] at this
  exact ⟨ad, e, by simpa [Kd.int, Kd.scalar] using this⟩
def noReg (i : Int) : Bool := decide (i < 0) || decide (15 < i)
theorem noReg_calls (i : Int) (w : World) : Calls Tryd.prog 64 #[.int .i64 i] w fun e w' => e = .returned (.bool (noReg i)) ∧ Below w.heap.size w w' := by
  unfold noReg
  by_cases h : i < 0
  · go_enter Tryd.func64, Tryd.ntmps64
    go_wp2
    go_ret
    exact ⟨by simp [h], Below.refl _ _⟩
  · go_enter Tryd.func64, Tryd.ntmps64
    go_wp2
    go_ret
    exact ⟨by simp [h]; omega, Below.refl _ _⟩
set_option maxHeartbeats 1000000 in
theorem indexReg_calls (A : Option Addr) (c : Nat) (h : List Int) (w : World) (hC : Kd.C (Kd.int .i64) w A h.length h) (hc : h.length ≤ c) :
    Calls Tryd.prog 57 #[.slice A h.length c, .func (.func 64) #[] #[]] w fun e w' => e = .returned (.int .i64 (firstAt noReg h)) ∧ Below w.heap.size w w' := by
  have hl := hC.2.1
  go_enter Tryd.func57, Tryd.ntmps57
  go_wp2
  go_loopw [8] (fun i wr => ∃ k : Nat, k ≤ h.length ∧ i = .int .i64 k ∧ (∀ j (hj : j < h.length), j < k → noReg h[j] = false) ∧ Below w.heap.size w wr) (fun i _ => h.length - (intOf i).toNat)
  case atStart => exact ⟨0, Nat.zero_le _, rfl, fun j _ hj => absurd hj (Nat.not_lt_zero _), Below.refl _ _⟩
  case round =>
    obtain ⟨k, hk, rfl, hno, hB⟩ := hrel
    have hkl : (k : Int) ≤ 9223372036854775807 := by omega
    by_cases hlt : k < h.length
    · have hlt' : (k : Int) < (h.length : Int) := by omega
      obtain ⟨ad, rfl, x0⟩ := at_int hC k hlt
      have x0 := (hB.cell (World.block_lt_of_cell? w _ x0)).trans x0
      have hrd : h.getD k 0 = h[k] := by simp [hlt]
      rw [hrd] at x0
      obtain ⟨y, hy⟩ : ∃ y, h[k] = y := ⟨_, rfl⟩
      rw [hy] at x0
      have HY := Lib.hid (And.intro hno (And.intro hB (And.intro hy hlt)))
      clear hno hB hrd hy
      go_wp2_with (go_at_call 64; refine (noReg_calls y _).mono ?_; rintro e w1 ⟨rfl, hb⟩; have HB1 := Lib.hid hb; clear hb)
      · have hp : noReg y = true := by assumption
        obtain ⟨g1, g2, g3, g4⟩ := HY.out
        go_ret
        refine ⟨by rw [firstAt_some _ h k g4 (by rw [g3]; exact hp) g1]; rfl, g2.trans (HB1.out.mono g2.size)⟩
      · have hp : noReg y = false := by assumption
        obtain ⟨g1, g2, g3, g4⟩ := HY.out
        go_roundw
        case rel => exact ⟨k + 1, by omega, by simp, fun j hj hjk => by
          by_cases e : j = k
          · subst e; rw [g3]; exact hp
          · exact g1 j hj (by omega), g2.trans (HB1.out.mono g2.size)⟩
        case measure => simp [intOf]; omega
    · obtain rfl : k = h.length := by omega
      go_wp2
      go_ret
      exact ⟨by rw [firstAt_none _ h (fun i hi => hno i hi hi)]; rfl, hB⟩
theorem firstAt_any_Reg (h : List Int) : decide (0 ≤ firstAt noReg h) = h.any noReg := by
  cases hf : h.findIdx? noReg with
  | none =>
    have h1 : h.any noReg = false := by
      rw [List.any_eq_false]
      intro x hx
      have := List.findIdx?_eq_none_iff.1 hf x hx
      simpa using this
    rw [h1]; unfold firstAt; rw [hf]; decide
  | some i =>
    obtain ⟨h0, h1, _⟩ := List.findIdx?_eq_some_iff_getElem.1 hf
    have h2 : h.any noReg = true := List.any_eq_true.2 ⟨_, List.getElem_mem h0, h1⟩
    rw [h2]; unfold firstAt; rw [hf]; simp
theorem containsReg_calls (A : Option Addr) (c : Nat) (h : List Int) (w : World) (hC : Kd.C (Kd.int .i64) w A h.length h) (hc : h.length ≤ c) :
    Calls Tryd.prog 44 #[.slice A h.length c, .func (.func 64) #[] #[]] w fun e w' => e = .returned (.bool (h.any noReg)) ∧ Below w.heap.size w w' := by
  have HC := Lib.hid (indexReg_calls A c h w hC hc)
  have HA := Lib.hid (firstAt_any_Reg h)
  obtain ⟨r, hr⟩ : ∃ r, firstAt noReg h = r := ⟨_, rfl⟩
  rw [hr] at HC HA
  clear hr hC
  go_enter Tryd.func44, Tryd.ntmps44
  go_wp2_with (go_at_call 57; refine HC.out.mono ?_; rintro e w1 ⟨rfl, hb⟩)
  go_ret
  exact ⟨by rw [← HA.out]; rfl, hb⟩
theorem isReg_calls (A : Option Addr) (c : Nat) (h : List Int) (w : World) (hC : Kd.C (Kd.int .i64) w A h.length h) (hc : h.length ≤ c) :
    Calls Tryd.prog 56 #[.slice A h.length c] w fun e w' => e = .returned (.bool (!h.any noReg)) ∧ Below w.heap.size w w' := by
  have HC := Lib.hid (containsReg_calls A c h w hC hc)
  obtain ⟨r, hr⟩ : ∃ r, h.any noReg = r := ⟨_, rfl⟩
  rw [hr] at HC ⊢
  clear hr hC
  go_enter Tryd.func56, Tryd.ntmps56
  go_wp2_with (go_at_call 44; refine HC.out.mono ?_; rintro e w1 ⟨rfl, hb⟩)
  go_ret
  exact ⟨rfl, hb⟩
end Go.Proofs.YthfpdlfpbbhjhaaDoor.Mc
namespace Go.Proofs.YthfpdlfpbbhjhaaDoor.Mc
open Go.RowKit Go.Proofs.YthfpdlfpbbhjhaaDoor.PA Go.Proofs.MapFun Go.Proofs.YthfpdlfpbbhjhaaDoorW.PrintWords Go.Proofs.YthfpdlfpbbhjhaaDoorW.PrintLast Go.Proofs.YthfpdlfpbbhjhaaDoorW.PrintMore
set_option linter.unusedVariables false
set_option linter.unusedSimpArgs false
def letterC (c : Nat) : Bool := (decide (97 ≤ c) && decide (c ≤ 122)) || (decide (65 ≤ c) && decide (c ≤ 90)) || c == 95 || c == 46
def okC (i c : Nat) : Bool := letterC c || (decide (0 < i) && decide (48 ≤ c) && decide (c ≤ 57))
def chr (s : ByteArray) (j : Nat) : Nat := (s.data.toList.getD j 0).toNat
def isNameP (s : ByteArray) : Bool := decide (0 < s.size) && decide (s.size ≤ 40) && (List.range s.size).all fun j => okC j (chr s j)
theorem isName_no (s : ByteArray) (k : Nat) (hk : k < s.size) (h : okC k (chr s k) = false) : isNameP s = false := by
  unfold isNameP
  have : ((List.range s.size).all fun j => okC j (chr s j)) = false := by
    rw [List.all_eq_false]
    exact ⟨k, List.mem_range.2 hk, by rw [h]; simp⟩
  rw [this, Bool.and_false]
theorem okC_letter {i : Nat} (c : Nat) (h : (97 ≤ c ∧ c ≤ 122) ∨ (65 ≤ c ∧ c ≤ 90) ∨ c = 95 ∨ c = 46) : okC i c = true := by
  unfold okC letterC; simp; omega
theorem okC_digit (i c : Nat) (hi : 0 < i) (h : 48 ≤ c ∧ c ≤ 57) : okC i c = true := by unfold okC letterC; simp; omega
theorem okC_digit0 (c : Nat) (h : 48 ≤ c ∧ c ≤ 57) : okC 0 c = false := by unfold okC letterC; simp; omega
theorem okC_bad (i c : Nat) (h : c < 46 ∨ c = 47 ∨ (57 < c ∧ c < 65) ∨ (90 < c ∧ c < 95) ∨ c = 96 ∨ 122 < c) : okC i c = false := by unfold okC letterC; simp; omega
set_option maxRecDepth 100000 in
set_option maxHeartbeats 4000000 in
theorem isName_calls (s : ByteArray) (w : World) (hs : s.size ≤ 140737488351232) :
    Calls Tryd.prog 42 #[.string s] w fun e w' => e = .returned (.bool (isNameP s)) ∧ Below w.heap.size w w' := by
  have hiter : ∀ p, Below w.heap.size w (w.iter s p) := fun p => (Below.refl _ _).alloc (Nat.le_refl _) _
  go_enter Tryd.func42, Tryd.ntmps42
  go_wp2
  go_loopw [2] (fun _ wr => ∃ k : Nat, k ≤ s.size ∧ (∀ j, j < k → okC j (chr s j) = true) ∧ wr = w.iter s k) (fun _ wr => s.size - wr.iterPos w.heap.size)
  case atStart => exact ⟨0, Nat.zero_le _, fun j hj => absurd hj (Nat.not_lt_zero _), rfl⟩
  case round =>
    obtain ⟨k, hk, hno, rfl⟩ := hrel
    by_cases hlt : k < s.size
    · have hnx := fun ty => run_next_any (P := Tryd.prog) w s k ty hlt
      have hchr : chr s k = (s[k]'hlt).toNat := by
        unfold chr
        have hl : k < s.data.toList.length := by simpa using hlt
        rw [List.getD_eq_getElem?_getD, List.getElem?_eq_getElem hl]
        rfl
      by_cases ha : (s[k]'hlt).toNat < 128
      · rw [decode_ascii s k hlt ha] at hnx
        obtain ⟨c, hc⟩ : ∃ c, (s[k]'hlt).toNat = c := ⟨_, rfl⟩
        rw [hc] at hnx ha hchr
        simp only at hnx
        have HI := Lib.hid (And.intro hno (And.intro hchr hlt))
        clear hno hchr hc
        have hk64 : (k : Int) ≤ 140737488351232 := by omega
        rcases (show (97 ≤ c ∧ c ≤ 122) ∨ (65 ≤ c ∧ c ≤ 90) ∨ (c = 95) ∨ (c = 46) ∨ (48 ≤ c ∧ c ≤ 57) ∨ (c < 46) ∨ (c = 47) ∨ (57 < c ∧ c < 65) ∨ (90 < c ∧ c < 95) ∨ (c = 96) ∨ (122 < c) by omega) with hc | hc | hc | hc | hc | hc | hc | hc | hc | hc | hc
        · skip
          have e1 : ((c : Int) == 95) = false := by simp; omega
          have e2 : ((c : Int) == 46) = false := by simp; omega
          have e3 : (97 : Int) ≤ (c : Int) := by omega
          have e4 : (c : Int) ≤ 122 := by omega
          have e5 : (65 : Int) ≤ (c : Int) := by omega
          have e6 : (90 : Int) < (c : Int) := by omega
          have e7 : decide ((c : Int) ≤ 90) = false := by simp; omega
          have e8 : (48 : Int) ≤ (c : Int) := by omega
          have e9 : (57 : Int) < (c : Int) := by omega
          have e10 : decide ((c : Int) ≤ 57) = false := by simp; omega
          have HG := Lib.hid (fun i => okC_letter (i := i) c (by omega))
          clear hc ha
          go_wp2
          go_roundw
          case rel => exact ⟨k + 1, by omega, fun j hj => by
            by_cases e : j = k
            · subst e; rw [HI.out.2.1]; exact HG.out _
            · exact HI.out.1 j (by omega), rfl⟩
          case measure => simp only [World.iterPos_iter]; omega
        · skip
          have e1 : ((c : Int) == 95) = false := by simp; omega
          have e2 : ((c : Int) == 46) = false := by simp; omega
          have e3 : (c : Int) < 97 := by omega
          have e4 : decide ((97 : Int) ≤ (c : Int)) = false := by simp; omega
          have e5 : (c : Int) ≤ 122 := by omega
          have e6 : (65 : Int) ≤ (c : Int) := by omega
          have e7 : (c : Int) ≤ 90 := by omega
          have e8 : (48 : Int) ≤ (c : Int) := by omega
          have e9 : (57 : Int) < (c : Int) := by omega
          have e10 : decide ((c : Int) ≤ 57) = false := by simp; omega
          have HG := Lib.hid (fun i => okC_letter (i := i) c (by omega))
          clear hc ha
          go_wp2
          go_roundw
          case rel => exact ⟨k + 1, by omega, fun j hj => by
            by_cases e : j = k
            · subst e; rw [HI.out.2.1]; exact HG.out _
            · exact HI.out.1 j (by omega), rfl⟩
          case measure => simp only [World.iterPos_iter]; omega
        · skip
          have e1 : ((c : Int) == 95) = true := by simp; omega
          have e2 : ((c : Int) == 46) = false := by simp; omega
          have e3 : (c : Int) < 97 := by omega
          have e4 : decide ((97 : Int) ≤ (c : Int)) = false := by simp; omega
          have e5 : (c : Int) ≤ 122 := by omega
          have e6 : (65 : Int) ≤ (c : Int) := by omega
          have e7 : (90 : Int) < (c : Int) := by omega
          have e8 : decide ((c : Int) ≤ 90) = false := by simp; omega
          have e9 : (48 : Int) ≤ (c : Int) := by omega
          have e10 : (57 : Int) < (c : Int) := by omega
          have e11 : decide ((c : Int) ≤ 57) = false := by simp; omega
          have HG := Lib.hid (fun i => okC_letter (i := i) c (by omega))
          clear hc ha
          go_wp2
          go_roundw
          case rel => exact ⟨k + 1, by omega, fun j hj => by
            by_cases e : j = k
            · subst e; rw [HI.out.2.1]; exact HG.out _
            · exact HI.out.1 j (by omega), rfl⟩
          case measure => simp only [World.iterPos_iter]; omega
        · skip
          have e1 : ((c : Int) == 95) = false := by simp; omega
          have e2 : ((c : Int) == 46) = true := by simp; omega
          have e3 : (c : Int) < 97 := by omega
          have e4 : decide ((97 : Int) ≤ (c : Int)) = false := by simp; omega
          have e5 : (c : Int) ≤ 122 := by omega
          have e6 : (c : Int) < 65 := by omega
          have e7 : decide ((65 : Int) ≤ (c : Int)) = false := by simp; omega
          have e8 : (c : Int) ≤ 90 := by omega
          have e9 : (c : Int) < 48 := by omega
          have e10 : decide ((48 : Int) ≤ (c : Int)) = false := by simp; omega
          have e11 : (c : Int) ≤ 57 := by omega
          have HG := Lib.hid (fun i => okC_letter (i := i) c (by omega))
          clear hc ha
          go_wp2
          go_roundw
          case rel => exact ⟨k + 1, by omega, fun j hj => by
            by_cases e : j = k
            · subst e; rw [HI.out.2.1]; exact HG.out _
            · exact HI.out.1 j (by omega), rfl⟩
          case measure => simp only [World.iterPos_iter]; omega
        · skip
          have e1 : ((c : Int) == 95) = false := by simp; omega
          have e2 : ((c : Int) == 46) = false := by simp; omega
          have e3 : (c : Int) < 97 := by omega
          have e4 : decide ((97 : Int) ≤ (c : Int)) = false := by simp; omega
          have e5 : (c : Int) ≤ 122 := by omega
          have e6 : (c : Int) < 65 := by omega
          have e7 : decide ((65 : Int) ≤ (c : Int)) = false := by simp; omega
          have e8 : (c : Int) ≤ 90 := by omega
          have e9 : (48 : Int) ≤ (c : Int) := by omega
          have e10 : (c : Int) ≤ 57 := by omega
          have HG0 := Lib.hid (okC_digit0 c (by omega))
          have HG1 := Lib.hid (fun i hi => okC_digit i c hi (by omega))
          clear hc ha
          by_cases k0 : k = 0
          · subst k0
            go_wp2
            go_ret
            exact ⟨by rw [isName_no s _ HI.out.2.2 (by rw [HI.out.2.1]; exact HG0.out)]; rfl, hiter _⟩
          · have k1 : ((k : Int) == 0) = false := by simp; omega
            go_wp2
            go_roundw
            case rel => exact ⟨k + 1, by omega, fun j hj => by
              by_cases e : j = k
              · subst e; rw [HI.out.2.1]; exact HG1.out _ (by omega)
              · exact HI.out.1 j (by omega), rfl⟩
            case measure => simp only [World.iterPos_iter]; omega
        · skip
          have e1 : ((c : Int) == 95) = false := by simp; omega
          have e2 : ((c : Int) == 46) = false := by simp; omega
          have e3 : (c : Int) < 97 := by omega
          have e4 : decide ((97 : Int) ≤ (c : Int)) = false := by simp; omega
          have e5 : (c : Int) ≤ 122 := by omega
          have e6 : (c : Int) < 65 := by omega
          have e7 : decide ((65 : Int) ≤ (c : Int)) = false := by simp; omega
          have e8 : (c : Int) ≤ 90 := by omega
          have e9 : (c : Int) < 48 := by omega
          have e10 : decide ((48 : Int) ≤ (c : Int)) = false := by simp; omega
          have e11 : (c : Int) ≤ 57 := by omega
          have HBAD := Lib.hid (fun i => okC_bad i c (by omega))
          clear hc ha
          by_cases k0 : k = 0
          · subst k0
            go_wp2
            go_ret
            exact ⟨by rw [isName_no s _ HI.out.2.2 (by rw [HI.out.2.1]; exact HBAD.out _)]; rfl, hiter _⟩
          · have k1 : ((k : Int) == 0) = false := by simp; omega
            go_wp2
            go_ret
            exact ⟨by rw [isName_no s _ HI.out.2.2 (by rw [HI.out.2.1]; exact HBAD.out _)]; rfl, hiter _⟩
        · skip
          have e1 : ((c : Int) == 95) = false := by simp; omega
          have e2 : ((c : Int) == 46) = false := by simp; omega
          have e3 : (c : Int) < 97 := by omega
          have e4 : decide ((97 : Int) ≤ (c : Int)) = false := by simp; omega
          have e5 : (c : Int) ≤ 122 := by omega
          have e6 : (c : Int) < 65 := by omega
          have e7 : decide ((65 : Int) ≤ (c : Int)) = false := by simp; omega
          have e8 : (c : Int) ≤ 90 := by omega
          have e9 : (c : Int) < 48 := by omega
          have e10 : decide ((48 : Int) ≤ (c : Int)) = false := by simp; omega
          have e11 : (c : Int) ≤ 57 := by omega
          have HBAD := Lib.hid (fun i => okC_bad i c (by omega))
          clear hc ha
          by_cases k0 : k = 0
          · subst k0
            go_wp2
            go_ret
            exact ⟨by rw [isName_no s _ HI.out.2.2 (by rw [HI.out.2.1]; exact HBAD.out _)]; rfl, hiter _⟩
          · have k1 : ((k : Int) == 0) = false := by simp; omega
            go_wp2
            go_ret
            exact ⟨by rw [isName_no s _ HI.out.2.2 (by rw [HI.out.2.1]; exact HBAD.out _)]; rfl, hiter _⟩
        · skip
          have e1 : ((c : Int) == 95) = false := by simp; omega
          have e2 : ((c : Int) == 46) = false := by simp; omega
          have e3 : (c : Int) < 97 := by omega
          have e4 : decide ((97 : Int) ≤ (c : Int)) = false := by simp; omega
          have e5 : (c : Int) ≤ 122 := by omega
          have e6 : (c : Int) < 65 := by omega
          have e7 : decide ((65 : Int) ≤ (c : Int)) = false := by simp; omega
          have e8 : (c : Int) ≤ 90 := by omega
          have e9 : (48 : Int) ≤ (c : Int) := by omega
          have e10 : (57 : Int) < (c : Int) := by omega
          have e11 : decide ((c : Int) ≤ 57) = false := by simp; omega
          have HBAD := Lib.hid (fun i => okC_bad i c (by omega))
          clear hc ha
          by_cases k0 : k = 0
          · subst k0
            go_wp2
            go_ret
            exact ⟨by rw [isName_no s _ HI.out.2.2 (by rw [HI.out.2.1]; exact HBAD.out _)]; rfl, hiter _⟩
          · have k1 : ((k : Int) == 0) = false := by simp; omega
            go_wp2
            go_ret
            exact ⟨by rw [isName_no s _ HI.out.2.2 (by rw [HI.out.2.1]; exact HBAD.out _)]; rfl, hiter _⟩
        · skip
          have e1 : ((c : Int) == 95) = false := by simp; omega
          have e2 : ((c : Int) == 46) = false := by simp; omega
          have e3 : (c : Int) < 97 := by omega
          have e4 : decide ((97 : Int) ≤ (c : Int)) = false := by simp; omega
          have e5 : (c : Int) ≤ 122 := by omega
          have e6 : (65 : Int) ≤ (c : Int) := by omega
          have e7 : (90 : Int) < (c : Int) := by omega
          have e8 : decide ((c : Int) ≤ 90) = false := by simp; omega
          have e9 : (48 : Int) ≤ (c : Int) := by omega
          have e10 : (57 : Int) < (c : Int) := by omega
          have e11 : decide ((c : Int) ≤ 57) = false := by simp; omega
          have HBAD := Lib.hid (fun i => okC_bad i c (by omega))
          clear hc ha
          by_cases k0 : k = 0
          · subst k0
            go_wp2
            go_ret
            exact ⟨by rw [isName_no s _ HI.out.2.2 (by rw [HI.out.2.1]; exact HBAD.out _)]; rfl, hiter _⟩
          · have k1 : ((k : Int) == 0) = false := by simp; omega
            go_wp2
            go_ret
            exact ⟨by rw [isName_no s _ HI.out.2.2 (by rw [HI.out.2.1]; exact HBAD.out _)]; rfl, hiter _⟩
        · skip
          have e1 : ((c : Int) == 95) = false := by simp; omega
          have e2 : ((c : Int) == 46) = false := by simp; omega
          have e3 : (c : Int) < 97 := by omega
          have e4 : decide ((97 : Int) ≤ (c : Int)) = false := by simp; omega
          have e5 : (c : Int) ≤ 122 := by omega
          have e6 : (65 : Int) ≤ (c : Int) := by omega
          have e7 : (90 : Int) < (c : Int) := by omega
          have e8 : decide ((c : Int) ≤ 90) = false := by simp; omega
          have e9 : (48 : Int) ≤ (c : Int) := by omega
          have e10 : (57 : Int) < (c : Int) := by omega
          have e11 : decide ((c : Int) ≤ 57) = false := by simp; omega
          have HBAD := Lib.hid (fun i => okC_bad i c (by omega))
          clear hc ha
          by_cases k0 : k = 0
          · subst k0
            go_wp2
            go_ret
            exact ⟨by rw [isName_no s _ HI.out.2.2 (by rw [HI.out.2.1]; exact HBAD.out _)]; rfl, hiter _⟩
          · have k1 : ((k : Int) == 0) = false := by simp; omega
            go_wp2
            go_ret
            exact ⟨by rw [isName_no s _ HI.out.2.2 (by rw [HI.out.2.1]; exact HBAD.out _)]; rfl, hiter _⟩
        · skip
          have e1 : ((c : Int) == 95) = false := by simp; omega
          have e2 : ((c : Int) == 46) = false := by simp; omega
          have e3 : (97 : Int) ≤ (c : Int) := by omega
          have e4 : (122 : Int) < (c : Int) := by omega
          have e5 : decide ((c : Int) ≤ 122) = false := by simp; omega
          have e6 : (65 : Int) ≤ (c : Int) := by omega
          have e7 : (90 : Int) < (c : Int) := by omega
          have e8 : decide ((c : Int) ≤ 90) = false := by simp; omega
          have e9 : (48 : Int) ≤ (c : Int) := by omega
          have e10 : (57 : Int) < (c : Int) := by omega
          have e11 : decide ((c : Int) ≤ 57) = false := by simp; omega
          have HBAD := Lib.hid (fun i => okC_bad i c (by omega))
          clear hc ha
          by_cases k0 : k = 0
          · subst k0
            go_wp2
            go_ret
            exact ⟨by rw [isName_no s _ HI.out.2.2 (by rw [HI.out.2.1]; exact HBAD.out _)]; rfl, hiter _⟩
          · have k1 : ((k : Int) == 0) = false := by simp; omega
            go_wp2
            go_ret
            exact ⟨by rw [isName_no s _ HI.out.2.2 (by rw [HI.out.2.1]; exact HBAD.out _)]; rfl, hiter _⟩
      · have hd := decode_high s k hlt (by omega)
        have hd2 := decode_le s k
        have hbad : okC k (chr s k) = false := by rw [hchr]; exact okC_bad k _ (by omega)
        have HI := Lib.hid (And.intro hno (And.intro hbad hlt))
        obtain ⟨c, hc⟩ : ∃ c, (Utf8.decode s k).1 = c := ⟨_, rfl⟩
        obtain ⟨m, hm⟩ : ∃ m, (Utf8.decode s k).2 = m := ⟨_, rfl⟩
        rw [hc, hm] at hd hnx
        rw [hc] at hd2
        have e1 : ((c : Int) == 95) = false := by simp; omega
        have e2 : ((c : Int) == 46) = false := by simp; omega
        have e3 : (97 : Int) ≤ (c : Int) := by omega
        have e4 : (122 : Int) < (c : Int) := by omega
        have d4 : decide ((c : Int) ≤ 122) = false := by simp; omega
        have d6 : decide ((c : Int) ≤ 90) = false := by simp; omega
        have d8 : decide ((c : Int) ≤ 57) = false := by simp; omega
        have e5 : (65 : Int) ≤ (c : Int) := by omega
        have e6 : (90 : Int) < (c : Int) := by omega
        have e7 : (48 : Int) ≤ (c : Int) := by omega
        have e8 : (57 : Int) < (c : Int) := by omega
        clear hno hchr hbad ha hd hd2 hc hm
        have hk64 : (k : Int) ≤ 140737488351232 := by omega
        by_cases k0 : k = 0
        · subst k0
          go_wp2
          go_ret
          exact ⟨by rw [isName_no s 0 HI.out.2.2 HI.out.2.1]; rfl, hiter _⟩
        · have k1 : ((k : Int) == 0) = false := by simp; omega
          go_wp2
          go_ret
          exact ⟨by rw [isName_no s k HI.out.2.2 HI.out.2.1]; rfl, hiter _⟩
    · obtain rfl : k = s.size := by omega
      have hnx := fun ty => run_next_end (P := Tryd.prog) w s s.size ty (Nat.lt_irrefl _)
      have HI := Lib.hid hno
      clear hno
      by_cases h0 : s.size = 0
      · have hl : s.data.toList = [] := by
          apply List.eq_nil_of_length_eq_zero
          rw [← Lib.size_eq]; exact h0
        have hse : s = ⟨#[]⟩ := WideShapes.bytes_inj hl
        clear h0 hl
        subst hse
        have hnx := fun ty => run_next_end (P := Tryd.prog) w ⟨#[]⟩ 0 ty (by decide)
        have hsz : (⟨#[]⟩ : ByteArray).size = 0 := rfl
        rw [hsz]
        have hn : isNameP (⟨#[]⟩ : ByteArray) = false := by decide
        have HN := Lib.hid hn
        clear hn
        go_wp2
        go_ret
        exact ⟨by rw [HN.out]; rfl, hiter _⟩
      · have hl2 : s.toList.isEmpty = false := by
          rw [List.isEmpty_eq_false_iff]
          intro e
          rw [ByteArray.toList_eq] at e
          have hz := Lib.size_eq s
          rw [e] at hz
          exact h0 hz
        have hn : isNameP s = decide (s.size ≤ 40) := by
          unfold isNameP
          rw [decide_eq_true (show 0 < s.size by omega), List.all_eq_true.2 (fun j hj => HI.out j (List.mem_range.1 hj))]
          simp
        have HN := Lib.hid hn
        clear hn
        go_wp2
        go_ret
        refine ⟨?_, hiter _⟩
        rw [HN.out]
        show Ending.returned (.bool (decide ((s.size : Int) ≤ 40))) = _
        congr 2
        simp only [decide_eq_decide]
        omega
end Go.Proofs.YthfpdlfpbbhjhaaDoor.Mc
namespace Go.Proofs.YthfpdlfpbbhjhaaDoor.Mc
open Go.RowKit Go.Proofs.YthfpdlfpbbhjhaaDoor.PA Go.Proofs.YthfpdlfpbbhjhaaDoor.Pure Go.Proofs.MapFun Go.Proofs.YthfpdlfpbbhjhaaDoorW.PrintWords Go.Proofs.YthfpdlfpbbhjhaaDoorW.PrintLast Go.Proofs.YthfpdlfpbbhjhaaDoorW.PrintMore
set_option linter.unusedVariables false
set_option linter.unusedSimpArgs false
def nms : List (List UInt8) := [[118, 111, 105, 100], [99, 104, 97, 114], [117, 110, 115, 105, 103, 110, 101, 100, 32, 99, 104, 97, 114], [115, 104, 111, 114, 116], [117, 110, 115, 105, 103, 110, 101, 100, 32, 115, 104, 111, 114, 116], [105, 110, 116], [117, 110, 115, 105, 103, 110, 101, 100, 32, 105, 110, 116], [108, 111, 110, 103], [117, 110, 115, 105, 103, 110, 101, 100, 32, 108, 111, 110, 103]]
def nmk (i : Nat) : ByteArray := ⟨(nms.getD i []).toArray⟩
def keptL : List Int := [3, 5, 12, 13, 14, 15]
def givenL : List Int := [7, 6, 2, 1, 8, 9]
def lostL : List Int := [1, 2, 6, 7, 8, 9, 10, 11]
structure Tab (w : World) : Prop where
  k : ∀ i, i < 6 → w.cell? ⟨0, i, none⟩ = some (.int .i64 (keptL.getD i 0))
  g : ∀ i, i < 6 → w.cell? ⟨1, i, none⟩ = some (.int .i64 (givenL.getD i 0))
  n : ∀ i, i < 9 → w.cell? ⟨2, i, none⟩ = some (.string (nmk i))
  l : ∀ i, i < 8 → w.cell? ⟨3, i, none⟩ = some (.int .i64 (lostL.getD i 0))
theorem Tab.to {B : Nat} {w w' : World} (h : Tab w) (hb : Below B w w') (hB : 4 ≤ B) : Tab w' :=
  ⟨fun i hi => (hb.cell (p := ⟨0, i, none⟩) (by show 0 < B; omega)).trans (h.k i hi), fun i hi => (hb.cell (p := ⟨1, i, none⟩) (by show 1 < B; omega)).trans (h.g i hi), fun i hi => (hb.cell (p := ⟨2, i, none⟩) (by show 2 < B; omega)).trans (h.n i hi), fun i hi => (hb.cell (p := ⟨3, i, none⟩) (by show 3 < B; omega)).trans (h.l i hi)⟩
theorem Tab.size {w : World} (h : Tab w) : 4 ≤ w.heap.size := by
  have := World.block_lt_of_cell? w _ (h.l 0 (by omega))
  exact this
theorem Tab.below {w w' : World} (h : Tab w) (hb : Below w.heap.size w w') : Tab w' := h.to hb h.size
theorem kis_c (k : Int) (w : World) : Calls Tryd.prog 27 #[.int .i64 k] w fun e w' => e = .returned (.bool (decide (1 ≤ k ∧ k ≤ 8))) ∧ ∃ n, w' = w.drewN n := by
  by_cases h : 1 ≤ k ∧ k ≤ 8
  · refine (kind_is.calls k true w (is_yes h)).mono ?_
    rintro e w' ⟨rfl, ⟨n, rfl⟩⟩
    exact ⟨by rw [decide_eq_true h], n, rfl⟩
  · refine (kind_is.calls k false w (is_no h)).mono ?_
    rintro e w' ⟨rfl, ⟨n, rfl⟩⟩
    exact ⟨by rw [decide_eq_false h], n, rfl⟩
def kname (k : Int) : ByteArray := if 0 ≤ k ∧ k ≤ 8 then nmk k.toNat else ⟨#[]⟩
set_option maxHeartbeats 1000000 in
theorem kname_calls (k : Int) (w : World) (hT : Tab w) : Calls Tryd.prog 43 #[.int .i64 k] w fun e w' => e = .returned (.string (kname k)) ∧ Below w.heap.size w w' := by
  unfold kname
  by_cases h0 : k = 0
  · subst h0
    have c := hT.n 0 (by omega)
    rw [if_pos (by omega)]
    obtain ⟨s, hs⟩ : ∃ s, nmk 0 = s := ⟨_, rfl⟩
    rw [show nmk (0 : Int).toNat = s from hs]
    rw [hs] at c
    clear hT hs
    go_enter Tryd.func43, Tryd.ntmps43
    go_wp2
    go_ret
    exact ⟨rfl, Below.refl _ _⟩
  have h0' : ((k : Int) == 0) = false := by simpa using h0
  by_cases h : 1 ≤ k ∧ k ≤ 8
  · obtain ⟨n, rfl⟩ : ∃ n : Nat, k = n := ⟨k.toNat, by omega⟩
    have c := hT.n n (by omega)
    rw [if_pos (by omega)]
    obtain ⟨s, hs⟩ : ∃ s, nmk n = s := ⟨_, rfl⟩
    rw [Int.toNat_natCast, hs]
    rw [hs] at c
    have hn : (n : Int) ≤ 8 := h.2
    have hd := decide_eq_true h
    have HD := Lib.hid hd
    have hn1 : (1 : Int) ≤ (n : Int) := h.1
    clear hT hs h h0 hd
    go_enter Tryd.func43, Tryd.ntmps43
    go_wp2_with (go_at_call 27; refine (kis_c _ _).mono ?_; rw [HD.out]; rintro e w1 ⟨rfl, n1, rfl⟩; have c := c)
    go_ret
    exact ⟨rfl, pw_below_drewN (Below.refl _ _) _⟩
  · rw [if_neg (by omega)]
    have hd := decide_eq_false h
    have HD := Lib.hid hd
    clear hT hd h
    go_enter Tryd.func43, Tryd.ntmps43
    go_wp2_with (go_at_call 27; refine (kis_c _ _).mono ?_; rw [HD.out]; rintro e w1 ⟨rfl, n1, rfl⟩)
    go_ret
    exact ⟨rfl, pw_below_drewN (Below.refl _ _) _⟩
end Go.Proofs.YthfpdlfpbbhjhaaDoor.Mc
