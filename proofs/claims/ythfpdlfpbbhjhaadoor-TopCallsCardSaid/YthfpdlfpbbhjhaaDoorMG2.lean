import Derived.Test.YthfpdlfpbbhjhaaDoorMF2
import Derived.Test.YthfpdlfpbbhjhaaDoorMZ
namespace Go.Proofs.YthfpdlfpbbhjhaaDoor.Mc
open Go.RowKit Go.Proofs.YthfpdlfpbbhjhaaDoor.PA Go.Proofs.YthfpdlfpbbhjhaaDoor.Pure Go.Proofs.MapFun Go.Proofs.YthfpdlfpbbhjhaaDoorW.PrintWords Go.Proofs.YthfpdlfpbbhjhaaDoorW.PrintLast Go.Proofs.YthfpdlfpbbhjhaaDoorW.PrintMore
set_option linter.unusedVariables false
set_option linter.unusedSimpArgs false
def badK (k : Int) : Bool := !decide (1 ≤ k ∧ k ≤ 8)
def sizeP (k : Int) : Int := if 1 ≤ k ∧ k ≤ 8 then wd k / 8 else 0
theorem size_c (k : Int) (w : World) : Calls Tryd.prog 28 #[.int .i64 k] w fun e w' => e = .returned (.int .i64 (sizeP k)) ∧ ∃ n, w' = w.drewN n := by
  refine (kind_Size.calls k (sizeP k) w ?_).mono ?_
  · unfold sizeP
    by_cases h : 1 ≤ k ∧ k ≤ 8
    · rw [if_pos h]; exact size_yes h
    · rw [if_neg h]; exact size_no h
  · rintro e w' ⟨rfl, ⟨n, rfl⟩⟩
    exact ⟨rfl, n, rfl⟩
theorem size_zero (k : Int) : (sizeP k == 0) = badK k := by
  unfold sizeP badK
  by_cases h : 1 ≤ k ∧ k ≤ 8
  · rw [if_pos h, decide_eq_true h]
    have := wd_range h
    rcases this with e | e | e | e <;> rw [e] <;> rfl
  · rw [if_neg h, decide_eq_false h]; rfl
theorem badK_calls (k : Int) (w : World) : Calls Tryd.prog 41 #[.int .i64 k] w fun e w' => e = .returned (.bool (badK k)) ∧ Below w.heap.size w w' := by
  have H := Lib.hid (size_zero k)
  obtain ⟨z, hz⟩ : ∃ z, sizeP k = z := ⟨_, rfl⟩
  have HS := Lib.hid (size_c k)
  rw [hz] at H HS
  clear hz
  go_enter Tryd.func41, Tryd.ntmps41
  go_wp2_with (go_at_call 28; refine (HS.out _).mono ?_; rintro e w1 ⟨rfl, n1, rfl⟩)
  go_ret
  exact ⟨by rw [← H.out]; rfl, pw_below_drewN (Below.refl _ _) _⟩
set_option maxHeartbeats 1000000 in
theorem indexBad_calls (A : Option Addr) (c : Nat) (h : List Int) (w : World) (hC : Kd.C (Kd.int .i64) w A h.length h) (hc : h.length ≤ c) :
    Calls Tryd.prog 57 #[.slice A h.length c, .func (.func 41) #[] #[]] w fun e w' => e = .returned (.int .i64 (firstAt badK h)) ∧ Below w.heap.size w w' := by
  have hl := hC.2.1
  go_enter Tryd.func57, Tryd.ntmps57
  go_wp2
  go_loopw [8] (fun i wr => ∃ k : Nat, k ≤ h.length ∧ i = .int .i64 k ∧ (∀ j (hj : j < h.length), j < k → badK h[j] = false) ∧ Below w.heap.size w wr) (fun i _ => h.length - (intOf i).toNat)
  case atStart => exact ⟨0, Nat.zero_le _, rfl, fun j _ hj => absurd hj (Nat.not_lt_zero _), Below.refl _ _⟩
  case round =>
    obtain ⟨k, hk, rfl, hno, hB⟩ := hrel
    have hkl : (k : Int) ≤ 9223372036854775807 := by omega
    by_cases hlt : k < h.length
    · have hlt' : (k : Int) < (h.length : Int) := by omega
      obtain ⟨ad, rfl, x0⟩ := at_int hC k hlt
      have x0 := (hB.cell (World.block_lt_of_cell? w _ x0)).trans x0
      have hrd : h.getD k 0 = h[k] := by simp [hlt]
      rw [hrd] at x0
      obtain ⟨y, hy⟩ : ∃ y, h[k] = y := ⟨_, rfl⟩
      rw [hy] at x0
      have HY := Lib.hid (And.intro hno (And.intro hB (And.intro hy hlt)))
      clear hno hB hrd hy
      go_wp2_with (go_at_call 41; refine (badK_calls y _).mono ?_; rintro e w1 ⟨rfl, hb⟩; have HB1 := Lib.hid hb; clear hb)
      · have hp : badK y = true := by assumption
        obtain ⟨g1, g2, g3, g4⟩ := HY.out
        go_ret
        refine ⟨by rw [firstAt_some _ h k g4 (by rw [g3]; exact hp) g1]; rfl, g2.trans (HB1.out.mono g2.size)⟩
      · have hp : badK y = false := by assumption
        obtain ⟨g1, g2, g3, g4⟩ := HY.out
        go_roundw
        case rel => exact ⟨k + 1, by omega, by simp, fun j hj hjk => by
          by_cases e : j = k
          · subst e; rw [g3]; exact hp
          · exact g1 j hj (by omega), g2.trans (HB1.out.mono g2.size)⟩
        case measure => simp [intOf]; omega
    · obtain rfl : k = h.length := by omega
      go_wp2
      go_ret
      exact ⟨by rw [firstAt_none _ h (fun i hi => hno i hi hi)]; rfl, hB⟩
theorem firstAt_any_Bad (h : List Int) : decide (0 ≤ firstAt badK h) = h.any badK := by
  cases hf : h.findIdx? badK with
  | none =>
    have h1 : h.any badK = false := by
      rw [List.any_eq_false]
      intro x hx
      have := List.findIdx?_eq_none_iff.1 hf x hx
      simpa using this
    rw [h1]; unfold firstAt; rw [hf]; decide
  | some i =>
    obtain ⟨h0, h1, _⟩ := List.findIdx?_eq_some_iff_getElem.1 hf
    have h2 : h.any badK = true := List.any_eq_true.2 ⟨_, List.getElem_mem h0, h1⟩
    rw [h2]; unfold firstAt; rw [hf]; simp
theorem containsBad_calls (A : Option Addr) (c : Nat) (h : List Int) (w : World) (hC : Kd.C (Kd.int .i64) w A h.length h) (hc : h.length ≤ c) :
    Calls Tryd.prog 44 #[.slice A h.length c, .func (.func 41) #[] #[]] w fun e w' => e = .returned (.bool (h.any badK)) ∧ Below w.heap.size w w' := by
  have HC := Lib.hid (indexBad_calls A c h w hC hc)
  have HA := Lib.hid (firstAt_any_Bad h)
  obtain ⟨r, hr⟩ : ∃ r, firstAt badK h = r := ⟨_, rfl⟩
  rw [hr] at HC HA
  clear hr hC
  go_enter Tryd.func44, Tryd.ntmps44
  go_wp2_with (go_at_call 57; refine HC.out.mono ?_; rintro e w1 ⟨rfl, hb⟩)
  go_ret
  exact ⟨by rw [← HA.out]; rfl, hb⟩
def headB (h : List S28) (i : Nat) (c : S28) : Bool := isNameP c.f0 && (findP h c.f0 == (i : Int)) && !(kname c.f1).toList.isEmpty && decide (c.f2.length ≤ 8) && !c.f2.any badK
def isHeadsP (h : List S28) : Bool := ((List.range h.length).all fun i => headB h i (h.getD i z28)) && decide (h.length ≤ 40)
theorem heads_no (h : List S28) (k : Nat) (hk : k < h.length) (hb : headB h k (h.getD k z28) = false) : isHeadsP h = false := by
  unfold isHeadsP
  have : ((List.range h.length).all fun i => headB h i (h.getD i z28)) = false := by
    rw [List.all_eq_false]
    exact ⟨k, List.mem_range.2 hk, by rw [hb]; simp⟩
  rw [this, Bool.false_and]
set_option maxRecDepth 100000 in
set_option maxHeartbeats 4000000 in
theorem isHeads_calls (A : Option Addr) (cp : Nat) (h : List S28) (w : World) (hC : Kd.C k28 w A h.length h) (hcp : h.length ≤ cp) (hT : Tab w) (hN : ∀ c ∈ h, c.f0.size ≤ 140737488351232) :
    Calls Tryd.prog 20 #[.slice A h.length cp] w fun e w' => e = .returned (.bool (isHeadsP h)) ∧ Below w.heap.size w w' := by
  have hl := hC.2.1
  go_enter Tryd.func20, Tryd.ntmps20
  go_wp2
  go_loopw [8] (fun i wr => ∃ k : Nat, k ≤ h.length ∧ i = .int .i64 k ∧ (∀ j, j < k → headB h j (h.getD j z28) = true) ∧ Below w.heap.size w wr) (fun i _ => h.length - (intOf i).toNat)
  case atStart => exact ⟨0, Nat.zero_le _, rfl, fun j hj => absurd hj (Nat.not_lt_zero _), Below.refl _ _⟩
  case round =>
    obtain ⟨k, hk, rfl, hno, hB⟩ := hrel
    have hkl : (k : Int) ≤ 9223372036854775807 := by omega
    by_cases hlt : k < h.length
    · have hlt' : (k : Int) < (h.length : Int) := by omega
      obtain ⟨ad, A2, c2, A5, c5, rfl, x0, x1, x2, x3, x4, x5, l2, g2, l5, g5⟩ := at_T28 hC (k : Int) (by omega) hlt'
      have kx : ∀ {p : Addr} {v : Value}, w.cell? p = some v → wr.cell? p = some v := fun {p v} h => (hB.cell (World.block_lt_of_cell? w _ h)).trans h
      have x0 := kx x0
      have x1 := kx x1
      have x2 := kx x2
      have x3 := kx x3
      have x4 := kx x4
      have x5 := kx x5
      have hrd : rd_T28 h (k : Int) = h.getD k z28 := rfl
      have hmem : h.getD k z28 ∈ h := by rw [List.getD_eq_getElem?_getD, List.getElem?_eq_getElem hlt]; exact List.getElem_mem hlt
      rw [hrd] at x0 x1 x2 x3 x4 x5 l2 g2
      have hnm := hN _ hmem
      obtain ⟨y, hy⟩ : ∃ y, h.getD k z28 = y := ⟨_, rfl⟩
      rw [hy] at x0 x1 x2 x3 x4 x5 l2 g2 hnm
      simp only [Int.toNat_natCast] at x0 x1 x2 x3 x4 x5
      -- worlds behind the copy of the head
      have W : ∀ w1 : World, Below (wr.heap.size + 1) (wr.alloc (.cells #[.string y.f0, .int .i64 y.f1, .slice A2 y.f2.length c2, .bool y.f3, .int .i64 y.f4, .slice A5 y.f5.length c5] 28)) w1 →
          Below w.heap.size w w1 ∧ w1.cell? ⟨wr.heap.size, 0, none⟩ = some (.string y.f0) ∧ w1.cell? ⟨wr.heap.size, 1, none⟩ = some (.int .i64 y.f1) ∧ w1.cell? ⟨wr.heap.size, 2, none⟩ = some (.slice A2 y.f2.length c2) := fun w1 hw => by
        refine ⟨hB.trans ((((Below.refl _ wr).alloc (Nat.le_refl _) _).trans (hw.mono (Nat.le_succ _))).mono hB.size), ?_, ?_, ?_⟩
        · exact (hw.cell (p := ⟨wr.heap.size, 0, none⟩) (Nat.lt_succ_self _)).trans (by simp)
        · exact (hw.cell (p := ⟨wr.heap.size, 1, none⟩) (Nat.lt_succ_self _)).trans (by simp)
        · exact (hw.cell (p := ⟨wr.heap.size, 2, none⟩) (Nat.lt_succ_self _)).trans (by simp)
      have HW := Lib.hid W
      have HC := Lib.hid (And.intro hC (And.intro g2 (And.intro hT (And.intro hnm (And.intro hcp l2)))))
      have HY := Lib.hid (And.intro hno (And.intro hy hlt))
      have hB1 := hB.size
      have HB := Lib.hid hB
      clear kx hno hB hrd hy W hC g2 g5 hT hmem hnm hN
      cases e1 : isNameP y.f0 with
      | false =>
        have E1 := Lib.hid e1
        clear e1
        go_wp2_with (go_at_call 42; refine (isName_calls y.f0 _ HC.out.2.2.2.1).mono ?_; rw [E1.out]; rintro e w1 ⟨rfl, hb⟩; have HB1 := Lib.hid (HW.out w1 (by simpa using hb)).1; clear hb)
        go_ret
        exact ⟨by rw [heads_no h k HY.out.2.2 (by rw [HY.out.2.1]; unfold headB; rw [E1.out]; rfl)]; rfl, HB1.out⟩
      | true =>
      have E1 := Lib.hid e1
      clear e1
      cases e2 : (findP h y.f0 == (k : Int)) with
      | false =>
        have E2 := Lib.hid e2
        obtain ⟨q, hq⟩ : ∃ q, findP h y.f0 = q := ⟨_, rfl⟩
        rw [hq] at e2
        have e2p : ¬ q = (k : Int) := by simpa using e2
        have HQ := Lib.hid hq
        clear hq
        go_wp2_with (first
          | (go_at_call 42; refine (isName_calls y.f0 _ HC.out.2.2.2.1).mono ?_; rw [E1.out]; rintro e w1 ⟨rfl, hb⟩; obtain ⟨b1, z0, z1, z2⟩ := HW.out w1 (by simpa using hb); have HB1 := Lib.hid (And.intro hb b1); clear hb b1)
          | (go_at_call 10; refine (find_calls _ _ h y.f0 _ (Kd.C_below HC.out.1 HB1.out.2) HC.out.2.2.2.2.1).mono ?_; rw [HQ.out]; rintro e w2 ⟨rfl, hb⟩; have HB2 := Lib.hid (HB1.out.2.trans (hb.mono HB1.out.2.size)); clear hb))
        go_ret
        exact ⟨by rw [heads_no h k HY.out.2.2 (by rw [HY.out.2.1]; unfold headB; rw [E2.out]; simp)]; rfl, HB2.out⟩
      | true =>
      have E2 := Lib.hid e2
      have e2' : findP h y.f0 = (k : Int) := by simpa using e2
      have E2' := Lib.hid e2'
      clear e2 e2'
      cases e3 : (kname y.f1).toList.isEmpty with
      | true =>
        have E3 := Lib.hid e3
        have e3' : kname y.f1 = ⟨#[]⟩ := WideShapes.bytes_inj (by rw [← ByteArray.toList_eq]; simpa using e3)
        have HQ := Lib.hid e3'
        clear e3 e3'
        go_wp2_with (first
          | (go_at_call 42; refine (isName_calls y.f0 _ HC.out.2.2.2.1).mono ?_; rw [E1.out]; rintro e w1 ⟨rfl, hb⟩; obtain ⟨b1, z0, z1, z2⟩ := HW.out w1 (by simpa using hb); have HB1 := Lib.hid (And.intro hb b1); clear hb b1)
          | (go_at_call 10; refine (find_calls _ _ h y.f0 _ (Kd.C_below HC.out.1 HB1.out.2) HC.out.2.2.2.2.1).mono ?_; rw [E2'.out]; rintro e w2 ⟨rfl, hb⟩; have b2 := (by simpa using HB1.out.1 : Below (wr.heap.size + 1) _ w1).trans (hb.mono (by have := HB1.out.1.size; simp at this; omega)); obtain ⟨b3, y0, y1, y2⟩ := HW.out w2 b2; have HB2 := Lib.hid (And.intro b2 b3); clear hb b2 b3)
          | (go_at_call 43; refine (kname_calls y.f1 _ (HC.out.2.2.1.below HB2.out.2)).mono ?_; rw [HQ.out]; rintro e w3 ⟨rfl, hb⟩; have HB3 := Lib.hid (HB2.out.2.trans (hb.mono HB2.out.2.size)); clear hb))
        go_ret
        exact ⟨by rw [heads_no h k HY.out.2.2 (by rw [HY.out.2.1]; unfold headB; rw [E3.out]; simp)]; rfl, HB3.out⟩
      | false =>
      have E3 := Lib.hid e3
      obtain ⟨q, hq⟩ : ∃ q, kname y.f1 = q := ⟨_, rfl⟩
      rw [hq] at e3
      have HQ := Lib.hid hq
      clear hq
      by_cases e4 : y.f2.length ≤ 8
      · have e4' : (y.f2.length : Int) ≤ 8 := by omega
        cases e5 : y.f2.any badK with
        | true =>
          have E5 := Lib.hid e5
          clear e5
          go_wp2_with (first
            | (go_at_call 42; refine (isName_calls y.f0 _ HC.out.2.2.2.1).mono ?_; rw [E1.out]; rintro e w1 ⟨rfl, hb⟩; obtain ⟨b1, z0, z1, z2⟩ := HW.out w1 (by simpa using hb); have HB1 := Lib.hid (And.intro hb b1); clear hb b1)
            | (go_at_call 10; refine (find_calls _ _ h y.f0 _ (Kd.C_below HC.out.1 HB1.out.2) HC.out.2.2.2.2.1).mono ?_; rw [E2'.out]; rintro e w2 ⟨rfl, hb⟩; have b2 := (by simpa using HB1.out.1 : Below (wr.heap.size + 1) _ w1).trans (hb.mono (by have := HB1.out.1.size; simp at this; omega)); obtain ⟨b3, y0, y1, y2⟩ := HW.out w2 b2; have HB2 := Lib.hid (And.intro b2 b3); clear hb b2 b3)
            | (go_at_call 43; refine (kname_calls y.f1 _ (HC.out.2.2.1.below HB2.out.2)).mono ?_; rw [HQ.out]; rintro e w3 ⟨rfl, hb⟩; have b3 := HB2.out.1.trans (hb.mono (by have := HB2.out.1.size; simp at this; omega)); obtain ⟨b4, v0, v1, v2⟩ := HW.out w3 b3; have HB3 := Lib.hid (And.intro b3 b4); clear hb b3 b4)
            | (go_at_call 44; refine (containsBad_calls _ _ y.f2 _ (Kd.C_below HC.out.2.1 HB3.out.2) HC.out.2.2.2.2.2).mono ?_; rw [E5.out]; rintro e w4 ⟨rfl, hb⟩; have HB4 := Lib.hid (HB3.out.2.trans (hb.mono HB3.out.2.size)); clear hb))
          go_ret
          exact ⟨by rw [heads_no h k HY.out.2.2 (by rw [HY.out.2.1]; unfold headB; rw [E5.out]; simp)]; rfl, HB4.out⟩
        | false =>
          have E5 := Lib.hid e5
          clear e5
          have hgood : headB h k y = true := by unfold headB; rw [E1.out, E2.out, E3.out, E5.out, decide_eq_true e4]; rfl
          have HG := Lib.hid hgood
          clear hgood
          go_wp2_with (first
            | (go_at_call 42; refine (isName_calls y.f0 _ HC.out.2.2.2.1).mono ?_; rw [E1.out]; rintro e w1 ⟨rfl, hb⟩; obtain ⟨b1, z0, z1, z2⟩ := HW.out w1 (by simpa using hb); have HB1 := Lib.hid (And.intro hb b1); clear hb b1)
            | (go_at_call 10; refine (find_calls _ _ h y.f0 _ (Kd.C_below HC.out.1 HB1.out.2) HC.out.2.2.2.2.1).mono ?_; rw [E2'.out]; rintro e w2 ⟨rfl, hb⟩; have b2 := (by simpa using HB1.out.1 : Below (wr.heap.size + 1) _ w1).trans (hb.mono (by have := HB1.out.1.size; simp at this; omega)); obtain ⟨b3, y0, y1, y2⟩ := HW.out w2 b2; have HB2 := Lib.hid (And.intro b2 b3); clear hb b2 b3)
            | (go_at_call 43; refine (kname_calls y.f1 _ (HC.out.2.2.1.below HB2.out.2)).mono ?_; rw [HQ.out]; rintro e w3 ⟨rfl, hb⟩; have b3 := HB2.out.1.trans (hb.mono (by have := HB2.out.1.size; simp at this; omega)); obtain ⟨b4, v0, v1, v2⟩ := HW.out w3 b3; have HB3 := Lib.hid (And.intro b3 b4); clear hb b3 b4)
            | (go_at_call 44; refine (containsBad_calls _ _ y.f2 _ (Kd.C_below HC.out.2.1 HB3.out.2) HC.out.2.2.2.2.2).mono ?_; rw [E5.out]; rintro e w4 ⟨rfl, hb⟩; have HB4 := Lib.hid (HB3.out.2.trans (hb.mono HB3.out.2.size)); clear hb))
          go_roundw
          case rel => exact ⟨k + 1, by omega, by simp, fun j hj => by
            by_cases e : j = k
            · subst e; rw [HY.out.2.1]; exact HG.out
            · exact HY.out.1 j (by omega), HB4.out⟩
          case measure => simp [intOf]; omega
      · have e4' : (8 : Int) < (y.f2.length : Int) := by omega
        go_wp2_with (first
          | (go_at_call 42; refine (isName_calls y.f0 _ HC.out.2.2.2.1).mono ?_; rw [E1.out]; rintro e w1 ⟨rfl, hb⟩; obtain ⟨b1, z0, z1, z2⟩ := HW.out w1 (by simpa using hb); have HB1 := Lib.hid (And.intro hb b1); clear hb b1)
          | (go_at_call 10; refine (find_calls _ _ h y.f0 _ (Kd.C_below HC.out.1 HB1.out.2) HC.out.2.2.2.2.1).mono ?_; rw [E2'.out]; rintro e w2 ⟨rfl, hb⟩; have b2 := (by simpa using HB1.out.1 : Below (wr.heap.size + 1) _ w1).trans (hb.mono (by have := HB1.out.1.size; simp at this; omega)); obtain ⟨b3, y0, y1, y2⟩ := HW.out w2 b2; have HB2 := Lib.hid (And.intro b2 b3); clear hb b2 b3)
          | (go_at_call 43; refine (kname_calls y.f1 _ (HC.out.2.2.1.below HB2.out.2)).mono ?_; rw [HQ.out]; rintro e w3 ⟨rfl, hb⟩; have b3 := HB2.out.1.trans (hb.mono (by have := HB2.out.1.size; simp at this; omega)); obtain ⟨b4, v0, v1, v2⟩ := HW.out w3 b3; have HB3 := Lib.hid (And.intro b3 b4); clear hb b3 b4))
        go_ret
        exact ⟨by rw [heads_no h k HY.out.2.2 (by rw [HY.out.2.1]; unfold headB; rw [decide_eq_false e4]; simp)]; rfl, HB3.out.2⟩
    · obtain rfl : k = h.length := by omega
      have he : isHeadsP h = decide (h.length ≤ 40) := by
        unfold isHeadsP
        rw [List.all_eq_true.2 (fun j hj => hno j (List.mem_range.1 hj)), Bool.true_and]
      have HE := Lib.hid he
      clear hno he
      go_wp2
      go_ret
      refine ⟨?_, hB⟩
      rw [HE.out]
      show Ending.returned (.bool (decide ((h.length : Int) ≤ 40))) = _
      congr 2
      simp only [decide_eq_decide]
      omega
end Go.Proofs.YthfpdlfpbbhjhaaDoor.Mc
namespace Go.Proofs.YthfpdlfpbbhjhaaDoor.Mc
open Go.RowKit Go.Proofs.YthfpdlfpbbhjhaaDoor.PA Go.Proofs.MapFun Go.Proofs.YthfpdlfpbbhjhaaDoorW.PrintWords Go.Proofs.YthfpdlfpbbhjhaaDoorW.PrintLast Go.Proofs.YthfpdlfpbbhjhaaDoorW.PrintMore
set_option linter.unusedVariables false
set_option linter.unusedSimpArgs false
theorem eqA35 (d : Nat) (w : World) (x0 y0 : Int) (x1 y1 : Int) (x2 y2 : Int) (x3 y3 : Int) (x4 y4 : Int) (x5 y5 : Bool) (x6 y6 : Int) (x7 y7 : ByteArray) :
    (Op.equalIn (d + 2) 50 (.agg #[.int .i64 x0, .int .i64 x1, .int .i64 x2, .int .i64 x3, .int .i64 x4, .bool x5, .int .i64 x6, .string x7]) (.agg #[.int .i64 y0, .int .i64 y1, .int .i64 y2, .int .i64 y3, .int .i64 y4, .bool y5, .int .i64 y6, .string y7])).run Tryd.prog w = .ok (x0 == y0 && (x1 == y1 && (x2 == y2 && (x3 == y3 && (x4 == y4 && (x5 == y5 && (x6 == y6 && (x7.toList == y7.toList)))))))) w := by
  refine eqA_of Tryd.underlying50 (by kernel_rfl) ?_
  refine eqf_cons (by rfl) (by go_simp; rfl) (by go_simp; rfl) (by go_simp) ?_
  refine eqf_cons (by rfl) (by go_simp; rfl) (by go_simp; rfl) (by go_simp) ?_
  refine eqf_cons (by rfl) (by go_simp; rfl) (by go_simp; rfl) (by go_simp) ?_
  refine eqf_cons (by rfl) (by go_simp; rfl) (by go_simp; rfl) (by go_simp) ?_
  refine eqf_cons (by rfl) (by go_simp; rfl) (by go_simp; rfl) (by go_simp) ?_
  refine eqf_cons (by rfl) (by go_simp; rfl) (by go_simp; rfl) (by go_simp) ?_
  refine eqf_cons (by rfl) (by go_simp; rfl) (by go_simp; rfl) (by go_simp) ?_
  exact eqf_last (by rfl) (by go_simp; rfl) (by go_simp; rfl) (by go_simp)
def eq35 (x y : S50) : Bool := (x.f0 == y.f0 && (x.f1 == y.f1 && (x.f2 == y.f2 && (x.f3 == y.f3 && (x.f4 == y.f4 && (x.f5 == y.f5 && (x.f6 == y.f6 && (x.f7.toList == y.f7.toList))))))))
def smallB (n : Int) : Bool := decide (-2147483648 ≤ n) && decide (n < 2147483648)
theorem small_c (n : Int) (w : World) : Calls Tryd.prog 55 #[.int .i64 n] w fun e w' => e = .returned (.bool (smallB n)) ∧ ∃ k, w' = w.drewN k := by
  refine (mach_isSmall.calls n (smallB n) w ?_).mono ?_
  · unfold mach_isSmall.f smallB
    by_cases h : n ≥ -2147483648
    · rw [if_pos h]
      have h2 : decide (-2147483648 ≤ n) = true := by simpa using h
      rw [h2, Bool.true_and]
    · rw [if_neg h]
      have h2 : decide (-2147483648 ≤ n) = false := by simpa using h
      rw [h2, Bool.false_and]
  · rintro e w' ⟨rfl, ⟨k, rfl⟩⟩
    exact ⟨rfl, k, rfl⟩
def e0 : ByteArray := ⟨#[]⟩
def wantP (x : S50) : Option (Bool × S50) :=
  if x.f0 = 1 then some (true, ⟨1, x.f1, 0, x.f3, 0, false, 0, e0⟩)
  else if x.f0 = 20 then some (smallB x.f3, ⟨20, x.f1, 0, x.f3, 0, false, 0, e0⟩)
  else if x.f0 = 2 then some (true, ⟨2, x.f1, x.f2, 0, 0, false, 0, e0⟩)
  else if x.f0 = 11 then some (true, ⟨11, x.f1, x.f2, 0, 0, false, 0, e0⟩)
  else if x.f0 = 3 then some (smallB x.f3, ⟨3, x.f1, x.f2, x.f3, 0, false, 0, e0⟩)
  else if x.f0 = 4 then some (smallB x.f3, ⟨4, x.f1, x.f2, x.f3, 0, false, 0, e0⟩)
  else if x.f0 = 5 then some (decide ((1 ≤ x.f6 ∧ x.f6 ≤ 3) ∨ (8 ≤ x.f6 ∧ x.f6 ≤ 10)), ⟨5, x.f1, x.f2, 0, 0, false, x.f6, e0⟩)
  else if x.f0 = 6 then some (decide (x.f6 = 15 ∨ x.f6 = 16), ⟨6, x.f1, 0, 0, 0, false, x.f6, e0⟩)
  else if x.f0 = 7 then some (decide (x.f6 = 6 ∨ x.f6 = 7), ⟨7, x.f1, 0, 0, 0, x.f5, x.f6, e0⟩)
  else if x.f0 = 9 then some (true, ⟨9, 0, x.f2, 0, 0, x.f5, 0, e0⟩)
  else if x.f0 = 10 then some (decide (x.f4 = 1 ∨ x.f4 = 2 ∨ x.f4 = 4), ⟨10, x.f1, x.f2, 0, x.f4, x.f5, 0, e0⟩)
  else if x.f0 = 12 then some (decide (0 ≤ x.f6 ∧ x.f6 ≤ 5), ⟨12, x.f1, 0, 0, 0, false, x.f6, e0⟩)
  else if x.f0 = 14 then some (isNameP x.f7 && decide (0 ≤ x.f6 ∧ x.f6 ≤ 5), ⟨14, 0, 0, 0, 0, false, x.f6, x.f7⟩)
  else if x.f0 = 13 then some (isNameP x.f7, ⟨13, 0, 0, 0, 0, false, 0, x.f7⟩)
  else if x.f0 = 15 then some (isNameP x.f7, ⟨15, 0, 0, 0, 0, false, 0, x.f7⟩)
  else if x.f0 = 16 then some (isNameP x.f7, ⟨16, 0, 0, 0, 0, false, 0, x.f7⟩)
  else if x.f0 = 18 then some (true, ⟨18, 0, x.f2, 0, 0, false, 0, e0⟩)
  else if x.f0 = 19 then some (true, ⟨19, x.f1, 0, 0, 0, false, 0, e0⟩)
  else if x.f0 = 8 then some (true, ⟨8, 0, 0, 0, 0, false, 0, e0⟩)
  else if x.f0 = 17 then some (true, ⟨17, 0, 0, 0, 0, false, 0, e0⟩)
  else none
def formP (x : S50) : Bool := match wantP x with | none => false | some (ok, y) => ok && (eq35 x y && (!noReg x.f1 && !noReg x.f2))
theorem two_ints (b : Nat) (a c : Int) (w : World) (h0 : w.cell? ⟨b, 0, none⟩ = some (.int .i64 a)) (h1 : w.cell? ⟨b, 1, none⟩ = some (.int .i64 c)) : Kd.C (Kd.int .i64) w (some ⟨b, 0, none⟩) ([a, c] : List Int).length [a, c] := by
  refine ⟨rfl, by simp, fun _ => ⟨_, rfl, fun j p hj => ⟨[.int .i64 p], rfl, rfl, fun i u hu => ?_⟩⟩⟩
  have hi : i = 0 := by have := (List.getElem?_eq_some_iff.1 hu).1; simp at this; exact this
  subst hi
  have hu' : Value.int .i64 p = u := by simpa using hu
  subst hu'
  match j, hj with
  | 0, hj => have : a = p := by simpa using hj
             subst this; simpa [Addr.add, Kd.int, Kd.scalar] using h0
  | 1, hj => have : c = p := by simpa using hj
             subst this; simpa [Addr.add, Kd.int, Kd.scalar] using h1
theorem cell_new {W : World} {cs : Array Value} {t : TypeId} {fz : Nat × Nat} {i n : Nat} {v : Value} (hn : n = W.heap.size) (hv : cs[i]? = some v) : (W.alloc (.cells cs t fz)).cell? ⟨n, i, none⟩ = some v := by
  subst hn
  exact cell_at (heap_alloc_new W _) i hv
theorem cell_newD {W : World} {cs : Array Value} {t : TypeId} {fz : Nat × Nat} {i n : Nat} {v : Value} (hn : n = W.heap.size) (hv : cs[i]? = some v) : (W.alloc (.cells cs t fz)).drew.cell? ⟨n, i, none⟩ = some v := cell_new hn hv
theorem cell_newN {W : World} {cs : Array Value} {t : TypeId} {fz : Nat × Nat} {i n k : Nat} {v : Value} (hn : n = W.heap.size) (hv : cs[i]? = some v) : ((W.alloc (.cells cs t fz)).drewN k).cell? ⟨n, i, none⟩ = some v := cell_new hn hv
theorem cell_far {W : World} {b i k j : Nat} {u v : Value} (h : W.cell? ⟨k, j, none⟩ = some v) (hk : k ≠ b) : (W.setCell ⟨b, i, none⟩ u).cell? ⟨k, j, none⟩ = some v :=
  (World.cell?_of_block (Below.heap_setCell W ⟨b, i, none⟩ u k hk)).trans h
def FP (r : Bool) (w : World) (e : Ending) (w' : World) : Prop := e = .returned (.bool r) ∧ Below w.heap.size w w'
end Go.Proofs.YthfpdlfpbbhjhaaDoor.Mc
