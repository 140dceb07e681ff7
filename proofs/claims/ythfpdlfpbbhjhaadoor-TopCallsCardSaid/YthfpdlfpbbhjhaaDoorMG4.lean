import Derived.Test.YthfpdlfpbbhjhaaDoorMG2
import Derived.Test.YthfpdlfpbbhjhaaDoorMFY
import Derived.Test.YthfpdlfpbbhjhaaDoorMW5
namespace Go.Proofs.YthfpdlfpbbhjhaaDoor.Mc
open Go.RowKit Go.Proofs.YthfpdlfpbbhjhaaDoor.PA Go.Proofs.YthfpdlfpbbhjhaaDoor.Pure Go.Proofs.MapFun Go.Proofs.YthfpdlfpbbhjhaaDoorW.PrintWords Go.Proofs.YthfpdlfpbbhjhaaDoorW.PrintLast Go.Proofs.YthfpdlfpbbhjhaaDoorW.PrintMore
set_option linter.unusedVariables false
set_option linter.unusedSimpArgs false
def labAt (l : List S50) (k : Nat) (nm : List UInt8) : Option Nat := (l.take k).findIdx? (fun x => x.f0 == 15 && x.f7.data.toList == nm)
def labF (l : List S50) (k : Nat) (nm : List UInt8) : Option Value := (labAt l k nm).map fun i => .int .i64 (i : Int)
def labOk (l : List S50) (j : Nat) : Bool := formP (l.getD j z50) && (!((l.getD j z50).f0 == 15) || (labAt l j (l.getD j z50).f7.data.toList).isNone)
def labelsP (l : List S50) : Bool := (List.range l.length).all (labOk l)
theorem labels_no (l : List S50) (k : Nat) (hk : k < l.length) (h : labOk l k = false) : labelsP l = false := by
  unfold labelsP
  rw [List.all_eq_false]
  exact ⟨k, List.mem_range.2 hk, by rw [h]; simp⟩
theorem labF_zero (l : List S50) : labF l 0 = fun _ => none := by funext x; simp [labF, labAt]
theorem getD_get (l : List S50) (k : Nat) (hk : k < l.length) : l.getD k z50 = l[k] := by rw [List.getD_eq_getElem?_getD, List.getElem?_eq_getElem hk]; rfl
theorem labAt_other (l : List S50) (k : Nat) (hk : k < l.length) (h : ((l.getD k z50).f0 == 15) = false) (nm : List UInt8) : labAt l (k + 1) nm = labAt l k nm := by
  unfold labAt
  rw [List.take_succ_eq_append_getElem hk, List.findIdx?_append]
  rw [getD_get l k hk] at h
  simp [h]
theorem labF_other (l : List S50) (k : Nat) (hk : k < l.length) (h : ((l.getD k z50).f0 == 15) = false) : labF l (k + 1) = labF l k := by
  funext nm; unfold labF; rw [labAt_other l k hk h]
theorem labF_label (l : List S50) (k : Nat) (hk : k < l.length) (h : ((l.getD k z50).f0 == 15) = true) (hn : labAt l k (l.getD k z50).f7.data.toList = none) : labF l (k + 1) = upd (labF l k) (l.getD k z50).f7.data.toList (.int .i64 (k : Int)) := by
  funext nm
  unfold labF upd labAt
  rw [List.take_succ_eq_append_getElem hk, List.findIdx?_append]
  have ht : (l.take k).length = k := by simp; omega
  rw [getD_get l k hk] at h hn ⊢
  by_cases e : nm = l[k].f7.data.toList
  · subst e
    unfold labAt at hn
    rw [if_pos rfl, hn]
    simp [h, ht]
  · rw [if_neg e]
    have : (l[k].f7.data.toList == nm) = false := by simpa using fun h => e h.symm
    simp [h, this]
theorem labels_form {l : List S50} (h : labelsP l = true) : ∀ x ∈ l, formP x = true := by
  intro x hx
  obtain ⟨j, hj, rfl⟩ := List.getElem_of_mem hx
  unfold labelsP at h
  have := List.all_eq_true.1 h j (List.mem_range.2 hj)
  unfold labOk at this
  rw [getD_get l j hj, Bool.and_eq_true] at this
  exact this.1
theorem zero54 (w : World) : (zeroValue 3).run Tryd.prog w = .ok (.int .i64 0) w := by kernel_rfl
theorem law9 : Maps.Keyed Tryd.prog 9 := Go.Maps.string_keyed Tryd.underlying9
def LabPost (l : List S50) (w : World) (e : Ending) (w' : World) : Prop :=
  Below w.heap.size w w' ∧
  ((labelsP l = true ∧ e = .returned (.tuple #[.map (some w.heap.size), .bool (decide (l.length ≤ 40000))]) ∧ ∃ n, MapF Tryd.prog 9 Lit.string w' w.heap.size n (labF l l.length)) ∨
   (labelsP l = false ∧ e = .returned (.tuple #[.map none, .bool false])))
set_option maxRecDepth 100000 in
set_option maxHeartbeats 4000000 in
theorem labels_calls (A : Option Addr) (cp : Nat) (l : List S50) (w : World) (hC : Kd.C k50 w A l.length l) (hcp : l.length ≤ cp) (hN : ∀ x ∈ l, x.f7.size ≤ 140737488351232) (hlen : l.length ≤ 4611686018427387904) (hu : ∀ x ∈ l, kindU x) (hfm : ∀ x ∈ l, formP x = true) :
    Calls Tryd.prog 19 #[.slice A l.length cp] w (LabPost l w) := by
  have hl := hC.2.1
  have hmm := @run_makeMap Tryd.prog
  go_enter Tryd.func19, Tryd.ntmps19
  go_wp2
  go_loopw [12] (fun i wr => ∃ k n : Nat, k ≤ l.length ∧ i = .int .i64 k ∧ (∀ j, j < k → labOk l j = true) ∧ n ≤ k ∧ MapF Tryd.prog 9 Lit.string wr w.heap.size n (labF l k) ∧ Below w.heap.size w wr) (fun i _ => l.length - (intOf i).toNat)
  case atStart => exact ⟨0, 0, Nat.zero_le _, rfl, fun j hj => absurd hj (Nat.not_lt_zero _), Nat.le_refl _, by rw [labF_zero]; exact MapF.made w _ _ _, (Below.refl _ _).alloc (Nat.le_refl _) _⟩
  case round =>
    obtain ⟨k, n, hk, rfl, hno, hn, hM, hB⟩ := hrel
    have hkl : (k : Int) ≤ 9223372036854775807 := by omega
    by_cases hlt : k < l.length
    · have hlt' : (k : Int) < (l.length : Int) := by omega
      obtain ⟨ad, rfl, x0, x1, x2, x3, x4, x5, x6, x7⟩ := at_T50 hC (k : Int) (by omega) hlt'
      have kx : ∀ {p : Addr} {v : Value}, w.cell? p = some v → wr.cell? p = some v := fun {p v} h => (hB.cell (World.block_lt_of_cell? w _ h)).trans h
      have x0 := kx x0
      have x1 := kx x1
      have x2 := kx x2
      have x3 := kx x3
      have x4 := kx x4
      have x5 := kx x5
      have x6 := kx x6
      have x7 := kx x7
      have hrd : rd_T50 l (k : Int) = l.getD k z50 := rfl
      have hmem : l.getD k z50 ∈ l := by rw [getD_get l k hlt]; exact List.getElem_mem hlt
      rw [hrd] at x0 x1 x2 x3 x4 x5 x6 x7
      have hnm := hN _ hmem
      have hux := hu _ hmem
      have hfx := hfm _ hmem
      obtain ⟨y, hy⟩ : ∃ y, l.getD k z50 = y := ⟨_, rfl⟩
      rw [hy] at x0 x1 x2 x3 x4 x5 x6 x7 hnm hux hfx
      simp only [Int.toNat_natCast] at x0 x1 x2 x3 x4 x5 x6 x7
      have hlk : labOk l k = (formP y && (!(y.f0 == 15) || (labAt l k y.f7.data.toList).isNone)) := by unfold labOk; rw [hy]
      have W : ∀ w1 : World, Below (wr.heap.size + 1) (wr.alloc (.cells #[.int .i64 y.f0, .int .i64 y.f1, .int .i64 y.f2, .int .i64 y.f3, .int .i64 y.f4, .bool y.f5, .int .i64 y.f6, .string y.f7] 50)) w1 →
          Below w.heap.size w w1 ∧ MapF Tryd.prog 9 Lit.string w1 w.heap.size n (labF l k) ∧ w1.cell? ⟨wr.heap.size, 0, none⟩ = some (.int .i64 y.f0) ∧ w1.cell? ⟨wr.heap.size, 7, none⟩ = some (.string y.f7) := fun w1 hw => by
        refine ⟨hB.trans ((((Below.refl _ wr).alloc (Nat.le_refl _) _).trans (hw.mono (Nat.le_succ _))).mono hB.size), hM.block ?_, ?_, ?_⟩
        · exact (hw.block _ (Nat.lt_succ_of_lt hM.lt)).trans (((Below.refl _ wr).alloc (Nat.le_refl _) _).block _ hM.lt)
        · exact (hw.cell (p := ⟨wr.heap.size, 0, none⟩) (Nat.lt_succ_self _)).trans (by simp)
        · exact (hw.cell (p := ⟨wr.heap.size, 7, none⟩) (Nat.lt_succ_self _)).trans (by simp)
      have HW := Lib.hid W
      have HY := Lib.hid (And.intro hno (And.intro hy (And.intro hlk (And.intro hn hlt))))
      have HC := Lib.hid (And.intro hnm (And.intro hC (And.intro hfx hux)))
      have hws := hB.size
      clear kx hno hM hB hrd hy W hC hmem hnm hN hlk hn hux hfx hu hfm
      cases e1 : formP y with
      | false => exact absurd HC.out.2.2.1 (by rw [e1]; simp)
      | true =>
      have E1 := Lib.hid e1
      clear e1
      cases e2 : (y.f0 == 15) with
      | false =>
        have E2 := Lib.hid e2
        have e2p : ¬ y.f0 = 15 := by simpa using e2
        go_wp2_with (go_at_call 40; refine (form_calls y _ HC.out.1 HC.out.2.2.1 HC.out.2.2.2).mono ?_; rintro e w1 ⟨rfl, hb⟩; obtain ⟨b1, m1, z0, z7⟩ := HW.out w1 (by simpa using hb); have HB1 := Lib.hid (And.intro b1 m1); clear hb b1 m1)
        go_roundw
        case rel => exact ⟨k + 1, n, by omega, by simp, fun j hj => by
          by_cases e : j = k
          · subst e; rw [HY.out.2.2.1, E1.out, E2.out]; rfl
          · exact HY.out.1 j (by omega), by have := HY.out.2.2.2.1; omega, by rw [labF_other l k HY.out.2.2.2.2 (by rw [HY.out.2.1]; exact E2.out)]; exact HB1.out.2, HB1.out.1⟩
        case measure => simp [intOf]; omega
      | true =>
      have E2 := Lib.hid e2
      have e2p : y.f0 = 15 := by simpa using e2
      have E2P := Lib.hid e2p
      clear e2 e2p
      cases e3 : labAt l k y.f7.data.toList with
      | some i0 =>
        have E3 : Hid (labF l k y.f7.data.toList = some (.int .i64 (i0 : Int))) := Lib.hid (by unfold labF; rw [e3]; rfl)
        have E3' := Lib.hid e3
        clear e3
        go_wp2_with (first
          | (go_at_call 40; refine (form_calls y _ HC.out.1 HC.out.2.2.1 HC.out.2.2.2).mono ?_; rintro e w1 ⟨rfl, hb⟩; obtain ⟨b1, m1, z0, z7⟩ := HW.out w1 (by simpa using hb); rw [E2P.out] at z0; have hlk := m1.look_ok law9 Tryd.underlying51 (zero54 _) (Go.WideMaps.keyOf_string_mk (s := y.f7) Tryd.underlying9 (by have := HC.out.1; unfold maxLen; omega)); rw [E3.out] at hlk; dsimp only [Option.getD, Option.isSome] at hlk; have HB1 := Lib.hid (And.intro b1 m1); clear hb b1 m1))
        refine bodyPost_ret (v := .tuple #[.map none, .bool false]) (by simp [results, Tryd.results19, go_sem]) rfl ?_
        exact ⟨HB1.out.1, .inr ⟨labels_no l k HY.out.2.2.2.2 (by rw [HY.out.2.2.1, E1.out, E2.out, E3'.out]; rfl), rfl⟩⟩
      | none =>
        have E3 : Hid (labF l k y.f7.data.toList = none) := Lib.hid (by unfold labF; rw [e3]; rfl)
        have E3' := Lib.hid e3
        clear e3
        go_wp2_with (first
          | (go_at_call 40; refine (form_calls y _ HC.out.1 HC.out.2.2.1 HC.out.2.2.2).mono ?_; rintro e w1 ⟨rfl, hb⟩; obtain ⟨b1, m1, z0, z7⟩ := HW.out w1 (by simpa using hb); rw [E2P.out] at z0; have hlk := m1.look_ok law9 Tryd.underlying51 (zero54 _) (Go.WideMaps.keyOf_string_mk (s := y.f7) Tryd.underlying9 (by have := HC.out.1; unfold maxLen; omega)); rw [E3.out] at hlk; dsimp only [Option.getD, Option.isSome] at hlk; have HB1 := Lib.hid (And.intro b1 m1); clear hb b1 m1)
          | (at_mapUpdate; refine wpList_store _ rfl _ _ _ 51 rfl 3 strEmb HB1.out.2 law9 Tryd.underlying51 (by have := HY.out.2.2.2.1; unfold maxLen; omega) rfl (.string y.f7) (.int .i64 (k : Int)) y.f7.data.toList rfl rfl (Go.WideMaps.keyOf_string_mk Tryd.underlying9 (by have := HC.out.1; unfold maxLen; omega)) ?_; intro w2 m2 t2; rw [E3.out] at m2; have HM2 := Lib.hid (And.intro m2 t2); clear m2 t2))
        go_roundw
        case rel => exact ⟨k + 1, n + 1, by omega, by simp, fun j hj => by
          by_cases e : j = k
          · subst e; rw [HY.out.2.2.1, E1.out, E2.out, E3'.out]; rfl
          · exact HY.out.1 j (by omega), by have := HY.out.2.2.2.1; omega, by rw [labF_label l k HY.out.2.2.2.2 (by rw [HY.out.2.1]; exact E2.out) (by rw [HY.out.2.1]; exact E3'.out), HY.out.2.1]; exact HM2.out.1, HB1.out.1.grown HM2.out.2.grown HB1.out.1.size (fun q hq => by cases hq; exact Nat.le_refl _)⟩
        case measure => simp [intOf]; omega
    · obtain rfl : k = l.length := by omega
      have he : labelsP l = true := by
        unfold labelsP
        rw [List.all_eq_true]
        exact fun j hj => hno j (List.mem_range.1 hj)
      have HE := Lib.hid (And.intro he hM)
      clear hno he hM
      go_wp2
      refine bodyPost_ret (v := .tuple #[.map (some w.heap.size), .bool (decide ((l.length : Int) ≤ 40000))]) (by simp [results, Tryd.results19, go_sem]) rfl ?_
      refine ⟨hB, .inl ⟨HE.out.1, ?_, n, HE.out.2⟩⟩
      have hd : decide ((l.length : Int) ≤ 40000) = decide (l.length ≤ 40000) := by simp only [decide_eq_decide]; omega
      rw [hd]
end Go.Proofs.YthfpdlfpbbhjhaaDoor.Mc
namespace Go.Proofs.YthfpdlfpbbhjhaaDoor.Mc
open Go.RowKit Go.Proofs.YthfpdlfpbbhjhaaDoor.PA Go.Proofs.YthfpdlfpbbhjhaaDoor.Pure Go.Proofs.MapFun Go.Proofs.YthfpdlfpbbhjhaaDoorW.PrintWords Go.Proofs.YthfpdlfpbbhjhaaDoorW.PrintLast Go.Proofs.YthfpdlfpbbhjhaaDoorW.PrintMore
set_option linter.unusedVariables false
set_option linter.unusedSimpArgs false
def callOk (l : List S50) (h : List S28) (x : S50) : Bool :=
  if x.f0 = 16 then ((labF l l.length x.f7.data.toList).isSome || decide (0 ≤ findP h x.f7)) else if x.f0 = 13 ∨ x.f0 = 14 then (labF l l.length x.f7.data.toList).isSome else true
def rightP (l : List S50) (h : List S28) : Bool := labelsP l && decide (l.length ≤ 40000) && isHeadsP h && (List.range l.length).all fun j => callOk l h (l.getD j z50)
theorem right_no (l : List S50) (h : List S28) (k : Nat) (hk : k < l.length) (hb : callOk l h (l.getD k z50) = false) : rightP l h = false := by
  unfold rightP
  have : ((List.range l.length).all fun j => callOk l h (l.getD j z50)) = false := by
    rw [List.all_eq_false]
    exact ⟨k, List.mem_range.2 hk, by rw [hb]; simp⟩
  rw [this, Bool.and_false]
def RightPost (l : List S50) (h : List S28) (w : World) (e : Ending) (w' : World) : Prop :=
  Below w.heap.size w w' ∧
  ((rightP l h = true ∧ e = .returned (.tuple #[.map (some w.heap.size), .bool true]) ∧ ∃ n, MapF Tryd.prog 9 Lit.string w' w.heap.size n (labF l l.length)) ∨
   (rightP l h = false ∧ e = .returned (.tuple #[.map none, .bool false])))
set_option maxRecDepth 100000 in
set_option maxHeartbeats 4000000 in
theorem right_calls (A : Option Addr) (cp : Nat) (l : List S50) (AH : Option Addr) (ch : Nat) (h : List S28) (w : World) (hC : Kd.C k50 w A l.length l) (hcp : l.length ≤ cp) (hN : ∀ x ∈ l, x.f7.size ≤ 140737488351232) (hlen : l.length ≤ 4611686018427387904)
    (hH : Kd.C k28 w AH h.length h) (hch : h.length ≤ ch) (hNh : ∀ c ∈ h, c.f0.size ≤ 140737488351232) (hT : Tab w) (hu : ∀ x ∈ l, kindU x) (hfm : ∀ x ∈ l, formP x = true) :
    Calls Tryd.prog 9 #[.slice A l.length cp, .slice AH h.length ch] w (RightPost l h w) := by
  have hl := hC.2.1
  have HL := Lib.hid (labels_calls A cp l w hC hcp hN hlen hu hfm)
  cases e1 : labelsP l with
  | false =>
    have E1 := Lib.hid e1
    have er : rightP l h = false := by unfold rightP; rw [e1]; rfl
    have ER := Lib.hid er
    clear e1 er hC hH hN hNh hT
    go_enter Tryd.func9, Tryd.ntmps9
    go_wp2_with (go_at_call 19; refine HL.out.mono ?_; rintro e w1 ⟨hb, ⟨he, _⟩ | ⟨_, rfl⟩⟩; (rw [E1.out] at he; cases he); have HB := Lib.hid hb; clear hb)
    refine bodyPost_ret (v := .tuple #[.map none, .bool false]) (by simp [results, Tryd.results9, go_sem]) rfl ?_
    exact ⟨HB.out, .inr ⟨ER.out, rfl⟩⟩
  | true =>
  have E1 := Lib.hid e1
  clear e1
  have HL := Lib.hid (HL.out.mono (fun e w' (hp : LabPost l w e w') => (show e = .returned (.tuple #[.map (some w.heap.size), .bool (decide (l.length ≤ 40000))]) ∧ Below w.heap.size w w' ∧ ∃ n, MapF Tryd.prog 9 Lit.string w' w.heap.size n (labF l l.length) by
    obtain ⟨hb, ⟨_, he, hm⟩ | ⟨he, _⟩⟩ := hp
    · exact ⟨he, hb, hm⟩
    · rw [E1.out] at he; cases he)))
  cases e2 : decide (l.length ≤ 40000) with
  | false =>
    have E2 := Lib.hid e2
    have er : rightP l h = false := by unfold rightP; rw [e2]; simp
    have ER := Lib.hid er
    clear e2 er hC hH hN hNh hT
    go_enter Tryd.func9, Tryd.ntmps9
    go_wp2_with (go_at_call 19; refine HL.out.mono ?_; rw [E2.out]; rintro e w1 ⟨rfl, hb, _⟩; have HB := Lib.hid hb; clear hb)
    refine bodyPost_ret (v := .tuple #[.map none, .bool false]) (by simp [results, Tryd.results9, go_sem]) rfl ?_
    exact ⟨HB.out, .inr ⟨ER.out, rfl⟩⟩
  | true =>
  have E2 := Lib.hid e2
  clear e2
  have HH := Lib.hid (And.intro hH (And.intro hch (And.intro hNh hT)))
  have HC := Lib.hid (And.intro hC hN)
  clear hC hN hH hNh hT
  cases e3 : isHeadsP h with
  | false =>
    have E3 := Lib.hid e3
    have er : rightP l h = false := by unfold rightP; rw [e3]; simp
    have ER := Lib.hid er
    clear e3 er
    go_enter Tryd.func9, Tryd.ntmps9
    go_wp2_with (first
      | (go_at_call 19; refine HL.out.mono ?_; rw [E2.out]; rintro e w1 ⟨rfl, hb, _⟩; have HB := Lib.hid hb; clear hb)
      | (go_at_call 20; refine (isHeads_calls AH ch h _ (Kd.C_below HH.out.1 HB.out) HH.out.2.1 (HH.out.2.2.2.below HB.out) HH.out.2.2.1).mono ?_; rw [E3.out]; rintro e w2 ⟨rfl, hb⟩; have HB2 := Lib.hid (HB.out.trans (hb.mono HB.out.size)); clear hb))
    refine bodyPost_ret (v := .tuple #[.map none, .bool false]) (by simp [results, Tryd.results9, go_sem]) rfl ?_
    exact ⟨HB2.out, .inr ⟨ER.out, rfl⟩⟩
  | true =>
  have E3 := Lib.hid e3
  clear e3
  go_enter Tryd.func9, Tryd.ntmps9
  go_wp2_with (first
    | (go_at_call 19; refine HL.out.mono ?_; rw [E2.out]; rintro e w1 ⟨rfl, hb, n, hM⟩; have HB := Lib.hid (And.intro hb hM); clear hb hM)
    | (go_at_call 20; refine (isHeads_calls AH ch h _ (Kd.C_below HH.out.1 HB.out.1) HH.out.2.1 (HH.out.2.2.2.below HB.out.1) HH.out.2.2.1).mono ?_; rw [E3.out]; rintro e w2 ⟨rfl, hb⟩; have HB2 := Lib.hid (And.intro (HB.out.1.trans (hb.mono HB.out.1.size)) (HB.out.2.block (hb.block _ HB.out.2.lt))); clear hb))
  go_loopw [26] (fun i wr => ∃ k : Nat, k ≤ l.length ∧ i = .int .i64 k ∧ (∀ j, j < k → callOk l h (l.getD j z50) = true) ∧ MapF Tryd.prog 9 Lit.string wr w.heap.size n (labF l l.length) ∧ Below w.heap.size w wr) (fun i _ => l.length - (intOf i).toNat)
  case atStart => exact ⟨0, Nat.zero_le _, rfl, fun j hj => absurd hj (Nat.not_lt_zero _), HB2.out.2, HB2.out.1⟩
  case round =>
    obtain ⟨k, hk, rfl, hno, hM, hB⟩ := hrel
    have hkl : (k : Int) ≤ 9223372036854775807 := by omega
    by_cases hlt : k < l.length
    · have hlt' : (k : Int) < (l.length : Int) := by omega
      obtain ⟨ad, rfl, x0, x1, x2, x3, x4, x5, x6, x7⟩ := at_T50 HC.out.1 (k : Int) (by omega) hlt'
      have kx : ∀ {p : Addr} {v : Value}, w.cell? p = some v → wr.cell? p = some v := fun {p v} h => (hB.cell (World.block_lt_of_cell? w _ h)).trans h
      have x0 := kx x0
      have x1 := kx x1
      have x2 := kx x2
      have x3 := kx x3
      have x4 := kx x4
      have x5 := kx x5
      have x6 := kx x6
      have x7 := kx x7
      have hrd : rd_T50 l (k : Int) = l.getD k z50 := rfl
      have hmem : l.getD k z50 ∈ l := by rw [getD_get l k hlt]; exact List.getElem_mem hlt
      rw [hrd] at x0 x1 x2 x3 x4 x5 x6 x7
      have hnm := HC.out.2 _ hmem
      obtain ⟨y, hy⟩ : ∃ y, l.getD k z50 = y := ⟨_, rfl⟩
      rw [hy] at x0 x1 x2 x3 x4 x5 x6 x7 hnm
      simp only [Int.toNat_natCast] at x0 x1 x2 x3 x4 x5 x6 x7
      have hM1 : MapF Tryd.prog 9 Lit.string (wr.alloc (.cells #[.int .i64 y.f0, .int .i64 y.f1, .int .i64 y.f2, .int .i64 y.f3, .int .i64 y.f4, .bool y.f5, .int .i64 y.f6, .string y.f7] 50)) w.heap.size n (labF l l.length) := hM.block (((Below.refl _ wr).alloc (Nat.le_refl _) _).block _ hM.lt)
      have hB1 : Below w.heap.size w (wr.alloc (.cells #[.int .i64 y.f0, .int .i64 y.f1, .int .i64 y.f2, .int .i64 y.f3, .int .i64 y.f4, .bool y.f5, .int .i64 y.f6, .string y.f7] 50)) := hB.trans (((Below.refl _ wr).alloc (Nat.le_refl _) _).mono hB.size)
      have hlk := hM1.look_ok law9 Tryd.underlying51 (zero54 _) (Go.WideMaps.keyOf_string_mk (s := y.f7) Tryd.underlying9 (by unfold maxLen; omega))
      have HY := Lib.hid (And.intro hno (And.intro hy hlt))
      have HB3 := Lib.hid (And.intro hM1 hB1)
      have hws := hB.size
      clear kx hno hM hB hrd hy hmem hnm hM1 hB1
      have good : ∀ (hc : callOk l h y = true), ∀ j, j < k + 1 → callOk l h (l.getD j z50) = true := fun hc j hj => by
        by_cases e : j = k
        · subst e; rw [HY.out.2.1]; exact hc
        · exact HY.out.1 j (by omega)
      have GOOD := Lib.hid good
      clear good
      cases e4 : labF l l.length y.f7.data.toList with
      | some v =>
        have E4 := Lib.hid e4
        rw [e4] at hlk
        dsimp only [Option.getD, Option.isSome] at hlk
        have hc : callOk l h y = true := by unfold callOk; rw [e4]; split <;> first | rfl | (split <;> rfl)
        have HCK := Lib.hid hc
        clear e4 hc
        rcases (show y.f0 = 16 ∨ y.f0 = 13 ∨ y.f0 = 14 ∨ (¬ y.f0 = 16 ∧ ¬ y.f0 = 13 ∧ ¬ y.f0 = 14) by omega) with hi | hi | hi | ⟨k1, k2, k3⟩
        · obtain ⟨z0, hz0⟩ : ∃ z, y.f0 = z := ⟨_, rfl⟩
          rw [hz0] at x0 hi hlk HB3
          subst hi
          clear hz0
          go_wp2
          go_roundw
          case rel => exact ⟨k + 1, by omega, by simp, GOOD.out HCK.out, HB3.out.1, HB3.out.2⟩
          case measure => simp [intOf]; omega
        · obtain ⟨z0, hz0⟩ : ∃ z, y.f0 = z := ⟨_, rfl⟩
          rw [hz0] at x0 hi hlk HB3
          subst hi
          clear hz0
          go_wp2
          go_roundw
          case rel => exact ⟨k + 1, by omega, by simp, GOOD.out HCK.out, HB3.out.1, HB3.out.2⟩
          case measure => simp [intOf]; omega
        · obtain ⟨z0, hz0⟩ : ∃ z, y.f0 = z := ⟨_, rfl⟩
          rw [hz0] at x0 hi hlk HB3
          subst hi
          clear hz0
          go_wp2
          go_roundw
          case rel => exact ⟨k + 1, by omega, by simp, GOOD.out HCK.out, HB3.out.1, HB3.out.2⟩
          case measure => simp [intOf]; omega
        · skip
          go_wp2
          go_roundw
          case rel => exact ⟨k + 1, by omega, by simp, GOOD.out HCK.out, HB3.out.1, HB3.out.2⟩
          case measure => simp [intOf]; omega
      | none =>
        have E4 := Lib.hid e4
        rw [e4] at hlk
        dsimp only [Option.getD, Option.isSome] at hlk
        rcases (show y.f0 = 16 ∨ y.f0 = 13 ∨ y.f0 = 14 ∨ (¬ y.f0 = 16 ∧ ¬ y.f0 = 13 ∧ ¬ y.f0 = 14) by omega) with hi | hi | hi | ⟨k1, k2, k3⟩
        · by_cases hq : 0 ≤ findP h y.f7
          · have hc : callOk l h y = true := by unfold callOk; rw [if_pos hi, e4, decide_eq_true hq]; rfl
            have HCK := Lib.hid hc
            clear e4 hc
            obtain ⟨z0, hz0⟩ : ∃ z, y.f0 = z := ⟨_, rfl⟩
            rw [hz0] at x0 hi hlk HB3
            subst hi
            clear hz0
            obtain ⟨q, hqq⟩ : ∃ q, findP h y.f7 = q := ⟨_, rfl⟩
            rw [hqq] at hq
            have HQ := Lib.hid hqq
            clear hqq
            go_wp2_with (go_at_call 10; refine (find_calls AH ch h y.f7 _ (Kd.C_below HH.out.1 HB3.out.2) HH.out.2.1).mono ?_; rw [HQ.out]; rintro e w4 ⟨rfl, hb⟩; have HB4 := Lib.hid (And.intro (HB3.out.1.block (hb.block _ HB3.out.1.lt)) (HB3.out.2.trans (hb.mono HB3.out.2.size))); clear hb)
            go_roundw
            case rel => exact ⟨k + 1, by omega, by simp, GOOD.out HCK.out, HB4.out.1, HB4.out.2⟩
            case measure => simp [intOf]; omega
          · have hc : callOk l h y = false := by unfold callOk; rw [if_pos hi, e4, decide_eq_false hq]; rfl
            have HCK := Lib.hid hc
            clear e4 hc
            obtain ⟨z0, hz0⟩ : ∃ z, y.f0 = z := ⟨_, rfl⟩
            rw [hz0] at x0 hi hlk HB3
            subst hi
            clear hz0
            obtain ⟨q, hqq⟩ : ∃ q, findP h y.f7 = q := ⟨_, rfl⟩
            rw [hqq] at hq
            have HQ := Lib.hid hqq
            have hq' : q < 0 := by omega
            have hq2 : decide (0 ≤ q) = false := by simp; omega
            clear hqq hq
            go_wp2_with (go_at_call 10; refine (find_calls AH ch h y.f7 _ (Kd.C_below HH.out.1 HB3.out.2) HH.out.2.1).mono ?_; rw [HQ.out]; rintro e w4 ⟨rfl, hb⟩; have HB4 := Lib.hid (HB3.out.2.trans (hb.mono HB3.out.2.size)); clear hb)
            refine bodyPost_ret (v := .tuple #[.map none, .bool false]) (by simp [results, Tryd.results9, go_sem]) rfl ?_
            exact ⟨HB4.out, .inr ⟨right_no l h k HY.out.2.2 (by rw [HY.out.2.1]; exact HCK.out), rfl⟩⟩
        · have HCK := Lib.hid (show callOk l h y = false by unfold callOk; rw [if_neg (by omega), if_pos (by omega), e4]; rfl)
          obtain ⟨z0, hz0⟩ : ∃ z, y.f0 = z := ⟨_, rfl⟩
          rw [hz0] at x0 hi hlk HB3
          subst hi
          clear hz0 e4
          go_wp2
          refine bodyPost_ret (v := .tuple #[.map none, .bool false]) (by simp [results, Tryd.results9, go_sem]) rfl ?_
          exact ⟨HB3.out.2, .inr ⟨right_no l h k HY.out.2.2 (by rw [HY.out.2.1]; exact HCK.out), rfl⟩⟩
        · have HCK := Lib.hid (show callOk l h y = false by unfold callOk; rw [if_neg (by omega), if_pos (by omega), e4]; rfl)
          obtain ⟨z0, hz0⟩ : ∃ z, y.f0 = z := ⟨_, rfl⟩
          rw [hz0] at x0 hi hlk HB3
          subst hi
          clear hz0 e4
          go_wp2
          refine bodyPost_ret (v := .tuple #[.map none, .bool false]) (by simp [results, Tryd.results9, go_sem]) rfl ?_
          exact ⟨HB3.out.2, .inr ⟨right_no l h k HY.out.2.2 (by rw [HY.out.2.1]; exact HCK.out), rfl⟩⟩
        · have HCK := Lib.hid (show callOk l h y = true by unfold callOk; rw [if_neg k1, if_neg (by omega)])
          clear e4
          go_wp2
          go_roundw
          case rel => exact ⟨k + 1, by omega, by simp, GOOD.out HCK.out, HB3.out.1, HB3.out.2⟩
          case measure => simp [intOf]; omega
    · obtain rfl : k = l.length := by omega
      have er : rightP l h = true := by
        unfold rightP
        rw [E1.out, E2.out, E3.out, List.all_eq_true.2 (fun j hj => hno j (List.mem_range.1 hj))]; rfl
      have ER := Lib.hid (And.intro er hM)
      clear hno er hM
      go_wp2
      refine bodyPost_ret (v := .tuple #[.map (some w.heap.size), .bool true]) (by simp [results, Tryd.results9, go_sem]) rfl ?_
      exact ⟨hB, .inl ⟨ER.out.1, rfl, n, ER.out.2⟩⟩
end Go.Proofs.YthfpdlfpbbhjhaaDoor.Mc
namespace Go.Proofs.YthfpdlfpbbhjhaaDoor.Mc
open Go.RowKit Go.Proofs.YthfpdlfpbbhjhaaDoor.PA Go.Proofs.YthfpdlfpbbhjhaaDoor.Pure Go.Proofs.MapFun Go.Proofs.YthfpdlfpbbhjhaaDoorW.PrintWords Go.Proofs.YthfpdlfpbbhjhaaDoorW.PrintLast Go.Proofs.YthfpdlfpbbhjhaaDoorW.PrintMore
set_option linter.unusedVariables false
set_option linter.unusedSimpArgs false
def St.reckons (s : St) (x : S50) : St :=
  if x.f0 = 1 then s.setR x.f1.toNat x.f3
  else if x.f0 = 2 then s.setR x.f1.toNat (s.reg x.f2.toNat)
  else if x.f0 = 20 then s.setR x.f1.toNat (wrap64 (s.reg x.f1.toNat + x.f3))
  else if x.f0 = 5 then s.setR x.f1.toNat (wv x.f6 8 (s.reg x.f1.toNat) (s.reg x.f2.toNat))
  else if x.f0 = 6 then s.setR x.f1.toNat (wv x.f6 8 (s.reg x.f1.toNat) 0)
  else if x.f0 = 7 then s.setR x.f1.toNat (wv x.f6 (kindOfP 8 x.f5) (s.reg x.f1.toNat) (Go.bits .and .i64 (s.reg 1) 63))
  else if x.f0 = 10 then s.setR x.f1.toNat (toP (s.reg x.f2.toNat) (kindOfP x.f4 x.f5))
  else if x.f0 = 8 then s.setR 2 (s.reg 0 / 9223372036854775808)
  else if x.f0 = 3 then (s.load (wrap64 (s.reg x.f2.toNat + x.f3))).2.setR x.f1.toNat (s.load (wrap64 (s.reg x.f2.toNat + x.f3))).1
  else if x.f0 = 4 then s.store (wrap64 (s.reg x.f1.toNat + x.f3)) (s.reg x.f2.toNat)
  else if x.f0 = 18 then s.push (s.reg x.f2.toNat)
  else if x.f0 = 19 then s.pop.2.setR x.f1.toNat s.pop.1
  else s
structure St.Wf (s : St) : Prop where
  r : ∀ i, In64 (s.reg i)
  m : ∀ i, In64 (s.mem.getD i 0)
  f : ∀ a b, s.fl = some (a, b) → In64 a ∧ In64 b
def xv (x : S50) : Value := .agg #[.int .i64 x.f0, .int .i64 x.f1, .int .i64 x.f2, .int .i64 x.f3, .int .i64 x.f4, .bool x.f5, .int .i64 x.f6, .string x.f7]
set_option maxRecDepth 100000 in
set_option maxHeartbeats 2000000 in
theorem reckons_none (Z : Ct) (O : Z.Ok) (s : St) (is d sr n wd op : Int) (sg : Bool) (nm : ByteArray) (w : World) (h : Mac Z w s) (hd : 0 ≤ d) (hd' : d < 16)
    (hk : ¬ is = 1 ∧ ¬ is = 2 ∧ ¬ is = 20 ∧ ¬ is = 5 ∧ ¬ is = 6 ∧ ¬ is = 7 ∧ ¬ is = 10 ∧ ¬ is = 8 ∧ ¬ is = 3 ∧ ¬ is = 4 ∧ ¬ is = 18 ∧ ¬ is = 19) :
    Calls Tryd.prog 50 #[.pointer (some ⟨Z.b, 0, none⟩), .agg #[.int .i64 is, .int .i64 d, .int .i64 sr, .int .i64 n, .int .i64 wd, .bool sg, .int .i64 op, .string nm]] w fun e w' => (∃ u, e = .returned u) ∧ Mac Z w' s := by
  obtain ⟨k1, k2, k3, k4, k5, k6, k7, k8, k9, k10, k11, k12⟩ := hk
  obtain ⟨i, rfl⟩ : ∃ i : Nat, d = i := ⟨d.toNat, by omega⟩
  have h1 := h.step O ((Below.refl _ _).alloc (Nat.le_refl _) (.cells #[.int .i64 is, .int .i64 i, .int .i64 sr, .int .i64 n, .int .i64 wd, .bool sg, .int .i64 op, .string nm] 50))
  have HM := Lib.hid h1
  clear h h1
  go_enter Tryd.func50, Tryd.ntmps50
  go_wp2
  go_region
  go_wp2
  go_end0
  exact ⟨⟨_, rfl⟩, HM.out.drew O⟩
theorem reckons_calls (Z : Ct) (O : Z.Ok) (s : St) (x : S50) (w : World) (h : Mac Z w s) (hw : s.Wf) (hd : 0 ≤ x.f1) (hd' : x.f1 < 16) (hs : 0 ≤ x.f2) (hs' : x.f2 < 16) :
    Calls Tryd.prog 50 #[.pointer (some ⟨Z.b, 0, none⟩), xv x] w fun e w' => (∃ u, e = .returned u) ∧ Mac Z w' (s.reckons x) := by
  obtain ⟨k, d, sr, n, wd, sg, op, nm⟩ := x
  simp only at hd hd' hs hs'
  unfold St.reckons xv
  simp only
  by_cases h1 : k = 1
  · subst h1; rw [if_pos rfl]; exact reckons_imm Z O s d sr n wd op sg nm w h hd hd' hs hs'
  rw [if_neg h1]
  by_cases h2 : k = 2
  · subst h2; rw [if_pos rfl]; exact reckons_mov Z O s d sr n wd op sg nm w h hd hd' hs hs'
  rw [if_neg h2]
  by_cases h20 : k = 20
  · subst h20; rw [if_pos rfl]; exact reckons_addi Z O s d sr n wd op sg nm w h hd hd' hs hs'
  rw [if_neg h20]
  by_cases h5 : k = 5
  · subst h5; rw [if_pos rfl]; exact reckons_two Z O s d sr n wd op sg nm w h hd hd' hs hs' (hw.r _) (hw.r _)
  rw [if_neg h5]
  by_cases h6 : k = 6
  · subst h6; rw [if_pos rfl]; exact reckons_one Z O s d sr n wd op sg nm w h hd hd' hs hs' (hw.r _)
  rw [if_neg h6]
  by_cases h7 : k = 7
  · subst h7; rw [if_pos rfl]; exact reckons_shift Z O s d sr n wd op sg nm w h hd hd' hs hs' (hw.r _)
  rw [if_neg h7]
  by_cases h10 : k = 10
  · subst h10; rw [if_pos rfl]; exact reckons_ext Z O s d sr n wd op sg nm w h hd hd' hs hs' (hw.r _)
  rw [if_neg h10]
  by_cases h8 : k = 8
  · subst h8; rw [if_pos rfl]; exact reckons_cqo Z O s d sr n wd op sg nm w h hd hd' hs hs' (hw.r _)
  rw [if_neg h8]
  by_cases h3 : k = 3
  · subst h3; rw [if_pos rfl]; exact reckons_load Z O s d sr n wd op sg nm w h hd hd' hs hs'
  rw [if_neg h3]
  by_cases h4 : k = 4
  · subst h4; rw [if_pos rfl]; exact reckons_store Z O s d sr n wd op sg nm w h hd hd' hs hs'
  rw [if_neg h4]
  by_cases h18 : k = 18
  · subst h18; rw [if_pos rfl]; exact reckons_push Z O s d sr n wd op sg nm w h hd hd' hs hs'
  rw [if_neg h18]
  by_cases h19 : k = 19
  · subst h19; rw [if_pos rfl]; exact reckons_pop Z O s d sr n wd op sg nm w h hd hd' hs hs' (hw.r 4).2
  rw [if_neg h19]
  exact reckons_none Z O s k d sr n wd op sg nm w h hd hd' ⟨h1, h2, h20, h5, h6, h7, h10, h8, h3, h4, h18, h19⟩
theorem divides_calls (Z : Ct) (O : Z.Ok) (s : St) (x : S50) (w : World) (h : Mac Z w s) (hw : s.Wf) (hs : 0 ≤ x.f2) (hs' : x.f2 < 16) :
    Calls Tryd.prog 47 #[.pointer (some ⟨Z.b, 0, none⟩), xv x] w fun e w' => (∃ u, e = .returned u) ∧ Mac Z w' (s.divides x.f2.toNat x.f5) := by
  obtain ⟨k, d, sr, n, wd, sg, op, nm⟩ := x
  cases sg with
  | true => exact divides_true Z O s k d sr n wd op nm w h hs hs' (hw.r _) (hw.r _)
  | false => exact divides_false Z O s k d sr n wd op nm w h hs hs' (hw.r _) (hw.r _)
end Go.Proofs.YthfpdlfpbbhjhaaDoor.Mc
