import Derived.Test.YtcbfbefpbjmglaaDoorM11
import Derived.Test.YtcbfbefpbjmglaaDoorRN
namespace Go.Proofs.YtcbfbefpbjmglaaDoor.Mac
open Go.RowKit Go.Proofs.MapFun Go.Proofs.YtcbfbefpbjmglaaDoor.PA Go.Proofs.YtcbfbefpbjmglaaDoorT Go.Proofs.YtcbfbefpbjmglaaDoorW.PrintWords Go.Proofs.YtcbfbefpbjmglaaDoorW.PrintLast Go.Proofs.YtcbfbefpbjmglaaDoorW.PrintMore
set_option linter.unusedVariables false
set_option linter.unusedSimpArgs false
attribute [local go_sem] Oper.semAt_some
structure RSt (w W : World) (M : Nat) (nm : ByteArray) (st : List ByteArray × Bool) : Prop where
 m : ∃ v, W.heap[M]? = some (.cells #[.string nm, .bool true, v, .bool st.2, .slice none 0 0] 32 (0, 0)) ∧ Kd.string.R 9 W w.heap.size (fun _ => True) v st.1
 below : Below M w W
theorem els_at (l : List S48) (k : Nat) (h : 2 * k + 1 < l.length) : (els l)[k]? = some (l[2 * k], l[2 * k + 1].f1) := by
 have h2 := els_drop l k (by omega)
 have h3 : ((els l).drop k)[0]? = (els l)[k]? := by rw [List.getElem?_drop, Nat.add_zero]
 rw [← h3, ← h2, List.drop_eq_getElem_cons (by omega), List.drop_eq_getElem_cons (by omega), els]
 rfl
theorem els_end (l : List S48) (k : Nat) (h1 : 2 * k ≤ l.length) (h : ¬ 2 * k + 1 < l.length) : (els l).drop k = [(z48, (⟨#[]⟩ : ByteArray))] := by
 rw [← els_drop l k h1]
 match hd : l.drop (2 * k) with
 | [] => rfl
 | [x] => rfl
 | x :: y :: r =>
  have := congrArg List.length hd
  rw [List.length_drop] at this
  simp only [List.length_cons] at this
  omega
theorem parL_end (l : List S48) (k : Nat) (st : List ByteArray × Bool) (h1 : 2 * k ≤ l.length) (h : ¬ 2 * k + 1 < l.length) (hw : wentOn ((els l).take k) ([], false) = some st) : parL (els l) 0 ([], false) = none := by
 have hs : els l = (els l).take k ++ [(z48, (⟨#[]⟩ : ByteArray))] := by rw [← els_end l k h1 h, List.take_append_drop]
 rw [hs]
 exact parL_left (r := []) hw (rnd_z _ _ (by decide +kernel))
theorem parL_next (l : List S48) (k : Nat) (st : List ByteArray × Bool) (h : 2 * k + 1 < l.length) : els l = (els l).take k ++ (l[2 * k], l[2 * k + 1].f1) :: (els l).drop (k + 1) := by
 have h1 := els_at l k h
 obtain ⟨hlt, he⟩ := List.getElem?_eq_some_iff.1 h1
 rw [← he, List.getElem_cons_drop, List.take_append_drop]
theorem take_next (l : List S48) (k : Nat) (h : 2 * k + 1 < l.length) : (els l).take (k + 1) = (els l).take k ++ [(l[2 * k], l[2 * k + 1].f1)] := by
 have h1 := els_at l k h
 obtain ⟨hlt, he⟩ := List.getElem?_eq_some_iff.1 h1
 rw [← he, List.take_append_getElem hlt]
theorem RSt.setpar {w W w1 : World} {M : Nat} {nm : ByteArray} {st : List ByteArray × Bool} {pv v1 : Value} {x : ByteArray} (h : RSt w W M nm st) (hM : M < w.heap.size) (hm : W.heap[M]? = some (.cells #[.string nm, .bool true, pv, .bool st.2, .slice none 0 0] 32 (0, 0))) (hR : Kd.string.R 9 W w.heap.size (fun _ => True) pv st.1)
  (hR1 : Kd.string.R 9 w1 w.heap.size (fun _ => True) v1 (st.1 ++ [x])) (hg : W.drew.grownBy w1 pv.ownBlock) : RSt w (w1.setCell ⟨M, 2, none⟩ v1) M nm (st.1 ++ [x], st.2) := by
 have hm1 : w1.heap[M]? = some (.cells #[.string nm, .bool true, pv, .bool st.2, .slice none 0 0] 32 (0, 0)) := (hg.block _ (blk_lt hm) (Kd.R_ne hR hm (by decide))).trans hm
 exact ⟨⟨v1, blk_put hm1 2 _ rfl, R_low hR1 hM _⟩,
  Below.setCell (p := ⟨M, 2, none⟩) (((h.below.trans (below_drew (Below.refl _ _))).grown hg (by have := blk_lt hm; simp; omega) (fun k e => by have := Kd.R_base hR k e; omega))) (by simp) _⟩
theorem RSt.setmore {w W : World} {M : Nat} {nm : ByteArray} {st : List ByteArray × Bool} (h : RSt w W M nm st) (hM : M < w.heap.size) (m' : Bool) : RSt w (W.setCell ⟨M, 3, none⟩ (.bool m')) M nm (st.1, m') := by
 obtain ⟨v, h1, h2⟩ := h.m
 exact ⟨⟨v, blk_put h1 3 _ rfl, R_low h2 hM _⟩, h.below.setCell (p := ⟨M, 3, none⟩) (by simp) _⟩
theorem cellM {w W W' : World} {M : Nat} (h1 : Below M w W) (h2 : Below M w W') {p : Addr} {v : Value} (hp : p.block < M) (h : W.cell? p = some v) : W'.cell? p = some v :=
 (World.cell?_of_block ((h2.block _ hp).trans (h1.block _ hp).symm)).trans h
set_option maxRecDepth 100000 in
set_option maxHeartbeats 1000000 in
theorem rparams_c (M : Nat) (nm : ByteArray) (A : Option Addr) (c : Nat) (l : List S48) (w : World) (hl : l.length ≤ 1000000) (hB : Kd.C k48 w A l.length l) (hA : ∀ ad, A = some ad → 0 < l.length → ad.block < M) (hc : l.length ≤ c)
  (hM : w.heap[M]? = some (.cells #[.string nm, .bool true, .slice none 0 0, .bool false, .slice none 0 0] 32 (0, 0))) :
  Calls Tryd.prog 30 #[.pointer (some ⟨M, 0, none⟩), .slice A l.length c] w (ParPost M w.heap.size nm l w) := by
 go_enter Tryd.func30, Tryd.ntmps30
 obtain ⟨S, hS⟩ : ∃ S, w.heap.size = S := ⟨_, rfl⟩
 have hMS : M < S := by rw [← hS]; exact blk_lt hM
 refine wp_seq_k fun K1 hK1 => ?_
 have HK1 := Lib.hid hK1
 clear hK1
 go_wp2
 refine HK1.out _ _ ?_
 clear HK1
 refine wp_seq_k fun K2 hK2 => ?_
 have T2 : (∀ t r, l = t :: r → isClose t.f1 = false) → ∀ u6 u7 u8 u9 u10 u11 u12 u13 u14 u15 : Value, K2 { tmps := #[.pointer (some ⟨M, 0, none⟩), .slice A l.length c, undef, undef, .int .i64 0, undef, u6, u7, u8, u9, u10, u11, u12, u13, u14, u15, undef, undef, undef, undef, undef, undef, undef, undef, undef, undef, undef, undef, undef, undef, undef, undef, undef, undef, undef, undef, undef, undef, undef, undef, undef, undef, undef, undef, undef, undef, undef, undef, undef, undef, undef, undef, undef, undef, undef, undef, undef, undef, undef, undef, undef, undef, undef, undef, undef, undef, undef, undef, undef, undef, undef, undef, undef, undef, undef, undef, undef, undef, undef], defers := [] } w := by
  intro hnc u6 u7 u8 u9 u10 u11 u12 u13 u14 u15
  refine hK2 _ _ ?_
  have hnl : parL (els l) 0 ([], false) = paramsP l := by
   match l, hnc with
   | t :: r, hnc => rw [paramsP, if_neg (by rw [hnc t r rfl]; decide)]
   | [], _ => rfl
  have hst : RSt w w M nm ([], false) := ⟨⟨_, hM, Kd.R_nil _ _ _ _ _⟩, Below.refl _ _⟩
  have HH := Lib.hid (And.intro hnl (And.intro hB (And.intro hA hS)))
  clear hnl hnc hB hA hM hK2
  go_wp2
  go_loopw [5] (fun i W => ∃ (k : Nat) (st : List ByteArray × Bool), 2 * k ≤ l.length ∧ i = .int .i64 (2 * (k : Int)) ∧ wentOn ((els l).take k) ([], false) = some st ∧ RSt w W M nm st) (fun i _ => l.length + 2 - (intOf i).toNat)
  case atStart => exact ⟨0, ([], false), Nat.zero_le _, rfl, rfl, hst⟩
  case round =>
   clear hst
   obtain ⟨k, st, hk, rfl, hw, hR⟩ := hrel
   by_cases hlt : 2 * k + 1 < l.length
   ·have hC : Kd.C k48 wr A l.length l := C_keepM (M := fun _ => False) (N0 := M) (b := M) HH.out.2.1 (fun a ha hp => by have := HH.out.2.2.1 a ha hp; exact ⟨this, fun h => h, by omega⟩) (fun kk h1 _ => hR.below.block kk h1)
    obtain ⟨ad, had, a0, a1, _, _, _, _⟩ := at_T48 hC (2 * (k : Int)) (by omega) (by omega)
    obtain ⟨ad', had', _, e1, _, _, _, _⟩ := at_T48 hC (2 * (k : Int) + 1) (by omega) (by omega)
    subst had
    cases had'
    have hx0 : rd_T48 l (2 * (k : Int)) = l[2 * k] := by
     unfold rd_T48
     rw [show (2 * (k : Int)).toNat = 2 * k by omega, List.getD_eq_getElem?_getD, List.getElem?_eq_getElem (by omega)]; rfl
    have hx1 : rd_T48 l (2 * (k : Int) + 1) = l[2 * k + 1] := by
     unfold rd_T48
     rw [show (2 * (k : Int) + 1).toNat = 2 * k + 1 by omega, List.getD_eq_getElem?_getD, List.getElem?_eq_getElem hlt]; rfl
    have hnx := parL_next l k st hlt
    have htk := take_next l k hlt
    rw [hx0] at a0 a1
    rw [hx1] at e1
    rw [show (2 * (k : Int)).toNat = 2 * k by omega] at a0 a1
    rw [show (2 * (k : Int) + 1).toNat = 2 * k + 1 by omega] at e1
    obtain ⟨⟨f0, x, f2, f3, f4, f5⟩, ht⟩ : ∃ t, l[2 * k] = t := ⟨_, rfl⟩
    obtain ⟨e, he⟩ : ∃ e, l[2 * k + 1].f1 = e := ⟨_, rfl⟩
    rw [ht] at a0 a1 hnx htk
    rw [he] at e1 hnx htk
    have hw2 : wrap64 (2 * (k : Int) + 1) = 2 * (k : Int) + 1 := by unfold wrap64; omega
    obtain ⟨b1, hb1⟩ : ∃ b1, isDots x = b1 := ⟨_, rfl⟩
    obtain ⟨b2, hb2⟩ : ∃ b2, isClose e = b2 := ⟨_, rfl⟩
    have hb1' : (x.toList == [46, 46, 46]) = b1 := hb1
    have hb2' : (e.toList == [41]) = b2 := hb2
    obtain ⟨pv, hm, hP⟩ := hR.m
    have cm2 := blk_cell hm 2
    have cm3 := blk_cell hm 3
    have fm3 := frz_blk hm 3
    have hMl := blk_lt hm
    have HW2 := Lib.hid hw2
    have HN := Lib.hid (And.intro hw (And.intro hnx htk))
    have HS := Lib.hid (And.intro hR (And.intro hm hP))
    clear hx0 hx1 ht he hC hR hm hP hw hw2 hnx htk
    have d1 : 2 * (k : Int) + 1 < (l.length : Int) := by omega
    refine wp_seq_k fun K3 hK3 => ?_
    have HK3 := Lib.hid hK3
    clear hK3
    go_wp2
    refine HK3.out _ _ ?_
    clear HK3
    refine wp_seq_k fun K4 hK4 => ?_
    have HK4 := Lib.hid hK4
    clear hK4
    refine wp_block ?_
    refine wp_seq_k fun K5 hK5 => ?_
    have hMa := HH.out.2.2.1 ad rfl (by omega)
    have T5 : (b1 && b2) = false → ∀ v23 v24 v25 v26 v27 v28 v29 v30 v31 v32 v33 v34 v35 v36 : Value, K5 { tmps := #[.pointer (some ⟨M, 0, none⟩), .slice (some ad) l.length c, undef, undef, u4, .int .i64 (2 * (k : Int)), u6, u7, u8, u9, u10, u11, u12, u13, u14, u15, .int .i64 (2 * (k : Int)), .int .i64 (2 * (k : Int) + 1), .slice (some ad) l.length c, .int .i64 (l.length : Int), .bool true, u21, u22, v23, v24, v25, v26, v27, v28, v29, v30, v31, v32, v33, v34, v35, v36, .bool false, u38, u39, u40, u41, u42, u43, u44, u45, u46, u47, u48, u49, u50, u51, u52, u53, u54, u55, u56, u57, u58, u59, u60, u61, u62, u63, u64, u65, u66, u67, u68, u69, u70, u71, u72, u73, u74, u75, u76, u77, u78], defers := [] } wr := by
     intro hbb v23 v24 v25 v26 v27 v28 v29 v30 v31 v32 v33 v34 v35 v36
     refine hK5 _ _ ?_
     refine wp_seq_k fun K6 hK6 => ?_
     have HK6 := Lib.hid hK6
     clear hK6 hK5 hb1'
     obtain ⟨b3, hb3⟩ : ∃ b3, (f0 == 1) = b3 := ⟨_, rfl⟩
     have hn3 : (f0 != 1) = !b3 := by rw [← hb3]; rfl
     cases b3 with
     | false =>
      go_wp2
      go_ret
      rw [ParPost, ← HH.out.1, HN.out.2.1, parL_left HN.out.1 (rnd_none hb1 hb2 hb3 rfl hbb rfl _)]
      exact ⟨rfl, HS.out.1.below⟩
     | true =>
      go_wp2
      refine HK6.out _ _ ?_
      clear HK6
      refine wp_seq_k fun K7 hK7 => ?_
      have HK7 := Lib.hid hK7
      clear hK7
      have hneM := Kd.R_ne HS.out.2.2 HS.out.2.1 (by decide)
      have hAl : ad.block < wr.heap.size := by omega
      have hneA : some (ad.add (2 * k * 6)).block ≠ pv.ownBlock := fun e => by have := Kd.R_base HS.out.2.2 _ e.symm; rw [add_blockE] at this; omega
      have hAl2 : (ad.add (2 * k * 6)).block < wr.heap.size := by rw [add_blockE]; exact hAl
      have hpM : Kd.string.M wr.drew w.heap.size (fun _ => False) x [.string x] := rfl
      have hMw : M < w.heap.size := by rw [HH.out.2.2.2]; exact hMS
      have hstl : st.1.length + 1 ≤ 1000000 := by
       have := wentOn_len _ _ _ HN.out.1
       simp only [List.length_nil, List.length_take] at this; omega
      have hsz := HS.out.1.below.size
      have hidx : 0 ≤ 2 * (k : Int) ∧ 2 * (k : Int) < (l.length : Int) := ⟨by omega, by omega⟩
      have htn : (2 * (k : Int)).toNat = 2 * k := by omega
      refine start_ (n := 15) (S := fun w' => w'.cell? ⟨M, 2, none⟩ = some pv ∧ w'.cell? ⟨(ad.add (2 * k * 6)).block, (ad.add (2 * k * 6)).off + 1, none⟩ = some (.string x)) (ds := [14]) #[false, false, false, false, false, false, false, false, false, false, false, false, false, false, false] (by kernel_rfl) rfl rfl ⟨cm2, a1⟩ (fun hHeld => ?_)
      refine pure_ (i := 0) (N := some 49) (v := ?_) (a' := ?_) #[true, false, false, false, false, false, false, false, false, false, false, false, false, false, false] rfl rfl (by kernel_rfl) (fun _ _ _ h => h) (Or.inl ⟨by rfl, ?_⟩) ?_ ?_
      rotate_left
      ·intro w'
       go_simp
       with_reducible rfl
      rotate_left
      ·simp only [Act.put, List.setIfInBounds_toArray, List.set_cons_zero, List.set_cons_succ, i64_w, i32_w]
       rfl
      refine pure_ (i := 1) (N := some 50) (v := ?_) (a' := ?_) #[true, true, false, false, false, false, false, false, false, false, false, false, false, false, false] rfl rfl (by kernel_rfl) (fun _ _ _ h => h) (Or.inl ⟨by rfl, ?_⟩) ?_ ?_
      rotate_left
      ·intro w'
       go_simp
       with_reducible rfl
      rotate_left
      ·simp only [Act.put, List.setIfInBounds_toArray, List.set_cons_zero, List.set_cons_succ, i64_w, i32_w]
       rfl
      refine pure_ (i := 2) (N := some 51) (v := ?_) (a' := ?_) #[true, true, true, false, false, false, false, false, false, false, false, false, false, false, false] rfl rfl (by kernel_rfl) (fun _ _ _ h => h) (Or.inl ⟨by rfl, ?_⟩) ?_ ?_
      rotate_left
      ·intro w'
       go_simp
       with_reducible rfl
      rotate_left
      ·simp only [Act.put, List.setIfInBounds_toArray, List.set_cons_zero, List.set_cons_succ, i64_w, i32_w]
       rfl
      refine pure_ (i := 3) (N := some 52) (v := ?_) (a' := ?_) #[true, true, true, true, false, false, false, false, false, false, false, false, false, false, false] rfl rfl (by kernel_rfl) (fun _ _ _ h => h) (Or.inl ⟨by rfl, ?_⟩) ?_ ?_
      rotate_left
      ·intro w'
       go_simp
       with_reducible rfl
      rotate_left
      ·simp only [Act.put, List.setIfInBounds_toArray, List.set_cons_zero, List.set_cons_succ, i64_w, i32_w]
       rfl
      refine pure_ (i := 5) (N := some 54) (v := ?_) (a' := ?_) #[true, true, true, true, false, true, false, false, false, false, false, false, false, false, false] rfl rfl (by kernel_rfl) (fun _ _ _ h => h) (Or.inl ⟨by rfl, ?_⟩) ?_ ?_
      rotate_left
      ·intro w'
       go_simp
       with_reducible rfl
      rotate_left
      ·simp only [Act.put, List.setIfInBounds_toArray, List.set_cons_zero, List.set_cons_succ, i64_w, i32_w]
       rfl
      refine pure_ (i := 6) (N := some 55) (v := ?_) (a' := ?_) #[true, true, true, true, false, true, true, false, false, false, false, false, false, false, false] rfl rfl (by kernel_rfl) (fun _ _ _ h => h) (Or.inl ⟨by rfl, ?_⟩) ?_ ?_
      rotate_left
      ·intro w'
       go_simp
       with_reducible rfl
      rotate_left
      ·simp only [Act.put, List.setIfInBounds_toArray, List.set_cons_zero, List.set_cons_succ, i64_w, i32_w]
       rfl
      refine pure_ (i := 7) (N := some 56) (v := ?_) (a' := ?_) #[true, true, true, true, false, true, true, true, false, false, false, false, false, false, false] rfl rfl (by kernel_rfl) (fun _ _ _ h => h) (Or.inl ⟨by rfl, ?_⟩) ?_ ?_
      rotate_left
      ·intro w'
       go_simp
       with_reducible rfl
      rotate_left
      ·simp only [Act.put, List.setIfInBounds_toArray, List.set_cons_zero, List.set_cons_succ, i64_w, i32_w]
       rfl
      refine pure_ (i := 8) (N := some 57) (v := ?_) (a' := ?_) #[true, true, true, true, false, true, true, true, true, false, false, false, false, false, false] rfl rfl (by kernel_rfl) (fun _ _ _ h => h) (Or.inl ⟨by rfl, ?_⟩) ?_ ?_
      rotate_left
      ·intro w'
       go_simp
       with_reducible rfl
      rotate_left
      ·simp only [Act.put, List.setIfInBounds_toArray, List.set_cons_zero, List.set_cons_succ, i64_w, i32_w]
       rfl
      refine take_ (i := 4) (N := some 53) (v := ?_) (a' := ?_) #[true, true, true, true, true, true, true, true, true, false, false, false, false, false, false] rfl rfl (by kernel_rfl) (fun _ _ _ h => h) (Or.inl ⟨by rfl, ?_⟩) hHeld ?_ ?_
      rotate_left
      ·rintro w' ⟨s0, s1⟩
       go_simp
       with_reducible rfl
      rotate_left
      ·simp only [Act.put, List.setIfInBounds_toArray, List.set_cons_zero, List.set_cons_succ, i64_w, i32_w]
       rfl
      refine take_ (i := 9) (N := some 58) (v := ?_) (a' := ?_) #[true, true, true, true, true, true, true, true, true, true, false, false, false, false, false] rfl rfl (by kernel_rfl) (fun _ _ _ h => h) (Or.inl ⟨by rfl, ?_⟩) hHeld ?_ ?_
      rotate_left
      ·rintro w' ⟨s0, s1⟩
       go_simp
       with_reducible rfl
      rotate_left
      ·simp only [Act.put, List.setIfInBounds_toArray, List.set_cons_zero, List.set_cons_succ, i64_w, i32_w]
       rfl
      refine one_ (i := 10) (N := some 59) #[true, true, true, true, true, true, true, true, true, true, true, false, false, false, false] rfl rfl (by kernel_rfl) (by decide) (fun K hK => ?_)
      refine value_ (w1 := ?_) (v := ?_) (by rfl) rfl ?_ ?_
      rotate_left 2
      ·go_simp
       constructor
       ·rfl
       ·rfl
      refine hK.out _ _ ⟨(cell_al cm2 _), (cell_al a1 _)⟩ (fun hHeld => ?_)
      clear hK K
      refine norm_ (a' := ?_) ?_ ?_
      rotate_left
      ·show Act.put _ (some 59) _ = _
       simp only [Act.put, List.setIfInBounds_toArray, List.set_cons_zero, List.set_cons_succ, i64_w, i32_w]
       rfl
      refine one_ (i := 11) (N := some 60) #[true, true, true, true, true, true, true, true, true, true, true, true, false, false, false] rfl rfl (by kernel_rfl) (by decide) (fun K hK => ?_)
      refine Kd.R_append_step (P := Tryd.prog) (w0 := wr) (W := wr.drew) Kd.string w.heap.size (by rfl) _ _ 30 9 (.string ⟨#[]⟩) 16 (by rfl) Tryd.underlying30 info9 (by rfl) (by decide) (by decide) pv st.1 x [.string x] (fun _ => True) (fun _ => False) (by rfl) (by rfl) hpM (fun _ h => h.elim) (fun _ _ => trivial) (Kd.R_drew HS.out.2.2) (below_drew (Below.refl _ _)) (by simp; omega) (by omega) ?_
      intro v1 w1 hR1 hbl1 hgrow hat
      obtain ⟨A1, c1, rfl⟩ := Kd.R_slice hR1
      have hw0 : w1.cell? ⟨M, 2, none⟩ = some pv := ((hgrow.cell_far _ (by simp; omega) hneM).trans cm2)
      have hwf : w1.frozen? ⟨M, 2, none⟩ = false := (hgrow.frozen_far _ (by simp; omega) hneM).trans (frz_blk HS.out.2.1 2)
      refine hK.out _ _ ⟨hw0, ((hgrow.cell_far ⟨(ad.add (2 * k * 6)).block, (ad.add (2 * k * 6)).off + 1, none⟩ (by simp; omega) hneA).trans a1)⟩ (fun hHeld => ?_)
      clear hK K
      refine norm_ (a' := ?_) ?_ ?_
      rotate_left
      ·show Act.put _ (some 60) _ = _
       simp only [Act.put, List.setIfInBounds_toArray, List.set_cons_zero, List.set_cons_succ, i64_w, i32_w]
       rfl
      refine pure_ (i := 12) (N := some 61) (v := ?_) (a' := ?_) #[true, true, true, true, true, true, true, true, true, true, true, true, true, false, false] rfl rfl (by kernel_rfl) (fun _ _ _ h => h) (Or.inl ⟨by rfl, ?_⟩) ?_ ?_
      rotate_left
      ·intro w'
       go_simp
       with_reducible rfl
      rotate_left
      ·simp only [Act.put, List.setIfInBounds_toArray, List.set_cons_zero, List.set_cons_succ, i64_w, i32_w]
       rfl
      refine pure_ (i := 13) (N := some 62) (v := ?_) (a' := ?_) #[true, true, true, true, true, true, true, true, true, true, true, true, true, true, false] rfl rfl (by kernel_rfl) (fun _ _ _ h => h) (Or.inl ⟨by rfl, ?_⟩) ?_ ?_
      rotate_left
      ·intro w'
       go_simp
       with_reducible rfl
      rotate_left
      ·simp only [Act.put, List.setIfInBounds_toArray, List.set_cons_zero, List.set_cons_succ, i64_w, i32_w]
       rfl
      refine last_ (i := 14) (N := none) #[true, true, true, true, true, true, true, true, true, true, true, true, true, true, true] rfl rfl (by kernel_rfl) (by decide) (fun K hK => ?_)
      refine skip_ (w1 := ?_) (by rfl) rfl ?_ ?_
      rotate_left
      ·go_simp
       rfl
      refine hK.out _ _ ?_
      clear hK K
      refine done_ (by kernel_rfl) ?_
      refine HK7.out _ _ ?_
      rw [show st.1.length + 1 = (st.1 ++ [x]).length by simp]
      have hst5 := HS.out.1.setpar hMw HS.out.2.1 HS.out.2.2 hR1 hgrow
      obtain ⟨W5, hW5⟩ : ∃ W5, w1.setCell ⟨M, 2, none⟩ (.slice A1 (st.1 ++ [x]).length c1) = W5 := ⟨_, rfl⟩
      rw [hW5] at hst5 ⊢
      have e5 : W5.cell? ⟨(ad.add ((2 * k + 1) * 6)).block, (ad.add ((2 * k + 1) * 6)).off + 1, none⟩ = some (.string e) := cellM HS.out.1.below hst5.below (by rw [add_blockE]; exact hMa) e1
      have HF := Lib.hid hst5
      clear hst5 hW5 hw0 hwf hat hgrow hbl1 hR1 hpM hneM hneA hAl hAl2 cm2 cm3 fm3 a0 a1 e1 hMl HK7
      cases b2 with
      | true =>
       go_wp2
       go_ret
       have hrn := rnd_name (f2 := f2) (f3 := f3) (f4 := f4) (f5 := f5) hb1 hb2 hb3 rfl hbb (by rfl) st
       rw [ParPost, ← HH.out.1, HN.out.2.1, parL_closed HN.out.1 hrn hb2]
       have hlk : ((els l).take k).length = k := by rw [List.length_take, els_len]; omega
       rw [hlk]
       exact ⟨⟨rfl, HF.out.m⟩, HF.out.below⟩
      | false =>
       obtain ⟨b4, hb4⟩ : ∃ b4, isComma e = b4 := ⟨_, rfl⟩
       have hb4' : (e.toList == [44]) = b4 := hb4
       cases b4 with
       | false =>
        go_wp2
        go_ret
        rw [ParPost, ← HH.out.1, HN.out.2.1, parL_left HN.out.1 (rnd_none hb1 hb2 hb3 hb4 hbb (by rfl) _)]
        exact ⟨rfl, HF.out.below⟩
       | true =>
        have hrn := rnd_name (f2 := f2) (f3 := f3) (f4 := f4) (f5 := f5) hb1 hb2 hb3 hb4 hbb (by rfl) st
        have hwn := went_next HN.out.1 hb2 hrn
        have HWN := Lib.hid hwn
        clear hwn hrn
        have hwk : wrap64 (2 * (k : Int) + 2) = 2 * (k : Int) + 2 := by unfold wrap64; omega
        have HWK := Lib.hid hwk
        clear hwk
        go_wp2
        refine HK4.out _ _ ?_
        go_wp2
        go_roundw
        case rel =>
         exact ⟨k + 1, (st.1 ++ [x], st.2), by omega, by go_num, by rw [HN.out.2.2]; exact HWN.out, HF.out⟩
        case measure => simp [intOf]; omega
    have HT5 := Lib.hid T5
    clear T5
    cases b1 with
    | false =>
     clear hK5
     go_wp2
     exact HT5.out rfl _ _ _ _ _ _ _ _ _ _ _ _ _ _
    | true =>
     cases b2 with
     | false =>
      clear hK5
      go_wp2
      exact HT5.out rfl _ _ _ _ _ _ _ _ _ _ _ _ _ _
     | true =>
      clear hK5
      go_wp2
      go_ret
      have hMw : M < w.heap.size := by rw [HH.out.2.2.2]; exact hMS
      have hst5 := HS.out.1.setmore hMw true
      rw [ParPost, ← HH.out.1, HN.out.2.1, parL_closed HN.out.1 (rnd_dots hb1 hb2 st) hb2]
      have hlk : ((els l).take k).length = k := by rw [List.length_take, els_len]; omega
      rw [hlk]
      exact ⟨⟨rfl, HH.out.2.2.2 ▸ hst5.m⟩, hst5.below⟩
   ·have hend := parL_end l k st hk hlt hw
    have HE := Lib.hid (And.intro hend hR)
    clear hend hR hw
    have d1 : ¬ (2 * (k : Int) + 1 < (l.length : Int)) := by omega
    go_wp2
    go_ret
    rw [ParPost, ← HH.out.1, HE.out.1]
    exact ⟨rfl, HE.out.2.below⟩
 have HT2 := Lib.hid T2
 clear T2
 match l, hl, hB, hA, hc, HT2 with
 | [], hl, hB, hA, hc, HT2 =>
  clear hK2
  go_wp2
  exact HT2.out (fun t r h => by cases h) _ _ _ _ _ _ _ _ _ _
 | t :: r, hl, hB, hA, hc, HT2 =>
  obtain ⟨ad, had, _, a1, _, _, _, _⟩ := at_T48 hB 0 (by omega) (by simp only [List.length_cons]; omega)
  subst had
  have ht : rd_T48 (t :: r) 0 = t := rfl
  rw [ht] at a1
  simp only [Int.toNat_zero, Nat.zero_mul, Addr.add, if_true] at a1
  obtain ⟨x, hx⟩ : ∃ x, t.f1 = x := ⟨_, rfl⟩
  rw [hx] at a1
  obtain ⟨b, hb⟩ : ∃ b, isClose x = b := ⟨_, rfl⟩
  have hb' : (x.toList == [41]) = b := hb
  have hpos : decide (((t :: r).length : Int) > 0) = true := decide_eq_true (by simp only [List.length_cons]; omega)
  clear hK2
  cases b with
  | false =>
   go_wp2
   exact HT2.out (fun t' r' h => by cases h; rw [hx]; exact hb) _ _ _ _ _ _ _ _ _ _
  | true =>
   have hp : paramsP (t :: r) = some (1, [], false) := by rw [paramsP, hx, if_pos hb]
   have HP := Lib.hid (And.intro hp hM)
   clear hp hM
   go_wp2
   go_ret
   rw [ParPost, HP.out.1]
   exact ⟨⟨rfl, _, HP.out.2, Kd.R_nil _ _ _ _ _⟩, Below.refl _ _⟩
end Go.Proofs.YtcbfbefpbjmglaaDoor.Mac
