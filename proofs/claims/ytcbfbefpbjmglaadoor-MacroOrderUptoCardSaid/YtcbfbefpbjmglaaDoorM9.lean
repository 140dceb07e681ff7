import Derived.Test.YtcbfbefpbjmglaaDoorM7
namespace Go.Proofs.YtcbfbefpbjmglaaDoor.Mac
open Go.RowKit Go.Proofs.MapFun Go.Proofs.YtcbfbefpbjmglaaDoor.PA Go.Proofs.YtcbfbefpbjmglaaDoorT Go.Proofs.YtcbfbefpbjmglaaDoorW.PrintWords Go.Proofs.YtcbfbefpbjmglaaDoorW.PrintLast Go.Proofs.YtcbfbefpbjmglaaDoorW.PrintMore
set_option linter.unusedVariables false
set_option linter.unusedSimpArgs false
attribute [local go_sem] Oper.semAt_some
def ParPost (M base : Nat) (nm : ByteArray) (l : List S48) (w : World) : Ending → World → Prop := fun e w' =>
 (match paramsP l with
 | some (n, st) => e = .returned (.int .i64 n) ∧ ∃ v, w'.heap[M]? = some (.cells #[.string nm, .bool true, v, .bool st.2, .slice none 0 0] 32 (0, 0)) ∧ Kd.string.R 9 w' base (fun _ => True) v st.1
 | none => e = .returned (.int .i64 (-1))) ∧ Below M w w'
set_option maxRecDepth 100000 in
set_option maxHeartbeats 1000000 in
theorem params_c (M : Nat) (nm : ByteArray) (A : Option Addr) (c : Nat) (l : List S48) (w : World) (hl : l.length ≤ 1000000) (hB : Kd.C k48 w A l.length l) (hA : ∀ ad, A = some ad → 0 < l.length → ad.block < M) (hc : l.length ≤ c) (hcm : True)
  (hM : w.heap[M]? = some (.cells #[.string nm, .bool true, .slice none 0 0, .bool false, .slice none 0 0] 32 (0, 0))) :
  Calls Tryd.prog 28 #[.pointer (some ⟨M, 0, none⟩), .slice A l.length c] w (ParPost M w.heap.size nm l w) := by
 refine (callsIn_wide (n := 5)).1 ?_
 refine callsIn_of_wp_marks Tryd.func28 rfl trivial ?_ rfl
 simp only [Tryd.ntmps28, List.size_toArray, List.length_cons, List.length_nil, Nat.reduceAdd, Nat.reduceSub, Array.replicate_succ, Array.replicate_zero, List.push_toArray, List.append_toArray, List.nil_append, List.cons_append]
 obtain ⟨B, hBw⟩ : ∃ B, w.heap.size = B := ⟨_, rfl⟩
 have hMB : M < B := by rw [← hBw]; exact blk_lt hM
 gi_wp2
 obtain ⟨W0, hW0⟩ : ∃ W0, w.alloc (.cells #[.pointer (some ⟨M, 0, none⟩)] 61) = W0 := ⟨_, rfl⟩
 have hb0 : Below w.heap.size w W0 := by rw [← hW0]; exact (Below.refl _ w).alloc (Nat.le_refl _) _
 have q0 : W0.heap[B]? = some (.cells #[.pointer (some ⟨M, 0, none⟩)] 61 (0, 0)) := by rw [← hW0, ← hBw]; exact blk_new w _
 have hs0 : W0.heap.size = B + 1 := by rw [← hW0, ← hBw]; simp
 have qM := (hb0.block M (blk_lt hM)).trans hM
 have hB0 := Kd.C_below hB hb0
 rw [hW0, hBw]
 rw [hBw] at hb0
 have HB := Lib.hid (And.intro hB0 (And.intro qM (And.intro q0 (And.intro hb0 hs0))))
 clear hB hM hB0 qM q0 hb0 hs0 hW0
 refine wpIn_wide.2 (wp_scope_straight ((wpIn_wide (n := 5)).1 ?_))
 refine wpIn_seq_k fun K hK => ?_
 have T : (∀ t r, l = t :: r → isClose t.f1 = false) → ∀ u9 u10 u11 u12 u13 u14 u15 u16 u17 u18 : Value, K { tmps := #[.pointer (some ⟨M, 0, none⟩), .slice A l.length c, .pointer (some ⟨B, 0, none⟩), undef, .int .i64 0, undef, undef, undef, undef, u9, u10, u11, u12, u13, u14, u15, u16, u17, u18, undef, undef, undef, undef, undef, undef, undef, undef, undef, undef, undef, undef, undef, undef, undef, undef, undef, undef, undef, undef, undef, undef, undef, undef, undef, undef, undef, undef, undef, undef, undef, undef, undef, undef, undef, undef, undef, undef, undef, undef, undef, undef, undef, undef, undef], defers := [] } W0 := by
  intro hnc u9 u10 u11 u12 u13 u14 u15 u16 u17 u18
  refine hK _ _ ?_
  gi_wp2
  refine wpIn_label ?_
  obtain ⟨W2, hW2⟩ : ∃ W2, (W0.alloc (.cells #[.int .i64 0] 3)).alloc (.cells #[.bool false] 4) = W2 := ⟨_, rfl⟩
  have hb2 : Below (B + 1) W0 W2 := by rw [← hW2, ← HB.out.2.2.2.2]; exact ((Below.refl _ W0).alloc (Nat.le_refl _) _).alloc (by simp) _
  have q1 : W2.heap[B + 1]? = some (.cells #[.int .i64 0] 3 (0, 0)) := by rw [← hW2, ← HB.out.2.2.2.2]; exact blk_alloc (blk_new W0 _) _
  have q2 : W2.heap[B + 2]? = some (.cells #[.bool false] 4 (0, 0)) := by
   have := blk_new (W0.alloc (.cells #[.int .i64 0] 3)) (.cells #[.bool false] 4)
   rw [hW2, World.size_alloc, HB.out.2.2.2.2] at this; exact this
  have hs2 : W2.heap.size = B + 3 := by rw [← hW2]; simp [HB.out.2.2.2.2]
  rw [hW2, show W0.heap.size + 1 = B + 2 by rw [HB.out.2.2.2.2], HB.out.2.2.2.2]
  have H2 := Lib.hid (And.intro hb2 (And.intro q1 (And.intro q2 hs2)))
  clear hb2 q1 q2 hs2 hW2
  gi_wp2_with (refine ⟨trivial, ?_⟩; gi_at_call 49; refine (callsIn_wide.2 (listed_c A l.length c _)).mono ?_; rintro e w' ⟨rfl, rfl⟩)
  have hs3 : (W2.alloc (.cells #[.slice A l.length c] 23)).heap.size = B + 4 := by simp [H2.out.2.2.2]
  have hb3 : Below (B + 3) W2 (W2.alloc (.cells #[.slice A l.length c] 23)) := by rw [← H2.out.2.2.2]; exact (Below.refl _ W2).alloc (Nat.le_refl _) _
  have q3 : (W2.alloc (.cells #[.slice A l.length c] 23)).heap[B + 3]? = some (.cells #[.slice A l.length c] 23 (0, 0)) := by rw [← H2.out.2.2.2]; exact blk_new W2 _
  obtain ⟨W3, hW3⟩ : ∃ W3, W2.alloc (.cells #[.slice A l.length c] 23) = W3 := ⟨_, rfl⟩
  rw [hW3, H2.out.2.2.2]
  rw [hW3] at hs3 hb3 q3
  have hb03 : Below (B + 1) W0 W3 := H2.out.1.trans (hb3.mono (by omega))
  have hC3 : Kd.C k48 W3 A l.length l := Kd.C_below HB.out.1 (by rw [HB.out.2.2.2.2]; exact hb03)
  have hst : PSt w W3 B M nm 0 false ([], false) := by
   refine ⟨(hb03.block B (by omega)).trans HB.out.2.2.1, (hb3.block (B + 1) (by omega)).trans H2.out.2.1, (hb3.block (B + 2) (by omega)).trans H2.out.2.2.1, ⟨_, (hb03.block M (by omega)).trans HB.out.2.1, Kd.R_nil _ _ _ _ _⟩, (HB.out.2.2.2.1.mono (by omega)).trans (hb03.mono (by omega)), by omega⟩
  have hnl : parL (els l) 0 ([], false) = paramsP l := by
   match l, hnc with
   | t :: r, hnc => rw [paramsP, if_neg (by rw [hnc t r rfl]; decide)]
   | [], _ => rfl
  have H3 := Lib.hid (And.intro hst hnl)
  have hInM : InM (fun k => k = M ∨ k = B + 1) (B + 4) (B + 3) A l.length := fun ad ha hp => by
   have := hA ad ha hp
   exact ⟨by omega, by omega, by omega⟩
  have hseq := listed1 4 (by decide) W3 (fun k => k = M ∨ k = B + 1) (B + 4) (B + 3) (by omega) (by omega) (by omega) A c l hl hC3 hInM hc hcm q3
  clear hst hnl hC3 hb3 hb03 q3 hInM H2 hW3
  refine wpIn_range_st (F := Fence.wide) (n := 5) rfl (by decide) (gf := 75) (lb := #[.pointer (some ⟨B + 3, 0, none⟩)]) rfl trivial (enters_of Tryd.func75 (by kernel_rfl) rfl)
   (fun h k => h.trans k) (fun W l o hl k hk _ => World.putObj_heap_other (by omega)) (fun A B' h k hk => by obtain ⟨u, rfl⟩ := h; exact Below.heap_setCell _ ⟨B + 3, 0, none⟩ _ _ (by simp; omega)) hseq (fun _ => rfl)
   (fun pre W => ∃ st, wentOn pre ([], false) = some st ∧ PSt w W B M nm (2 * pre.length) false st)
   (fun pre W => ∃ pre' x st, pre = pre' ++ [x] ∧ wentOn pre' ([], false) = some st ∧ ((rnd x st = none ∧ ∃ st', PSt w W B M nm (2 * pre'.length + 2) false st') ∨ (∃ st', rnd x st = some st' ∧ isClose x.2 = true ∧ PSt w W B M nm (2 * pre'.length + 2) true st')))
   (fun pre W W' row ⟨st, h1, h2⟩ hg hr => ⟨st, h1, h2.own hMB (by omega) hg hr⟩)
   (fun pre W W' row ⟨pre', x, st, h0, h1, h2⟩ hg hr => ⟨pre', x, st, h0, h1, h2.imp (fun ⟨h3, st', h4⟩ => ⟨h3, st', h4.own hMB (by omega) hg hr⟩) (fun ⟨st', h3, h4, h5⟩ => ⟨st', h3, h4, h5.own hMB (by omega) hg hr⟩)⟩)
   (fun pre W W' ⟨st, h1, h2⟩ hs => ⟨st, h1, h2.stb hMB hs⟩)
   ⟨_, rfl, H3.out.1⟩ 0
   (fun x a' W => ∃ B7, B + 4 ≤ B7 ∧ W.heap[B7]? = some (.cells #[.int .i64 x.1.f0, .string x.1.f1, .string x.1.f2, .int .i64 x.1.f3, .bool x.1.f4, .bool x.1.f5] 48 (0, 0)) ∧ a' = { tmps := #[.pointer (some ⟨M, 0, none⟩), .slice A l.length c, .pointer (some ⟨B, 0, none⟩), undef, .int .i64 0, .pointer (some ⟨B + 1, 0, none⟩), .pointer (some ⟨B + 2, 0, none⟩), .pointer (some ⟨B7, 0, none⟩), .string x.2, u9, u10, u11, u12, u13, u14, u15, u16, u17, u18, .slice A l.length c, .func (.func 75) #[] #[.pointer (some ⟨B + 3, 0, none⟩)], .agg #[.int .i64 x.1.f0, .string x.1.f1, .string x.1.f2, .int .i64 x.1.f3, .bool x.1.f4, .bool x.1.f5], .string x.2, undef, undef, undef, undef, undef, undef, undef, undef, undef, undef, undef, undef, undef, undef, undef, undef, undef, undef, undef, undef, undef, undef, undef, undef, undef, undef, undef, undef, undef, undef, undef, undef, undef, undef, undef, undef, undef, undef, undef, undef, undef], defers := [] })
   (fun x a' s W W' row hs hg hr => by
    obtain ⟨B7, h1, h2, h3⟩ := hs
    exact ⟨B7, h1, blk_row h2 hg hr, h3⟩)
   ?assign ?body ?done ?stop
  case assign =>
   rintro l' pre ⟨⟨f0, f1, f2, f3, f4, f5⟩, e⟩ W K ⟨st, h1, h2⟩ hK
   simp only [encE]
   have hbn : Below W.heap.size W (W.alloc (.cells #[.int .i64 f0, .string f1, .string f2, .int .i64 f3, .bool f4, .bool f5] 48)) := (Below.refl _ _).alloc (Nat.le_refl _) _
   have hnW := h2.size
   have HK := Lib.hid hK
   clear hK
   gi_wp2
   exact HK.out _ _ ((KeepsOthers.alloc W _).from _) (KeepM.below (hbn.mono (by omega))) ⟨st, h1, h2.growB hMB hbn⟩ ⟨W.heap.size, hnW, World.alloc_heap_new _ _, rfl⟩
  case body =>
   rintro l' pre ⟨⟨f0, f1, f2, f3, f4, f5⟩, e⟩ a' W ⟨st, h1, h2⟩ ⟨B7, hB7, hb7, rfl⟩ hlen
   have hln : pre.length ≤ 500000 := by rw [els_len] at hlen; omega
   refine wpIn_block ?_
   refine wpIn_seq_k fun K1 hK1 => ?_
   have c5 := blk_cell h2.n 0
   have f5' : W.frozen? ⟨B + 1, 0, none⟩ = false := by simp [World.frozen?, h2.n]
   have hb5 := blk_lt h2.n
   have HK1 := Lib.hid hK1
   clear hK1
   gi_wp2
   refine HK1.out _ _ ?_
   have hb74 := (Below.heap_setCell W ⟨B + 1, 0, none⟩ (.int .i64 (2 * (pre.length : Int) + 2)) B7 (by simp; omega)).trans hb7
   have hst4 := h2.setn hMB (2 * (pre.length : Int) + 2)
   have hk4 : KeepM (fun k => k = M ∨ k = B + 1) (B + 4) W (W.setCell ⟨B + 1, 0, none⟩ (.int .i64 (2 * (pre.length : Int) + 2))) := fun k _ hk => Below.heap_setCell _ ⟨B + 1, 0, none⟩ _ _ (by simp; omega)
   have hf4 : KeepsFrom W3.heap.size W (W.setCell ⟨B + 1, 0, none⟩ (.int .i64 (2 * (pre.length : Int) + 2))) := (KeepsOthers.setCell _ _ _).from _
   obtain ⟨W4, hW4⟩ : ∃ W4, W.setCell ⟨B + 1, 0, none⟩ (.int .i64 (2 * (pre.length : Int) + 2)) = W4 := ⟨_, rfl⟩
   rw [hW4] at hb74 hst4 hk4 hf4 ⊢
   have HH := Lib.hid (And.intro h1 (And.intro hk4 hf4))
   clear hW4 c5 f5' hb5 HK1 h2 hb7 h1 hk4 hf4
   refine wpIn_seq_k fun K2 hK2 => ?_
   have HK2 := Lib.hid hK2
   clear hK2
   refine wpIn_block ?_
   refine wpIn_seq_k fun K3 hK3 => ?_
   have d1 := blk_cell hb74 1
   have d0 := blk_cell hb74 0
   obtain ⟨pv, hm4, hR4⟩ := hst4.m
   have cb := blk_cell hst4.box 0
   have fm : ∀ k, W4.frozen? ⟨M, k, none⟩ = false := fun k => by simp [World.frozen?, hm4]
   have fm3 := fm 3
   have fm2 := fm 2
   have cm3 := blk_cell hm4 3
   have cm2 := blk_cell hm4 2
   have hMl := blk_lt hm4
   obtain ⟨b1, hb1⟩ : ∃ b1, isDots f1 = b1 := ⟨_, rfl⟩
   obtain ⟨b2, hb2⟩ : ∃ b2, isClose e = b2 := ⟨_, rfl⟩
   have HS := Lib.hid (And.intro hst4 (And.intro hm4 (And.intro hR4 (And.intro hb74 fm))))
   clear hst4 hm4 hR4 hb74 fm
   have hb1' : (f1.toList == [46, 46, 46]) = b1 := hb1
   have hb2' : (e.toList == [41]) = b2 := hb2
   have T3 : (b1 && b2) = false → ∀ v26 v27 v28 v29 v30 v31 v32 : Value, K3 { tmps := #[.pointer (some ⟨M, 0, none⟩), .slice A l.length c, .pointer (some ⟨B, 0, none⟩), undef, .int .i64 0, .pointer (some ⟨B + 1, 0, none⟩), .pointer (some ⟨B + 2, 0, none⟩), .pointer (some ⟨B7, 0, none⟩), .string e, u9, u10, u11, u12, u13, u14, u15, u16, u17, u18, .slice A l.length c, .func (.func 75) #[] #[.pointer (some ⟨B + 3, 0, none⟩)], .agg #[.int .i64 f0, .string f1, .string f2, .int .i64 f3, .bool f4, .bool f5], .string e, .int .i64 (2 * (pre.length : Int)), .int .i64 (2 * (pre.length : Int) + 2), .bool false, v26, v27, v28, v29, v30, v31, v32, undef, undef, undef, undef, undef, undef, undef, undef, undef, undef, undef, undef, undef, undef, undef, undef, undef, undef, undef, undef, undef, undef, undef, undef, undef, undef, undef, undef, undef, undef, undef], defers := [] } W4 := by
    intro hbb v26 v27 v28 v29 v30 v31 v32
    refine hK3 _ _ ?_
    refine wpIn_cond_false rfl ?_
    refine wpIn_seq_k fun K4 hK4 => ?_
    obtain ⟨b3, hb3⟩ : ∃ b3, (f0 == 1) = b3 := ⟨_, rfl⟩
    obtain ⟨b4, hb4⟩ : ∃ b4, isComma e = b4 := ⟨_, rfl⟩
    have hb4' : (e.toList == [44]) = b4 := hb4
    have T4 : ∀ v37 v38 v39 v40 v41 v42 v43 v44 v45 v46 v47 : Value, ∀ b, (b3 && (b2 || b4)) = b → K4 { tmps := #[.pointer (some ⟨M, 0, none⟩), .slice A l.length c, .pointer (some ⟨B, 0, none⟩), undef, .int .i64 0, .pointer (some ⟨B + 1, 0, none⟩), .pointer (some ⟨B + 2, 0, none⟩), .pointer (some ⟨B7, 0, none⟩), .string e, u9, u10, u11, u12, u13, u14, u15, u16, u17, u18, .slice A l.length c, .func (.func 75) #[] #[.pointer (some ⟨B + 3, 0, none⟩)], .agg #[.int .i64 f0, .string f1, .string f2, .int .i64 f3, .bool f4, .bool f5], .string e, .int .i64 (2 * (pre.length : Int)), .int .i64 (2 * (pre.length : Int) + 2), .bool false, v26, v27, v28, v29, v30, v31, v32, undef, undef, undef, .bool b, v37, v38, v39, v40, v41, v42, v43, v44, v45, v46, v47, undef, undef, undef, undef, undef, undef, undef, undef, undef, undef, undef, undef, undef, undef, undef, undef], defers := [] } W4 := by
     intro v37 v38 v39 v40 v41 v42 v43 v44 v45 v46 v47 b hb
     refine hK4 _ _ ?_
     cases b with
     | false =>
      refine wpIn_cond_false rfl ?_
      gi_wp2
      exact ⟨rfl, HH.out.2.2, _, _, _, rfl, HH.out.1, .inl ⟨rnd_none hb1 hb2 hb3 hb4 hbb hb _, _, HS.out.1⟩⟩
     | true =>
      refine wpIn_cond_true rfl ?_
      have hneM := Kd.R_ne HS.out.2.2.1 HS.out.2.1 (by decide)
      have hneB := Kd.R_ne HS.out.2.2.1 HS.out.1.box (by decide)
      have hne7 := Kd.R_ne HS.out.2.2.1 HS.out.2.2.2.1 (by decide)
      have hB7l := blk_lt HS.out.2.2.2.1
      have hBl := blk_lt HS.out.1.box
      have hW4s := HS.out.1.size
      have hpM : Kd.string.M W4.drew (B + 4) (fun _ => False) f1 [.string f1] := rfl
      have hstl : st.1.length + 1 ≤ 1000000 := by have := wentOn_len _ _ _ HH.out.1; simp only [List.length_nil] at this; omega
      refine startIn_ (n := 12) (S := fun w' => w'.cell? ⟨B, 0, none⟩ = some (.pointer (some ⟨M, 0, none⟩)) ∧ w'.cell? ⟨M, 2, none⟩ = some pv ∧ w'.cell? ⟨B7, 1, none⟩ = some (.string f1)) (ds := [11]) #[false, false, false, false, false, false, false, false, false, false, false, false] (fun hlo => by obtain ⟨_, _, h⟩ := hlo; exact h) (by kernel_rfl) (by kernel_rfl) rfl rfl ⟨cb, cm2, d1⟩ (fun hHeld => ?_)
      refine pure_ (i := 5) (N := some 53) (v := ?_) (a' := ?_) #[false, false, false, false, false, true, false, false, false, false, false, false] rfl rfl (by kernel_rfl) (fun _ _ _ h => h) (Or.inl ⟨by rfl, ?_⟩) ?_ ?_
      rotate_left
      ·intro w'
       go_simp
       with_reducible rfl
      rotate_left
      ·simp only [Act.put, List.setIfInBounds_toArray, List.set_cons_zero, List.set_cons_succ, i64_w, i32_w]
       rfl
      refine take_ (i := 0) (N := some 48) (v := ?_) (a' := ?_) #[true, false, false, false, false, true, false, false, false, false, false, false] rfl rfl (by kernel_rfl) (fun _ _ _ h => h) (Or.inl ⟨by rfl, ?_⟩) hHeld ?_ ?_
      rotate_left
      ·rintro w' ⟨s0, s1, s2⟩
       go_simp
       with_reducible rfl
      rotate_left
      ·simp only [Act.put, List.setIfInBounds_toArray, List.set_cons_zero, List.set_cons_succ, i64_w, i32_w]
       rfl
      refine take_ (i := 1) (N := some 49) (v := ?_) (a' := ?_) #[true, true, false, false, false, true, false, false, false, false, false, false] rfl rfl (by kernel_rfl) (fun _ _ _ h => h) (Or.inl ⟨by rfl, ?_⟩) hHeld ?_ ?_
      rotate_left
      ·rintro w' ⟨s0, s1, s2⟩
       go_simp
       with_reducible rfl
      rotate_left
      ·simp only [Act.put, List.setIfInBounds_toArray, List.set_cons_zero, List.set_cons_succ, i64_w, i32_w]
       rfl
      refine pure_ (i := 2) (N := some 50) (v := ?_) (a' := ?_) #[true, true, true, false, false, true, false, false, false, false, false, false] rfl rfl (by kernel_rfl) (fun _ _ _ h => h) (Or.inl ⟨by rfl, ?_⟩) ?_ ?_
      rotate_left
      ·intro w'
       go_simp
       with_reducible rfl
      rotate_left
      ·simp only [Act.put, List.setIfInBounds_toArray, List.set_cons_zero, List.set_cons_succ, i64_w, i32_w]
       rfl
      refine pure_ (i := 3) (N := some 51) (v := ?_) (a' := ?_) #[true, true, true, true, false, true, false, false, false, false, false, false] rfl rfl (by kernel_rfl) (fun _ _ _ h => h) (Or.inl ⟨by rfl, ?_⟩) ?_ ?_
      rotate_left
      ·intro w'
       go_simp
       with_reducible rfl
      rotate_left
      ·simp only [Act.put, List.setIfInBounds_toArray, List.set_cons_zero, List.set_cons_succ, i64_w, i32_w]
       rfl
      refine take_ (i := 4) (N := some 52) (v := ?_) (a' := ?_) #[true, true, true, true, true, true, false, false, false, false, false, false] rfl rfl (by kernel_rfl) (fun _ _ _ h => h) (Or.inl ⟨by rfl, ?_⟩) hHeld ?_ ?_
      rotate_left
      ·rintro w' ⟨s0, s1, s2⟩
       go_simp
       with_reducible rfl
      rotate_left
      ·simp only [Act.put, List.setIfInBounds_toArray, List.set_cons_zero, List.set_cons_succ, i64_w, i32_w]
       rfl
      refine take_ (i := 6) (N := some 54) (v := ?_) (a' := ?_) #[true, true, true, true, true, true, true, false, false, false, false, false] rfl rfl (by kernel_rfl) (fun _ _ _ h => h) (Or.inl ⟨by rfl, ?_⟩) hHeld ?_ ?_
      rotate_left
      ·rintro w' ⟨s0, s1, s2⟩
       go_simp
       with_reducible rfl
      rotate_left
      ·simp only [Act.put, List.setIfInBounds_toArray, List.set_cons_zero, List.set_cons_succ, i64_w, i32_w]
       rfl
      refine one_ (i := 7) (N := some 55) #[true, true, true, true, true, true, true, true, false, false, false, false] rfl rfl (by kernel_rfl) (by decide) (fun K hK => ?_)
      refine value_ (w1 := ?_) (v := ?_) (by rfl) rfl ?_ ?_
      rotate_left 2
      ·go_simp
       constructor
       ·rfl
       ·rfl
      refine hK.out _ _ ⟨(cell_al cb _), (cell_al cm2 _), (cell_al d1 _)⟩ (fun hHeld => ?_)
      clear hK K
      refine norm_ (a' := ?_) ?_ ?_
      rotate_left
      ·show Act.put _ (some 55) _ = _
       simp only [Act.put, List.setIfInBounds_toArray, List.set_cons_zero, List.set_cons_succ, i64_w, i32_w]
       rfl
      refine one_ (i := 8) (N := some 56) #[true, true, true, true, true, true, true, true, true, false, false, false] rfl rfl (by kernel_rfl) (by decide) (fun K hK => ?_)
      refine Kd.R_append_step (P := Tryd.prog) (w0 := W4) (W := W4.drew) Kd.string (B + 4) (by rfl) _ _ 30 9 (.string ⟨#[]⟩) 16 (by rfl) Tryd.underlying30 info9 (by rfl) (by decide) (by decide) pv st.1 f1 [.string f1] (fun _ => True) (fun _ => False) (by rfl) (by rfl) hpM (fun _ h => h.elim) (fun _ _ => trivial) (Kd.R_drew HS.out.2.2.1) (below_drew (Below.refl _ _)) (by simp; omega) (by omega) ?_
      intro v1 w1 hR1 hbl1 hgrow hat
      obtain ⟨A1, c1, rfl⟩ := Kd.R_slice hR1
      have hw0 : w1.cell? ⟨M, 2, none⟩ = some pv := ((hgrow.cell_far _ (by simp; omega) hneM).trans cm2)
      have hwf : w1.frozen? ⟨M, 2, none⟩ = false := (hgrow.frozen_far _ (by simp; omega) hneM).trans (HS.out.2.2.2.2 2)
      have hwb : w1.cell? ⟨B, 0, none⟩ = some (.pointer (some ⟨M, 0, none⟩)) := ((hgrow.cell_far _ (by simp; omega) hneB).trans cb)
      refine hK.out _ _ ⟨hwb, hw0, ((hgrow.cell_far _ (by simp; omega) hne7).trans d1)⟩ (fun hHeld => ?_)
      clear hK K
      refine norm_ (a' := ?_) ?_ ?_
      rotate_left
      ·show Act.put _ (some 56) _ = _
       simp only [Act.put, List.setIfInBounds_toArray, List.set_cons_zero, List.set_cons_succ, i64_w, i32_w]
       rfl
      refine pure_ (i := 9) (N := some 57) (v := ?_) (a' := ?_) #[true, true, true, true, true, true, true, true, true, true, false, false] rfl rfl (by kernel_rfl) (fun _ _ _ h => h) (Or.inl ⟨by rfl, ?_⟩) ?_ ?_
      rotate_left
      ·intro w'
       go_simp
       with_reducible rfl
      rotate_left
      ·simp only [Act.put, List.setIfInBounds_toArray, List.set_cons_zero, List.set_cons_succ, i64_w, i32_w]
       rfl
      refine pure_ (i := 10) (N := some 58) (v := ?_) (a' := ?_) #[true, true, true, true, true, true, true, true, true, true, true, false] rfl rfl (by kernel_rfl) (fun _ _ _ h => h) (Or.inl ⟨by rfl, ?_⟩) ?_ ?_
      rotate_left
      ·intro w'
       go_simp
       with_reducible rfl
      rotate_left
      ·simp only [Act.put, List.setIfInBounds_toArray, List.set_cons_zero, List.set_cons_succ, i64_w, i32_w]
       rfl
      refine last_ (i := 11) (N := none) #[true, true, true, true, true, true, true, true, true, true, true, true] rfl rfl (by kernel_rfl) (by decide) (fun K hK => ?_)
      refine skip_ (w1 := ?_) (by rfl) rfl ?_ ?_
      rotate_left
      ·go_simp
       rfl
      refine hK.out _ _ ?_
      clear hK K
      refine done_ (by kernel_rfl) ?_
      refine HK2.out _ _ ?_
      rw [show st.1.length + 1 = (st.1 ++ [f1]).length by simp]
      have hst5 := HS.out.1.setpar hMB HS.out.2.1 HS.out.2.2.1 hR1 hgrow
      obtain ⟨hk5, ho5⟩ := HS.out.1.setpar_keep (v1 := .slice A1 (st.1 ++ [f1]).length c1) hMB HS.out.2.2.1 hgrow
      obtain ⟨W5, hW5⟩ : ∃ W5, w1.setCell ⟨M, 2, none⟩ (.slice A1 (st.1 ++ [f1]).length c1) = W5 := ⟨_, rfl⟩
      rw [hW5] at hst5 hk5 ho5 ⊢
      have cok := blk_cell hst5.ok 0
      have fok : W5.frozen? ⟨B + 2, 0, none⟩ = false := by simp [World.frozen?, hst5.ok]
      have hokl := blk_lt hst5.ok
      have HF := Lib.hid (And.intro hst5 (And.intro hk5 ho5))
      clear hst5 hk5 ho5 hW5 hw0 hwf hwb hat hgrow hbl1 hR1 hpM hneM hneB hne7 hB7l hBl hW4s cb cm2 cm3 fm3 fm2 d1 d0 hMl
      cases b2 with
      | true =>
       gi_wp2
       exact ⟨rfl, HH.out.2.2.trans ((HF.out.2.2.trans (KeepsOthers.setCell _ _ _)).from _), _, _, _, rfl, HH.out.1, .inr ⟨_, rnd_name hb1 hb2 hb3 hb4 hbb hb _, hb2, HF.out.1.setok hMB true⟩⟩
      | false =>
       gi_wp2
       refine ⟨HH.out.2.2.trans (HF.out.2.2.from _), HH.out.2.1.trans HF.out.2.1, _, went_next HH.out.1 hb2 (rnd_name hb1 hb2 hb3 hb4 hbb hb _), ?_⟩
       rw [List.length_append, List.length_singleton, Int.natCast_add, Int.mul_add]
       exact HF.out.1
    have HT4 := Lib.hid T4
    clear T4 hK4 hb1' hb1
    cases b2 <;> cases b3 <;> cases b4
    all_goals
     gi_wp2
     exact HT4.out _ _ _ _ _ _ _ _ _ _ _ _ rfl
   have HT3 := Lib.hid T3
   clear T3
   cases b1 with
   | false =>
    clear hK3
    gi_wp2
    exact HT3.out rfl _ _ _ _ _ _ _
   | true =>
    cases b2 with
    | false =>
     clear hK3
     gi_wp2
     exact HT3.out rfl _ _ _ _ _ _ _
    | true =>
     have HK3 := Lib.hid hK3
     clear hK3
     gi_wp2
     refine HK3.out _ _ ?_
     refine wpIn_cond_true rfl ?_
     gi_wp2
     refine HK2.out _ _ ?_
     have hst5 := HS.out.1.setmore hMB true
     obtain ⟨W5, hW5⟩ : ∃ W5, W4.setCell ⟨M, 3, none⟩ (.bool true) = W5 := ⟨_, rfl⟩
     have ho5 : KeepsOthers W4 W5 := by rw [← hW5]; exact KeepsOthers.setCell _ _ _
     rw [hW5] at hst5 ⊢
     have cok := blk_cell hst5.ok 0
     have fok : W5.frozen? ⟨B + 2, 0, none⟩ = false := by simp [World.frozen?, hst5.ok]
     have hokl := blk_lt hst5.ok
     have HF := Lib.hid (And.intro hst5 ho5)
     clear hst5 ho5 hW5 cb cm2 cm3 fm3 fm2 d1 d0 hMl
     gi_wp2
     exact ⟨rfl, HH.out.2.2.trans ((HF.out.2.trans (KeepsOthers.setCell _ _ _)).from _), _, _, _, rfl, HH.out.1, .inr ⟨_, rnd_dots hb1 hb2 _, hb2, HF.out.1.setok hMB true⟩⟩
  case done =>
   rintro D xs W hD rfl ⟨st, h1, h2⟩ hK
   have hpn : paramsP l = none := by
    have := parL_went (els l) [] 0 _ _ h1
    rw [List.append_nil, H3.out.2] at this
    rw [this]; rfl
   have cok := blk_cell h2.ok 0
   have HF := Lib.hid (And.intro hpn (And.intro h2 hK))
   clear hpn h2 hK
   gi_wp2
   show bodyPostM _ _ _ _ _ Exit.ret _ _
   refine ⟨by simp, .inl ⟨_, _, rfl, run_takeDeferred HF.out.2.2, ?_⟩⟩
   refine ⟨_, results_tmp rfl _ _ _, ?_⟩
   rw [ParPost, HF.out.1]
   refine ⟨rfl, PSt.below (HF.out.2.1.own hMB (Nat.le_refl _) (grownBy_putObj' W D _) (fun r e => by cases e; exact ⟨by omega, _, HF.out.2.2, rfl⟩))⟩
  case stop =>
   rintro D pre W hD ⟨r, hr⟩ ⟨pre', x, st, rfl, h1, h2⟩ hK
   rw [List.append_assoc, List.singleton_append] at hr
   rcases h2 with ⟨h3, st', h2⟩ | ⟨st', h3, h4, h2⟩
   ·have hpn : paramsP l = none := by rw [← H3.out.2, ← hr]; exact parL_left h1 h3
    have cok := blk_cell h2.ok 0
    have HF := Lib.hid (And.intro hpn (And.intro h2 hK))
    clear hpn h2 hK
    gi_wp2
    show bodyPostM _ _ _ _ _ Exit.ret _ _
    refine ⟨by simp, .inl ⟨_, _, rfl, run_takeDeferred HF.out.2.2, ?_⟩⟩
    refine ⟨_, results_tmp rfl _ _ _, ?_⟩
    rw [ParPost, HF.out.1]
    refine ⟨rfl, PSt.below (HF.out.2.1.own hMB (Nat.le_refl _) (grownBy_putObj' W D _) (fun r e => by cases e; exact ⟨by omega, _, HF.out.2.2, rfl⟩))⟩
   ·have hpn : paramsP l = some (2 * (pre'.length : Int) + 2, st') := by rw [← H3.out.2, ← hr]; exact parL_closed h1 h3 h4
    have cok := blk_cell h2.ok 0
    have cn := blk_cell h2.n 0
    have HF := Lib.hid (And.intro hpn (And.intro h2 hK))
    clear hpn h2 hK
    gi_wp2
    show bodyPostM _ _ _ _ _ Exit.ret _ _
    refine ⟨by simp, .inl ⟨_, _, rfl, run_takeDeferred HF.out.2.2, ?_⟩⟩
    refine ⟨_, results_tmp rfl _ _ _, ?_⟩
    have hown := HF.out.2.1.own hMB (Nat.le_refl _) (grownBy_putObj' W D (.deferred none)) (fun r e => by cases e; exact ⟨by omega, _, HF.out.2.2, rfl⟩)
    rw [ParPost, HF.out.1]
    obtain ⟨v, g1, g2⟩ := hown.m
    exact ⟨⟨rfl, v, g1, Kd.R_lower g2 (by omega)⟩, hown.below⟩
 clear hK
 by_cases hl0 : 0 < l.length
 ·have d1 : decide ((l.length : Int) > 0) = true := decide_eq_true (by omega)
  have d2 : (l.length : Int) > 0 := by omega
  obtain ⟨ad, had, a0, a1, a2, a3, a4, a5⟩ := at_T48 HB.out.1 0 (by omega) (by omega)
  subst had
  obtain ⟨x, hx⟩ : ∃ x, (rd_T48 l 0).f1 = x := ⟨_, rfl⟩
  rw [hx] at a1
  simp only [Int.toNat_zero, Nat.zero_mul, Addr.add, if_true] at a1
  clear a0 a2 a3 a4 a5
  cases hcl : isClose x with
  | true =>
   have hcx : (x.toList == [41]) = true := hcl
   have HT := Lib.hid T
   clear T
   have hpp : paramsP l = some (1, [], false) := by
    match l, hl0, hx with
    | t :: r, _, hx =>
     have e1 : t.f1 = x := hx
     rw [paramsP, e1, if_pos hcl]
   have HP := Lib.hid hpp
   clear hpp
   gi_wp2
   show bodyPostM _ _ _ _ _ Exit.ret _ _
   refine ⟨_, results_tmp rfl _ _ _, ?_⟩
   rw [ParPost, HP.out]
   exact ⟨⟨rfl, _, HB.out.2.1, Kd.R_nil _ _ _ _ _⟩, HB.out.2.2.2.1.mono (by omega)⟩
  | false =>
   have hcx : (x.toList == [41]) = false := hcl
   have hnc : ∀ t r, l = t :: r → isClose t.f1 = false := by
    rintro t r rfl
    rw [← hcl, ← hx]; rfl
   have HT := Lib.hid (T hnc)
   clear T
   gi_wp2
   exact HT.out _ _ _ _ _ _ _ _ _ _
 ·have d1 : decide ((l.length : Int) > 0) = false := decide_eq_false (by omega)
  have d2 : ¬ (l.length : Int) > 0 := by omega
  have hnc : ∀ t r, l = t :: r → isClose t.f1 = false := by
   rintro t r rfl
   exact absurd hl0 (by simp)
  have HT := Lib.hid (T hnc)
  clear T
  gi_wp2
  exact HT.out _ _ _ _ _ _ _ _ _ _
end Go.Proofs.YtcbfbefpbjmglaaDoor.Mac
namespace Go.Proofs.YtcbfbefpbjmglaaDoor.Mac
open Go.RowKit Go.Proofs.MapFun Go.Proofs.YtcbfbefpbjmglaaDoor.PA Go.Proofs.YtcbfbefpbjmglaaDoorT Go.Proofs.YtcbfbefpbjmglaaDoorW.PrintWords Go.Proofs.YtcbfbefpbjmglaaDoorW.PrintLast Go.Proofs.YtcbfbefpbjmglaaDoorW.PrintMore
set_option linter.unusedVariables false
set_option linter.unusedSimpArgs false
structure MacP where
 nm : ByteArray
 fn : Bool
 params : List ByteArray
 more : Bool
 body : List S48
def isOpen (s : ByteArray) : Bool := s.toList == [40]
def headP (l : List S48) : Option (Bool × List ByteArray × Bool × List S48) :=
 match l with
 | [] => some (false, [], false, [])
 | t :: r =>
  if t.f4 then some (false, [], false, t :: r)
  else if isOpen t.f1 then (paramsP r).bind fun x => some (true, x.2.1, x.2.2, r.drop x.1.toNat)
  else none
def parseP (l : List S48) : Option MacP :=
 match l with
 | [] => none
 | t :: r =>
  if t.f0 == 1 then (headP r).bind fun x =>
   if rightP t.f1 x.1 x.2.1 x.2.2.1 (bareP x.2.2.2) then some ⟨t.f1, x.1, x.2.1, x.2.2.1, bareP x.2.2.2⟩ else none
  else none
theorem rnd_size {x : S48 × ByteArray} {st st' : List ByteArray × Bool} (h : rnd x st = some st') : st'.1.length ≤ st.1.length + 1 ∧ ∀ p ∈ st'.1, p ∈ st.1 ∨ p = x.1.f1 := by
 unfold rnd at h
 split at h
 ·cases h; exact ⟨by simp, fun p hp => .inl hp⟩
 ·split at h
  ·cases h
   exact ⟨by simp, fun p hp => by simpa using hp⟩
  ·cases h
theorem rnd_z (e : ByteArray) (st : List ByteArray × Bool) (h : isClose e = false) : rnd (z48, e) st = none := by
 unfold rnd
 rw [if_neg (by rw [h, Bool.and_false]; decide), if_neg (by show ¬ (((0 : Int) == 1) && _) = true; simp)]
theorem parL_els : ∀ (l : List S48) (n k : Int) (st st' : List ByteArray × Bool), parL (els l) n st = some (k, st') →
  n + 2 ≤ k ∧ k ≤ n + l.length ∧ st'.1.length ≤ st.1.length + l.length ∧ ∀ p ∈ st'.1, p ∈ st.1 ∨ ∃ t ∈ l, p = t.f1
 | [], n, k, st, st', h => by
  rw [show els [] = [(z48, (⟨#[]⟩ : ByteArray))] from rfl, parL, rnd_z _ _ (by decide +kernel)] at h; cases h
 | [t], n, k, st, st', h => by
  rw [show els [t] = [(z48, (⟨#[]⟩ : ByteArray))] from rfl, parL, rnd_z _ _ (by decide +kernel)] at h; cases h
 | t :: e :: r, n, k, st, st', h => by
  rw [show els (t :: e :: r) = (t, e.f1) :: els r from rfl, parL] at h
  obtain ⟨s, h1, h2⟩ := Option.bind_eq_some_iff.1 h
  obtain ⟨g1, g2⟩ := rnd_size h1
  split at h2
  ·injection h2 with h2
   injection h2 with h3 h4
   subst h3 h4
   refine ⟨by omega, by simp only [List.length_cons]; omega, by simp only [List.length_cons]; omega, fun p hp => ?_⟩
   rcases g2 p hp with h | h
   ·exact .inl h
   ·exact .inr ⟨t, List.mem_cons_self, h⟩
  ·obtain ⟨i1, i2, i3, i4⟩ := parL_els r (n + 2) k s st' h2
   refine ⟨by omega, by simp only [List.length_cons]; omega, by simp only [List.length_cons]; omega, fun p hp => ?_⟩
   rcases i4 p hp with h | ⟨t', h, h'⟩
   ·rcases g2 p h with h | h
    ·exact .inl h
    ·exact .inr ⟨t, List.mem_cons_self, h⟩
   ·exact .inr ⟨t', List.mem_cons_of_mem _ (List.mem_cons_of_mem _ h), h'⟩
theorem paramsP_size {l : List S48} {k : Int} {st : List ByteArray × Bool} (h : paramsP l = some (k, st)) : 1 ≤ k ∧ k ≤ l.length ∧ st.1.length ≤ l.length ∧ ∀ p ∈ st.1, ∃ t ∈ l, p = t.f1 := by
 have key : parL (els l) 0 ([], false) = some (k, st) → 1 ≤ k ∧ k ≤ l.length ∧ st.1.length ≤ l.length ∧ ∀ p ∈ st.1, ∃ t ∈ l, p = t.f1 := fun h => by
  obtain ⟨h1, h2, h3, h4⟩ := parL_els l _ _ _ _ h
  exact ⟨by omega, by omega, by simpa using h3, fun p hp => (h4 p hp).resolve_left (by simp)⟩
 match l with
 | [] => exact key h
 | t :: r =>
  rw [paramsP] at h
  split at h
  ·cases h
   exact ⟨by omega, by simp only [List.length_cons]; omega, by simp, by simp⟩
  ·exact key h
theorem bareFrom_mem : ∀ i l, ∀ t ∈ bareFrom i l, ∃ t' ∈ l, t.f1 = t'.f1
 | _, [], t, h => by cases h
 | i, a :: r, t, h => by
  rw [bareFrom] at h
  rcases List.mem_cons.1 h with h | h
  ·exact ⟨a, List.mem_cons_self, by rw [h]; rfl⟩
  ·obtain ⟨t', h1, h2⟩ := bareFrom_mem (i + 1) r t h
   exact ⟨t', List.mem_cons_of_mem _ h1, h2⟩
end Go.Proofs.YtcbfbefpbjmglaaDoor.Mac
