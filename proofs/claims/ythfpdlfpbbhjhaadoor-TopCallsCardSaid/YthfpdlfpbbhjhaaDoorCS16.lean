import Derived.Test.YthfpdlfpbbhjhaaDoorCS12
import Derived.Test.YthfpdlfpbbhjhaaDoorMR3
namespace Go.Proofs.YthfpdlfpbbhjhaaDoor.Mc
open Go.RowKit Go.Proofs.YthfpdlfpbbhjhaaDoor.PA Go.Proofs.YthfpdlfpbbhjhaaDoor.Pure Go.Proofs.MapFun Go.Proofs.YthfpdlfpbbhjhaaDoorW.PrintWords Go.Proofs.YthfpdlfpbbhjhaaDoorW.PrintLast Go.Proofs.YthfpdlfpbbhjhaaDoorW.PrintMore
set_option linter.unusedVariables false
set_option linter.unusedSimpArgs false
theorem locs_len : ∀ n, (locs n).length = n * 4
  | 0 => rfl
  | n + 1 => by rw [locs, List.length_append, locs_len n, show (locOf n).length = 4 from rfl]; omega
theorem locs_get : ∀ (n i j : Nat), i < n → j < 4 → (locs n)[i * 4 + j]? = (locOf i)[j]?
  | 0, _, _, h, _ => absurd h (Nat.not_lt_zero _)
  | n + 1, i, j, h, hj => by
    rw [locs]
    by_cases hi : i < n
    · rw [List.getElem?_append_left (by rw [locs_len]; omega)]; exact locs_get n i j hi hj
    · obtain rfl : i = n := by omega
      rw [List.getElem?_append_right (by rw [locs_len]; omega), locs_len, Nat.add_sub_cancel_left]
theorem ints_C (b : Nat) (xs : List Int) (w : World) (hl : xs.length ≤ maxLen) (h : ∀ j p, xs[j]? = some p → w.cell? ⟨b, j, none⟩ = some (.int .i64 p)) : Kd.C (Kd.int .i64) w (some ⟨b, 0, none⟩) xs.length xs := by
  refine ⟨rfl, hl, fun _ => ⟨_, rfl, fun j p hj => ⟨[.int .i64 p], rfl, rfl, fun i u hu => ?_⟩⟩⟩
  have hi : i = 0 := by have := (List.getElem?_eq_some_iff.1 hu).1; simp at this; exact this
  subst hi
  have hu' : Value.int .i64 p = u := by simpa using hu
  subst hu'
  have := h j p hj
  have hadd : ∀ m, (⟨b, 0, none⟩ : Addr).add m = ⟨b, m, none⟩ := fun m => by unfold Addr.add; split <;> simp_all
  rw [hadd]
  simpa [Kd.int, Kd.scalar] using this
theorem C_keep {α : Type} {d : Kd α} {W X : World} {b n : Nat} {xs : List α} (hK : ∀ p c, d.K W p c → d.K X p c) (h : Kd.C d W (some ⟨b, 0, none⟩) n xs) (hc : ∀ j v, W.cell? ⟨b, j, none⟩ = some v → X.cell? ⟨b, j, none⟩ = some v) : Kd.C d X (some ⟨b, 0, none⟩) n xs := by
  refine ⟨h.1, h.2.1, fun hn => ?_⟩
  obtain ⟨ad, ha, hr⟩ := h.2.2 hn
  refine ⟨ad, ha, fun j p hj => ?_⟩
  obtain ⟨c, h1, h2, h3⟩ := hr j p hj
  refine ⟨c, h1, hK p c h2, fun i u hu => ?_⟩
  obtain rfl := Option.some.inj ha
  have hadd : ∀ m, (⟨b, 0, none⟩ : Addr).add m = ⟨b, m, none⟩ := fun m => by unfold Addr.add; split <;> simp_all
  have := h3 i u hu
  rw [hadd] at this ⊢
  exact hc _ _ this
theorem fz_blk {w : World} {b i : Nat} {cs : Array Value} {t : TypeId} (h : w.heap[b]? = some (.cells cs t (0, 0))) : w.frozen? ⟨b, i, none⟩ = false := by simp [World.frozen?, h]
theorem inf3' : ∃ i, Tryd.prog.info? 3 = some i ∧ i.zero = some (.int .i64 0) ∧ i.size = 1 ∧ i.bytes = 8 := inf_of (by kernel_rfl)
def gs : Array Value := #[.int .i64 7, .int .i64 6, .int .i64 2, .int .i64 1, .int .i64 8, .int .i64 9]
def TakenPost (w : World) (n i : Nat) (e : Ending) (w' : World) : Prop := ∃ b Aa ca, e = .returned (.tuple #[.slice (some ⟨b, 0, none⟩) 3 3, .agg #[.string ⟨#[102]⟩, .int .i64 7, .slice (some ⟨Aa, 0, none⟩) n ca, .bool false, .int .i64 0, .slice none 0 0], .bool true]) ∧ n ≤ ca ∧
  Kd.C k50 w' (some ⟨b, 0, none⟩) 3 (lT i) ∧ Kd.C (Kd.int .i64) w' (some ⟨Aa, 0, none⟩) n (List.replicate n 7) ∧ Below w.heap.size w w'
structure TSt (w Wp W : World) (C k : Nat) : Prop where
  b : Below Wp.heap.size Wp W
  bw : Below w.heap.size w W
  c : ∃ v, W.heap[C]? = some (.cells #[.string ⟨#[102]⟩, .int .i64 7, v, .bool false, .int .i64 0, .slice none 0 0] 28 (0, 0)) ∧ W.ownsRow Wp.heap.size 3 1 v k (List.replicate k (.int .i64 7))
theorem longs_1 (w : World) : Calls Tryd.prog 8 #[.int .i64 1] w (LongsPost w 1) := longs_c 1 (by decide) w
set_option maxRecDepth 100000 in
set_option maxHeartbeats 400000 in
theorem taken_c (n i : Nat) (hn : n ≤ 8) (hi : i < n) (w : World) : Calls Tryd.prog 5 #[.int .i64 n, .int .i64 i] w (TakenPost w n i) := by
  obtain ⟨W0, hW0⟩ : ∃ W0, w.alloc (.cells #[.string ⟨#[]⟩, .int .i64 0, .slice none 0 0, .bool false, .int .i64 0, .slice none 0 0] 28) = W0 := ⟨_, rfl⟩
  have hb0 : Below w.heap.size w W0 := by rw [← hW0]; exact below_alloc (Below.refl _ _) _
  have hs0 : W0.heap.size = w.heap.size + 1 := by rw [← hW0]; simp
  have hz0 : W0.heap[w.heap.size]? = some (.cells #[.string ⟨#[]⟩, .int .i64 0, .slice none 0 0, .bool false, .int .i64 0, .slice none 0 0] 28 (0, 0)) := by rw [← hW0]; exact blk_new w _
  have HZ := Lib.hid (And.intro hb0 (And.intro hs0 hz0))
  clear hb0 hs0 hz0
  have ST := trivial
  go_enter Tryd.func5, Tryd.ntmps5
  go_wp2_with (first
    | (go_at_call 8; have g_ := ST; clear g_ ST; refine (longs_c n hn _).mono ?_; rintro e w1 ⟨v1, rfl, ho1, hb1⟩; obtain ⟨g1, cap1, rfl, hc1, hg1⟩ := row_form ho1 (by omega); have H1 := Lib.hid (And.intro ho1 hb1); clear ho1 hb1 hg1)
    | (go_at_call 8; refine (longs_1 _).mono ?_; rintro e w2 ⟨v2, rfl, ho2, hb2⟩; obtain ⟨g2, cap2, rfl, hc2, hg2⟩ := row_form ho2 (by omega); have hq := (LongsAt.of_owns ho2) 0 (by decide); obtain ⟨a0, a1, a2, a3, a4, a5, a6⟩ := hq; have hA2 := LongsAt.of_owns (row_below H1.out.1 hb2); have H2 := Lib.hid (And.intro hA2 hb2); clear hA2 hb2 ho2 hg2)
    | (go_at_call 7; refine (pass_c g1 n cap1 hn (by omega) hc1 _ H2.out.1).mono ?_; rintro e w3 ⟨v3, o3, rfl, ho3, hb3⟩; obtain ⟨g3, cap3, rfl, hc3, hg3⟩ := row_form ho3 (by omega); have H3 := Lib.hid (And.intro ho3 (And.intro hb3 hg3)); clear a0 a1 a2 a3 a4 a5 a6 ho3 hb3 hg3))
  obtain ⟨C, hC⟩ : ∃ C, w3.heap.size = C := ⟨_, rfl⟩
  obtain ⟨W4, hW4⟩ : ∃ W4, w3.alloc (.cells #[.string ⟨#[102]⟩, .int .i64 7, .slice none 0 0, .bool false, .int .i64 0, .slice none 0 0] 28) = W4 := ⟨_, rfl⟩
  have sz : w.heap.size ≤ w3.heap.size := by
    have := HZ.out.2.1; have := H1.out.2.size; have := H2.out.2.size; have := H3.out.2.1.size; omega
  have hbw3 : Below w.heap.size w w3 := by
    have e1 := HZ.out.2.1
    have e2 := H1.out.2.size
    have e3 := H2.out.2.size
    exact HZ.out.1.trans ((H1.out.2.mono (by omega)).trans ((H2.out.2.mono (by omega)).trans (H3.out.2.1.mono (by omega))))
  have hT : TSt w w3 W4 C 0 := by
    have hb4 : Below w3.heap.size w3 W4 := by rw [← hW4]; exact below_alloc (Below.refl _ _) _
    exact ⟨hb4, hbw3.trans (hb4.mono sz), ⟨.slice none 0 0, by rw [← hW4, ← hC]; exact blk_new w3 _, World.ownsRow_nil _ _ _ _⟩⟩
  rw [hC, hW4]
  have HB := Lib.hid (And.intro hbw3 (And.intro sz hC))
  have hg3l : g3 < w3.heap.size := World.block_lt_of_cell? w3 ⟨g3, 0, none⟩ ((H3.out.1.cellAt 0 (by omega)).trans ((locs_get n 0 0 (by omega) (by decide)).trans rfl))
  have hz3 : W0.heap[w.heap.size]? = some (.cells #[.string ⟨#[]⟩, .int .i64 0, .slice none 0 0, .bool false, .int .i64 0, .slice none 0 0] 28 (0, 0)) := HZ.out.2.2
  have HH := Lib.hid (And.intro hg3l (((H1.out.2.block _ (blk_lt hz3)).trans hz3 : w1.heap[w.heap.size]? = _)))
  clear hW4 hC sz hbw3 hg3l hz3
  have HE := Lib.hid H1.out.2
  clear hW0
  go_loopw [11] (fun j W => ∃ k : Nat, k ≤ n ∧ j = .int .i64 k ∧ TSt w w3 W C k) (fun j _ => n - (intOf j).toNat)
  case atStart => exact ⟨0, Nat.zero_le _, rfl, hT⟩
  case round =>
    clear hT
    obtain ⟨k, hk, rfl, hT⟩ := hrel
    obtain ⟨i0, hi0, hz0, hz1, hz2⟩ := inf3'
    have HI := Lib.hid (And.intro hi0 (And.intro hz0 (And.intro hz1 hz2)))
    clear hi0 hz0 hz1 hz2
    by_cases hlt : k < n
    · obtain ⟨hTb, hTw, v, hv1, hv2⟩ := hT
      have c0 : wr.cell? ⟨C, 2, none⟩ = some v := blk_cell hv1 2
      have hCl := blk_lt hv1
      have q1 : ∀ u ∈ ([.int .i64 7] : List Value), u.oneCell' = true := by simp [Value.oneCell']
      have q2 : k + 1 ≤ maxLen := by unfold maxLen; omega
      have q3 : (k + 1) * 8 ≤ 140737488355328 := by omega
      have q4 : w3.heap.size ≤ (wr.alloc (.cells #[.int .i64 7] 3)).heap.size := by have := hTb.size; simp; omega
      have q5 : C < (wr.alloc (.cells #[.int .i64 7] 3)).heap.size := by simp; omega
      have q6 := row_ne hv1 (by decide) hv2
      have q7 := blk_al hv1 (.cells #[.int .i64 7] 3)
      have q8 : 1 ≤ k + 1 := by omega
      have Q := Lib.hid (And.intro q1 (And.intro q2 (And.intro q3 q4)))
      have Q5 := Lib.hid (And.intro q5 (And.intro q6 (And.intro q7 q8)))
      have HT := Lib.hid (And.intro hTb (And.intro hTw (And.intro hv1 hv2)))
      clear q1 q2 q3 q4 q5 q6 q7 q8 hTb hTw hv1 hv2
      go_wp2_with (at_builtin; (refine wpList_append_own _ rfl _ _ 25 rfl w3.heap.size 3 i0 (.int .i64 0) 1 8 Tryd.underlying25 HI.out.1 HI.out.2.1 HI.out.2.2.1 HI.out.2.2.2 rfl (by decide) _ _ _ rfl (HT.out.2.2.2.alloc _) ⟨wr.heap.size, 0, none⟩ 1 1 [.int .i64 7] rfl rfl (World.news_of_block (cs := #[.int .i64 7]) (t := 3) (fr := (0, 0)) (heap_alloc_new wr _)) Q.out.1 Q.out.2.1 Q.out.2.2.1 Q.out.2.2.2 ?_; intro v' w5 hown' hgrow _; obtain ⟨gg, cp, rfl, _, hgb⟩ := row_form hown' Q5.out.2.2.2; have hX := (hgrow.block C Q5.out.1 (Ne.symm Q5.out.2.1)).trans Q5.out.2.2.1; have c2 : w5.cell? ⟨C, 2, none⟩ = some v := blk_cell hX 2; have f2 : w5.frozen? ⟨C, 2, none⟩ = false := fz_blk hX; have HN := Lib.hid (And.intro hown' (And.intro hgrow hX)); clear hown' hgrow hX hgb))
      go_roundw
      case rel =>
        refine ⟨k + 1, by omega, by go_num, ?_⟩
        have hal : Below w3.heap.size wr (wr.alloc (.cells #[.int .i64 7] 3)) := (Below.refl _ wr).alloc HT.out.1.size _
        have hgr : Below w3.heap.size (wr.alloc (.cells #[.int .i64 7] 3)) w5 := (Below.refl w3.heap.size _).grown HN.out.2.1 Q.out.2.2.2 (fun r e => (row_cells HT.out.2.2.2 r e).1)
        have hst : Below w3.heap.size w5 (w5.setCell ⟨C, 2, none⟩ (.slice (some ⟨gg, 0, none⟩) (k + 1) cp)) := (Below.refl _ w5).setCell (p := ⟨C, 2, none⟩) (by rw [← HB.out.2.2]; exact Nat.le_refl _) _
        refine ⟨HT.out.1.trans (hal.trans (hgr.trans hst)), HT.out.2.1.trans ((hal.trans (hgr.trans hst)).mono HB.out.2.1), _, blk_put HN.out.2.2 2 _ rfl, ?_⟩
        have := HN.out.1.kept (Lib.grownBy_setCell w5 C 2 (.slice (some ⟨gg, 0, none⟩) (k + 1) cp)) (.inr (row_ne HN.out.2.2 (by decide) HN.out.1))
        rw [List.replicate_succ']
        exact this
      case measure => simp [intOf]; omega
    · obtain rfl : k = n := by omega
      obtain ⟨hTb, hTw, v, hv1, hv2⟩ := hT
      obtain ⟨ga, ca, rfl, hca, hga⟩ := row_form hv2 (by omega)
      have l2 : w3.cell? ⟨g3, i * 4 + 2, none⟩ = some (.int .i64 (if i < 6 then (i : Int) else -1)) := (H3.out.1.cellAt (i * 4 + 2) (by omega)).trans (locs_get k i 2 hi (by decide))
      have l3 : w3.cell? ⟨g3, i * 4 + 3, none⟩ = some (.int .i64 (offAt i)) := (H3.out.1.cellAt (i * 4 + 3) (by omega)).trans (locs_get k i 3 hi (by decide))
      have m2 := (hTb.cell (p := ⟨g3, i * 4 + 2, none⟩) HH.out.1).trans l2
      have m3 := (hTb.cell (p := ⟨g3, i * 4 + 3, none⟩) HH.out.1).trans l3
      have hgl : g3 < wr.heap.size := Nat.lt_of_lt_of_le HH.out.1 hTb.size
      have hwl : w.heap.size < wr.heap.size := Nat.lt_of_lt_of_le (Nat.lt_of_lt_of_le (blk_lt HH.out.2) (Nat.le_trans H2.out.2.size H3.out.2.1.size)) hTb.size
      have hCl := blk_lt hv1
      have HT := Lib.hid (And.intro hTb (And.intro hTw (And.intro hv1 (And.intro hv2 (And.intro hca hga)))))
      clear l2 l3 hTb hTw hv1 hv2 hga hca
      by_cases h6 : i < 6
      · rw [if_pos h6] at m2
        have e0 : offAt i = 0 := by unfold offAt; rw [if_pos h6]
        rw [e0] at m3
        have G := Lib.hid (show gs[i]? = some (.int .i64 (givenN i)) by
          rcases (show i = 0 ∨ i = 1 ∨ i = 2 ∨ i = 3 ∨ i = 4 ∨ i = 5 by omega) with rfl | rfl | rfl | rfl | rfl | rfl <;> rfl)
        have y := (blk_cell (blk_new wr (.cells #[.int .i64 7, .int .i64 6, .int .i64 2, .int .i64 1, .int .i64 8, .int .i64 9] 46)) i).trans G.out
        have HL := Lib.hid e0
        have hb5 : Below wr.heap.size wr (wr.alloc (.cells #[.int .i64 7, .int .i64 6, .int .i64 2, .int .i64 1, .int .i64 8, .int .i64 9] 46)) := below_alloc (Below.refl _ _) _
        have m2' := (hb5.cell (p := ⟨g3, i * 4 + 2, none⟩) hgl).trans m2
        have m3' := (hb5.cell (p := ⟨g3, i * 4 + 3, none⟩) hgl).trans m3
        obtain ⟨W5, hW5⟩ : ∃ W5, wr.alloc (.cells #[.int .i64 7, .int .i64 6, .int .i64 2, .int .i64 1, .int .i64 8, .int .i64 9] 46) = W5 := ⟨_, rfl⟩
        obtain ⟨R, hR⟩ : ∃ R, wr.heap.size = R := ⟨_, rfl⟩
        have hs5 : W5.heap.size = R + 1 := by rw [← hW5, ← hR]; simp
        rw [hW5] at y m2' m3' hb5
        rw [hR] at y hgl hwl hCl
        have HG := Lib.hid (And.intro hb5 (And.intro hs5 hR))
        have hgl5 : g3 < W5.heap.size := by omega
        have hR5 : R < W5.heap.size := by omega
        clear e0 hb5 m2 m3
        go_upto_region 10 with (fail)
        clear hW5 hR
        go_wp2
        have HM := Lib.hid (And.intro HG.out.1 HG.out.2.1)
        obtain ⟨W6, hW6⟩ : ∃ W6, W5.alloc (.cells #[.int .i64 2, .int .i64 0, .int .i64 (givenN i), .int .i64 0, .int .i64 0, .bool false, .int .i64 0, .string ⟨#[]⟩] 50) = W6 := ⟨_, rfl⟩
        have hb6 : Below W5.heap.size W5 W6 := by rw [← hW6]; exact below_alloc (Below.refl _ _) _
        have hx6 : W6.heap[W5.heap.size]? = some (.cells #[.int .i64 2, .int .i64 0, .int .i64 (givenN i), .int .i64 0, .int .i64 0, .bool false, .int .i64 0, .string ⟨#[]⟩] 50 (0, 0)) := by rw [← hW6]; exact blk_new W5 _
        rw [HG.out.2.1] at hx6
        have hy6 := (hb6.block C (Nat.lt_of_lt_of_le (by omega) (Nat.le_refl _))).trans ((HG.out.1.block C (by rw [HG.out.2.2]; exact hCl)).trans HT.out.2.2.1)
        have hz6 : W6.heap[w.heap.size]? = some (.cells #[.string ⟨#[]⟩, .int .i64 0, .slice none 0 0, .bool false, .int .i64 0, .slice none 0 0] 28 (0, 0)) :=
          (hb6.block _ (by omega)).trans ((HG.out.1.block _ (by rw [HG.out.2.2]; exact hwl)).trans ((HT.out.1.block _ (Nat.lt_of_lt_of_le (blk_lt HH.out.2) (Nat.le_trans H2.out.2.size H3.out.2.1.size))).trans ((H3.out.2.1.block _ (Nat.lt_of_lt_of_le (blk_lt HH.out.2) H2.out.2.size)).trans ((H2.out.2.block _ (blk_lt HH.out.2)).trans HH.out.2))))
        have p0 : W6.cell? ⟨R + 1, 0, none⟩ = some (.int .i64 2) := blk_cell hx6 0
        have p1 : W6.cell? ⟨R + 1, 1, none⟩ = some (.int .i64 0) := blk_cell hx6 1
        have p2 : W6.cell? ⟨R + 1, 2, none⟩ = some (.int .i64 (givenN i)) := blk_cell hx6 2
        have p3 : W6.cell? ⟨R + 1, 3, none⟩ = some (.int .i64 0) := blk_cell hx6 3
        have p4 : W6.cell? ⟨R + 1, 4, none⟩ = some (.int .i64 0) := blk_cell hx6 4
        have p5 : W6.cell? ⟨R + 1, 5, none⟩ = some (.bool false) := blk_cell hx6 5
        have p6 : W6.cell? ⟨R + 1, 6, none⟩ = some (.int .i64 0) := blk_cell hx6 6
        have p7 : W6.cell? ⟨R + 1, 7, none⟩ = some (.string ⟨#[]⟩) := blk_cell hx6 7
        have q0 : W6.cell? ⟨C, 0, none⟩ = some (.string ⟨#[102]⟩) := blk_cell hy6 0
        have q1 : W6.cell? ⟨C, 1, none⟩ = some (.int .i64 7) := blk_cell hy6 1
        have q2 : W6.cell? ⟨C, 2, none⟩ = some (.slice (some ⟨ga, 0, none⟩) k ca) := blk_cell hy6 2
        have q3 : W6.cell? ⟨C, 3, none⟩ = some (.bool false) := blk_cell hy6 3
        have q4 : W6.cell? ⟨C, 4, none⟩ = some (.int .i64 0) := blk_cell hy6 4
        have q5 : W6.cell? ⟨C, 5, none⟩ = some (.slice none 0 0) := blk_cell hy6 5
        rw [hW6]
        refine start_ (n := 8) (S := fun w' => w'.cell? ⟨R + 1, 0, none⟩ = some (.int .i64 2) ∧ w'.cell? ⟨R + 1, 1, none⟩ = some (.int .i64 0) ∧ w'.cell? ⟨R + 1, 2, none⟩ = some (.int .i64 (givenN i)) ∧ w'.cell? ⟨R + 1, 3, none⟩ = some (.int .i64 0) ∧ w'.cell? ⟨R + 1, 4, none⟩ = some (.int .i64 0) ∧ w'.cell? ⟨R + 1, 5, none⟩ = some (.bool false) ∧ w'.cell? ⟨R + 1, 6, none⟩ = some (.int .i64 0) ∧ w'.cell? ⟨R + 1, 7, none⟩ = some (.string ⟨#[]⟩) ∧ w'.cell? ⟨C, 0, none⟩ = some (.string ⟨#[102]⟩) ∧ w'.cell? ⟨C, 1, none⟩ = some (.int .i64 7) ∧ w'.cell? ⟨C, 2, none⟩ = some (.slice (some ⟨ga, 0, none⟩) k ca) ∧ w'.cell? ⟨C, 3, none⟩ = some (.bool false) ∧ w'.cell? ⟨C, 4, none⟩ = some (.int .i64 0) ∧ w'.cell? ⟨C, 5, none⟩ = some (.slice none 0 0)) (ds := [6]) #[false, false, false, false, false, false, false, false] (by kernel_rfl) rfl rfl ⟨p0, p1, p2, p3, p4, p5, p6, p7, q0, q1, q2, q3, q4, q5⟩ (fun hHeld => ?_)
        refine pure_ (i := 0) (N := some 79) (v := ?_) (a' := ?_) #[true, false, false, false, false, false, false, false] rfl rfl (by kernel_rfl) (fun _ _ _ h => h) (Or.inl ⟨by rfl, ?_⟩) ?_ ?_
        rotate_left
        · intro w'
          go_simp
          with_reducible rfl
        rotate_left
        · simp only [Act.put, List.setIfInBounds_toArray, List.set_cons_zero, List.set_cons_succ, i64_w, i32_w]
          rfl
        refine pure_ (i := 2) (N := some 81) (v := ?_) (a' := ?_) #[true, false, true, false, false, false, false, false] rfl rfl (by kernel_rfl) (fun _ _ _ h => h) (Or.inl ⟨by rfl, ?_⟩) ?_ ?_
        rotate_left
        · intro w'
          go_simp
          with_reducible rfl
        rotate_left
        · simp only [Act.put, List.setIfInBounds_toArray, List.set_cons_zero, List.set_cons_succ, i64_w, i32_w]
          rfl
        refine take_ (i := 1) (N := some 80) (v := ?_) (a' := ?_) #[true, true, true, false, false, false, false, false] rfl rfl (by kernel_rfl) (fun _ _ _ h => h) (Or.inl ⟨by rfl, ?_⟩) hHeld ?_ ?_
        rotate_left
        · rintro w' ⟨s0, s1, s2, s3, s4, s5, s6, s7, s8, s9, s10, s11, s12, s13⟩
          go_simp
          with_reducible rfl
        rotate_left
        · simp only [Act.put, List.setIfInBounds_toArray, List.set_cons_zero, List.set_cons_succ, i64_w, i32_w]
          rfl
        refine take_ (i := 4) (N := some 83) (v := ?_) (a' := ?_) #[true, true, true, false, true, false, false, false] rfl rfl (by kernel_rfl) (fun _ _ _ h => h) (Or.inl ⟨by rfl, ?_⟩) hHeld ?_ ?_
        rotate_left
        · rintro w' ⟨s0, s1, s2, s3, s4, s5, s6, s7, s8, s9, s10, s11, s12, s13⟩
          go_simp
          with_reducible rfl
        rotate_left
        · simp only [Act.put, List.setIfInBounds_toArray, List.set_cons_zero, List.set_cons_succ, i64_w, i32_w]
          rfl
        refine one_ (i := 3) (N := some 82) #[true, true, true, true, true, false, false, false] rfl rfl (by kernel_rfl) (by decide) (fun K hK => ?_)
        refine value_ (w1 := ?_) (v := ?_) (by rfl) rfl ?_ ?_
        rotate_left 2
        · go_simp
          constructor
          · rfl
          · rfl
        obtain ⟨W7, hW7⟩ : ∃ W7, W6.alloc (.cells #[.int .i64 15, .int .i64 0, .int .i64 0, .int .i64 0, .int .i64 0, .bool false, .int .i64 0, .string ⟨#[102]⟩, .int .i64 2, .int .i64 0, .int .i64 (givenN i), .int .i64 0, .int .i64 0, .bool false, .int .i64 0, .string ⟨#[]⟩, .int .i64 17, .int .i64 0, .int .i64 0, .int .i64 0, .int .i64 0, .bool false, .int .i64 0, .string ⟨#[]⟩] 50) = W7 := ⟨_, rfl⟩
        have t7 := (blk_al hz6 (.cells #[.int .i64 15, .int .i64 0, .int .i64 0, .int .i64 0, .int .i64 0, .bool false, .int .i64 0, .string ⟨#[102]⟩, .int .i64 2, .int .i64 0, .int .i64 (givenN i), .int .i64 0, .int .i64 0, .bool false, .int .i64 0, .string ⟨#[]⟩, .int .i64 17, .int .i64 0, .int .i64 0, .int .i64 0, .int .i64 0, .bool false, .int .i64 0, .string ⟨#[]⟩] 50))
        rw [hW7] at t7
        have z0 : W7.cell? ⟨w.heap.size, 0, none⟩ = some (.string ⟨#[]⟩) := blk_cell t7 0
        have z1 : W7.cell? ⟨w.heap.size, 1, none⟩ = some (.int .i64 0) := blk_cell t7 1
        have z2 : W7.cell? ⟨w.heap.size, 2, none⟩ = some (.slice none 0 0) := blk_cell t7 2
        have z3 : W7.cell? ⟨w.heap.size, 3, none⟩ = some (.bool false) := blk_cell t7 3
        have z4 : W7.cell? ⟨w.heap.size, 4, none⟩ = some (.int .i64 0) := blk_cell t7 4
        have z5 : W7.cell? ⟨w.heap.size, 5, none⟩ = some (.slice none 0 0) := blk_cell t7 5
        have f0 : W7.frozen? ⟨w.heap.size, 0, none⟩ = false := fz_blk t7
        have f1 : W7.frozen? ⟨w.heap.size, 1, none⟩ = false := fz_blk t7
        have f2 : W7.frozen? ⟨w.heap.size, 2, none⟩ = false := fz_blk t7
        have f3 : W7.frozen? ⟨w.heap.size, 3, none⟩ = false := fz_blk t7
        have f4 : W7.frozen? ⟨w.heap.size, 4, none⟩ = false := fz_blk t7
        have f5 : W7.frozen? ⟨w.heap.size, 5, none⟩ = false := fz_blk t7
        refine hK.out _ _ ⟨(cell_al p0 _), (cell_al p1 _), (cell_al p2 _), (cell_al p3 _), (cell_al p4 _), (cell_al p5 _), (cell_al p6 _), (cell_al p7 _), (cell_al q0 _), (cell_al q1 _), (cell_al q2 _), (cell_al q3 _), (cell_al q4 _), (cell_al q5 _)⟩ (fun hHeld => ?_)
        clear hK K
        refine norm_ (a' := ?_) ?_ ?_
        rotate_left
        · show Act.put _ (some 82) _ = _
          simp only [Act.put, List.setIfInBounds_toArray, List.set_cons_zero, List.set_cons_succ, i64_w, i32_w]
          rfl
        refine pure_ (i := 5) (N := some 4) (v := ?_) (a' := ?_) #[true, true, true, true, true, true, false, false] rfl rfl (by kernel_rfl) (fun _ _ _ h => h) (Or.inl ⟨by rfl, ?_⟩) ?_ ?_
        rotate_left
        · intro w'
          go_simp
          with_reducible rfl
        rotate_left
        · simp only [Act.put, List.setIfInBounds_toArray, List.set_cons_zero, List.set_cons_succ, i64_w, i32_w]
          rfl
        refine last_ (i := 6) (N := none) #[true, true, true, true, true, true, true, false] rfl rfl (by kernel_rfl) (by decide) (fun K hK => ?_)
        refine skip_ (w1 := ?_) (by rfl) rfl ?_ ?_
        rotate_left
        · go_simp
          rfl
        refine hK.out _ _ ?_
        clear hK K
        refine pure_ (i := 7) (N := some 6) (v := ?_) (a' := ?_) #[true, true, true, true, true, true, true, true] rfl rfl (by kernel_rfl) (fun _ _ _ h => h) (Or.inl ⟨by rfl, ?_⟩) ?_ ?_
        rotate_left
        · intro w'
          go_simp
          with_reducible rfl
        rotate_left
        · simp only [Act.put, List.setIfInBounds_toArray, List.set_cons_zero, List.set_cons_succ, i64_w, i32_w]
          rfl
        refine done_ (by kernel_rfl) ?_

        clear p0 p1 p2 p3 p4 p5 p6 p7 q0 q1 q2 q3 q4 q5 z0 z1 z2 z3 z4 z5 f0 f1 f2 f3 f4 f5
        have u0 := blk_put (blk_put (blk_put (blk_put (blk_put (blk_put t7 0 (.string ⟨#[102]⟩) rfl) 1 (.int .i64 7) rfl) 2 (.slice (some ⟨ga, 0, none⟩) k ca) rfl) 3 (.bool false) rfl) 4 (.int .i64 0) rfl) 5 (.slice none 0 0) rfl
        have hfar : ∀ (b j : Nat) (v : Value), b ≠ w.heap.size → W7.cell? ⟨b, j, none⟩ = some v → ((((((W7.setCell ⟨w.heap.size, 0, none⟩ (.string ⟨#[102]⟩)).setCell ⟨w.heap.size, 1, none⟩ (.int .i64 7)).setCell ⟨w.heap.size, 2, none⟩ (.slice (some ⟨ga, 0, none⟩) k ca)).setCell ⟨w.heap.size, 3, none⟩ (.bool false)).setCell ⟨w.heap.size, 4, none⟩ (.int .i64 0)).setCell ⟨w.heap.size, 5, none⟩ (.slice none 0 0)).cell? ⟨b, j, none⟩ = some v :=
          fun b j v hb h => cell_far (cell_far (cell_far (cell_far (cell_far (cell_far h hb) hb) hb) hb) hb) hb
        have hbX : Below w.heap.size W7 ((((((W7.setCell ⟨w.heap.size, 0, none⟩ (.string ⟨#[102]⟩)).setCell ⟨w.heap.size, 1, none⟩ (.int .i64 7)).setCell ⟨w.heap.size, 2, none⟩ (.slice (some ⟨ga, 0, none⟩) k ca)).setCell ⟨w.heap.size, 3, none⟩ (.bool false)).setCell ⟨w.heap.size, 4, none⟩ (.int .i64 0)).setCell ⟨w.heap.size, 5, none⟩ (.slice none 0 0)) :=
          ((((((Below.refl w.heap.size W7).setCell (p := ⟨w.heap.size, 0, none⟩) (Nat.le_refl _) _).setCell (p := ⟨w.heap.size, 1, none⟩) (Nat.le_refl _) _).setCell (p := ⟨w.heap.size, 2, none⟩) (Nat.le_refl _) _).setCell (p := ⟨w.heap.size, 3, none⟩) (Nat.le_refl _) _).setCell (p := ⟨w.heap.size, 4, none⟩) (Nat.le_refl _) _).setCell (p := ⟨w.heap.size, 5, none⟩) (Nat.le_refl _) _
        obtain ⟨X, hX⟩ : ∃ X, ((((((W7.setCell ⟨w.heap.size, 0, none⟩ (.string ⟨#[102]⟩)).setCell ⟨w.heap.size, 1, none⟩ (.int .i64 7)).setCell ⟨w.heap.size, 2, none⟩ (.slice (some ⟨ga, 0, none⟩) k ca)).setCell ⟨w.heap.size, 3, none⟩ (.bool false)).setCell ⟨w.heap.size, 4, none⟩ (.int .i64 0)).setCell ⟨w.heap.size, 5, none⟩ (.slice none 0 0)) = X := ⟨_, rfl⟩
        rw [hX] at u0 hfar hbX ⊢
        have v0 : X.drew.cell? ⟨w.heap.size, 0, none⟩ = some (.string ⟨#[102]⟩) := blk_cell u0 0
        have v1 : X.drew.cell? ⟨w.heap.size, 1, none⟩ = some (.int .i64 7) := blk_cell u0 1
        have v2 : X.drew.cell? ⟨w.heap.size, 2, none⟩ = some (.slice (some ⟨ga, 0, none⟩) k ca) := blk_cell u0 2
        have v3 : X.drew.cell? ⟨w.heap.size, 3, none⟩ = some (.bool false) := blk_cell u0 3
        have v4 : X.drew.cell? ⟨w.heap.size, 4, none⟩ = some (.int .i64 0) := blk_cell u0 4
        have v5 : X.drew.cell? ⟨w.heap.size, 5, none⟩ = some (.slice none 0 0) := blk_cell u0 5
        have hw3 : w.heap.size < w3.heap.size := Nat.lt_of_lt_of_le (blk_lt HH.out.2) (Nat.le_trans H2.out.2.size H3.out.2.1.size)
        have b7 : Below W6.heap.size W6 W7 := by rw [← hW7]; exact below_alloc (Below.refl _ _) _
        have b67 : Below wr.heap.size wr W7 := HG.out.1.trans ((hb6.mono (by have := HG.out.1.size; exact this)).trans (b7.mono (Nat.le_trans HG.out.1.size hb6.size)))
        have hC50 : Kd.C k50 W7 (some ⟨W6.heap.size, 0, none⟩) 3 (lT i) := by
          rw [← hW7]
          exact lit35 W6 (lT i) (by show 3 ≤ maxLen; decide) _ (by unfold lT; rw [if_pos h6]; rfl)
        have hne6 : W6.heap.size ≠ w.heap.size := by have := hb6.size; omega
        have hCX := C_keep (d := k50) (W := W7) (X := X) (b := W6.heap.size) (fun _ _ h => h) hC50 (fun j v => hfar _ j v hne6)
        have hga : w3.heap.size ≤ ga := HT.out.2.2.2.2.2
        have hints : Kd.C (Kd.int .i64) X (some ⟨ga, 0, none⟩) k (List.replicate k 7) := by
          have := ints_C ga (List.replicate k 7) X (by simp [maxLen]; omega) (fun j p hj => by
            obtain ⟨hlt, he⟩ := List.getElem?_eq_some_iff.1 hj
            rw [List.length_replicate] at hlt
            rw [List.getElem_replicate] at he
            subst he
            refine hfar ga j _ (by omega) ?_
            have hc := HT.out.2.2.2.1.cellAt j (by omega)
            rw [List.getElem?_replicate, if_pos (by omega)] at hc
            exact (b67.cell (World.block_lt_of_cell? wr _ hc)).trans hc)
          rwa [List.length_replicate] at this
        have HF := Lib.hid (And.intro hCX (And.intro hints (((HT.out.2.1.trans (b67.mono (by rw [HG.out.2.2]; omega))).trans hbX : Below w.heap.size w X))))
        clear hfar hbX hX hC50 hints hCX u0 b7 b67 hW7 hW6 hb6 t7 hx6 hy6 hz6
        go_wp2
        refine bodyPost_ret (v := .tuple #[.slice (some ⟨W6.heap.size, 0, none⟩) 3 3, .agg #[.string ⟨#[102]⟩, .int .i64 7, .slice (some ⟨ga, 0, none⟩) k ca, .bool false, .int .i64 0, .slice none 0 0], .bool true]) (by simp [results, Tryd.results5, go_sem, v0, v1, v2, v3, v4, v5]) rfl ?_
        exact ⟨_, _, _, rfl, HT.out.2.2.2.2.1, HF.out.1, HF.out.2.1, pw_below_drewN HF.out.2.2 1⟩
      · rw [if_neg h6] at m2
        have e0 : offAt i = 8 * ((i : Int) - 6) := by unfold offAt; rw [if_neg h6]
        obtain ⟨o, ho⟩ : ∃ o, offAt i = o := ⟨_, rfl⟩
        rw [ho] at m3 e0
        have ho0 : 0 ≤ o := by omega
        have ho1 : o ≤ 16 := by omega
        have HO := Lib.hid e0
        have hb5 : Below wr.heap.size wr (wr.alloc (.cells #[.int .i64 7, .int .i64 6, .int .i64 2, .int .i64 1, .int .i64 8, .int .i64 9] 46)) := below_alloc (Below.refl _ _) _
        have m2' := (hb5.cell (p := ⟨g3, i * 4 + 2, none⟩) hgl).trans m2
        have m3' := (hb5.cell (p := ⟨g3, i * 4 + 3, none⟩) hgl).trans m3
        obtain ⟨W5, hW5⟩ : ∃ W5, wr.alloc (.cells #[.int .i64 7, .int .i64 6, .int .i64 2, .int .i64 1, .int .i64 8, .int .i64 9] 46) = W5 := ⟨_, rfl⟩
        obtain ⟨R, hR⟩ : ∃ R, wr.heap.size = R := ⟨_, rfl⟩
        have hs5 : W5.heap.size = R + 1 := by rw [← hW5, ← hR]; simp
        rw [hW5] at m2' m3' hb5
        rw [hR] at hgl hwl hCl
        have HG := Lib.hid (And.intro hb5 (And.intro hs5 hR))
        have hgl5 : g3 < W5.heap.size := by omega
        clear e0 ho hb5 m2 m3
        go_upto_region 10 with (fail)
        clear hW5 hR
        go_wp2
        have HM := Lib.hid (And.intro HG.out.1 HG.out.2.1)
        obtain ⟨W6, hW6⟩ : ∃ W6, W5.alloc (.cells #[.int .i64 3, .int .i64 0, .int .i64 4, .int .i64 (8 + o), .int .i64 0, .bool false, .int .i64 0, .string ⟨#[]⟩] 50) = W6 := ⟨_, rfl⟩
        have hb6 : Below W5.heap.size W5 W6 := by rw [← hW6]; exact below_alloc (Below.refl _ _) _
        have hx6 : W6.heap[W5.heap.size]? = some (.cells #[.int .i64 3, .int .i64 0, .int .i64 4, .int .i64 (8 + o), .int .i64 0, .bool false, .int .i64 0, .string ⟨#[]⟩] 50 (0, 0)) := by rw [← hW6]; exact blk_new W5 _
        rw [HG.out.2.1] at hx6
        have hy6 := (hb6.block C (Nat.lt_of_lt_of_le (by omega) (Nat.le_refl _))).trans ((HG.out.1.block C (by rw [HG.out.2.2]; exact hCl)).trans HT.out.2.2.1)
        have hz6 : W6.heap[w.heap.size]? = some (.cells #[.string ⟨#[]⟩, .int .i64 0, .slice none 0 0, .bool false, .int .i64 0, .slice none 0 0] 28 (0, 0)) :=
          (hb6.block _ (by omega)).trans ((HG.out.1.block _ (by rw [HG.out.2.2]; exact hwl)).trans ((HT.out.1.block _ (Nat.lt_of_lt_of_le (blk_lt HH.out.2) (Nat.le_trans H2.out.2.size H3.out.2.1.size))).trans ((H3.out.2.1.block _ (Nat.lt_of_lt_of_le (blk_lt HH.out.2) H2.out.2.size)).trans ((H2.out.2.block _ (blk_lt HH.out.2)).trans HH.out.2))))
        have p0 : W6.cell? ⟨R + 1, 0, none⟩ = some (.int .i64 3) := blk_cell hx6 0
        have p1 : W6.cell? ⟨R + 1, 1, none⟩ = some (.int .i64 0) := blk_cell hx6 1
        have p2 : W6.cell? ⟨R + 1, 2, none⟩ = some (.int .i64 4) := blk_cell hx6 2
        have p3 : W6.cell? ⟨R + 1, 3, none⟩ = some (.int .i64 (8 + o)) := blk_cell hx6 3
        have p4 : W6.cell? ⟨R + 1, 4, none⟩ = some (.int .i64 0) := blk_cell hx6 4
        have p5 : W6.cell? ⟨R + 1, 5, none⟩ = some (.bool false) := blk_cell hx6 5
        have p6 : W6.cell? ⟨R + 1, 6, none⟩ = some (.int .i64 0) := blk_cell hx6 6
        have p7 : W6.cell? ⟨R + 1, 7, none⟩ = some (.string ⟨#[]⟩) := blk_cell hx6 7
        have q0 : W6.cell? ⟨C, 0, none⟩ = some (.string ⟨#[102]⟩) := blk_cell hy6 0
        have q1 : W6.cell? ⟨C, 1, none⟩ = some (.int .i64 7) := blk_cell hy6 1
        have q2 : W6.cell? ⟨C, 2, none⟩ = some (.slice (some ⟨ga, 0, none⟩) k ca) := blk_cell hy6 2
        have q3 : W6.cell? ⟨C, 3, none⟩ = some (.bool false) := blk_cell hy6 3
        have q4 : W6.cell? ⟨C, 4, none⟩ = some (.int .i64 0) := blk_cell hy6 4
        have q5 : W6.cell? ⟨C, 5, none⟩ = some (.slice none 0 0) := blk_cell hy6 5
        rw [hW6]
        refine start_ (n := 8) (S := fun w' => w'.cell? ⟨R + 1, 0, none⟩ = some (.int .i64 3) ∧ w'.cell? ⟨R + 1, 1, none⟩ = some (.int .i64 0) ∧ w'.cell? ⟨R + 1, 2, none⟩ = some (.int .i64 4) ∧ w'.cell? ⟨R + 1, 3, none⟩ = some (.int .i64 (8 + o)) ∧ w'.cell? ⟨R + 1, 4, none⟩ = some (.int .i64 0) ∧ w'.cell? ⟨R + 1, 5, none⟩ = some (.bool false) ∧ w'.cell? ⟨R + 1, 6, none⟩ = some (.int .i64 0) ∧ w'.cell? ⟨R + 1, 7, none⟩ = some (.string ⟨#[]⟩) ∧ w'.cell? ⟨C, 0, none⟩ = some (.string ⟨#[102]⟩) ∧ w'.cell? ⟨C, 1, none⟩ = some (.int .i64 7) ∧ w'.cell? ⟨C, 2, none⟩ = some (.slice (some ⟨ga, 0, none⟩) k ca) ∧ w'.cell? ⟨C, 3, none⟩ = some (.bool false) ∧ w'.cell? ⟨C, 4, none⟩ = some (.int .i64 0) ∧ w'.cell? ⟨C, 5, none⟩ = some (.slice none 0 0)) (ds := [6]) #[false, false, false, false, false, false, false, false] (by kernel_rfl) rfl rfl ⟨p0, p1, p2, p3, p4, p5, p6, p7, q0, q1, q2, q3, q4, q5⟩ (fun hHeld => ?_)
        refine pure_ (i := 0) (N := some 79) (v := ?_) (a' := ?_) #[true, false, false, false, false, false, false, false] rfl rfl (by kernel_rfl) (fun _ _ _ h => h) (Or.inl ⟨by rfl, ?_⟩) ?_ ?_
        rotate_left
        · intro w'
          go_simp
          with_reducible rfl
        rotate_left
        · simp only [Act.put, List.setIfInBounds_toArray, List.set_cons_zero, List.set_cons_succ, i64_w, i32_w]
          rfl
        refine pure_ (i := 2) (N := some 81) (v := ?_) (a' := ?_) #[true, false, true, false, false, false, false, false] rfl rfl (by kernel_rfl) (fun _ _ _ h => h) (Or.inl ⟨by rfl, ?_⟩) ?_ ?_
        rotate_left
        · intro w'
          go_simp
          with_reducible rfl
        rotate_left
        · simp only [Act.put, List.setIfInBounds_toArray, List.set_cons_zero, List.set_cons_succ, i64_w, i32_w]
          rfl
        refine take_ (i := 1) (N := some 80) (v := ?_) (a' := ?_) #[true, true, true, false, false, false, false, false] rfl rfl (by kernel_rfl) (fun _ _ _ h => h) (Or.inl ⟨by rfl, ?_⟩) hHeld ?_ ?_
        rotate_left
        · rintro w' ⟨s0, s1, s2, s3, s4, s5, s6, s7, s8, s9, s10, s11, s12, s13⟩
          go_simp
          with_reducible rfl
        rotate_left
        · simp only [Act.put, List.setIfInBounds_toArray, List.set_cons_zero, List.set_cons_succ, i64_w, i32_w]
          rfl
        refine take_ (i := 4) (N := some 83) (v := ?_) (a' := ?_) #[true, true, true, false, true, false, false, false] rfl rfl (by kernel_rfl) (fun _ _ _ h => h) (Or.inl ⟨by rfl, ?_⟩) hHeld ?_ ?_
        rotate_left
        · rintro w' ⟨s0, s1, s2, s3, s4, s5, s6, s7, s8, s9, s10, s11, s12, s13⟩
          go_simp
          with_reducible rfl
        rotate_left
        · simp only [Act.put, List.setIfInBounds_toArray, List.set_cons_zero, List.set_cons_succ, i64_w, i32_w]
          rfl
        refine one_ (i := 3) (N := some 82) #[true, true, true, true, true, false, false, false] rfl rfl (by kernel_rfl) (by decide) (fun K hK => ?_)
        refine value_ (w1 := ?_) (v := ?_) (by rfl) rfl ?_ ?_
        rotate_left 2
        · go_simp
          constructor
          · rfl
          · rfl
        obtain ⟨W7, hW7⟩ : ∃ W7, W6.alloc (.cells #[.int .i64 15, .int .i64 0, .int .i64 0, .int .i64 0, .int .i64 0, .bool false, .int .i64 0, .string ⟨#[102]⟩, .int .i64 3, .int .i64 0, .int .i64 4, .int .i64 (8 + o), .int .i64 0, .bool false, .int .i64 0, .string ⟨#[]⟩, .int .i64 17, .int .i64 0, .int .i64 0, .int .i64 0, .int .i64 0, .bool false, .int .i64 0, .string ⟨#[]⟩] 50) = W7 := ⟨_, rfl⟩
        have t7 := (blk_al hz6 (.cells #[.int .i64 15, .int .i64 0, .int .i64 0, .int .i64 0, .int .i64 0, .bool false, .int .i64 0, .string ⟨#[102]⟩, .int .i64 3, .int .i64 0, .int .i64 4, .int .i64 (8 + o), .int .i64 0, .bool false, .int .i64 0, .string ⟨#[]⟩, .int .i64 17, .int .i64 0, .int .i64 0, .int .i64 0, .int .i64 0, .bool false, .int .i64 0, .string ⟨#[]⟩] 50))
        rw [hW7] at t7
        have z0 : W7.cell? ⟨w.heap.size, 0, none⟩ = some (.string ⟨#[]⟩) := blk_cell t7 0
        have z1 : W7.cell? ⟨w.heap.size, 1, none⟩ = some (.int .i64 0) := blk_cell t7 1
        have z2 : W7.cell? ⟨w.heap.size, 2, none⟩ = some (.slice none 0 0) := blk_cell t7 2
        have z3 : W7.cell? ⟨w.heap.size, 3, none⟩ = some (.bool false) := blk_cell t7 3
        have z4 : W7.cell? ⟨w.heap.size, 4, none⟩ = some (.int .i64 0) := blk_cell t7 4
        have z5 : W7.cell? ⟨w.heap.size, 5, none⟩ = some (.slice none 0 0) := blk_cell t7 5
        have f0 : W7.frozen? ⟨w.heap.size, 0, none⟩ = false := fz_blk t7
        have f1 : W7.frozen? ⟨w.heap.size, 1, none⟩ = false := fz_blk t7
        have f2 : W7.frozen? ⟨w.heap.size, 2, none⟩ = false := fz_blk t7
        have f3 : W7.frozen? ⟨w.heap.size, 3, none⟩ = false := fz_blk t7
        have f4 : W7.frozen? ⟨w.heap.size, 4, none⟩ = false := fz_blk t7
        have f5 : W7.frozen? ⟨w.heap.size, 5, none⟩ = false := fz_blk t7
        refine hK.out _ _ ⟨(cell_al p0 _), (cell_al p1 _), (cell_al p2 _), (cell_al p3 _), (cell_al p4 _), (cell_al p5 _), (cell_al p6 _), (cell_al p7 _), (cell_al q0 _), (cell_al q1 _), (cell_al q2 _), (cell_al q3 _), (cell_al q4 _), (cell_al q5 _)⟩ (fun hHeld => ?_)
        clear hK K
        refine norm_ (a' := ?_) ?_ ?_
        rotate_left
        · show Act.put _ (some 82) _ = _
          simp only [Act.put, List.setIfInBounds_toArray, List.set_cons_zero, List.set_cons_succ, i64_w, i32_w]
          rfl
        refine pure_ (i := 5) (N := some 4) (v := ?_) (a' := ?_) #[true, true, true, true, true, true, false, false] rfl rfl (by kernel_rfl) (fun _ _ _ h => h) (Or.inl ⟨by rfl, ?_⟩) ?_ ?_
        rotate_left
        · intro w'
          go_simp
          with_reducible rfl
        rotate_left
        · simp only [Act.put, List.setIfInBounds_toArray, List.set_cons_zero, List.set_cons_succ, i64_w, i32_w]
          rfl
        refine last_ (i := 6) (N := none) #[true, true, true, true, true, true, true, false] rfl rfl (by kernel_rfl) (by decide) (fun K hK => ?_)
        refine skip_ (w1 := ?_) (by rfl) rfl ?_ ?_
        rotate_left
        · go_simp
          rfl
        refine hK.out _ _ ?_
        clear hK K
        refine pure_ (i := 7) (N := some 6) (v := ?_) (a' := ?_) #[true, true, true, true, true, true, true, true] rfl rfl (by kernel_rfl) (fun _ _ _ h => h) (Or.inl ⟨by rfl, ?_⟩) ?_ ?_
        rotate_left
        · intro w'
          go_simp
          with_reducible rfl
        rotate_left
        · simp only [Act.put, List.setIfInBounds_toArray, List.set_cons_zero, List.set_cons_succ, i64_w, i32_w]
          rfl
        refine done_ (by kernel_rfl) ?_

        clear p0 p1 p2 p3 p4 p5 p6 p7 q0 q1 q2 q3 q4 q5 z0 z1 z2 z3 z4 z5 f0 f1 f2 f3 f4 f5
        have u0 := blk_put (blk_put (blk_put (blk_put (blk_put (blk_put t7 0 (.string ⟨#[102]⟩) rfl) 1 (.int .i64 7) rfl) 2 (.slice (some ⟨ga, 0, none⟩) k ca) rfl) 3 (.bool false) rfl) 4 (.int .i64 0) rfl) 5 (.slice none 0 0) rfl
        have hfar : ∀ (b j : Nat) (v : Value), b ≠ w.heap.size → W7.cell? ⟨b, j, none⟩ = some v → ((((((W7.setCell ⟨w.heap.size, 0, none⟩ (.string ⟨#[102]⟩)).setCell ⟨w.heap.size, 1, none⟩ (.int .i64 7)).setCell ⟨w.heap.size, 2, none⟩ (.slice (some ⟨ga, 0, none⟩) k ca)).setCell ⟨w.heap.size, 3, none⟩ (.bool false)).setCell ⟨w.heap.size, 4, none⟩ (.int .i64 0)).setCell ⟨w.heap.size, 5, none⟩ (.slice none 0 0)).cell? ⟨b, j, none⟩ = some v :=
          fun b j v hb h => cell_far (cell_far (cell_far (cell_far (cell_far (cell_far h hb) hb) hb) hb) hb) hb
        have hbX : Below w.heap.size W7 ((((((W7.setCell ⟨w.heap.size, 0, none⟩ (.string ⟨#[102]⟩)).setCell ⟨w.heap.size, 1, none⟩ (.int .i64 7)).setCell ⟨w.heap.size, 2, none⟩ (.slice (some ⟨ga, 0, none⟩) k ca)).setCell ⟨w.heap.size, 3, none⟩ (.bool false)).setCell ⟨w.heap.size, 4, none⟩ (.int .i64 0)).setCell ⟨w.heap.size, 5, none⟩ (.slice none 0 0)) :=
          ((((((Below.refl w.heap.size W7).setCell (p := ⟨w.heap.size, 0, none⟩) (Nat.le_refl _) _).setCell (p := ⟨w.heap.size, 1, none⟩) (Nat.le_refl _) _).setCell (p := ⟨w.heap.size, 2, none⟩) (Nat.le_refl _) _).setCell (p := ⟨w.heap.size, 3, none⟩) (Nat.le_refl _) _).setCell (p := ⟨w.heap.size, 4, none⟩) (Nat.le_refl _) _).setCell (p := ⟨w.heap.size, 5, none⟩) (Nat.le_refl _) _
        obtain ⟨X, hX⟩ : ∃ X, ((((((W7.setCell ⟨w.heap.size, 0, none⟩ (.string ⟨#[102]⟩)).setCell ⟨w.heap.size, 1, none⟩ (.int .i64 7)).setCell ⟨w.heap.size, 2, none⟩ (.slice (some ⟨ga, 0, none⟩) k ca)).setCell ⟨w.heap.size, 3, none⟩ (.bool false)).setCell ⟨w.heap.size, 4, none⟩ (.int .i64 0)).setCell ⟨w.heap.size, 5, none⟩ (.slice none 0 0)) = X := ⟨_, rfl⟩
        rw [hX] at u0 hfar hbX ⊢
        have v0 : X.drew.cell? ⟨w.heap.size, 0, none⟩ = some (.string ⟨#[102]⟩) := blk_cell u0 0
        have v1 : X.drew.cell? ⟨w.heap.size, 1, none⟩ = some (.int .i64 7) := blk_cell u0 1
        have v2 : X.drew.cell? ⟨w.heap.size, 2, none⟩ = some (.slice (some ⟨ga, 0, none⟩) k ca) := blk_cell u0 2
        have v3 : X.drew.cell? ⟨w.heap.size, 3, none⟩ = some (.bool false) := blk_cell u0 3
        have v4 : X.drew.cell? ⟨w.heap.size, 4, none⟩ = some (.int .i64 0) := blk_cell u0 4
        have v5 : X.drew.cell? ⟨w.heap.size, 5, none⟩ = some (.slice none 0 0) := blk_cell u0 5
        have hw3 : w.heap.size < w3.heap.size := Nat.lt_of_lt_of_le (blk_lt HH.out.2) (Nat.le_trans H2.out.2.size H3.out.2.1.size)
        have b7 : Below W6.heap.size W6 W7 := by rw [← hW7]; exact below_alloc (Below.refl _ _) _
        have b67 : Below wr.heap.size wr W7 := HG.out.1.trans ((hb6.mono (by have := HG.out.1.size; exact this)).trans (b7.mono (Nat.le_trans HG.out.1.size hb6.size)))
        have hC50 : Kd.C k50 W7 (some ⟨W6.heap.size, 0, none⟩) 3 (lT i) := by
          rw [← hW7]
          exact lit35 W6 (lT i) (by show 3 ≤ maxLen; decide) _ (by unfold lT; rw [if_neg h6, ← HO.out]; rfl)
        have hne6 : W6.heap.size ≠ w.heap.size := by have := hb6.size; omega
        have hCX := C_keep (d := k50) (W := W7) (X := X) (b := W6.heap.size) (fun _ _ h => h) hC50 (fun j v => hfar _ j v hne6)
        have hga : w3.heap.size ≤ ga := HT.out.2.2.2.2.2
        have hints : Kd.C (Kd.int .i64) X (some ⟨ga, 0, none⟩) k (List.replicate k 7) := by
          have := ints_C ga (List.replicate k 7) X (by simp [maxLen]; omega) (fun j p hj => by
            obtain ⟨hlt, he⟩ := List.getElem?_eq_some_iff.1 hj
            rw [List.length_replicate] at hlt
            rw [List.getElem_replicate] at he
            subst he
            refine hfar ga j _ (by omega) ?_
            have hc := HT.out.2.2.2.1.cellAt j (by omega)
            rw [List.getElem?_replicate, if_pos (by omega)] at hc
            exact (b67.cell (World.block_lt_of_cell? wr _ hc)).trans hc)
          rwa [List.length_replicate] at this
        have HF := Lib.hid (And.intro hCX (And.intro hints (((HT.out.2.1.trans (b67.mono (by rw [HG.out.2.2]; omega))).trans hbX : Below w.heap.size w X))))
        clear hfar hbX hX hC50 hints hCX u0 b7 b67 hW7 hW6 hb6 t7 hx6 hy6 hz6
        go_wp2
        refine bodyPost_ret (v := .tuple #[.slice (some ⟨W6.heap.size, 0, none⟩) 3 3, .agg #[.string ⟨#[102]⟩, .int .i64 7, .slice (some ⟨ga, 0, none⟩) k ca, .bool false, .int .i64 0, .slice none 0 0], .bool true]) (by simp [results, Tryd.results5, go_sem, v0, v1, v2, v3, v4, v5]) rfl ?_
        exact ⟨_, _, _, rfl, HT.out.2.2.2.2.1, HF.out.1, HF.out.2.1, pw_below_drewN HF.out.2.2 1⟩
end Go.Proofs.YthfpdlfpbbhjhaaDoor.Mc
