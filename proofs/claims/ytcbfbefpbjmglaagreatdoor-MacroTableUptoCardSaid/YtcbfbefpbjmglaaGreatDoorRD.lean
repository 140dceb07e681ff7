import Derived.Test.YtcbfbefpbjmglaaGreatDoorZ
import Derived.Test.YtcbfbefpbjmglaaGreatDoorTZ
import Derived.WalkLawsBesides
import Derived.Outline
set_option maxRecDepth 100000
set_option linter.unusedSimpArgs false
set_option linter.unusedVariables false
namespace Go.Proofs.YtcbfbefpbjmglaaGreatDoor.Mac
open Go.RowKit MapFun PA YtcbfbefpbjmglaaGreatDoorT YtcbfbefpbjmglaaGreatDoorW PrintWords PrintLast PrintMore
attribute [local go_sem] Oper.semAt_some
set_option maxHeartbeats 2000000 in
theorem rdefine_wrong (q : Nat) (rs : List (MacP × MRow)) (nm : ByteArray) (fn more : Bool) (Ap Ab : Option Addr) (cp cb : Nat) (ps : List ByteArray) (body : List S55) (w : World) (hd : DomM nm ps body) (h : RefR w q rs) (hl : rs.length < 1000) (hr : rightP nm fn ps more body = false)
  (hP : Kd.C Kd.string w Ap ps.length ps) (hpc : ps.length ≤ cp) (hB : Kd.C k55 w Ab body.length body) (hbc : body.length ≤ cb) :
  Calls Tryz.prog 9 #[.pointer (some ⟨q, 0, none⟩), .agg #[.string nm, .bool fn, .slice Ap ps.length cp, .bool more, .slice Ab body.length cb]] w fun e w' => e = .returned (.int .i64 2) ∧ Below w.heap.size w w' := by
 obtain ⟨B, hBw⟩ : ∃ B, w.heap.size = B := ⟨_, rfl⟩
 go_enter Tryz.func9, Tryz.ntmps9
 go_upto_region 1 with (fail)
 obtain ⟨W0, hW0⟩ : ∃ W0, w.alloc (.cells #[.string nm, .bool fn, .slice Ap ps.length cp, .bool more, .slice Ab body.length cb] 33) = W0 := ⟨_, rfl⟩
 have hb0 : Below w.heap.size w W0 := by rw [← hW0]; exact (Below.refl _ w).alloc (Nat.le_refl _) _
 have qB : W0.heap[B]? = some (.cells #[.string nm, .bool fn, .slice Ap ps.length cp, .bool more, .slice Ab body.length cb] 33 (0, 0)) := by rw [← hW0, ← hBw]; exact blk_new w _
 rw [hW0]
 try rw [hBw]
 have hP0 := Kd.C_below hP hb0
 have hB0 := Kd.C_below hB hb0
 have hR0 := h.below hb0
 have a0 := bC qB 0
 have a1 := bC qB 1
 have a2 := bC qB 2
 have a3 := bC qB 3
 have a4 := bC qB 4
 have HC := Lib.hid (burinref03_Right.calls 30000 nm fn Ap cp ps more Ab cb body false W0 hP0 hpc hB0 hbc (by rw [rright_f 30000 (Nat.le_refl _) nm fn more ps body hd, hr]))
 have HX := Lib.hid (And.intro hb0 hBw)
 clear hP hB hP0 hB0 hR0 h hb0 hW0 hBw hd hr qB
 go_wp2_with (go_at_call 25; refine HC.out.mono ?_; rintro e W2 ⟨rfl, hb2⟩; have H2 := Lib.hid (HX.out.1.trans (hb2.mono HX.out.1.size)); clear hb2)
 go_ret
 exact ⟨rfl, H2.out⟩
set_option maxHeartbeats 2000000 in
theorem rdefine_old (q : Nat) (rs : List (MacP × MRow)) (nm : ByteArray) (fn more : Bool) (Ap Ab : Option Addr) (cp cb : Nat) (ps : List ByteArray) (body : List S55) (w : World) (hd : DomM nm ps body) (h : RefR w q rs) (hl : rs.length < 1000) (hr : rightP nm fn ps more body = true) (i : Nat) (hi : i < rs.length) (hf : findI rs nm = some i) (b : Bool) (hq : burinref03_Equal.f 3000000 rs[i].1.nm rs[i].1.fn rs[i].1.params rs[i].1.more rs[i].1.body nm fn ps more body = some b)
  (hP : Kd.C Kd.string w Ap ps.length ps) (hpc : ps.length ≤ cp) (hB : Kd.C k55 w Ab body.length body) (hbc : body.length ≤ cb) :
  Calls Tryz.prog 9 #[.pointer (some ⟨q, 0, none⟩), .agg #[.string nm, .bool fn, .slice Ap ps.length cp, .bool more, .slice Ab body.length cb]] w fun e w' => e = .returned (.int .i64 (if b then 0 else 31)) ∧ Below w.heap.size w w' := by
 obtain ⟨B, hBw⟩ : ∃ B, w.heap.size = B := ⟨_, rfl⟩
 go_enter Tryz.func9, Tryz.ntmps9
 go_upto_region 1 with (fail)
 obtain ⟨W0, hW0⟩ : ∃ W0, w.alloc (.cells #[.string nm, .bool fn, .slice Ap ps.length cp, .bool more, .slice Ab body.length cb] 33) = W0 := ⟨_, rfl⟩
 have hb0 : Below w.heap.size w W0 := by rw [← hW0]; exact (Below.refl _ w).alloc (Nat.le_refl _) _
 have qB : W0.heap[B]? = some (.cells #[.string nm, .bool fn, .slice Ap ps.length cp, .bool more, .slice Ab body.length cb] 33 (0, 0)) := by rw [← hW0, ← hBw]; exact blk_new w _
 rw [hW0]
 try rw [hBw]
 have hP0 := Kd.C_below hP hb0
 have hB0 := Kd.C_below hB hb0
 have hR0 := h.below hb0
 have a0 := bC qB 0
 have a1 := bC qB 1
 have a2 := bC qB 2
 have a3 := bC qB 3
 have a4 := bC qB 4
 have HC := Lib.hid (burinref03_Right.calls 30000 nm fn Ap cp ps more Ab cb body true W0 hP0 hpc hB0 hbc (by rw [rright_f 30000 (Nat.le_refl _) nm fn more ps body hd, hr]))
 have hfv : findV rs nm = (i : Int) := by unfold findV; rw [hf]
 have HX := Lib.hid (And.intro hb0 (And.intro hBw (And.intro hR0 (And.intro hP0 (And.intro hB0 (And.intro qB (And.intro hfv hq)))))))
 clear hP hB hP0 hB0 hR0 h hb0 hW0 hBw hd hr qB hfv hq hf
 go_upto_region 6 with (first
  | (go_at_call 25; refine HC.out.mono ?_; rintro e W2 ⟨rfl, hb2⟩; have H2 := Lib.hid hb2; have q2 := (hb2.block _ (blk_lt HX.out.2.2.2.2.2.1)).trans HX.out.2.2.2.2.2.1; clear a0 a1 a2 a3 a4; have a0 := bC q2 0; have a1 := bC q2 1; have a2 := bC q2 2; have a3 := bC q2 3; have a4 := bC q2 4; clear hb2 q2)
  | (go_at_call 26; refine (find_c q rs nm _ (HX.out.2.2.1.below H2.out) (Nat.le_of_lt hl)).mono ?_; rw [HX.out.2.2.2.2.2.2.1]; rintro e W3 ⟨rfl, rfl⟩))
 obtain ⟨A, cc, h1, h2, h3, h4, _⟩ := HX.out.2.2.1.below H2.out
 have c0 := bC h1 0
 have hi2 : i < (rs.map Prod.snd).length := by rw [List.length_map]; exact hi
 obtain ⟨ad, rfl, x0, x1, x2, x3, x4⟩ := CM_at h3 i hi2
 have hx := h4 rs[i] (List.getElem_mem hi)
 rw [List.getElem_map] at x0 x1 x2 x3 x4
 have hq := HX.out.2.2.2.2.2.2.2
 generalize rs[i] = r at x0 x1 x2 x3 x4 hx hq
 obtain ⟨⟨nm1, fn1, ps1, more1, body1⟩, ⟨nm2, fn2, Ap1, pn1, cp1, more2, Ab1, bn1, cb1⟩⟩ := r
 obtain ⟨e1, e2, e3, e4, e5, g1, g2, g3, g4, _, _⟩ := hx
 simp only at e1 e2 e3 e4 e5 g1 g2 g3 g4 x0 x1 x2 x3 x4 hq
 subst e1 e2 e3 e4 e5
 have HE := Lib.hid fun (W : World) (hb : Below W3.heap.size W3 W) => burinref03_Equal.calls 3000000 nm2 fn2 Ap1 cp1 ps1 more2 Ab1 cb1 body1 nm fn Ap cp ps more Ab cb body b W (Kd.C_below g1 hb) g2 (Kd.C_below g3 hb) g4 (Kd.C_below HX.out.2.2.2.1 (H2.out.trans (hb.mono H2.out.size))) hpc (Kd.C_below HX.out.2.2.2.2.1 (H2.out.trans (hb.mono H2.out.size))) hbc hq
 have H0d := Lib.hid (below_drew (Below.refl W3.heap.size W3))
 clear g1 g2 g3 g4 hq h1 h2 h3 h4
 have HK : Hid True := Lib.hid trivial
 cases b with
 | true =>
  refine start_ (n := 10) (S := fun w' => w'.cell? ⟨q, 0, none⟩ = some (.slice (some ad) rs.length cc) ∧ w'.cell? (ad.add (i * 5)) = some (.string nm2) ∧ w'.cell? ⟨(ad.add (i * 5)).block, (ad.add (i * 5)).off + 1, none⟩ = some (.bool fn2) ∧ w'.cell? ⟨(ad.add (i * 5)).block, (ad.add (i * 5)).off + 2, none⟩ = some (.slice Ap1 ps1.length cp1) ∧ w'.cell? ⟨(ad.add (i * 5)).block, (ad.add (i * 5)).off + 3, none⟩ = some (.bool more2) ∧ w'.cell? ⟨(ad.add (i * 5)).block, (ad.add (i * 5)).off + 4, none⟩ = some (.slice Ab1 body1.length cb1) ∧ w'.cell? ⟨B, 0, none⟩ = some (.string nm) ∧ w'.cell? ⟨B, 1, none⟩ = some (.bool fn) ∧ w'.cell? ⟨B, 2, none⟩ = some (.slice Ap ps.length cp) ∧ w'.cell? ⟨B, 3, none⟩ = some (.bool more) ∧ w'.cell? ⟨B, 4, none⟩ = some (.slice Ab body.length cb)) (ds := [8]) (fl 0 10) (by kernel_rfl) rfl rfl ⟨c0, x0, x1, x2, x3, x4, a0, a1, a2, a3, a4⟩ (fun hHeld => ?_)
  refine pu 0 19 (fl 1 9) ?_
  refine pu 1 20 (fl 2 8) ?_
  refine pu 2 21 (fl 3 7) ?_
  refine pu 4 23 #[true, true, true, false, true, false, false, false, false, false] ?_
  refine tk 3 22 (fl 5 5) rfl rfl hHeld (by rintro w' ⟨s0, s1, s2, s3, s4, s5, s6, s7, s8, s9, s10⟩; go_simp; with_reducible rfl) ?_
  refine pu 5 24 (fl 6 4) ?_
  refine tk 6 25 (fl 7 3) rfl rfl hHeld (by rintro w' ⟨s0, s1, s2, s3, s4, s5, s6, s7, s8, s9, s10⟩; go_simp; with_reducible rfl) ?_
  refine tk 7 26 (fl 8 2) rfl rfl hHeld (by rintro w' ⟨s0, s1, s2, s3, s4, s5, s6, s7, s8, s9, s10⟩; go_simp; with_reducible rfl) ?_
  refine last_ (i := 8) (N := some 27) (fl 9 1) rfl rfl (by kernel_rfl) (by decide) (fun K hK => ?_)
  refine goes_ Tryz.func14 (by kernel_rfl) rfl #[.agg #[.string nm2, .bool fn2, .slice Ap1 ps1.length cp1, .bool more2, .slice Ab1 body1.length cb1], .agg #[.string nm, .bool fn, .slice Ap ps.length cp, .bool more, .slice Ab body.length cb]] (by rfl) rfl rfl (by simp only [List.map_toArray, List.map_cons, List.map_nil]; rfl) ?_
  with_reducible refine (HE.out _ H0d.out).mono ?_
  rintro e w8 ⟨rfl, hb8⟩
  refine ⟨_, rfl, ?_⟩
  have H8 := Lib.hid hb8
  clear hb8
  refine hK.out _ _ ?_
  clear hK K
  refine norm_ (a' := ?_) ?_ ?_
  rotate_left
  ·show Act.put _ (some 27) _ = _
   simp only [Act.put, sT, sZ, sS, i64_w, i32_w]
   rfl
  refine pu 9 28 (fl 10 0) ?_
  refine done_ (by kernel_rfl) ?_
  go_wp2
  go_ret
  exact ⟨rfl, by have hb := HX.out.1.trans ((H2.out.trans ((H0d.out.trans (H8.out.mono H0d.out.size)).mono H2.out.size)).mono HX.out.1.size); exact hb⟩
 | false =>
  refine start_ (n := 10) (S := fun w' => w'.cell? ⟨q, 0, none⟩ = some (.slice (some ad) rs.length cc) ∧ w'.cell? (ad.add (i * 5)) = some (.string nm2) ∧ w'.cell? ⟨(ad.add (i * 5)).block, (ad.add (i * 5)).off + 1, none⟩ = some (.bool fn2) ∧ w'.cell? ⟨(ad.add (i * 5)).block, (ad.add (i * 5)).off + 2, none⟩ = some (.slice Ap1 ps1.length cp1) ∧ w'.cell? ⟨(ad.add (i * 5)).block, (ad.add (i * 5)).off + 3, none⟩ = some (.bool more2) ∧ w'.cell? ⟨(ad.add (i * 5)).block, (ad.add (i * 5)).off + 4, none⟩ = some (.slice Ab1 body1.length cb1) ∧ w'.cell? ⟨B, 0, none⟩ = some (.string nm) ∧ w'.cell? ⟨B, 1, none⟩ = some (.bool fn) ∧ w'.cell? ⟨B, 2, none⟩ = some (.slice Ap ps.length cp) ∧ w'.cell? ⟨B, 3, none⟩ = some (.bool more) ∧ w'.cell? ⟨B, 4, none⟩ = some (.slice Ab body.length cb)) (ds := [8]) (fl 0 10) (by kernel_rfl) rfl rfl ⟨c0, x0, x1, x2, x3, x4, a0, a1, a2, a3, a4⟩ (fun hHeld => ?_)
  refine pu 0 19 (fl 1 9) ?_
  refine pu 1 20 (fl 2 8) ?_
  refine pu 2 21 (fl 3 7) ?_
  refine pu 4 23 #[true, true, true, false, true, false, false, false, false, false] ?_
  refine tk 3 22 (fl 5 5) rfl rfl hHeld (by rintro w' ⟨s0, s1, s2, s3, s4, s5, s6, s7, s8, s9, s10⟩; go_simp; with_reducible rfl) ?_
  refine pu 5 24 (fl 6 4) ?_
  refine tk 6 25 (fl 7 3) rfl rfl hHeld (by rintro w' ⟨s0, s1, s2, s3, s4, s5, s6, s7, s8, s9, s10⟩; go_simp; with_reducible rfl) ?_
  refine tk 7 26 (fl 8 2) rfl rfl hHeld (by rintro w' ⟨s0, s1, s2, s3, s4, s5, s6, s7, s8, s9, s10⟩; go_simp; with_reducible rfl) ?_
  refine last_ (i := 8) (N := some 27) (fl 9 1) rfl rfl (by kernel_rfl) (by decide) (fun K hK => ?_)
  refine goes_ Tryz.func14 (by kernel_rfl) rfl #[.agg #[.string nm2, .bool fn2, .slice Ap1 ps1.length cp1, .bool more2, .slice Ab1 body1.length cb1], .agg #[.string nm, .bool fn, .slice Ap ps.length cp, .bool more, .slice Ab body.length cb]] (by rfl) rfl rfl (by simp only [List.map_toArray, List.map_cons, List.map_nil]; rfl) ?_
  with_reducible refine (HE.out _ H0d.out).mono ?_
  rintro e w8 ⟨rfl, hb8⟩
  refine ⟨_, rfl, ?_⟩
  have H8 := Lib.hid hb8
  clear hb8
  refine hK.out _ _ ?_
  clear hK K
  refine norm_ (a' := ?_) ?_ ?_
  rotate_left
  ·show Act.put _ (some 27) _ = _
   simp only [Act.put, sT, sZ, sS, i64_w, i32_w]
   rfl
  refine pu 9 28 (fl 10 0) ?_
  refine done_ (by kernel_rfl) ?_
  go_wp2
  go_ret
  exact ⟨rfl, by have hb := HX.out.1.trans ((H2.out.trans ((H0d.out.trans (H8.out.mono H0d.out.size)).mono H2.out.size)).mono HX.out.1.size); exact hb⟩
def atP (rs : List (MacP × MRow)) (nm : ByteArray) : Nat := (rs.takeWhile fun p => Op.bytesLess p.1.nm.toList nm.toList).length
theorem atP_le (rs : List (MacP × MRow)) (nm : ByteArray) : atP rs nm ≤ rs.length := (List.takeWhile_sublist _).length_le
theorem atP_lt (rs : List (MacP × MRow)) (nm : ByteArray) : ∀ k (hk : k < rs.length), k < atP rs nm → Op.bytesLess rs[k].1.nm.toList nm.toList = true := by
 induction rs with
 | nil => intro k hk; exact absurd hk (Nat.not_lt_zero _)
 | cons a r ih =>
  intro k hk h
  unfold atP at h
  rw [List.takeWhile_cons] at h
  split at h
  ·rename_i ha
   cases k with
   | zero => exact ha
   | succ k => exact ih k (by simpa using hk) (by unfold atP; simpa using h)
  ·exact absurd h (Nat.not_lt_zero _)
theorem atP_end (rs : List (MacP × MRow)) (nm : ByteArray) : ∀ (hk : atP rs nm < rs.length), Op.bytesLess rs[atP rs nm].1.nm.toList nm.toList = false := by
 induction rs with
 | nil => intro hk; exact absurd hk (Nat.not_lt_zero _)
 | cons a r ih =>
  intro hk
  unfold atP at hk ⊢
  simp only [List.takeWhile_cons] at hk ⊢
  by_cases ha : Op.bytesLess a.1.nm.toList nm.toList = true
  ·simp only [ha, if_true, List.length_cons, List.getElem_cons_succ] at hk ⊢
   exact ih (by unfold atP; simpa using hk)
  ·simp only [ha, if_false, List.length_nil, List.getElem_cons_zero] at hk ⊢
   simpa using ha
set_option maxHeartbeats 2000000 in
theorem rdefine_new (q : Nat) (rs : List (MacP × MRow)) (nm : ByteArray) (fn more : Bool) (Ap Ab : Option Addr) (cp cb : Nat) (ps : List ByteArray) (body : List S55) (w : World) (hd : DomM nm ps body) (h : RefR w q rs) (hl : rs.length < 1000) (hr : rightP nm fn ps more body = true) (hf : findI rs nm = none) (hRP : RowAt q w Ap 9 ps.length) (hRB : RowAt q w Ab 55 body.length)
  (hP : Kd.C Kd.string w Ap ps.length ps) (hpc : ps.length ≤ cp) (hB : Kd.C k55 w Ab body.length body) (hbc : body.length ≤ cb) :
  Calls Tryz.prog 9 #[.pointer (some ⟨q, 0, none⟩), .agg #[.string nm, .bool fn, .slice Ap ps.length cp, .bool more, .slice Ab body.length cb]] w fun e w' => e = .returned (.int .i64 0) ∧ (∃ x, MacX q w' ⟨nm, fn, ps, more, body⟩ x ∧ RefR w' q (rs.take (atP rs nm) ++ [(⟨nm, fn, ps, more, body⟩, x)] ++ rs.drop (atP rs nm))) ∧ StepQ q w w' := by
 obtain ⟨B, hBw⟩ : ∃ B, w.heap.size = B := ⟨_, rfl⟩
 go_enter Tryz.func9, Tryz.ntmps9
 go_upto_region 1 with (fail)
 obtain ⟨W0, hW0⟩ : ∃ W0, w.alloc (.cells #[.string nm, .bool fn, .slice Ap ps.length cp, .bool more, .slice Ab body.length cb] 33) = W0 := ⟨_, rfl⟩
 have hb0 : Below w.heap.size w W0 := by rw [← hW0]; exact (Below.refl _ w).alloc (Nat.le_refl _) _
 have qB : W0.heap[B]? = some (.cells #[.string nm, .bool fn, .slice Ap ps.length cp, .bool more, .slice Ab body.length cb] 33 (0, 0)) := by rw [← hW0, ← hBw]; exact blk_new w _
 rw [hW0]
 try rw [hBw]
 have hP0 := Kd.C_below hP hb0
 have hB0 := Kd.C_below hB hb0
 have hR0 := h.below hb0
 have a0 := bC qB 0
 have a1 := bC qB 1
 have a2 := bC qB 2
 have a3 := bC qB 3
 have a4 := bC qB 4
 have HC := Lib.hid (burinref03_Right.calls 30000 nm fn Ap cp ps more Ab cb body true W0 hP0 hpc hB0 hbc (by rw [rright_f 30000 (Nat.le_refl _) nm fn more ps body hd, hr]))
 have hfv : findV rs nm = -1 := by unfold findV; rw [hf]
 have HX := Lib.hid (And.intro hb0 (And.intro hBw (And.intro hR0 (And.intro hP0 (And.intro hB0 (And.intro qB hfv))))))
 have HH := Lib.hid (And.intro h (And.intro hP hB))
 clear hP hB hP0 hB0 hR0 h hb0 hW0 hBw hd hr qB hfv hf
 go_upto_region 9 with (first
  | (go_at_call 25; refine HC.out.mono ?_; rintro e W2 ⟨rfl, hb2⟩; have H2 := Lib.hid hb2; have q2 := (hb2.block _ (blk_lt HX.out.2.2.2.2.2.1)).trans HX.out.2.2.2.2.2.1; clear a0 a1 a2 a3 a4; have a0 := bC q2 0; clear hb2 q2)
  | (go_at_call 26; refine (find_c q rs nm _ (HX.out.2.2.1.below H2.out) (Nat.le_of_lt hl)).mono ?_; rw [HX.out.2.2.2.2.2.2]; rintro e W3 ⟨rfl, rfl⟩))
 obtain ⟨A0, cc, g1, h2, g3, g4, _⟩ := HH.out.1
 have hbw3 : Below w.heap.size w W3 := HX.out.1.trans (H2.out.mono HX.out.1.size)
 have h1 := (hbw3.block _ (blk_lt g1)).trans g1
 have h3 := Kd.C_below g3 hbw3
 have h4 : ∀ p ∈ rs, MacX q W3 p.1 p.2 := fun p hp => (g4 p hp).below hbw3
 have HG := Lib.hid (And.intro g1 (And.intro g3 g4))
 clear g1 g3 g4 hbw3
 have c0 := bC h1 0
 have g0 : decide (1000 ≤ (rs.length : Int)) = false := by simp; omega
 have HR := Lib.hid (And.intro h1 (And.intro h2 (And.intro h3 h4)))
 clear h1 h2 h3 h4
 go_upto_block 0 with (fail)
 go_cut [7] (fun v wc => v = .int .i64 (atP rs nm : Nat) ∧ Below W3.heap.size W3 wc)
 case first =>
  go_wp2
  go_loopw [7] (fun i W => ∃ k d : Nat, k ≤ atP rs nm ∧ i = .int .i64 k ∧ W = W3.drewN d) (fun i _ => atP rs nm - (RowKit.intOf i).toNat)
  case atStart => exact ⟨0, 0, Nat.zero_le _, rfl, rfl⟩
  case round =>
   obtain ⟨k, d, hk, rfl, rfl⟩ := hrel
   have hle := atP_le rs nm
   by_cases hlr : k < rs.length
   ·have hk2 : k < (rs.map Prod.snd).length := by rw [List.length_map]; exact hlr
    obtain ⟨ad, rfl, x0, x1, x2, x3, x4⟩ := CM_at HR.out.2.2.1 k hk2
    clear x1 x2 x3 x4
    have hx := HR.out.2.2.2 rs[k] (List.getElem_mem hlr)
    rw [List.getElem_map, hx.nm] at x0
    have hlt1 := atP_lt rs nm k hlr
    have hend : k = atP rs nm → Op.bytesLess rs[k].1.nm.toList nm.toList = false := fun e => by subst e; exact atP_end rs nm hlr
    generalize rs[k].1.nm = s1 at x0 hlt1 hend
    have g1 : decide ((k : Int) < (rs.length : Int)) = true := by simp; omega
    have HW := Lib.hid (show wrap64 ((k : Int) + 1) = ((k + 1 : Nat) : Int) by unfold wrap64; omega)
    by_cases hka : k < atP rs nm
    ·have hbl := hlt1 hka
     have HK := Lib.hid (And.intro hka hend)
     clear hlt1 hend hx hka hk hle hk2
     go_wp2
     refine start_ (n := 20) (S := fun w' => w'.cell? ⟨q, 0, none⟩ = some (.slice (some ad) rs.length cc) ∧ w'.cell? (ad.add (k * 5)) = some (.string s1) ∧ w'.cell? ⟨B, 0, none⟩ = some (.string nm)) (ds := []) (fl 0 20) (by kernel_rfl) rfl rfl ⟨c0, x0, a0⟩ (fun hHeld => ?_)
     refine pu 0 35 (fl 1 19) ?_
     refine pu 1 36 (fl 2 18) ?_
     refine pu 2 37 (fl 3 17) ?_
     refine pu 3 38 (fl 4 16) ?_
     refine tk 4 39 (fl 5 15) rfl rfl hHeld (by rintro w' ⟨s0, s1, s2⟩; go_simp; with_reducible rfl) ?_
     refine pu 5 40 (fl 6 14) ?_
     refine pu 6 41 (fl 7 13) ?_
     refine pu 7 42 (fl 8 12) ?_
     refine pu 8 43 (fl 9 11) ?_
     refine pu 9 44 (fl 10 10) ?_
     refine pu 10 45 (fl 11 9) ?_
     refine pu 12 47 #[true, true, true, true, true, true, true, true, true, true, true, false, true, false, false, false, false, false, false, false] ?_
     refine pu 16 51 #[true, true, true, true, true, true, true, true, true, true, true, false, true, false, false, false, true, false, false, false] ?_
     refine tk 11 46 #[true, true, true, true, true, true, true, true, true, true, true, true, true, false, false, false, true, false, false, false] rfl rfl hHeld (by rintro w' ⟨s0, s1, s2⟩; go_simp; with_reducible rfl) ?_
     refine pu 13 48 #[true, true, true, true, true, true, true, true, true, true, true, true, true, true, false, false, true, false, false, false] ?_
     refine pu 14 49 #[true, true, true, true, true, true, true, true, true, true, true, true, true, true, true, false, true, false, false, false] ?_
     refine tk 15 50 (fl 17 3) rfl rfl hHeld (by rintro w' ⟨s0, s1, s2⟩; go_simp; with_reducible rfl) ?_
     refine tk 17 52 (fl 18 2) rfl rfl hHeld (by rintro w' ⟨s0, s1, s2⟩; go_simp; with_reducible rfl) ?_
     refine pu 18 53 (fl 19 1) ?_
     refine pu 19 54 (fl 20 0) ?_
     refine done_ (by kernel_rfl) ?_
     go_wp2
     go_roundw
     case rel => exact ⟨k + 1, _, HK.out.1, by first | rw [HW.out] | simp, rfl⟩
     case measure => have := HK.out.1; (try rw [HW.out]); simp [RowKit.intOf]; omega
    ·have hkb : k = atP rs nm := by omega
     have hbl := hend hkb
     have HK := Lib.hid hkb
     clear hlt1 hend hx hka hk hle hk2 hkb
     go_wp2
     refine start_ (n := 20) (S := fun w' => w'.cell? ⟨q, 0, none⟩ = some (.slice (some ad) rs.length cc) ∧ w'.cell? (ad.add (k * 5)) = some (.string s1) ∧ w'.cell? ⟨B, 0, none⟩ = some (.string nm)) (ds := []) (fl 0 20) (by kernel_rfl) rfl rfl ⟨c0, x0, a0⟩ (fun hHeld => ?_)
     refine pu 0 35 (fl 1 19) ?_
     refine pu 1 36 (fl 2 18) ?_
     refine pu 2 37 (fl 3 17) ?_
     refine pu 3 38 (fl 4 16) ?_
     refine tk 4 39 (fl 5 15) rfl rfl hHeld (by rintro w' ⟨s0, s1, s2⟩; go_simp; with_reducible rfl) ?_
     refine pu 5 40 (fl 6 14) ?_
     refine pu 6 41 (fl 7 13) ?_
     refine pu 7 42 (fl 8 12) ?_
     refine pu 8 43 (fl 9 11) ?_
     refine pu 9 44 (fl 10 10) ?_
     refine pu 10 45 (fl 11 9) ?_
     refine pu 12 47 #[true, true, true, true, true, true, true, true, true, true, true, false, true, false, false, false, false, false, false, false] ?_
     refine pu 16 51 #[true, true, true, true, true, true, true, true, true, true, true, false, true, false, false, false, true, false, false, false] ?_
     refine tk 11 46 #[true, true, true, true, true, true, true, true, true, true, true, true, true, false, false, false, true, false, false, false] rfl rfl hHeld (by rintro w' ⟨s0, s1, s2⟩; go_simp; with_reducible rfl) ?_
     refine pu 13 48 #[true, true, true, true, true, true, true, true, true, true, true, true, true, true, false, false, true, false, false, false] ?_
     refine pu 14 49 #[true, true, true, true, true, true, true, true, true, true, true, true, true, true, true, false, true, false, false, false] ?_
     refine tk 15 50 (fl 17 3) rfl rfl hHeld (by rintro w' ⟨s0, s1, s2⟩; go_simp; with_reducible rfl) ?_
     refine tk 17 52 (fl 18 2) rfl rfl hHeld (by rintro w' ⟨s0, s1, s2⟩; go_simp; with_reducible rfl) ?_
     refine pu 18 53 (fl 19 1) ?_
     refine pu 19 54 (fl 20 0) ?_
     refine done_ (by kernel_rfl) ?_
     go_wp2
     go_meet
     case rel => exact ⟨by rw [HK.out], bD (bQ (Below.refl _ _) _)⟩
   ·have hkb : k = atP rs nm := by omega
    have hkl : k = rs.length := by omega
    have g1 : decide ((k : Int) < (rs.length : Int)) = false := by simp; omega
    have HK := Lib.hid hkb
    clear hk hle hkb hkl
    ·go_wp2
     refine start_ (n := 20) (S := fun w' => w'.cell? ⟨q, 0, none⟩ = some (.slice A0 rs.length cc)) (ds := []) (fl 0 20) (by kernel_rfl) rfl rfl (c0) (fun hHeld => ?_)
     refine pu 0 35 (fl 1 19) ?_
     refine pu 1 36 (fl 2 18) ?_
     refine pu 2 37 (fl 3 17) ?_
     refine pu 3 38 (fl 4 16) ?_
     refine tk 4 39 (fl 5 15) rfl rfl hHeld (by intro w' s0; go_simp; with_reducible rfl) ?_
     refine pu 5 40 (fl 6 14) ?_
     refine pu 6 41 (fl 7 13) ?_
     refine pu 7 42 (fl 8 12) ?_
     refine pd 8 43 (fl 9 11) ?_
     refine pd 9 44 (fl 10 10) ?_
     refine pd 10 45 (fl 11 9) ?_
     refine pd 11 46 (fl 12 8) ?_
     refine pd 12 47 (fl 13 7) ?_
     refine pd 13 48 (fl 14 6) ?_
     refine pd 14 49 (fl 15 5) ?_
     refine pd 15 50 (fl 16 4) ?_
     refine pd 16 51 (fl 17 3) ?_
     refine pd 17 52 (fl 18 2) ?_
     refine pd 18 53 (fl 19 1) ?_
     refine pu 19 54 (fl 20 0) ?_
     refine done_ (by kernel_rfl) ?_
     go_wp2
     go_meet
     case rel => exact ⟨by rw [HK.out], bD (bQ (Below.refl _ _) _)⟩
 case rest =>
  obtain ⟨rfl, hb4⟩ := hcut
  have hle := atP_le rs nm
  obtain ⟨j, hj⟩ : ∃ j, atP rs nm = j := ⟨_, rfl⟩
  rw [hj] at hle ⊢
  have HJ := Lib.hid hj
  clear hj
  have HR4 := Lib.hid (And.intro ((hb4.block _ (blk_lt HR.out.1)).trans HR.out.1) (And.intro (Kd.C_below HR.out.2.2.1 hb4) (And.intro (fun p hp => (HR.out.2.2.2 p hp).below hb4) (And.intro ((H2.out.trans (hb4.mono H2.out.size))) hle))))
  have hb0w := HX.out.1.trans (HR4.out.2.2.2.1.mono HX.out.1.size)
  obtain ⟨i0, hi, hzz⟩ := Option.map_eq_some_iff.1 info33
  simp only [Prod.mk.injEq] at hzz
  obtain ⟨hz0, hz1, hz2⟩ := hzz
  obtain ⟨W5, hmk, hrow, hgr⟩ := run_make_own (P := Tryz.prog) wc.drew w.heap.size 27 33 i0 _ 5 Tryz.underlying27 hi hz0 hz1 .i64 .i64 (rs.length + 1) (by rw [hz2]; omega) (by unfold maxLen; omega) hb0w.size
  have hR5 : kM.R 33 W5 w.heap.size (fun _ => True) (.slice (some ⟨wc.heap.size, 0, none⟩) 0 (rs.length + 1)) [] := ⟨fun _ _ => trivial, [], hrow, Reps.none _ _⟩
  have hb5 : Below w.heap.size w W5 := (bD hb0w).grown hgr hb0w.size (fun k hk => by cases hk)
  have hb45 : Below wc.heap.size wc W5 := (bD (Below.refl _ _)).grown hgr (Nat.le_refl _) (fun k hk => by cases hk)
  have hwr : wrap64 ((rs.length : Int) + 1) = ((rs.length + 1 : Nat) : Int) := by unfold wrap64; omega
  rw [← hwr] at hmk
  have H5 := Lib.hid (And.intro hR5 (And.intro hb5 hb45))
  have c0' := bC HR4.out.1 0
  have hjc : j ≤ cc := Nat.le_trans hle HR.out.2.1
  have hlj : ((rs.map Prod.snd).take j).length = j := by rw [List.length_take, List.length_map]; omega
  have hTk := Kd.C_take HR4.out.2.1 (m := j) (by rw [List.length_map]; exact hle)
  rw [hlj] at hTk
  have HTk := Lib.hid (And.intro (Kd.C_below hTk H5.out.2.2) hlj)
  clear hTk hlj
  clear hi hz0 hz1 hz2 hrow hgr hR5 hb5 hb45 hwr c0 a0 hb0w hb4
  go_wp2
  refine start_ (n := 15) (S := fun w' => w'.cell? ⟨q, 0, none⟩ = some (.slice A0 rs.length cc)) (ds := [13]) (fl 0 15) (by kernel_rfl) rfl rfl (c0') (fun hHeld => ?_)
  refine pu 0 57 (fl 1 14) ?_
  refine pu 1 58 (fl 2 13) ?_
  refine pu 2 59 (fl 3 12) ?_
  refine pu 7 64 #[true, true, true, false, false, false, false, true, false, false, false, false, false, false, false] ?_
  refine pu 8 65 #[true, true, true, false, false, false, false, true, true, false, false, false, false, false, false] ?_
  refine pu 9 66 #[true, true, true, false, false, false, false, true, true, true, false, false, false, false, false] ?_
  refine pu 11 68 #[true, true, true, false, false, false, false, true, true, true, false, true, false, false, false] ?_
  refine tk 3 60 #[true, true, true, true, false, false, false, true, true, true, false, true, false, false, false] rfl rfl hHeld (by intro w' s0; go_simp; with_reducible rfl) ?_
  refine pu 4 61 #[true, true, true, true, true, false, false, true, true, true, false, true, false, false, false] ?_
  refine pu 5 62 #[true, true, true, true, true, true, false, true, true, true, false, true, false, false, false] ?_
  refine tk 10 67 #[true, true, true, true, true, true, false, true, true, true, true, true, false, false, false] rfl rfl hHeld (by intro w' s0; go_simp; with_reducible rfl) ?_
  refine pu 12 69 #[true, true, true, true, true, true, false, true, true, true, true, true, true, false, false] ?_
  refine one_ (i := 6) (N := some 63) (fl 13 2) rfl rfl (by kernel_rfl) (by decide) (fun K hK => ?_)
  refine value_ (w1 := W5) (v := .slice (some ⟨wc.heap.size, 0, none⟩) 0 (rs.length + 1)) (by rfl) rfl ?_ ?_
  ·go_simp
  refine hK.out _ _ (((H5.out.2.2.cell (cl _ _ c0')).trans c0')) (fun hHeld => ?_)
  clear hK K
  refine norm_ (a' := ?_) ?_ ?_
  rotate_left
  ·show Act.put _ (some 63) _ = _
   simp only [Act.put, sT, sZ, sS, i64_w, i32_w]
   rfl
  refine last_ (i := 13) (N := some 70) (fl 14 1) rfl rfl (by kernel_rfl) (by decide) (fun K hK => ?_)
  refine Kd.R_append_rows_step (P := Tryz.prog) (w0 := w) (W := W5) kM w.heap.size (by rfl) _ _ 27 33 (.agg #[.string ⟨#[]⟩, .bool false, .slice none 0 0, .bool false, .slice none 0 0]) 80 (by rfl) Tryz.underlying27 info33 (by rfl) (by decide) (by decide) (.slice (some ⟨wc.heap.size, 0, none⟩) 0 (rs.length + 1)) [] ((rs.map Prod.snd).take j) A0 j cc (fun _ => True) (fun _ => False) (by rfl) (by rfl) H5.out.1 HTk.out.1 (fun _ _ hx => hx) (fun _ h => h.elim) (fun _ _ => trivial) H5.out.2.1 H5.out.2.1.size (by simp; omega) ?_
  intro v6 W6 hR6 hb6 hg6 hat6
  have hgq := hg6.block
  obtain ⟨A6, c6, rfl⟩ := Kd.R_slice hR6
  rw [List.nil_append] at hR6
  rw [HTk.out.2] at hR6
  have H6 := Lib.hid (And.intro hR6 (And.intro hb6 hgq))
  clear hR6 hb6 hg6 hat6 hgq
  refine hK.out _ _ ?_
  clear hK K
  refine norm_ (a' := ?_) ?_ ?_
  rotate_left
  ·show Act.put _ (some 70) _ = _
   simp only [Act.put, sT, sZ, sS, i64_w, i32_w]
   rfl
  refine pu 14 8 (fl 15 0) ?_
  refine done_ (by kernel_rfl) ?_
  have q6 := (H6.out.2.2 B (by have := HX.out.2.1; have := HX.out.1.size; have := HR4.out.2.2.2.1.size; have := H5.out.2.2.size; have := blk_lt HX.out.2.2.2.2.2.1; omega) (by have := blk_lt HX.out.2.2.2.2.2.1; have := HR4.out.2.2.2.1.size; simp [Value.ownBlock]; omega)).trans ((H5.out.2.2.block B (Nat.lt_of_lt_of_le (blk_lt HX.out.2.2.2.2.2.1) HR4.out.2.2.2.1.size)).trans ((HR4.out.2.2.2.1.block B (blk_lt HX.out.2.2.2.2.2.1)).trans HX.out.2.2.2.2.2.1))
  have a0 := bC q6 0
  have a1 := bC q6 1
  have a2 := bC q6 2
  have a3 := bC q6 3
  have a4 := bC q6 4
  have hx0 : MacX q w ⟨nm, fn, ps, more, body⟩ ⟨nm, fn, Ap, ps.length, cp, more, Ab, body.length, cb⟩ := ⟨rfl, rfl, rfl, rfl, rfl, HH.out.2.1, hpc, HH.out.2.2, hbc, hRP, hRB⟩
  have HZ := Lib.hid (And.intro hx0 (And.intro hle (Kd.C_drop HG.out.2.1 (m := j) (c := cc) (by rw [List.length_map]; exact hle) (by rw [List.length_map]; exact HR.out.2.1))))
  clear q6 hmk c0' hx0
  have HL7 : Hid (((rs.map Prod.snd).take j ++ [(⟨nm, fn, Ap, ps.length, cp, more, Ab, body.length, cb⟩ : MRow)]).length = j + 1) := Lib.hid (by rw [List.length_append, HTk.out.2]; rfl)
  obtain ⟨xs8, hxs8⟩ : ∃ xs8, ((rs.map Prod.snd).take j ++ [(⟨nm, fn, Ap, ps.length, cp, more, Ab, body.length, cb⟩ : MRow)]) ++ (rs.map Prod.snd).drop j = xs8 := ⟨_, rfl⟩
  have HXS := Lib.hid hxs8
  clear hxs8
  have ST6 : True := trivial
  by_cases hcj : cc = j
  ·have hz := HZ.out.2.2
   rw [if_pos hcj] at hz
   have hld : ((rs.map Prod.snd).drop j).length = rs.length - j := by rw [List.length_drop, List.length_map]
   rw [hld] at hz
   have HD := Lib.hid hz
   clear hz hld
   go_wp2_with (first
    | (have g_ := ST6; clear g_ ST6; (with_reducible refine gate_builtin (b := .append) (xs := #[.tmp 71, .tmp 73]) rfl ?_); at_builtin; refine Kd.R_append kM (w0 := w) w.heap.size rfl (.tmp 71) (.tmp 73) 27 33 (.agg #[.string ⟨#[]⟩, .bool false, .slice none 0 0, .bool false, .slice none 0 0]) 80 rfl Tryz.underlying27 info33 rfl (by decide) (by omega) (.slice A6 j c6) ((rs.map Prod.snd).take j) ⟨nm, fn, Ap, ps.length, cp, more, Ab, body.length, cb⟩ (MRow.cells ⟨nm, fn, Ap, ps.length, cp, more, Ab, body.length, cb⟩) (fun _ => True) (fun _ => False) rfl rfl ?aP (fun _ hk => hk.elim) ?aF ?aO ?aB ?aS ?aL ?_; (case aP => exact rfl); (case aF => exact (fun _ _ => trivial)); (case aO => exact H6.out.1); (case aB => exact H6.out.2.1); (case aS => exact H6.out.2.1.size); (case aL => (rw [HTk.out.2]; have := HZ.out.2.1; omega)); intro v7 w7 ho7 hb7 hg7 hat7; obtain ⟨A7, k7, rfl⟩ := Kd.R_slice ho7; (rw [HL7.out] at ho7); clear a0 a1 a2 a3 a4; have c7 := bC ((hb7.block _ (blk_lt HG.out.1)).trans HG.out.1) 0; have H7 := Lib.hid (And.intro ho7 hb7); clear ho7 hb7 hg7 hat7; have ST7 : True := trivial)
    | (have g_ := ST7; clear g_ ST7; (with_reducible refine gate_builtin (b := .append) (xs := #[.tmp 76, .tmp 82]) rfl ?_); at_builtin; refine Kd.R_append_rows kM (w0 := w) w.heap.size rfl (.tmp 76) (.tmp 82) 27 33 (.agg #[.string ⟨#[]⟩, .bool false, .slice none 0 0, .bool false, .slice none 0 0]) 80 rfl Tryz.underlying27 info33 rfl (by decide) (by omega) (.slice A7 (j + 1) k7) ((rs.map Prod.snd).take j ++ [⟨nm, fn, Ap, ps.length, cp, more, Ab, body.length, cb⟩]) ((rs.map Prod.snd).drop j) _ (rs.length - j) _ (fun _ => True) (fun _ => False) rfl rfl H7.out.1 (Kd.C_below HD.out H7.out.2) (fun _ _ hx => hx) (fun _ h => h.elim) (fun _ _ => trivial) H7.out.2 H7.out.2.size ?aL ?_; (case aL => (rw [List.length_append, HTk.out.2]; have := HZ.out.2.1; simp; omega)); intro v8 w8 ho8 hb8 hg8 hat8; (rw [HXS.out] at ho8); obtain ⟨A8, k8, rfl⟩ := Kd.R_slice ho8; clear c7; have q8 := (hb8.block _ (blk_lt HG.out.1)).trans HG.out.1; have c8 := bC q8 0; have f8 := frz_blk q8 0; have H8 := Lib.hid (And.intro ho8 (And.intro hb8 q8)); clear ho8 hb8 hg8 hat8 q8))
   go_ret
   have hput := RefR.put (ps := rs.take j ++ [((⟨nm, fn, ps, more, body⟩ : MacP), (⟨nm, fn, Ap, ps.length, cp, more, Ab, body.length, cb⟩ : MRow))] ++ rs.drop j) H8.out.2.1 H8.out.2.2 H8.out.1 (by rw [← HXS.out]; simp [List.map_take, List.map_drop]) (blk_lt HG.out.1) (fun p hp => by
    rcases List.mem_append.1 hp with hp | hp
    ·rcases List.mem_append.1 hp with hp | hp
     ·exact (HG.out.2.2 p (List.mem_of_mem_take hp)).below H8.out.2.1
     ·obtain rfl := List.mem_singleton.1 hp
      exact HZ.out.1.below H8.out.2.1
    ·exact (HG.out.2.2 p (List.mem_of_mem_drop hp)).below H8.out.2.1)
   exact ⟨rfl, ⟨_, (HZ.out.1.below H8.out.2.1).stepq ⟨_, _, _, _, _, Below.refl _ _, H8.out.2.2, rfl⟩, by rw [HJ.out]; exact hput.1⟩, hput.2⟩
  ·have hz := HZ.out.2.2
   rw [if_neg hcj] at hz
   have hld : ((rs.map Prod.snd).drop j).length = rs.length - j := by rw [List.length_drop, List.length_map]
   rw [hld] at hz
   have HD := Lib.hid hz
   clear hz hld
   go_wp2_with (first
    | (have g_ := ST6; clear g_ ST6; (with_reducible refine gate_builtin (b := .append) (xs := #[.tmp 71, .tmp 73]) rfl ?_); at_builtin; refine Kd.R_append kM (w0 := w) w.heap.size rfl (.tmp 71) (.tmp 73) 27 33 (.agg #[.string ⟨#[]⟩, .bool false, .slice none 0 0, .bool false, .slice none 0 0]) 80 rfl Tryz.underlying27 info33 rfl (by decide) (by omega) (.slice A6 j c6) ((rs.map Prod.snd).take j) ⟨nm, fn, Ap, ps.length, cp, more, Ab, body.length, cb⟩ (MRow.cells ⟨nm, fn, Ap, ps.length, cp, more, Ab, body.length, cb⟩) (fun _ => True) (fun _ => False) rfl rfl ?aP (fun _ hk => hk.elim) ?aF ?aO ?aB ?aS ?aL ?_; (case aP => exact rfl); (case aF => exact (fun _ _ => trivial)); (case aO => exact H6.out.1); (case aB => exact H6.out.2.1); (case aS => exact H6.out.2.1.size); (case aL => (rw [HTk.out.2]; have := HZ.out.2.1; omega)); intro v7 w7 ho7 hb7 hg7 hat7; obtain ⟨A7, k7, rfl⟩ := Kd.R_slice ho7; (rw [HL7.out] at ho7); clear a0 a1 a2 a3 a4; have c7 := bC ((hb7.block _ (blk_lt HG.out.1)).trans HG.out.1) 0; have H7 := Lib.hid (And.intro ho7 hb7); clear ho7 hb7 hg7 hat7; have ST7 : True := trivial)
    | (have g_ := ST7; clear g_ ST7; (with_reducible refine gate_builtin (b := .append) (xs := #[.tmp 76, .tmp 82]) rfl ?_); at_builtin; refine Kd.R_append_rows kM (w0 := w) w.heap.size rfl (.tmp 76) (.tmp 82) 27 33 (.agg #[.string ⟨#[]⟩, .bool false, .slice none 0 0, .bool false, .slice none 0 0]) 80 rfl Tryz.underlying27 info33 rfl (by decide) (by omega) (.slice A7 (j + 1) k7) ((rs.map Prod.snd).take j ++ [⟨nm, fn, Ap, ps.length, cp, more, Ab, body.length, cb⟩]) ((rs.map Prod.snd).drop j) _ (rs.length - j) _ (fun _ => True) (fun _ => False) rfl rfl H7.out.1 (Kd.C_below HD.out H7.out.2) (fun _ _ hx => hx) (fun _ h => h.elim) (fun _ _ => trivial) H7.out.2 H7.out.2.size ?aL ?_; (case aL => (rw [List.length_append, HTk.out.2]; have := HZ.out.2.1; simp; omega)); intro v8 w8 ho8 hb8 hg8 hat8; (rw [HXS.out] at ho8); obtain ⟨A8, k8, rfl⟩ := Kd.R_slice ho8; clear c7; have q8 := (hb8.block _ (blk_lt HG.out.1)).trans HG.out.1; have c8 := bC q8 0; have f8 := frz_blk q8 0; have H8 := Lib.hid (And.intro ho8 (And.intro hb8 q8)); clear ho8 hb8 hg8 hat8 q8))
   go_ret
   have hput := RefR.put (ps := rs.take j ++ [((⟨nm, fn, ps, more, body⟩ : MacP), (⟨nm, fn, Ap, ps.length, cp, more, Ab, body.length, cb⟩ : MRow))] ++ rs.drop j) H8.out.2.1 H8.out.2.2 H8.out.1 (by rw [← HXS.out]; simp [List.map_take, List.map_drop]) (blk_lt HG.out.1) (fun p hp => by
    rcases List.mem_append.1 hp with hp | hp
    ·rcases List.mem_append.1 hp with hp | hp
     ·exact (HG.out.2.2 p (List.mem_of_mem_take hp)).below H8.out.2.1
     ·obtain rfl := List.mem_singleton.1 hp
      exact HZ.out.1.below H8.out.2.1
    ·exact (HG.out.2.2 p (List.mem_of_mem_drop hp)).below H8.out.2.1)
   exact ⟨rfl, ⟨_, (HZ.out.1.below H8.out.2.1).stepq ⟨_, _, _, _, _, Below.refl _ _, H8.out.2.2, rfl⟩, by rw [HJ.out]; exact hput.1⟩, hput.2⟩
end Go.Proofs.YtcbfbefpbjmglaaGreatDoor.Mac
