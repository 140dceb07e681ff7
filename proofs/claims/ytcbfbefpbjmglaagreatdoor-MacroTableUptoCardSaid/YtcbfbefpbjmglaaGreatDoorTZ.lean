import Derived.Test.YtcbfbefpbjmglaaGreatDoorSN2
set_option maxRecDepth 100000
set_option linter.unusedSimpArgs false
set_option linter.unusedVariables false
namespace Go.Proofs.YtcbfbefpbjmglaaGreatDoor.Mac
open Go.RowKit MapFun PA YtcbfbefpbjmglaaGreatDoorT YtcbfbefpbjmglaaGreatDoorW PrintWords PrintLast PrintMore
attribute [local go_sem] Oper.semAt_some
theorem add_block (a : Addr) (i : Nat) : (a.add i).block = a.block := by unfold Addr.add; split <;> rfl
theorem C_setq {α : Type} {K : Kd α} {W : World} {A A0 : Option Addr} {n n0 c0 q : Nat} {v : Value} {l : List α} (hq : W.heap[q]? = some (.cells #[.slice A0 n0 c0] 29 (0, 0))) (hK : ∀ p c, K.K W p c → K.K (W.setCell ⟨q, 0, none⟩ v) p c)
  (hs : ∀ p c, K.K W p c → ∃ u, c[0]? = some u ∧ ∀ a m d, u ≠ .slice a m d) (h : K.C W A n l) : K.C (W.setCell ⟨q, 0, none⟩ v) A n l := by
 refine ⟨h.1, h.2.1, fun hn => ?_⟩
 obtain ⟨ad, ha, hr⟩ := h.2.2 hn
 have hb : ad.block ≠ q := by
  intro e
  have h0 : 0 < l.length := by rw [h.1]; exact hn
  obtain ⟨c, h1, h2, h3⟩ := hr 0 _ (List.getElem?_eq_getElem h0)
  obtain ⟨u, hu, hnu⟩ := hs _ _ h2
  have h4 := h3 0 u hu
  unfold World.cell? at h4
  rw [add_block, e, hq] at h4
  simp only at h4
  split at h4
  ·cases h4
  ·obtain ⟨g1, g2⟩ := Array.getElem?_eq_some_iff.1 h4
   have g3 : (ad.add (0 * K.sz + 0)).off = 0 := by simpa using g1
   simp only [g3] at g2
   exact hnu _ _ _ g2.symm
 refine ⟨ad, ha, fun j p hj => ?_⟩
 obtain ⟨c, h1, h2, h3⟩ := hr j p hj
 refine ⟨c, h1, hK _ _ h2, fun i u hu => ?_⟩
 rw [← h3 i u hu]
 exact World.cell?_of_block (Below.heap_setCell W ⟨q, 0, none⟩ v _ (by rw [add_block]; exact hb))
theorem Cs_setq {W : World} {A A0 : Option Addr} {n n0 c0 q : Nat} {v : Value} {l : List ByteArray} (hq : W.heap[q]? = some (.cells #[.slice A0 n0 c0] 29 (0, 0))) (h : Kd.C Kd.string W A n l) : Kd.C Kd.string (W.setCell ⟨q, 0, none⟩ v) A n l :=
 C_setq hq (fun _ _ h => h) (fun p c (hc : c = [.string p]) => ⟨.string p, by rw [hc]; rfl, by simp⟩) h
theorem Ck_setq {W : World} {A A0 : Option Addr} {n n0 c0 q : Nat} {v : Value} {l : List S55} (hq : W.heap[q]? = some (.cells #[.slice A0 n0 c0] 29 (0, 0))) (h : Kd.C k55 W A n l) : Kd.C k55 (W.setCell ⟨q, 0, none⟩ v) A n l :=
 C_setq hq (fun _ _ h => h) (fun p c hc => by
  obtain ⟨a, b, rfl, ha, _⟩ := hc
  have ha : a = [.int .i64 p.f0] := ha
  subst ha
  exact ⟨_, rfl, by simp⟩) h
def StepQ (q : Nat) (w w' : World) : Prop := ∃ w1 A0 n0 c0 v, Below w.heap.size w w1 ∧ w1.heap[q]? = some (.cells #[.slice A0 n0 c0] 29 (0, 0)) ∧ w' = w1.setCell ⟨q, 0, none⟩ v
theorem StepQ.below {q B : Nat} {w0 w w' : World} (h : StepQ q w w') (h0 : Below B w0 w) (hB : B ≤ q) (hBs : B ≤ w.heap.size) : Below B w0 w' := by
 obtain ⟨w1, A0, n0, c0, v, h1, h2, rfl⟩ := h
 exact (h0.trans (h1.mono hBs)).setCell (p := ⟨q, 0, none⟩) hB v
theorem StepQ.block {q i : Nat} {w w' : World} {o : Obj} (h : StepQ q w w') (hne : i ≠ q) (hb : w.heap[i]? = some o) : w'.heap[i]? = some o := by
 obtain ⟨w1, A0, n0, c0, v, h1, h2, rfl⟩ := h
 have hlt : i < w.heap.size := (Array.getElem?_eq_some_iff.1 hb).1
 exact (Below.heap_setCell w1 ⟨q, 0, none⟩ v i hne).trans ((h1.block _ hlt).trans hb)
theorem StepQ.strs {q : Nat} {w w' : World} {A : Option Addr} {n : Nat} {l : List ByteArray} (h : StepQ q w w') (hC : Kd.C Kd.string w A n l) : Kd.C Kd.string w' A n l := by
 obtain ⟨w1, A0, n0, c0, v, h1, h2, rfl⟩ := h
 exact Cs_setq h2 (Kd.C_below hC h1)
theorem StepQ.toks {q : Nat} {w w' : World} {A : Option Addr} {n : Nat} {l : List S55} (h : StepQ q w w') (hC : Kd.C k55 w A n l) : Kd.C k55 w' A n l := by
 obtain ⟨w1, A0, n0, c0, v, h1, h2, rfl⟩ := h
 exact Ck_setq h2 (Kd.C_below hC h1)
theorem StepQ.ty {q : Nat} {w w' : World} {A : Option Addr} {e n : Nat} (h : StepQ q w w') (ht : Ty w A e n) (he : e ≠ 29) : Ty w' A e n := fun hn ad ha => by
 obtain ⟨w1, A0, n0, c0, v, h1, h2, rfl⟩ := h
 obtain ⟨cs, fr, h3⟩ := (ht.below h1) hn ad ha
 have hne : ad.block ≠ q := fun e2 => by rw [e2, h2] at h3; cases h3; exact he rfl
 exact ⟨cs, fr, (Below.heap_setCell w1 ⟨q, 0, none⟩ v _ hne).trans h3⟩
theorem StepQ.row {q : Nat} {w w' : World} {A : Option Addr} {e n : Nat} (h : StepQ q w w') (ht : RowAt q w A e n) (he : e ≠ 29) : RowAt q w' A e n := fun hn ad ha => by
 obtain ⟨w1, A0, n0, c0, v, h1, h2, rfl⟩ := h
 rcases (ht.below h1) hn ad ha with h3 | ⟨cs, fr, h3⟩
 ·exact Or.inl h3
 ·have hne : ad.block ≠ q := fun e2 => by rw [e2, h2] at h3; cases h3; exact he rfl
  exact Or.inr ⟨cs, fr, (Below.heap_setCell w1 ⟨q, 0, none⟩ v _ hne).trans h3⟩
theorem StepQ.tab {q p mb n : Nat} {w w' : World} {T : List UInt8 → Option MacP} (h : StepQ q w w') (hT : TabR w p mb n T) (hp : p ≠ q) (hm : mb ≠ q) : TabR w' p mb n T := by
 obtain ⟨f, h1, h2⟩ := hT.hm
 obtain ⟨es, ck, h3⟩ := h1.isMap
 refine ⟨h.block hp hT.hp, f, h1.block ((h.block hm h3).trans h3.symm), fun y => ?_⟩
 have := h2 y
 cases hT : T y with
 | none => rw [hT] at this; exact this
 | some m =>
  rw [hT] at this
  obtain ⟨v, e, Ap, cp, Ab, cb, e2, g1, g2, g3, g4, g5, g6⟩ := this
  exact ⟨v, e, Ap, cp, Ab, cb, e2, h.strs g1, g2, h.toks g3, g4, h.ty g5 (by decide), h.ty g6 (by decide)⟩
theorem tab_stepq {q : Nat} {w w' : World} (h : Tab w) (hs : StepQ q w w') (hq : 2 ≤ q) : Tab w' := by
 obtain ⟨⟨t, fr, e⟩, m, e2⟩ := h
 refine ⟨⟨t, fr, hs.block (by omega) e⟩, m, ?_⟩
 have hlt := World.block_lt_of_cell? w _ e2
 rw [← e2]
 obtain ⟨w1, A0, n0, c0, v, h1, h2, rfl⟩ := hs
 refine World.cell?_of_block ((Below.heap_setCell w1 ⟨q, 0, none⟩ v 1 (by show 1 ≠ q; omega)).trans (h1.block _ hlt))
theorem MacX.stepq {W W' : World} {q : Nat} {m : MacP} {x : MRow} (h : MacX q W m x) (hs : StepQ q W W') : MacX q W' m x :=
 ⟨h.nm, h.fn, h.more, h.pn, h.bn, hs.strs h.P, h.pc, hs.toks h.B, h.bc, hs.row h.RP (by decide), hs.row h.RB (by decide)⟩
theorem info33 : (Tryz.prog.info? 33).map (fun i => (i.zero, i.size, i.bytes)) = some (some (.agg #[.string ⟨#[]⟩, .bool false, .slice none 0 0, .bool false, .slice none 0 0]), 5, 80) := by kernel_rfl
theorem RefR.put {w0 w1 : World} {q : Nat} {A0 : Option Addr} {n0 c0 c : Nat} {A : Option Addr} {ps : List (MacP × MRow)} {xs : List MRow} (hb : Below w0.heap.size w0 w1) (hq : w1.heap[q]? = some (.cells #[.slice A0 n0 c0] 29 (0, 0))) (hR : kM.R 33 w1 w0.heap.size (fun _ => True) (.slice A xs.length c) xs) (hx : xs = ps.map Prod.snd) (h0 : q < w0.heap.size) (hm : ∀ p ∈ ps, MacX q w1 p.1 p.2) : RefR (w1.setCell ⟨q, 0, none⟩ (.slice A xs.length c)) q ps ∧ StepQ q w0 (w1.setCell ⟨q, 0, none⟩ (.slice A xs.length c)) := by
 have hs : StepQ q w1 (w1.setCell ⟨q, 0, none⟩ (.slice A xs.length c)) := ⟨w1, A0, n0, c0, _, Below.refl _ _, hq, rfl⟩
 have hl : xs.length = ps.length := by rw [hx, List.length_map]
 have h2 := Kd.R_reads' (Kd.R_far (p := ⟨q, 0, none⟩) (Kd.R_mono (Kd.R_bound hR) (ok' := fun k => w0.heap.size ≤ k) (fun k hk => hk.2.1)) (fun k hk => by show k ≠ q; omega) (.slice A xs.length c))
 refine ⟨⟨A, c, ?_, by rw [← hl]; exact h2.2.1, by rw [← hx]; exact h2.2.2, fun p hp => (hm p hp).stepq hs, by rw [← hl]; exact hs.ty (Ty.of_R hR) (by decide)⟩, w1, A0, n0, c0, _, hb, hq, rfl⟩
 have := bU hq 0 (.slice A xs.length c) rfl
 rw [hl] at this ⊢
 exact this
def offN (nm : ByteArray) (ps : List (MacP × MRow)) : List (MacP × MRow) := ps.filter (fun p => !(p.1.nm.toList == nm.toList))
set_option maxHeartbeats 1000000 in
theorem rundef_c (q : Nat) (ps : List (MacP × MRow)) (nm : ByteArray) (w : World) (h : RefR w q ps) (hl : ps.length ≤ 1000) :
  Calls Tryz.prog 11 #[.pointer (some ⟨q, 0, none⟩), .string nm] w fun e w' => (∃ u, e = .returned u) ∧ RefR w' q (offN nm ps) ∧ StepQ q w w' := by
 have HR := Lib.hid h
 clear h
 go_enter Tryz.func11, Tryz.ntmps11
 go_wp2
 go_loopw [4, 5] (fun row i W => ∃ k : Nat, k ≤ ps.length ∧ i = .int .i64 k ∧ kM.R 33 W w.heap.size (fun _ => True) row ((offN nm (ps.take k)).map Prod.snd) ∧ Below w.heap.size w W) (fun _ i _ => ps.length - (RowKit.intOf i).toNat)
 case atStart => exact ⟨0, Nat.zero_le _, rfl, Kd.R_nil _ _ _ _ _, Below.refl _ _⟩
 case round =>
  obtain ⟨k, hk, rfl, hR, hb⟩ := hrel
  obtain ⟨A, c, h1, h2, h3, h4, _⟩ := HR.out.below hb
  have q0 := bC h1 0
  have g0 := frz_blk h1 0
  obtain ⟨NA, nc, rfl⟩ := Kd.R_slice hR
  by_cases hlt : k < ps.length
  ·have hk2 : k < (ps.map Prod.snd).length := by rw [List.length_map]; exact hlt
   obtain ⟨ad, rfl, x0, x1, x2, x3, x4⟩ := CM_at h3 k hk2
   have hx := h4 ps[k] (List.getElem_mem hlt)
   have e0 : (ps.map Prod.snd)[k] = ps[k].2 := by rw [List.getElem_map]
   have HW := Lib.hid (show wrap64 ((k : Int) + 1) = ((k + 1 : Nat) : Int) by unfold wrap64; omega)
   have ht : offN nm (ps.take (k + 1)) = offN nm (ps.take k) ++ (if !(ps[k].1.nm.toList == nm.toList) then [ps[k]] else []) := by
    rw [List.take_succ_eq_append_getElem hlt]
    unfold offN
    rw [List.filter_append, List.filter_cons, List.filter_nil]
   have hnm : (ps.map Prod.snd)[k].nm = ps[k].1.nm := by rw [e0]; exact hx.nm
   have hlen : (offN nm (ps.take k)).length ≤ k := by
    have h5 := List.length_filter_le (fun p : MacP × MRow => !(p.1.nm.toList == nm.toList)) (ps.take k)
    rw [List.length_take] at h5
    unfold offN
    omega
   rw [List.length_map] at hR ⊢
   by_cases heq : ps[k].1.nm.toList = nm.toList
   ·have heq1 : ((ps.map Prod.snd)[k].nm.toList == nm.toList) = true := by rw [hnm]; exact beq_iff_eq.mpr heq
    have heq2 : ((ps.map Prod.snd)[k].nm.toList != nm.toList) = false := by rw [bne, heq1]; rfl
    have ht2 : offN nm (ps.take (k + 1)) = offN nm (ps.take k) := by rw [ht, if_neg (by simp [heq]), List.append_nil]
    have H := Lib.hid (And.intro hR (And.intro hb ht2))
    clear hR hb ht ht2 e0 hx hnm heq h1 h2 h3 h4 hlen
    generalize (ps.map Prod.snd)[k] = x at x0 x1 x2 x3 x4 heq1 heq2
    go_wp2
    refine ⟨⟨k + 1, hlt, by first | rw [HW.out] | simp, ?_, H.out.2.1⟩, by (try rw [HW.out]); simp [RowKit.intOf]; omega⟩
    rw [H.out.2.2]
    exact H.out.1
   ·have heq1 : ((ps.map Prod.snd)[k].nm.toList == nm.toList) = false := by rw [hnm]; exact beq_eq_false_iff_ne.mpr heq
    have heq2 : ((ps.map Prod.snd)[k].nm.toList != nm.toList) = true := by rw [bne, heq1]; rfl
    have ht2 : (offN nm (ps.take (k + 1))).map Prod.snd = (offN nm (ps.take k)).map Prod.snd ++ [(ps.map Prod.snd)[k]] := by rw [ht, if_pos (by simp [heq]), List.map_append, e0]; rfl
    generalize (ps.map Prod.snd)[k] = x at x0 x1 x2 x3 x4 heq1 heq2 ht2
    have H := Lib.hid (And.intro hR (And.intro hb (And.intro ht2 hlen)))
    clear hR hb ht ht2 e0 hx hnm heq h1 h2 h3 h4 hlen
    go_wp2_with ((with_reducible refine gate_builtin (b := .append) (xs := #[.tmp 25, .tmp 33]) rfl ?_); at_builtin; refine Kd.R_append kM (w0 := w) w.heap.size rfl (.tmp 25) (.tmp 33) 27 33 (.agg #[.string ⟨#[]⟩, .bool false, .slice none 0 0, .bool false, .slice none 0 0]) 80 rfl Tryz.underlying27 info33 rfl (by decide) (by omega) (.slice NA (offN nm (ps.take k)).length nc) ((offN nm (ps.take k)).map Prod.snd) x x.cells (fun _ => True) (fun _ => False) rfl rfl ?aP (fun _ hk => hk.elim) ?aF ?aO ?aB ?aS ?aL ?_; (case aP => exact rfl); (case aF => exact (fun _ _ => trivial)); (case aO => exact H.out.1); (case aB => exact H.out.2.1); (case aS => exact H.out.2.1.size); (case aL => (rw [List.length_map]; have := H.out.2.2.2; omega)); intro v8 w8 ho8 hb8 hg8 hat8; have H8 := Lib.hid (And.intro ho8 hb8); clear ho8 hb8 hg8 hat8)
    exact ⟨⟨k + 1, hlt, by first | rw [HW.out] | simp, by rw [H.out.2.2.1]; exact H8.out.1, H8.out.2⟩, by (try rw [HW.out]); simp [RowKit.intOf]; omega⟩
  ·have hkl : k = ps.length := by omega
   subst hkl
   rw [List.take_length] at hR
   have hln : ((offN nm (ps.take ps.length)).map Prod.snd).length = ((offN nm ps).map Prod.snd).length := by rw [List.take_length]
   rw [hln]
   have H := Lib.hid (And.intro hR (And.intro hb (And.intro h1 h4)))
   obtain ⟨xs, hxs⟩ : ∃ xs, (offN nm ps).map Prod.snd = xs := ⟨_, rfl⟩
   rw [hxs] at H ⊢
   have HX := Lib.hid hxs
   clear hR hb hln h1 h2 h3 h4 hxs
   go_wp2
   go_end0
   have hput := RefR.put (ps := offN nm ps) (q := q) H.out.2.1 H.out.2.2.1 H.out.1 HX.out.symm (by obtain ⟨_, _, g, _⟩ := HR.out; exact blk_lt g) (fun p hp => H.out.2.2.2 p (List.mem_filter.1 hp).1)
   exact ⟨⟨_, rfl⟩, hput.1, hput.2⟩
end Go.Proofs.YtcbfbefpbjmglaaGreatDoor.Mac
