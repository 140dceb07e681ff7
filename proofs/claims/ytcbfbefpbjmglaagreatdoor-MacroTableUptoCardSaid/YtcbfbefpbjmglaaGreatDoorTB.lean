import Derived.Test.YtcbfbefpbjmglaaGreatDoorZ
import Derived.Test.YtcbfbefpbjmglaaGreatDoorSHh
import Derived.Sort.KeysCollected
import Derived.Test.YtcbfbefpbjmglaaGreatDoorIterT
set_option maxRecDepth 100000
set_option linter.unusedSimpArgs false
set_option linter.unusedVariables false
namespace Go.Proofs.YtcbfbefpbjmglaaGreatDoor.Mac
open Go.RowKit MapFun PA YtcbfbefpbjmglaaGreatDoorT YtcbfbefpbjmglaaGreatDoorW PrintWords PrintLast PrintMore
attribute [local go_sem] Oper.semAt_some
def Ty (W : World) (A : Option Addr) (e n : Nat) : Prop := 0 < n → ∀ ad, A = some ad → ∃ cs fr, W.heap[ad.block]? = some (.cells cs e fr)
theorem Ty.below {W W' : World} {A : Option Addr} {e n : Nat} (h : Ty W A e n) (hb : Below W.heap.size W W') : Ty W' A e n := fun hn ad ha => by
 obtain ⟨cs, fr, h1⟩ := h hn ad ha
 exact ⟨cs, fr, (hb.block _ (Array.getElem?_eq_some_iff.1 h1).1).trans h1⟩
theorem Ty.of_R {α : Type} {K : Kd α} {W : World} {base e n c : Nat} {A : Option Addr} {l : List α} (h : K.R e W base (fun _ => True) (.slice A n c) l) : Ty W A e n := fun hn ad ha => by
 subst ha
 obtain ⟨rfl, _⟩ := Kd.R_reads' h
 obtain ⟨g, cap, e1, _⟩ := Kd.R_form h hn
 injection e1 with e2 _ _
 injection e2 with e2
 subst e2
 obtain ⟨cs, h1⟩ := Kd.R_typed h g rfl
 exact ⟨cs, _, h1⟩
def MacV (W : World) (m : MacP) (v : Value) : Prop := ∃ Ap cp Ab cb, v = .agg #[.string m.nm, .bool m.fn, .slice Ap m.params.length cp, .bool m.more, .slice Ab m.body.length cb] ∧ Kd.C Kd.string W Ap m.params.length m.params ∧ m.params.length ≤ cp ∧ Kd.C k55 W Ab m.body.length m.body ∧ m.body.length ≤ cb ∧ Ty W Ap 9 m.params.length ∧ Ty W Ab 55 m.body.length
theorem MacV.below {W W' : World} {m : MacP} {v : Value} (h : MacV W m v) (hb : Below W.heap.size W W') : MacV W' m v := by
 obtain ⟨Ap, cp, Ab, cb, e, h1, h2, h3, h4, h5, h6⟩ := h
 exact ⟨Ap, cp, Ab, cb, e, Kd.C_below h1 hb, h2, Kd.C_below h3 hb, h4, h5.below hb, h6.below hb⟩
structure TabR (W : World) (p mb n : Nat) (T : List UInt8 → Option MacP) : Prop where
 hp : W.heap[p]? = some (.cells #[.map (some mb)] 53 (0, 0))
 hm : ∃ f, MapF Tryz.prog 9 Lit.string W mb n f ∧ ∀ y, (match T y with | none => f y = none | some m => ∃ v, f y = some v ∧ MacV W m v)
theorem TabR.below {W W' : World} {p mb n : Nat} {T : List UInt8 → Option MacP} (h : TabR W p mb n T) (hb : Below W.heap.size W W') : TabR W' p mb n T := by
 obtain ⟨f, h1, h2⟩ := h.hm
 refine ⟨(hb.block _ (blk_lt h.hp)).trans h.hp, f, h1.block (hb.block _ h1.lt), fun y => ?_⟩
 have := h2 y
 cases hT : T y with
 | none => rw [hT] at this; exact this
 | some m =>
  rw [hT] at this
  obtain ⟨v, e, hv⟩ := this
  exact ⟨v, e, hv.below hb⟩
set_option maxHeartbeats 400000 in
theorem new_c (w : World) : Calls Tryz.prog 5 #[] w fun e w' => ∃ p mb, e = .returned (.pointer (some ⟨p, 0, none⟩)) ∧ TabR w' p mb 0 (fun _ => none) ∧ w.heap.size ≤ mb ∧ Below w.heap.size w w' := by
 have hmm := @run_makeMap Tryz.prog
 go_enter Tryz.func5, Tryz.ntmps5
 go_wp2
 go_ret
 have hb1 : Below w.heap.size w (w.alloc (.map #[] 0)) := (Below.refl _ w).alloc (Nat.le_refl _) _
 have hm := MapF.made w Tryz.prog 9 Lit.string
 have hs := World.size_alloc w (.map #[] 0)
 refine ⟨_, _, rfl, ⟨?_, _, hm.block (((Below.refl _ _).alloc (Nat.le_refl _) _).block _ hm.lt), fun _ => rfl⟩, Nat.le_refl _, hb1.alloc hb1.size _⟩
 have := blk_new (w.alloc (.map #[] 0)) (.cells #[.map (some w.heap.size)] 53)
 rw [hs] at this
 exact this
theorem zero32 (w : World) : (zeroValue 33).run Tryz.prog w = .ok (.agg #[.string ⟨#[]⟩, .bool false, .slice none 0 0, .bool false, .slice none 0 0]) w := by kernel_rfl
def GotM (W : World) (base : Nat) (o : Option MacP) (v : Value) : Prop :=
 match o with
 | none => ∃ A c A' c', v = .agg #[.string ⟨#[]⟩, .bool false, .slice A 0 c, .bool false, .slice A' 0 c']
 | some m => ∃ v2 v4, v = .agg #[.string m.nm, .bool m.fn, v2, .bool m.more, v4] ∧ Kd.string.R 9 W base (fun _ => True) v2 m.params ∧ Kd.R k55 55 W base (fun _ => True) v4 m.body
theorem get5 {W : World} {B : Nat} {A : Value} {cs : Array Value} {rest : List Value} {t1 t2 t3 v0 v1 v2 v3 v4 : Value} {b : Bool} {R : Ending → World → Prop} (h : W.heap[B]? = some (.cells cs 33 (0, 0))) (hs : cs.size = 5)
  (hR : R (.returned (.tuple #[.agg #[v0, v1, v2, v3, v4], .bool b])) (set5 W B v0 v1 v2 v3 v4)) :
  bodyPost Tryz.prog Tryz.f12 R .ret { tmps := (A :: t1 :: t2 :: t3 :: .pointer (some ⟨B, 0, none⟩) :: .bool b :: rest).toArray, defers := [] } (set5 W B v0 v1 v2 v3 v4) := by
 obtain ⟨h1, h2, _⟩ := put5 h hs v0 v1 v2 v3 v4
 refine bodyPost_ret (results_ct rfl _ _ B 33 _ (0, 0) _ (by simp) h1 Tryz.underlying33 rfl (by kernel_rfl)) rfl ?_
 simpa using hR
theorem own_zero (w : World) : Calls Tryz.prog 24 #[.agg #[.string ⟨#[]⟩, .bool false, .slice none 0 0, .bool false, .slice none 0 0]] w fun e w' => ∃ v2 v4, e = .returned (.agg #[.string ⟨#[]⟩, .bool false, v2, .bool false, v4]) ∧ Kd.string.R 9 w' w.heap.size (fun _ => True) v2 [] ∧ Kd.R k55 55 w' w.heap.size (fun _ => True) v4 [] ∧ Below w.heap.size w w' :=
 own_c ⟨#[]⟩ false false none none 0 0 [] [] w (by simp) (by simp) ⟨rfl, Nat.zero_le _, fun h => absurd h (by simp)⟩ (Nat.le_refl _) ⟨rfl, Nat.zero_le _, fun h => absurd h (by simp)⟩ (Nat.le_refl _)
theorem law68 : Tryz.prog.underlying 51 = some (.map 9 33) := Tryz.underlying51
set_option maxHeartbeats 1000000 in
theorem get_c (p mb n : Nat) (T : List UInt8 → Option MacP) (nm : ByteArray) (hnm : nm.size < maxLen) (w : World) (h : TabR w p mb n T) (hsz : ∀ y m, T y = some m → m.params.length ≤ 2000000 ∧ m.body.length ≤ 1000000) :
  Calls Tryz.prog 12 #[.pointer (some ⟨p, 0, none⟩), .string nm] w fun e w' => ∃ v, e = .returned (.tuple #[v, .bool (T nm.data.toList).isSome]) ∧ GotM w' w.heap.size (T nm.data.toList) v ∧ Below w.heap.size w w' := by
 obtain ⟨B, hBw⟩ : ∃ B, w.heap.size = B := ⟨_, rfl⟩
 have hko := Go.WideMaps.keyOf_string_mk (s := nm) Tryz.underlying9 (by unfold maxLen at *; omega)
 obtain ⟨W0, hW0⟩ : ∃ W0, w.alloc (.cells #[.string ⟨#[]⟩, .bool false, .slice none 0 0, .bool false, .slice none 0 0] 33) = W0 := ⟨_, rfl⟩
 have hb0 : Below w.heap.size w W0 := by rw [← hW0]; exact (Below.refl _ w).alloc (Nat.le_refl _) _
 have qB : W0.heap[B]? = some (.cells #[.string ⟨#[]⟩, .bool false, .slice none 0 0, .bool false, .slice none 0 0] 33 (0, 0)) := by rw [← hW0, ← hBw]; exact blk_new w _
 have h0 := h.below hb0
 have cp := bC h0.hp 0
 obtain ⟨f, hf, hT⟩ := h0.hm
 have hlk := hf.look_ok law9 law68 (zero32 _) hko
 go_enter Tryz.func12, Tryz.ntmps12
 refine wp_seq_k fun K1 hK1 => ?_
 have HK1 := Lib.hid hK1
 clear hK1
 go_wp2
 refine HK1.out _ _ ?_
 clear HK1
 try rw [hW0]
 try rw [hBw]
 have hTn := hT nm.data.toList
 have HX := Lib.hid (And.intro qB (And.intro hb0 h0))
 clear qB hb0 h0 hT hW0 h hf
 cases hTT : T nm.data.toList with
 | none =>
  rw [hTT] at hTn
  have hTn : f nm.data.toList = none := hTn
  rw [hTn] at hlk
  have hlk : (Instr.lookup 51 (.map (some mb)) (.string nm) true).run Tryz.prog W0 = .ok (.tuple #[.agg #[.string ⟨#[]⟩, .bool false, .slice none 0 0, .bool false, .slice none 0 0], .bool false]) W0 := hlk
  go_wp2_with (go_at_call 24; have hbA := (Below.refl W0.heap.size W0).alloc (Nat.le_refl _) (.cells #[.string ⟨#[]⟩, .bool false, .slice none 0 0, .bool false, .slice none 0 0] 33); refine (own_zero _).mono ?_; rintro e W2 ⟨v2, v4, rfl, hR2, hR4, hb2⟩; obtain ⟨A2, k2, rfl⟩ := Kd.R_slice hR2; obtain ⟨A4, k4, rfl⟩ := Kd.R_slice hR4; have hb3 := hbA.trans (hb2.mono hbA.size); have q2 := (hb3.block _ (blk_lt HX.out.1)).trans HX.out.1; have b0 := bC q2 0; have b1 := bC q2 1; have b2 := bC q2 2; have b3 := bC q2 3; have b4 := bC q2 4; have z0 := frz_blk q2 0; have z1 := frz_blk q2 1; have z2 := frz_blk q2 2; have z3 := frz_blk q2 3; have z4 := frz_blk q2 4; have H2 := Lib.hid (And.intro q2 (And.intro (HX.out.2.1.trans (hb3.mono HX.out.2.1.size)) (And.intro (Kd.R_lower hR2 hbA.size) (Kd.R_lower hR4 hbA.size)))); clear hbA hb2 hb3 q2 hR2 hR4)
  refine get5 H2.out.1 rfl ?_
  obtain ⟨_, p2, p3⟩ := put5 H2.out.1 rfl (.string ⟨#[]⟩) (.bool false) (.slice A2 0 k2) (.bool false) (.slice A4 0 k4)
  refine ⟨_, rfl, ⟨_, _, _, _, rfl⟩, ?_⟩
  have hb := H2.out.2.1
  rw [hBw] at hb
  exact hb.trans p2
 | some m =>
  rw [hTT] at hTn
  obtain ⟨v, hv, hMV⟩ := hTn
  obtain ⟨Ap, cq, Ab, cb, rfl, hP, hpc, hB, hbc, _, _⟩ := hMV
  rw [hv] at hlk
  have hlk : (Instr.lookup 51 (.map (some mb)) (.string nm) true).run Tryz.prog W0 = .ok (.tuple #[.agg #[.string m.nm, .bool m.fn, .slice Ap m.params.length cq, .bool m.more, .slice Ab m.body.length cb], .bool true]) W0 := hlk
  obtain ⟨s1, s2⟩ := hsz _ m hTT
  have HM := Lib.hid (And.intro hP (And.intro hB (And.intro s1 s2)))
  clear hP hB s1 s2 hv
  go_wp2_with (go_at_call 24; have hbA := (Below.refl W0.heap.size W0).alloc (Nat.le_refl _) (.cells #[.string m.nm, .bool m.fn, .slice Ap m.params.length cq, .bool m.more, .slice Ab m.body.length cb] 33); refine (own_c m.nm m.fn m.more Ap Ab cq cb m.params m.body _ HM.out.2.2.1 HM.out.2.2.2 (Kd.C_alloc HM.out.1 _) hpc (Kd.C_alloc HM.out.2.1 _) hbc).mono ?_; rintro e W2 ⟨v2, v4, rfl, hR2, hR4, hb2⟩; obtain ⟨A2, k2, rfl⟩ := Kd.R_slice hR2; obtain ⟨A4, k4, rfl⟩ := Kd.R_slice hR4; have hb3 := hbA.trans (hb2.mono hbA.size); have q2 := (hb3.block _ (blk_lt HX.out.1)).trans HX.out.1; have b0 := bC q2 0; have b1 := bC q2 1; have b2 := bC q2 2; have b3 := bC q2 3; have b4 := bC q2 4; have z0 := frz_blk q2 0; have z1 := frz_blk q2 1; have z2 := frz_blk q2 2; have z3 := frz_blk q2 3; have z4 := frz_blk q2 4; have H2 := Lib.hid (And.intro q2 (And.intro (HX.out.2.1.trans (hb3.mono HX.out.2.1.size)) (And.intro (Kd.R_lower hR2 hbA.size) (Kd.R_lower hR4 hbA.size)))); clear hbA hb2 hb3 q2 hR2 hR4)
  refine get5 H2.out.1 rfl ?_
  obtain ⟨_, p2, p3⟩ := put5 H2.out.1 rfl (.string m.nm) (.bool m.fn) (.slice A2 m.params.length k2) (.bool m.more) (.slice A4 m.body.length k4)
  have hb := H2.out.2.1
  have hw0 : B + 1 ≤ W0.heap.size := blk_lt HX.out.1
  refine ⟨_, rfl, ⟨_, _, rfl, Kd.R_lower (R_high H2.out.2.2.1 (fun k hk _ => p3 k (by omega))) (by have := HX.out.2.1.size; omega), Kd.R_lower (R_high H2.out.2.2.2 (fun k hk _ => p3 k (by omega))) (by have := HX.out.2.1.size; omega)⟩, ?_⟩
  rw [hBw] at hb
  exact hb.trans p2
end Go.Proofs.YtcbfbefpbjmglaaGreatDoor.Mac
namespace Go.Proofs.YtcbfbefpbjmglaaGreatDoor.Mac
open Go.RowKit MapFun PA YtcbfbefpbjmglaaGreatDoorT YtcbfbefpbjmglaaGreatDoorW PrintWords PrintLast PrintMore
attribute [local go_sem] Oper.semAt_some
theorem turned_other {W W' : World} {b i : Nat} {cs : Array Value} {ty : TypeId} {fr : Nat × Nat} (ht : W.mapTurned W' b) (h : W.heap[i]? = some (.cells cs ty fr)) : W'.heap[i]? = some (.cells cs ty fr) := by
 obtain ⟨es, ck, _, _, hb, _⟩ := id ht
 obtain ⟨_, _, _, _, hg⟩ := ht.grown
 rw [hg i (blk_lt h) (fun e => by cases e; rw [hb] at h; cases h)]
 exact h
theorem cell_turned {W W' : World} {b : Nat} {a : Addr} {u : Value} (ht : W.mapTurned W' b) (h : W.cell? a = some u) : W'.cell? a = some u := by
 obtain ⟨es, ck, _, _, hb, _⟩ := id ht
 have hlt := cl W a h
 rw [← h]
 obtain ⟨_, _, _, _, hg⟩ := ht.grown
 refine World.cell?_of_block (hg _ hlt (fun e => ?_))
 cases e
 unfold World.cell? at h
 rw [hb] at h
 cases h
theorem C_turned {α : Type} {K : Kd α} {W W' : World} {A : Option Addr} {n b : Nat} {l : List α} (hK : ∀ p c, K.K W p c → K.K W' p c) (h : Kd.C K W A n l) (ht : W.mapTurned W' b) : Kd.C K W' A n l := by
 refine ⟨h.1, h.2.1, fun hn => ?_⟩
 obtain ⟨ad, ha, hr⟩ := h.2.2 hn
 refine ⟨ad, ha, fun j p hj => ?_⟩
 obtain ⟨c, h1, h2, h3⟩ := hr j p hj
 exact ⟨c, h1, hK _ _ h2, fun i u hu => cell_turned ht (h3 i u hu)⟩
theorem Cs_turned {W W' : World} {A : Option Addr} {n b : Nat} {l : List ByteArray} (h : Kd.C Kd.string W A n l) (ht : W.mapTurned W' b) : Kd.C Kd.string W' A n l := C_turned (W := W) (W' := W') (fun _ _ h => h) h ht
theorem Ck_turned {W W' : World} {A : Option Addr} {n b : Nat} {l : List S55} (h : Kd.C k55 W A n l) (ht : W.mapTurned W' b) : Kd.C k55 W' A n l := C_turned (W := W) (W' := W') (fun _ _ h => h) h ht
theorem Ty.turned {W W' : World} {A : Option Addr} {e n b : Nat} (h : Ty W A e n) (ht : W.mapTurned W' b) : Ty W' A e n := fun hn ad ha => by
 obtain ⟨cs, fr, h1⟩ := h hn ad ha
 exact ⟨cs, fr, turned_other ht h1⟩
theorem MacV.turned {W W' : World} {b : Nat} {m : MacP} {v : Value} (h : MacV W m v) (ht : W.mapTurned W' b) : MacV W' m v := by
 obtain ⟨Ap, cp, Ab, cb, e, h1, h2, h3, h4, h5, h6⟩ := h
 exact ⟨Ap, cp, Ab, cb, e, Cs_turned h1 ht, h2, Ck_turned h3 ht, h4, h5.turned ht, h6.turned ht⟩
set_option maxHeartbeats 2000000 in
theorem define_new (p mb n : Nat) (T : List UInt8 → Option MacP) (nm : ByteArray) (fn more : Bool) (Ap Ab : Option Addr) (cp cb : Nat) (ps : List ByteArray) (body : List S55) (w : World) (hT : Tab w) (hd : DomM nm ps body) (h : TabR w p mb n T) (hr : rightP nm fn ps more body = true) (hnew : T nm.data.toList = none) (hn : n < 1000)
  (hP : Kd.C Kd.string w Ap ps.length ps) (hpc : ps.length ≤ cp) (hB : Kd.C k55 w Ab body.length body) (hbc : body.length ≤ cb) :
  Calls Tryz.prog 8 #[.pointer (some ⟨p, 0, none⟩), .agg #[.string nm, .bool fn, .slice Ap ps.length cp, .bool more, .slice Ab body.length cb]] w fun e w' => e = .returned (.int .i64 0) ∧ TabR w' p mb (n + 1) (fun y => if y = nm.data.toList then some ⟨nm, fn, ps, more, body⟩ else T y) ∧ ∃ w1, Below w.heap.size w w1 ∧ w1.mapTurned w' mb := by
 obtain ⟨B, hBw⟩ : ∃ B, w.heap.size = B := ⟨_, rfl⟩
 have hko := Go.WideMaps.keyOf_string_mk (s := nm) Tryz.underlying9 (by have := hd.1; unfold maxLen; omega)
 go_enter Tryz.func8, Tryz.ntmps8
 refine wp_seq_k fun K1 hK1 => ?_
 have HK1 := Lib.hid hK1
 clear hK1
 go_wp2
 refine HK1.out _ _ ?_
 clear HK1
 obtain ⟨W0, hW0⟩ : ∃ W0, w.alloc (.cells #[.string nm, .bool fn, .slice Ap ps.length cp, .bool more, .slice Ab body.length cb] 33) = W0 := ⟨_, rfl⟩
 have hb0 : Below w.heap.size w W0 := by rw [← hW0]; exact (Below.refl _ w).alloc (Nat.le_refl _) _
 have qA : W0.heap[B]? = some (.cells #[.string nm, .bool fn, .slice Ap ps.length cp, .bool more, .slice Ab body.length cb] 33 (0, 0)) := by rw [← hW0, ← hBw]; exact blk_new w _
 rw [hW0]
 try rw [hBw]
 have h0 := h.below hb0
 have FA : ∀ W, Below W0.heap.size W0 W → W.heap[B]? = some (.cells #[.string nm, .bool fn, .slice Ap ps.length cp, .bool more, .slice Ab body.length cb] 33 (0, 0)) := fun W hb => (hb.block _ (blk_lt qA)).trans qA
 have FP := Lib.hid fun (W : World) (hb : Below W0.heap.size W0 W) => (h0.below hb).hp
 obtain ⟨f, hf, hTf⟩ := h0.hm
 have hfn : f nm.data.toList = none := by have := hTf nm.data.toList; rw [hnew] at this; exact this
 have HMF := Lib.hid fun (W : World) (hb : Below W0.heap.size W0 W) => hf.block (hb.block _ hf.lt)
 have HLK : Hid (∀ W : World, Below W0.heap.size W0 W → (Instr.lookup 51 (.map (some mb)) (.string nm) true).run Tryz.prog W = .ok (.tuple #[.agg #[.string ⟨#[]⟩, .bool false, .slice none 0 0, .bool false, .slice none 0 0], .bool false]) W) := Lib.hid fun (W : World) (hb : Below W0.heap.size W0 W) => by
  have := (HMF.out W hb).look_ok law9 law68 (zero32 _) hko
  rw [hfn] at this
  exact this
 have HLN : Hid (∀ W : World, Below W0.heap.size W0 W → (Builtin.len_ #[51] 3 #[.map (some mb)]).run Tryz.prog W = .ok (.int .i64 n) W) := Lib.hid fun (W : World) (hb : Below W0.heap.size W0 W) => (HMF.out W hb).len law68 3
 have HKO := Lib.hid hko
 have HN := Lib.hid (show n < maxLen by unfold maxLen; omega)
 have HP0 := Kd.C_below hP hb0
 have HB0 := Kd.C_below hB hb0
 have hrc := right_c nm fn more Ap Ab cp cb ps body W0 (hT.grow hb0) hd HP0 hpc HB0 hbc
 rw [hr] at hrc
 have HC43 := Lib.hid fun (W : World) (hb : Below W0.heap.size W0 W) => own_c nm fn more Ap Ab cp cb ps body W hd.2.1 hd.2.2.1 (Kd.C_below HP0 hb) hpc (Kd.C_below HB0 hb) hbc
 have HX := Lib.hid (And.intro hrc (And.intro hb0 (And.intro h0 (And.intro hTf (And.intro hnew hfn)))))
 have hbr : Below W0.heap.size W0 W0 := Below.refl _ _
 have ca0 := bC qA 0
 have ca1 := bC qA 1
 have ca2 := bC qA 2
 have ca3 := bC qA 3
 have ca4 := bC qA 4
 have hn1 : ((n : Int) == 1000) = false := beq_eq_false_iff_ne.2 (by omega)
 clear hrc hb0 h0 hTf hnew hfn hf hW0 hP hB HP0 HB0 hT h hko qA hbr hr
 go_upto_region 5 with (go_at_call 21; refine HX.out.1.mono ?_; rintro e W4 ⟨rfl, hb4⟩; have H4 := Lib.hid hb4; clear hb4 ca0 ca1 ca2 ca3 ca4)
 have H4d := Lib.hid (below_drew H4.out)
 have ca0 := bC (FA _ H4.out) 0
 have cp0 := bC (FP.out _ H4.out) 0
 refine start_ (n := 13) (S := fun w' => w'.cell? ⟨p, 0, none⟩ = some (.map (some mb)) ∧ w'.cell? ⟨B, 0, none⟩ = some (.string nm) ∧ (Instr.lookup 51 (.map (some mb)) (.string nm) true).run Tryz.prog w' = .ok (.tuple #[.agg #[.string ⟨#[]⟩, .bool false, .slice none 0 0, .bool false, .slice none 0 0], .bool false]) w') (ds := [11]) (fl 0 13) (by kernel_rfl) rfl rfl ⟨cp0, ca0, (HLK.out _ H4d.out)⟩ (fun hHeld => ?_)
 refine pu 0 15 (fl 1 12) ?_
 refine pu 1 16 (fl 2 11) ?_
 refine pu 2 17 (fl 3 10) ?_
 refine pu 4 19 #[true, true, true, false, true, false, false, false, false, false, false, false, false] ?_
 refine tk 3 18 (fl 5 8) rfl rfl hHeld (by rintro w' ⟨s0, s1, s2⟩; go_simp; with_reducible rfl) ?_
 refine tk 5 20 (fl 6 7) rfl rfl hHeld (by rintro w' ⟨s0, s1, s2⟩; go_simp; with_reducible rfl) ?_
 refine tk 6 21 (fl 7 6) rfl rfl hHeld (by rintro w' ⟨s0, s1, s2⟩; go_simp; with_reducible rfl) ?_
 refine pu 7 14 (fl 8 5) ?_
 refine pu 8 22 (fl 9 4) ?_
 refine pu 9 23 (fl 10 3) ?_
 refine one_ (i := 10) (N := some 5) (fl 11 2) rfl rfl (by kernel_rfl) (by decide) (fun K hK => ?_)
 refine value_ (w1 := ?_) (v := ?_) (by rfl) rfl ?_ ?_
 rotate_left 2
 ·go_simp
  constructor
  ·rfl
  ·rfl
 refine hK.out _ _ ⟨(cell_al cp0 _), (cell_al ca0 _), (HLK.out _ (H4d.out.alloc H4d.out.size _))⟩ (fun hHeld => ?_)
 clear hK K
 refine norm_ (a' := ?_) ?_ ?_
 rotate_left
 ·show Act.put _ (some 5) _ = _
  simp only [Act.put, sT, sZ, sS, i64_w, i32_w]
  rfl
 refine last_ (i := 11) (N := none) (fl 12 1) rfl rfl (by kernel_rfl) (by decide) (fun K hK => ?_)
 refine skip_ (w1 := ?_) (by rfl) rfl ?_ ?_
 rotate_left
 ·go_simp
  rfl
 refine hK.out _ _ ?_
 clear hK K
 refine pu 12 6 (fl 13 0) ?_
 refine done_ (by kernel_rfl) ?_

 have H5 := Lib.hid (below_drew (H4.out.alloc H4.out.size (.cells #[.string ⟨#[]⟩, .bool false, .slice none 0 0, .bool false, .slice none 0 0] 33)))
 obtain ⟨W5, hW5⟩ : ∃ W5, (W4.alloc (.cells #[.string ⟨#[]⟩, .bool false, .slice none 0 0, .bool false, .slice none 0 0] 33)).drew = W5 := ⟨_, rfl⟩
 rw [hW5] at H5 ⊢
 clear ca0 cp0 hW5
 have hln := HLN.out _ H5.out
 have cp0 := bC (FP.out _ H5.out) 0
 go_upto_region 12 with (fail)
 have H6d := Lib.hid (below_drew H5.out)
 have d0 := bC (FP.out _ H5.out) 0
 have e0 := bC (FA _ H5.out) 0
 have e1 := bC (FA _ H5.out) 1
 have e2 := bC (FA _ H5.out) 2
 have e3 := bC (FA _ H5.out) 3
 have e4 := bC (FA _ H5.out) 4
 refine start_ (n := 9) (S := fun w' => w'.cell? ⟨p, 0, none⟩ = some (.map (some mb)) ∧ w'.cell? ⟨B, 0, none⟩ = some (.string nm) ∧ w'.cell? ⟨B, 1, none⟩ = some (.bool fn) ∧ w'.cell? ⟨B, 2, none⟩ = some (.slice Ap ps.length cp) ∧ w'.cell? ⟨B, 3, none⟩ = some (.bool more) ∧ w'.cell? ⟨B, 4, none⟩ = some (.slice Ab body.length cb)) (ds := [8]) (fl 0 9) (by kernel_rfl) rfl rfl ⟨d0, e0, e1, e2, e3, e4⟩ (fun hHeld => ?_)
 refine pu 0 35 (fl 1 8) ?_
 refine pu 1 36 (fl 2 7) ?_
 refine pu 2 37 (fl 3 6) ?_
 refine pu 4 39 #[true, true, true, false, true, false, false, false, false] ?_
 refine tk 3 38 (fl 5 4) rfl rfl hHeld (by rintro w' ⟨s0, s1, s2, s3, s4, s5⟩; go_simp; with_reducible rfl) ?_
 refine tk 5 40 (fl 6 3) rfl rfl hHeld (by rintro w' ⟨s0, s1, s2, s3, s4, s5⟩; go_simp; with_reducible rfl) ?_
 refine tk 6 41 (fl 7 2) rfl rfl hHeld (by rintro w' ⟨s0, s1, s2, s3, s4, s5⟩; go_simp; with_reducible rfl) ?_
 refine one_ (i := 7) (N := some 42) (fl 8 1) rfl rfl (by kernel_rfl) (by decide) (fun K hK => ?_)
 refine goes_ Tryz.func24 (by kernel_rfl) rfl #[.agg #[.string nm, .bool fn, .slice Ap ps.length cp, .bool more, .slice Ab body.length cb]] (by rfl) rfl rfl (by simp only [List.map_toArray, List.map_cons, List.map_nil]; rfl) ?_
 with_reducible refine (HC43.out _ H6d.out).mono ?_
 rintro e w8 ⟨v2, v4, rfl, hR2, hR4, hb8⟩
 refine ⟨_, rfl, ?_⟩
 obtain ⟨A2, k2, rfl⟩ := Kd.R_slice hR2
 obtain ⟨A4, k4, rfl⟩ := Kd.R_slice hR4
 have hb8 := H6d.out.trans (hb8.mono H6d.out.size)
 have hm8 := HMF.out _ hb8
 obtain ⟨w9, hrun9, hm9, ht9⟩ := hm8.store (val := .agg #[.string nm, .bool fn, .slice A2 ps.length k2, .bool more, .slice A4 body.length k4]) strEmb law9 law68 HN.out HKO.out
 have H8 := Lib.hid (And.intro hb8 (And.intro hm9 (And.intro ht9 (And.intro hR2 hR4))))
 refine hK.out _ _ ⟨(bC (FP.out _ hb8) 0), (bC (FA _ hb8) 0), (bC (FA _ hb8) 1), (bC (FA _ hb8) 2), (bC (FA _ hb8) 3), (bC (FA _ hb8) 4)⟩ (fun hHeld => ?_)
 clear hK K
 refine norm_ (a' := ?_) ?_ ?_
 rotate_left
 ·show Act.put _ (some 42) _ = _
  simp only [Act.put, sT, sZ, sS, i64_w, i32_w]
  rfl
 refine last_ (i := 8) (N := none) (fl 9 0) rfl rfl (by kernel_rfl) (by decide) (fun K hK => ?_)
 refine skip_ (w1 := w9) (by rfl) rfl ?_ ?_
 ·go_simp
 refine hK.out _ _ ?_
 clear hK K
 refine done_ (by kernel_rfl) ?_

 go_wp2
 go_ret
 obtain ⟨hb8, hm9, ht9, hR2, hR4⟩ := H8.out
 obtain ⟨hfT, hTn, hfn⟩ : (∀ y, (match T y with | none => f y = none | some m => ∃ v, f y = some v ∧ MacV W0 m v)) ∧ T nm.data.toList = none ∧ f nm.data.toList = none := ⟨HX.out.2.2.2.1, HX.out.2.2.2.2.1, HX.out.2.2.2.2.2⟩
 have hbw := HX.out.2.1
 rw [hBw] at hbw
 have hbs := hbw.size
 rw [hBw] at hbs
 rw [hfn] at hm9
 refine ⟨rfl, ⟨(turned_other ht9 (FP.out _ hb8)), _, hm9, fun y => ?_⟩, w8, hbw.trans (hb8.mono hbs), ht9⟩
 by_cases hy : y = nm.data.toList
 ·subst hy
  simp only [if_pos rfl]
  refine ⟨_, if_pos rfl, A2, k2, A4, k4, rfl, Cs_turned (Kd.R_reads' hR2).2.2 ht9, (Kd.R_reads' hR2).2.1, Ck_turned (Kd.R_reads' hR4).2.2 ht9, (Kd.R_reads' hR4).2.1, (Ty.of_R hR2).turned ht9, (Ty.of_R hR4).turned ht9⟩
 ·have h1 := hfT y
  simp only [if_neg hy]
  have hup : upd f nm.data.toList (.agg #[.string nm, .bool fn, .slice A2 ps.length k2, .bool more, .slice A4 body.length k4]) y = f y := if_neg hy
  cases hTy : T y with
  | none => rw [hTy] at h1; exact hup.trans h1
  | some m =>
   rw [hTy] at h1
   obtain ⟨v, e, hv⟩ := h1
   exact ⟨v, hup.trans e, (hv.below hb8).turned ht9⟩
end Go.Proofs.YtcbfbefpbjmglaaGreatDoor.Mac
namespace Go.Proofs.YtcbfbefpbjmglaaGreatDoor.Mac
open Go.RowKit MapFun PA YtcbfbefpbjmglaaGreatDoorT YtcbfbefpbjmglaaGreatDoorW PrintWords PrintLast PrintMore
attribute [local go_sem] Oper.semAt_some
set_option maxHeartbeats 2000000 in
theorem define_wrong (p : Nat) (nm : ByteArray) (fn more : Bool) (Ap Ab : Option Addr) (cp cb : Nat) (ps : List ByteArray) (body : List S55) (w : World) (hT : Tab w) (hd : DomM nm ps body) (hr : rightP nm fn ps more body = false)
  (hP : Kd.C Kd.string w Ap ps.length ps) (hpc : ps.length ≤ cp) (hB : Kd.C k55 w Ab body.length body) (hbc : body.length ≤ cb) :
  Calls Tryz.prog 8 #[.pointer (some ⟨p, 0, none⟩), .agg #[.string nm, .bool fn, .slice Ap ps.length cp, .bool more, .slice Ab body.length cb]] w fun e w' => e = .returned (.int .i64 2) ∧ Below w.heap.size w w' := by
 obtain ⟨B, hBw⟩ : ∃ B, w.heap.size = B := ⟨_, rfl⟩
 go_enter Tryz.func8, Tryz.ntmps8
 refine wp_seq_k fun K1 hK1 => ?_
 have HK1 := Lib.hid hK1
 clear hK1
 go_wp2
 refine HK1.out _ _ ?_
 clear HK1
 obtain ⟨W0, hW0⟩ : ∃ W0, w.alloc (.cells #[.string nm, .bool fn, .slice Ap ps.length cp, .bool more, .slice Ab body.length cb] 33) = W0 := ⟨_, rfl⟩
 have hb0 : Below w.heap.size w W0 := by rw [← hW0]; exact (Below.refl _ w).alloc (Nat.le_refl _) _
 have qA : W0.heap[B]? = some (.cells #[.string nm, .bool fn, .slice Ap ps.length cp, .bool more, .slice Ab body.length cb] 33 (0, 0)) := by rw [← hW0, ← hBw]; exact blk_new w _
 rw [hW0]
 try rw [hBw]
 have HP0 := Kd.C_below hP hb0
 have HB0 := Kd.C_below hB hb0
 have hrc := right_c nm fn more Ap Ab cp cb ps body W0 (hT.grow hb0) hd HP0 hpc HB0 hbc
 rw [hr] at hrc
 have HX := Lib.hid (And.intro hrc hb0)
 have ca0 := bC qA 0
 have ca1 := bC qA 1
 have ca2 := bC qA 2
 have ca3 := bC qA 3
 have ca4 := bC qA 4
 clear hrc hb0 hW0 hP hB HP0 HB0 hT qA hr
 go_wp2_with (go_at_call 21; refine HX.out.1.mono ?_; rintro e W4 ⟨rfl, hb4⟩; have H4 := Lib.hid (HX.out.2.trans (hb4.mono HX.out.2.size)); clear hb4)
 go_ret
 exact ⟨rfl, hBw ▸ H4.out⟩
end Go.Proofs.YtcbfbefpbjmglaaGreatDoor.Mac
namespace Go.Proofs.YtcbfbefpbjmglaaGreatDoor.Mac
open Go.RowKit MapFun PA YtcbfbefpbjmglaaGreatDoorT
def nmB (m : MacP) : List UInt8 := m.nm.data.toList
def look (ms : List MacP) (y : List UInt8) : Option MacP := ms.find? (fun m => decide (nmB m = y))
theorem look_none {ms : List MacP} {y : List UInt8} : look ms y = none ↔ ∀ m ∈ ms, nmB m ≠ y := by
 unfold look
 rw [List.find?_eq_none]
 simp
theorem look_some {ms : List MacP} {y : List UInt8} {m : MacP} (h : look ms y = some m) : m ∈ ms ∧ nmB m = y := by
 unfold look at h
 exact ⟨List.mem_of_find?_eq_some h, by simpa using List.find?_some h⟩
theorem look_snoc (ms : List MacP) (m : MacP) (hn : look ms (nmB m) = none) : (fun y => if y = nmB m then some m else look ms y) = look (ms ++ [m]) := by
 funext y
 unfold look at hn ⊢
 rw [List.find?_append]
 by_cases hy : y = nmB m
 ·subst hy
  rw [if_pos rfl, hn]
  simp
 ·rw [if_neg hy]
  have : ([m] : List MacP).find? (fun m => decide (nmB m = y)) = none := by
   rw [List.find?_eq_none]; simp; exact fun h => hy h.symm
  rw [this]
  cases ms.find? (fun m => decide (nmB m = y)) <;> rfl
theorem look_mem {ms : List MacP} (hnd : (ms.map nmB).Nodup) {m : MacP} (hm : m ∈ ms) : look ms (nmB m) = some m := by
 induction ms with
 | nil => cases hm
 | cons a r ih =>
  rw [List.map_cons, List.nodup_cons] at hnd
  unfold look
  rcases List.mem_cons.1 hm with rfl | hm
  ·simp
  ·have hne : nmB a ≠ nmB m := fun e => hnd.1 (e ▸ List.mem_map_of_mem hm)
   rw [List.find?_cons_of_neg (by simpa using hne)]
   exact ih hnd.2 hm
theorem look_perm {ms ms' : List MacP} (hp : ms.Perm ms') (hnd : (ms.map nmB).Nodup) : look ms = look ms' := by
 have hnd' : (ms'.map nmB).Nodup := (hp.map nmB).nodup_iff.1 hnd
 funext y
 cases h : look ms y with
 | none =>
  rw [look_none] at h
  exact (look_none.2 fun m hm => h m (hp.mem_iff.2 hm)).symm
 | some m =>
  obtain ⟨h1, rfl⟩ := look_some h
  exact (look_mem hnd' (hp.mem_iff.1 h1)).symm
theorem look_isSome {ms : List MacP} {y : List UInt8} : y ∈ ms.map nmB ↔ (look ms y).isSome = true := by
 cases h : look ms y with
 | none =>
  rw [look_none] at h
  simp only [Option.isSome_none, Bool.false_eq_true, iff_false]
  intro hm
  obtain ⟨m, h1, h2⟩ := List.mem_map.1 hm
  exact h m h1 h2
 | some m =>
  obtain ⟨h1, rfl⟩ := look_some h
  simp only [Option.isSome_some, iff_true]
  exact List.mem_map_of_mem h1
theorem TabR.keys {W : World} {p mb n : Nat} {ms : List MacP} (h : TabR W p mb n (look ms)) (hnd : (ms.map nmB).Nodup) : ∃ D : DataW Value, W.ownsMap Tryz.prog 9 heldR mb n D ∧ Maps.size D = n ∧ (ms.map nmB).Perm (strKeys D) := by
 obtain ⟨f, ⟨D, h1, h2, h3⟩, hT⟩ := h.hm
 refine ⟨D, h1, h2, ?_⟩
 obtain ⟨es, hD, hpw, _⟩ := h1.entries law9
 obtain ⟨es', hD', hko⟩ := h1.keysOf
 obtain rfl : es = es' := by rw [hD] at hD'; simpa using hD'
 subst hD
 refine perm_strKeys hpw (fun p hp => by obtain ⟨v, hv⟩ := hko p hp; obtain ⟨x, _, hx, _⟩ := Maps.keyOf_str Tryz.underlying9 hv; exact ⟨x, hx⟩) hnd (fun y => ?_)
 rw [look_isSome, (h3 y).1]
 have := hT y
 cases hl : look ms y with
 | none => rw [hl] at this; rw [show f y = none from this]; simp
 | some m => rw [hl] at this; obtain ⟨v, e, _⟩ := this; rw [e]; simp
theorem TabR.turnedO {W W' : World} {p mb mb' n : Nat} {T : List UInt8 → Option MacP} (h : TabR W p mb n T) (ht : W.mapTurned W' mb') (hne : mb ≠ mb') : TabR W' p mb n T := by
 obtain ⟨f, h1, h2⟩ := h.hm
 obtain ⟨_, _, _, _, hg⟩ := ht.grown
 refine ⟨turned_other ht h.hp, f, h1.block (hg _ h1.lt (fun e => hne (by cases e; rfl))), fun y => ?_⟩
 have := h2 y
 cases hT : T y with
 | none => rw [hT] at this; exact this
 | some m =>
  rw [hT] at this
  obtain ⟨v, e, hv⟩ := this
  exact ⟨v, e, hv.turned ht⟩
end Go.Proofs.YtcbfbefpbjmglaaGreatDoor.Mac
namespace Go.Proofs.YtcbfbefpbjmglaaGreatDoor.Mac
open Go.RowKit Go.Maps Go.Sort Go.Shelf YtcbfbefpbjmglaaGreatDoorW.PrintWords MapFun PA YtcbfbefpbjmglaaGreatDoorT
set_option maxHeartbeats 1000000 in
theorem names_c (p mb n : Nat) (ms : List MacP) (w : World) (h : TabR w p mb n (look ms)) (hnd : (ms.map nmB).Nodup) (hn : n ≤ 1000) :
  Calls Tryz.prog 16 #[.pointer (some ⟨p, 0, none⟩)] w fun e w' => ∃ v, e = .returned v ∧ w'.ownsRow w.heap.size 9 1 v ms.length (((ms.map nmB).mergeSort (fun x y => decide (x ≤ y))).map encStr) ∧ Below w.heap.size w w' := by
 obtain ⟨D, hown, hsz, hperm⟩ := h.keys hnd
 have hp := bC h.hp 0
 have hmax : Maps.size D ≤ maxLen := by rw [hsz]; unfold maxLen; omega
 have hbytes : Maps.size D * 16 ≤ 140737488355328 := by rw [hsz]; omega
 refine (callsIn_wide (n := 6)).1 ?_
 have hfK : Fence.wide.fn 29 := trivial
 have hfS : Fence.wide.fn 28 := trivial
 refine callsIn_of_wp Tryz.func16 rfl trivial ?_ rfl
 simp only [Tryz.ntmps16, List.size_toArray, List.length_cons, List.length_nil, Nat.reduceAdd, Nat.reduceSub, Array.replicate_succ, Array.replicate_zero, List.push_toArray, List.append_toArray, List.nil_append, List.cons_append]
 gi_wp2_with (first
  | (gi_at_call 29; refine (Tryz.maps_Keys_29 _ _).mono ?_; rintro e w' ⟨rfl, rfl⟩)
  | (gi_at_call 28; refine (Tryz.slices_Sorted_keys_28_29 mb n D heldR w hown hmax hbytes).mono ?_; rintro e w' ⟨v, ss, rfl, hS, hrow, hnil, hb⟩))
 go_ret
 have hp2 : ss.Perm (ms.map nmB) := hS.trans hperm.symm
 have hl : ss.length = ms.length := by rw [hp2.length_eq, List.length_map]
 rw [mergeSort_of_perm hp2, hl] at hrow
 exact ⟨v, rfl, ownsRow_base_a hrow (by simp), ((Below.refl _ w).alloc (Nat.le_refl _) _).trans (hb.mono (by simp))⟩
end Go.Proofs.YtcbfbefpbjmglaaGreatDoor.Mac
