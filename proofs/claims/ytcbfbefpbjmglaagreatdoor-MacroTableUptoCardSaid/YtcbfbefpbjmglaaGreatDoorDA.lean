import Derived.Test.YtcbfbefpbjmglaaGreatDoorZ
import Derived.Test.YtcbfbefpbjmglaaGreatDoorSN2
import Derived.Test.YtcbfbefpbjmglaaGreatDoorRD
import Derived.Sort.Walk0
set_option maxRecDepth 100000
set_option linter.unusedSimpArgs false
set_option linter.unusedVariables false
namespace Go.Proofs.YtcbfbefpbjmglaaGreatDoor.Mac
open Go.RowKit MapFun PA YtcbfbefpbjmglaaGreatDoorT YtcbfbefpbjmglaaGreatDoorW PrintWords PrintLast PrintMore
attribute [local go_sem] Oper.semAt_some
set_option maxHeartbeats 2000000 in
theorem define_again (p mb n : Nat) (T : List UInt8 → Option MacP) (nm : ByteArray) (fn more : Bool) (Ap Ab : Option Addr) (cp cb : Nat) (ps : List ByteArray) (body : List S55) (m0 : MacP) (b : Bool) (w : World) (hT : Tab w) (hd : DomM nm ps body) (h : TabR w p mb n T) (hr : rightP nm fn ps more body = true) (hold : T nm.data.toList = some m0) (hd0 : DomM m0.nm m0.params m0.body) (hs : sameP m0.nm m0.fn m0.params m0.more m0.body nm fn ps more body = b)
  (hP : Kd.C Kd.string w Ap ps.length ps) (hpc : ps.length ≤ cp) (hB : Kd.C k55 w Ab body.length body) (hbc : body.length ≤ cb) :
  Calls Tryz.prog 8 #[.pointer (some ⟨p, 0, none⟩), .agg #[.string nm, .bool fn, .slice Ap ps.length cp, .bool more, .slice Ab body.length cb]] w fun e w' => e = .returned (.int .i64 (if b then 0 else 31)) ∧ Below w.heap.size w w' := by
 obtain ⟨B, hBw⟩ : ∃ B, w.heap.size = B := ⟨_, rfl⟩
 have hko := Go.WideMaps.keyOf_string_mk (s := nm) Tryz.underlying9 (by have := hd.1; unfold maxLen; omega)
 obtain ⟨nm0, fn0, ps0, more0, body0⟩ := m0
 simp only at hd0 hs
 go_enter Tryz.func8, Tryz.ntmps8
 refine wp_seq_k fun K1 hK1 => ?_
 have HK1 := Lib.hid hK1
 clear hK1
 go_wp2
 refine HK1.out _ _ ?_
 clear HK1
 obtain ⟨W0, hW0⟩ : ∃ W0, w.alloc (.cells #[.string nm, .bool fn, .slice Ap ps.length cp, .bool more, .slice Ab body.length cb] 33) = W0 := ⟨_, rfl⟩
 have hb0 : Below w.heap.size w W0 := by rw [← hW0]; exact (Below.refl _ w).alloc (Nat.le_refl _) _
 have qA : W0.heap[B]? = some (.cells #[.string nm, .bool fn, .slice Ap ps.length cp, .bool more, .slice Ab body.length cb] 33 (0, 0)) := by rw [← hW0, ← hBw]; exact blk_new w _
 rw [hW0]
 try rw [hBw]
 have h0 := h.below hb0
 have FA : ∀ W, Below W0.heap.size W0 W → W.heap[B]? = some (.cells #[.string nm, .bool fn, .slice Ap ps.length cp, .bool more, .slice Ab body.length cb] 33 (0, 0)) := fun W hb => (hb.block _ (blk_lt qA)).trans qA
 have FP := Lib.hid fun (W : World) (hb : Below W0.heap.size W0 W) => (h0.below hb).hp
 obtain ⟨f, hf, hTf⟩ := h0.hm
 have hfn := hTf nm.data.toList
 rw [hold] at hfn
 obtain ⟨v, hv, Ap0, cp0, Ab0, cb0, rfl, hP00, hpc0, hB00, hbc0, _, _⟩ := hfn
 simp only at hv hP00 hpc0 hB00 hbc0
 have HLK : Hid (∀ W : World, Below W0.heap.size W0 W → (Instr.lookup 51 (.map (some mb)) (.string nm) true).run Tryz.prog W = .ok (.tuple #[.agg #[.string nm0, .bool fn0, .slice Ap0 ps0.length cp0, .bool more0, .slice Ab0 body0.length cb0], .bool true]) W) := Lib.hid fun (W : World) (hb : Below W0.heap.size W0 W) => by
  have := (hf.block (hb.block _ hf.lt)).look_ok law9 law68 (zero32 _) hko
  rw [hv] at this
  exact this
 have HP0 := Kd.C_below hP hb0
 have HB0 := Kd.C_below hB hb0
 have hrc := right_c nm fn more Ap Ab cp cb ps body W0 (hT.grow hb0) hd HP0 hpc HB0 hbc
 rw [hr] at hrc
 have HSM := Lib.hid fun (W : World) (hb : Below W0.heap.size W0 W) => (show Calls Tryz.prog 23 #[.agg #[.string nm0, .bool fn0, .slice Ap0 ps0.length cp0, .bool more0, .slice Ab0 body0.length cb0], .agg #[.string nm, .bool fn, .slice Ap ps.length cp, .bool more, .slice Ab body.length cb]] W (BoolBelow b W) from hs ▸ same_c nm0 nm fn0 fn more0 more Ap0 Ab0 Ap Ab cp0 cb0 cp cb ps0 ps body0 body W ((hT.grow hb0).grow hb) hd0 hd (Kd.C_below hP00 hb) hpc0 (Kd.C_below hB00 hb) hbc0 (Kd.C_below HP0 hb) hpc (Kd.C_below HB0 hb) hbc)
 have HX := Lib.hid (And.intro hrc hb0)
 have hbr : Below W0.heap.size W0 W0 := Below.refl _ _
 have ca0 := bC qA 0
 have ca1 := bC qA 1
 have ca2 := bC qA 2
 have ca3 := bC qA 3
 have ca4 := bC qA 4
 clear hrc hb0 h0 hTf hv hf hW0 hP hB HP0 HB0 hT h hko qA hbr hr hold hs hP00 hpc0 hB00 hbc0 hd hd0
 go_upto_region 5 with (go_at_call 21; refine HX.out.1.mono ?_; rintro e W4 ⟨rfl, hb4⟩; have H4 := Lib.hid hb4; clear hb4 ca0 ca1 ca2 ca3 ca4)
 have H4d := Lib.hid (below_drew H4.out)
 have ca0 := bC (FA _ H4.out) 0
 have c0 := bC (FP.out _ H4.out) 0
 refine start_ (n := 13) (S := fun w' => w'.cell? ⟨p, 0, none⟩ = some (.map (some mb)) ∧ w'.cell? ⟨B, 0, none⟩ = some (.string nm) ∧ (Instr.lookup 51 (.map (some mb)) (.string nm) true).run Tryz.prog w' = .ok (.tuple #[.agg #[.string nm0, .bool fn0, .slice Ap0 ps0.length cp0, .bool more0, .slice Ab0 body0.length cb0], .bool true]) w') (ds := [11]) (fl 0 13) (by kernel_rfl) rfl rfl ⟨c0, ca0, (HLK.out _ H4d.out)⟩ (fun hHeld => ?_)
 refine pu 0 15 (fl 1 12) ?_
 refine pu 1 16 (fl 2 11) ?_
 refine pu 2 17 (fl 3 10) ?_
 refine pu 4 19 #[true, true, true, false, true, false, false, false, false, false, false, false, false] ?_
 refine tk 3 18 (fl 5 8) rfl rfl hHeld (by rintro w' ⟨s0, s1, s2⟩; go_simp; with_reducible rfl) ?_
 refine tk 5 20 (fl 6 7) rfl rfl hHeld (by rintro w' ⟨s0, s1, s2⟩; go_simp; with_reducible rfl) ?_
 refine tk 6 21 (fl 7 6) rfl rfl hHeld (by rintro w' ⟨s0, s1, s2⟩; go_simp; with_reducible rfl) ?_
 refine pu 7 14 (fl 8 5) ?_
 refine pu 8 22 (fl 9 4) ?_
 refine pu 9 23 (fl 10 3) ?_
 refine one_ (i := 10) (N := some 5) (fl 11 2) rfl rfl (by kernel_rfl) (by decide) (fun K hK => ?_)
 refine value_ (w1 := ?_) (v := ?_) (by rfl) rfl ?_ ?_
 rotate_left 2
 ·go_simp
  constructor
  ·rfl
  ·rfl
 refine hK.out _ _ ⟨(cell_al c0 _), (cell_al ca0 _), (HLK.out _ (H4d.out.alloc H4d.out.size _))⟩ (fun hHeld => ?_)
 clear hK K
 refine norm_ (a' := ?_) ?_ ?_
 rotate_left
 ·show Act.put _ (some 5) _ = _
  simp only [Act.put, sT, sZ, sS, i64_w, i32_w]
  rfl
 refine last_ (i := 11) (N := none) (fl 12 1) rfl rfl (by kernel_rfl) (by decide) (fun K hK => ?_)
 refine skip_ (w1 := ?_) (by rfl) rfl ?_ ?_
 rotate_left
 ·go_simp
  rfl
 refine hK.out _ _ ?_
 clear hK K
 refine pu 12 6 (fl 13 0) ?_
 refine done_ (by kernel_rfl) ?_
 obtain ⟨B5, hB5⟩ : ∃ B, W4.heap.size = B := ⟨_, rfl⟩
 obtain ⟨W5, hW5⟩ : ∃ W', (W4.alloc (.cells #[.string nm0, .bool fn0, .slice Ap0 ps0.length cp0, .bool more0, .slice Ab0 body0.length cb0] 33)).drew = W' := ⟨_, rfl⟩
 have q5 : W5.heap[B5]? = some (.cells #[.string nm0, .bool fn0, .slice Ap0 ps0.length cp0, .bool more0, .slice Ab0 body0.length cb0] 33 (0, 0)) := by rw [← hW5, ← hB5]; exact kD (blk_new W4 _)
 have hb5 : Below W0.heap.size W0 W5 := by rw [← hW5]; exact bD (H4.out.alloc H4.out.size _)
 try rw [hW5]
 try rw [hB5]
 have qA := FA _ hb5
 clear ca0 c0
 have a0 := bC qA 0
 have a1 := bC qA 1
 have a2 := bC qA 2
 have a3 := bC qA 3
 have a4 := bC qA 4
 have x0 := bC q5 0
 have x1 := bC q5 1
 have x2 := bC q5 2
 have x3 := bC q5 3
 have x4 := bC q5 4
 have H5 := Lib.hid hb5
 clear qA q5 hb5 hW5
 cases b with
 | true =>
  go_wp2_with (go_at_call 23; refine (HSM.out _ H5.out).mono ?_; rintro e W6 ⟨rfl, hb6⟩; have H6 := Lib.hid (H5.out.trans (hb6.mono H5.out.size)); clear hb6)
  go_ret
  exact ⟨rfl, by have hb := HX.out.2.trans (H6.out.mono HX.out.2.size); rw [hBw] at hb; exact hb⟩
 | false =>
  go_wp2_with (go_at_call 23; refine (HSM.out _ H5.out).mono ?_; rintro e W6 ⟨rfl, hb6⟩; have H6 := Lib.hid (H5.out.trans (hb6.mono H5.out.size)); clear hb6)
  go_ret
  exact ⟨rfl, by have hb := HX.out.2.trans (H6.out.mono HX.out.2.size); rw [hBw] at hb; exact hb⟩
set_option maxHeartbeats 1000000 in
theorem undef_c (p mb n : Nat) (T : List UInt8 → Option MacP) (nm : ByteArray) (w : World) (hnm : nm.size < maxLen) (h : TabR w p mb n T) :
  Calls Tryz.prog 10 #[.pointer (some ⟨p, 0, none⟩), .string nm] w fun e w' => e = .returned (.int .i64 0) ∧ TabR w' p mb (if (T nm.data.toList).isSome then n - 1 else n) (fun y => if y = nm.data.toList then none else T y) ∧ StepM mb w w' := by
 have hko := Go.WideMaps.keyOf_string_mk (s := nm) Tryz.underlying9 (by unfold maxLen at *; omega)
 have hp := bC h.hp 0
 obtain ⟨f, hf, hT⟩ := h.hm
 obtain ⟨w', hrun, hf', ht⟩ := hf.drop strEmb law9 law68 hko 0
 have hfs : (f nm.data.toList).isSome = (T nm.data.toList).isSome := by
  have := hT nm.data.toList
  cases hTn : T nm.data.toList with
  | none => rw [hTn] at this; rw [show f nm.data.toList = none from this]; rfl
  | some m => rw [hTn] at this; obtain ⟨v, e, _⟩ := this; rw [e]; rfl
 rw [hfs] at hf'
 obtain ⟨n', hn'⟩ : ∃ n', (if (T nm.data.toList).isSome then n - 1 else n) = n' := ⟨_, rfl⟩
 rw [hn'] at hf' ⊢
 clear hn'
 have HX := Lib.hid (And.intro h (And.intro hf' (And.intro ht hT)))
 clear h hf hf' ht hT hfs
 go_enter Tryz.func10, Tryz.ntmps10
 go_wp2
 go_ret
 refine ⟨rfl, ⟨turned_other HX.out.2.2.1 HX.out.1.hp, _, HX.out.2.1, fun y => ?_⟩, w, Below.refl _ _, Or.inr HX.out.2.2.1⟩
 have h1 := HX.out.2.2.2 y
 by_cases hy : y = nm.data.toList
 ·simp [hy, del]
 ·have hdl : del f nm.data.toList y = f y := if_neg hy
  simp only [if_neg hy]
  cases hTy : T y with
  | none => rw [hTy] at h1; exact hdl.trans h1
  | some m =>
   rw [hTy] at h1
   obtain ⟨v, e, hv⟩ := h1
   exact ⟨v, hdl.trans e, hv.turned HX.out.2.2.1⟩
end Go.Proofs.YtcbfbefpbjmglaaGreatDoor.Mac
namespace Go.Proofs.YtcbfbefpbjmglaaGreatDoor.Mac
open Go.RowKit Go.Sort MapFun PA YtcbfbefpbjmglaaGreatDoorT YtcbfbefpbjmglaaGreatDoorW PrintWords PrintLast PrintMore
abbrev PS := List (MacP × MRow)
def nmP (p : MacP × MRow) : List UInt8 := p.1.nm.data.toList
structure Good (ps : PS) : Prop where
 so : (ps.map nmP).Pairwise (· < ·)
 gd : ∀ p ∈ ps, DomM p.1.nm p.1.params p.1.body ∧ rightP p.1.nm p.1.fn p.1.params p.1.more p.1.body = true
theorem nm_eq (a b : ByteArray) : (a.toList == b.toList) = decide (a.data.toList = b.data.toList) := by
 rw [ByteArray.toList_eq, ByteArray.toList_eq]
 by_cases h : a.data.toList = b.data.toList
 ·rw [decide_eq_true h]; exact beq_iff_eq.mpr h
 ·rw [decide_eq_false h]; exact beq_eq_false_iff_ne.mpr h
theorem lt_ne {a b : List UInt8} (h : a < b) : a ≠ b := fun e => by subst e; exact List.lt_irrefl a h
theorem Good.nodup {ps : PS} (h : Good ps) : ((ps.map Prod.fst).map nmB).Nodup := by
 rw [List.map_map]
 exact List.Pairwise.imp (fun h => lt_ne h) h.so
theorem look_fst (ps : PS) (nm : ByteArray) : look (ps.map Prod.fst) nm.data.toList = (findI ps nm).map fun i => (ps.getD i ⟨⟨⟨#[]⟩, false, [], false, []⟩, ⟨⟨#[]⟩, false, none, 0, 0, false, none, 0, 0⟩⟩).1 := by
 induction ps with
 | nil => rfl
 | cons a r ih =>
  unfold look findI at *
  rw [List.map_cons, List.find?_cons, List.findIdx?_cons, nm_eq]
  by_cases h : a.1.nm.data.toList = nm.data.toList
  ·have : decide (nmB a.1 = nm.data.toList) = true := decide_eq_true h
   rw [this, decide_eq_true h]; rfl
  ·have : decide (nmB a.1 = nm.data.toList) = false := decide_eq_false h
   rw [this, decide_eq_false h]
   simp only [Bool.false_eq_true, if_false, Option.map_map]
   rw [ih]
   rfl
theorem look_ne {ps : PS} {nm : ByteArray} (h : findI ps nm = none) : look (ps.map Prod.fst) nm.data.toList = none := by rw [look_fst, h]; rfl
theorem look_eq {ps : PS} {nm : ByteArray} {i : Nat} (hi : i < ps.length) (h : findI ps nm = some i) : look (ps.map Prod.fst) nm.data.toList = some ps[i].1 := by
 rw [look_fst, h]; simp [hi]
theorem find_none {ps : PS} {nm : ByteArray} (h : findI ps nm = none) : ∀ p ∈ ps, nmP p ≠ nm.data.toList := by
 intro p hp e
 unfold findI at h
 have := List.findIdx?_eq_none_iff.1 h p hp
 rw [nm_eq] at this
 exact absurd e (of_decide_eq_false this)
def insP (ps : PS) (p : MacP × MRow) : PS := ps.take (atP ps p.1.nm) ++ [p] ++ ps.drop (atP ps p.1.nm)
theorem insP_perm (ps : PS) (p : MacP × MRow) : (insP ps p).Perm (ps ++ [p]) := by
 unfold insP
 rw [List.append_assoc]
 refine (List.Perm.append_left _ List.perm_append_comm).trans ?_
 rw [← List.append_assoc, List.take_append_drop]
theorem insP_len (ps : PS) (p : MacP × MRow) : (insP ps p).length = ps.length + 1 := by rw [(insP_perm ps p).length_eq, List.length_append]; rfl
theorem Good.ins {ps : PS} (h : Good ps) (p : MacP × MRow) (hn : findI ps p.1.nm = none) (hd : DomM p.1.nm p.1.params p.1.body) (hr : rightP p.1.nm p.1.fn p.1.params p.1.more p.1.body = true) : Good (insP ps p) := by
 have hne := find_none hn
 have hso := h.so
 refine ⟨?_, fun x hx => ?_⟩
 ·unfold insP
  rw [List.append_assoc, List.map_append, List.map_append, List.pairwise_append, List.pairwise_append]
  have hle := atP_le ps p.1.nm
  have hlow : ∀ x ∈ ps.take (atP ps p.1.nm), nmP x < nmP p := by
   intro x hx
   obtain ⟨k, hk, rfl⟩ := List.getElem_of_mem hx
   rw [List.length_take] at hk
   rw [List.getElem_take]
   have := atP_lt ps p.1.nm k (by omega) (by omega)
   rw [bytesLess_eq, ByteArray.toList_eq, ByteArray.toList_eq] at this
   exact od this
  have hhigh : ∀ x ∈ ps.drop (atP ps p.1.nm), nmP p < nmP x := by
   intro x hx
   by_cases hl : atP ps p.1.nm < ps.length
   ·have he := atP_end ps p.1.nm hl
    rw [bytesLess_eq, ByteArray.toList_eq, ByteArray.toList_eq] at he
    have he : ¬ nmP ps[atP ps p.1.nm] < nmP p := of_decide_eq_false he
    have h0 : nmP p < nmP ps[atP ps p.1.nm] := by
     have h1 : nmP p ≤ nmP ps[atP ps p.1.nm] := he
     by_cases h2 : nmP p < nmP ps[atP ps p.1.nm]
     ·exact h2
     ·exact absurd (List.le_antisymm h2 h1) (hne _ (List.getElem_mem hl))
    obtain ⟨k, hk, rfl⟩ := List.getElem_of_mem hx
    rw [List.length_drop] at hk
    rw [List.getElem_drop]
    cases k with
    | zero => exact h0
    | succ k =>
     have h3 := List.pairwise_iff_getElem.1 hso (atP ps p.1.nm) (atP ps p.1.nm + (k + 1)) (by rw [List.length_map]; omega) (by rw [List.length_map]; omega) (by omega)
     rw [List.getElem_map, List.getElem_map] at h3
     exact List.lt_trans h0 h3
   ·rw [List.drop_eq_nil_of_le (by omega)] at hx
    cases hx
  refine ⟨?_, ⟨by simp, ?_, ?_⟩, ?_⟩
  ·exact List.Pairwise.sublist ((List.take_sublist _ _).map _) hso
  ·exact List.Pairwise.sublist ((List.drop_sublist _ _).map _) hso
  ·intro a ha b hb
   obtain ⟨x, hx, rfl⟩ := List.mem_map.1 hb
   rw [List.map_cons, List.map_nil, List.mem_singleton] at ha
   subst ha
   exact hhigh x hx
  ·intro a ha b hb
   obtain ⟨x, hx, rfl⟩ := List.mem_map.1 ha
   rcases List.mem_append.1 hb with hb | hb
   ·rw [List.map_cons, List.map_nil, List.mem_singleton] at hb
    subst hb
    exact hlow x hx
   ·obtain ⟨y, hy, rfl⟩ := List.mem_map.1 hb
    exact List.lt_trans (hlow x hx) (hhigh y hy)
 ·rcases List.mem_append.1 ((insP_perm ps p).mem_iff.1 hx) with hx | hx
  ·exact h.gd x hx
  ·obtain rfl := List.mem_singleton.1 hx
   exact ⟨hd, hr⟩
theorem look_ins {ps : PS} (h : Good ps) (p : MacP × MRow) (hn : findI ps p.1.nm = none) (hg : Good (insP ps p)) : (fun y => if y = p.1.nm.data.toList then some p.1 else look (ps.map Prod.fst) y) = look ((insP ps p).map Prod.fst) := by
 have h1 := look_snoc (ps.map Prod.fst) p.1 (look_ne hn)
 have h2 : (fun y => if y = p.1.nm.data.toList then some p.1 else look (ps.map Prod.fst) y) = look (ps.map Prod.fst ++ [p.1]) := h1
 rw [h2, look_perm ((insP_perm ps p).map Prod.fst) hg.nodup, List.map_append]
 rfl
theorem Good.off {ps : PS} (h : Good ps) (nm : ByteArray) : Good (offN nm ps) :=
 ⟨List.Pairwise.sublist (List.filter_sublist.map _) h.so, fun p hp => h.gd p (List.mem_filter.1 hp).1⟩
theorem look_off (ps : PS) (nm : ByteArray) : (fun y => if y = nm.data.toList then none else look (ps.map Prod.fst) y) = look ((offN nm ps).map Prod.fst) := by
 funext y
 induction ps with
 | nil => simp [offN, look]
 | cons a r ih =>
  unfold offN look at *
  rw [List.map_cons, List.find?_cons, List.filter_cons, nm_eq]
  by_cases h : a.1.nm.data.toList = nm.data.toList
  ·rw [decide_eq_true h]
   simp only [Bool.not_true, Bool.false_eq_true, if_false]
   rw [← ih]
   by_cases hy : y = nm.data.toList
   ·simp [hy]
   ·have : decide (nmB a.1 = y) = false := decide_eq_false (fun e => hy (by rw [← e]; exact h))
    simp only [hy, if_false, this]
  ·rw [decide_eq_false h]
   simp only [Bool.not_false, if_true, List.map_cons, List.find?_cons]
   rw [← ih]
   by_cases hy : y = nm.data.toList
   ·have : decide (nmB a.1 = y) = false := decide_eq_false (fun e => h (by rw [← hy]; exact e))
    simp only [hy, if_true] at this ⊢
    simp only [this]
   ·simp only [hy, if_false]
theorem off_len {ps : PS} (h : Good ps) (nm : ByteArray) : (offN nm ps).length = if (look (ps.map Prod.fst) nm.data.toList).isSome then ps.length - 1 else ps.length := by
 have hnd : (ps.map nmP).Nodup := List.Pairwise.imp (fun h => lt_ne h) h.so
 clear h
 induction ps with
 | nil => rfl
 | cons a r ih =>
  rw [List.map_cons, List.nodup_cons] at hnd
  have ih := ih hnd.2
  unfold offN look at *
  rw [List.map_cons, List.find?_cons, List.filter_cons, nm_eq]
  by_cases h : a.1.nm.data.toList = nm.data.toList
  ·have h2 : decide (nmB a.1 = nm.data.toList) = true := decide_eq_true h
   rw [decide_eq_true h, h2]
   simp only [Bool.not_true, Bool.false_eq_true, if_false, Option.isSome_some, if_true, List.length_cons, Nat.add_sub_cancel]
   have h3 : (r.map Prod.fst).find? (fun m => decide (nmB m = nm.data.toList)) = none := by
    rw [List.find?_eq_none]
    intro m hm hd
    obtain ⟨p, hp, rfl⟩ := List.mem_map.1 hm
    exact hnd.1 (List.mem_map.2 ⟨p, hp, by unfold nmP; rw [h]; exact od hd⟩)
   rw [ih, h3]
   rfl
  ·have h2 : decide (nmB a.1 = nm.data.toList) = false := decide_eq_false h
   rw [decide_eq_false h, h2]
   simp only [Bool.not_false, if_true, List.length_cons, ih]
   by_cases h4 : ((r.map Prod.fst).find? (fun m => decide (nmB m = nm.data.toList))).isSome = true
   ·rw [if_pos h4, if_pos h4]
    cases r with
    | nil => simp at h4
    | cons b r => simp
   ·rw [if_neg h4, if_neg h4]
theorem names_one {ps : PS} (h : Good ps) : sortedN (ps.map Prod.fst) = ps.map fun p => p.1.nm := by
 unfold sortedN
 have h1 : ((ps.map Prod.fst).map nmB).mergeSort (fun x y => decide (x ≤ y)) = (ps.map Prod.fst).map nmB := by
  refine List.mergeSort_of_pairwise ?_
  rw [List.map_map]
  exact List.Pairwise.imp (fun h => decide_eq_true (List.le_of_lt h)) h.so
 rw [h1, List.map_map, List.map_map]
 refine List.map_congr_left fun p _ => ?_
 show (⟨(p.1.nm.data.toList).toArray⟩ : ByteArray) = p.1.nm
 simp
end Go.Proofs.YtcbfbefpbjmglaaGreatDoor.Mac
namespace Go.Proofs.YtcbfbefpbjmglaaGreatDoor.Mac
open Go.RowKit MapFun PA YtcbfbefpbjmglaaGreatDoorT YtcbfbefpbjmglaaGreatDoorW PrintWords PrintLast PrintMore
def z0P : MacP × MRow := ⟨⟨⟨#[]⟩, false, [], false, []⟩, ⟨⟨#[]⟩, false, none, 0, 0, false, none, 0, 0⟩⟩
def rightM (m : MacP) : Bool := rightP m.nm m.fn m.params m.more m.body
def sameM (a b : MacP) : Bool := sameP a.nm a.fn a.params a.more a.body b.nm b.fn b.params b.more b.body
def codeD (rs : PS) (m : MacP) : Int := if rightM m then (match findI rs m.nm with | some i => if sameM (rs.getD i z0P).1 m then 0 else 31 | none => 0) else 2
def newB (rs : PS) (m : MacP) : Bool := rightM m && (findI rs m.nm).isNone
theorem define_all (p mb : Nat) (rs : PS) (hg : Good rs) (hl : rs.length < 1000) (nm : ByteArray) (fn more : Bool) (Ap Ab : Option Addr) (cp cb : Nat) (ps : List ByteArray) (body : List S55) (w : World) (hT : Tab w) (hd : DomM nm ps body) (h : TabR w p mb rs.length (look (rs.map Prod.fst)))
  (hP : Kd.C Kd.string w Ap ps.length ps) (hpc : ps.length ≤ cp) (hB : Kd.C k55 w Ab body.length body) (hbc : body.length ≤ cb) :
  Calls Tryz.prog 8 #[.pointer (some ⟨p, 0, none⟩), .agg #[.string nm, .bool fn, .slice Ap ps.length cp, .bool more, .slice Ab body.length cb]] w fun e w' => e = .returned (.int .i64 (codeD rs ⟨nm, fn, ps, more, body⟩)) ∧
   TabR w' p mb (if newB rs ⟨nm, fn, ps, more, body⟩ then rs.length + 1 else rs.length) (if newB rs ⟨nm, fn, ps, more, body⟩ then (fun y => if y = nm.data.toList then some ⟨nm, fn, ps, more, body⟩ else look (rs.map Prod.fst) y) else look (rs.map Prod.fst)) ∧ StepM mb w w' := by
 cases hr : rightP nm fn ps more body with
 | false =>
  have h1 : codeD rs ⟨nm, fn, ps, more, body⟩ = 2 := by unfold codeD; rw [if_neg (by unfold rightM; rw [hr]; simp)]
  have h2 : newB rs ⟨nm, fn, ps, more, body⟩ = false := by unfold newB rightM; rw [hr]; rfl
  rw [h1, h2]
  refine (define_wrong p nm fn more Ap Ab cp cb ps body w hT hd hr hP hpc hB hbc).mono ?_
  rintro e w' ⟨rfl, hb⟩
  exact ⟨rfl, h.below hb, w', hb, Or.inl rfl⟩
 | true =>
  have hrm : rightM ⟨nm, fn, ps, more, body⟩ = true := hr
  cases hf : findI rs nm with
  | none =>
   have h1 : codeD rs ⟨nm, fn, ps, more, body⟩ = 0 := by unfold codeD; rw [if_pos hrm]; simp only [hf]
   have h2 : newB rs ⟨nm, fn, ps, more, body⟩ = true := by unfold newB; rw [hrm]; simp [hf]
   rw [h1, h2]
   refine (define_new p mb rs.length _ nm fn more Ap Ab cp cb ps body w hT hd h hr (look_ne hf) hl hP hpc hB hbc).mono ?_
   rintro e w' ⟨rfl, ht, w1, hb, hm⟩
   exact ⟨rfl, ht, w1, hb, Or.inr hm⟩
  | some i =>
   obtain ⟨hi, _⟩ := findI_lt hf
   have hgd : rs.getD i z0P = rs[i] := by simp [hi]
   have h2 : newB rs ⟨nm, fn, ps, more, body⟩ = false := by unfold newB; simp [hf]
   have h1 : codeD rs ⟨nm, fn, ps, more, body⟩ = if sameM rs[i].1 ⟨nm, fn, ps, more, body⟩ then 0 else 31 := by unfold codeD; rw [if_pos hrm]; simp only [hf, hgd]
   rw [h1, h2]
   refine (define_again p mb rs.length _ nm fn more Ap Ab cp cb ps body rs[i].1 (sameM rs[i].1 ⟨nm, fn, ps, more, body⟩) w hT hd h hr (look_eq hi hf) (hg.gd _ (List.getElem_mem hi)).1 rfl hP hpc hB hbc).mono ?_
   rintro e w' ⟨rfl, hb⟩
   exact ⟨rfl, h.below hb, w', hb, Or.inl rfl⟩
def StepR (q : Nat) (w w' : World) : Prop := Below w.heap.size w w' ∨ StepQ q w w'
theorem StepR.below {q B : Nat} {w0 w w' : World} (h : StepR q w w') (h0 : Below B w0 w) (hB : B ≤ q) (hBs : B ≤ w.heap.size) : Below B w0 w' := by
 rcases h with h | h
 ·exact h0.trans (h.mono hBs)
 ·exact h.below h0 hB hBs
theorem StepR.block {q i : Nat} {w w' : World} {o : Obj} (h : StepR q w w') (hne : i ≠ q) (hb : w.heap[i]? = some o) : w'.heap[i]? = some o := by
 rcases h with h | h
 ·exact (h.block _ (Array.getElem?_eq_some_iff.1 hb).1).trans hb
 ·exact h.block hne hb
theorem StepR.tab {q p mb n : Nat} {w w' : World} {T : List UInt8 → Option MacP} (h : StepR q w w') (hT : TabR w p mb n T) (hp : p ≠ q) (hm : mb ≠ q) : TabR w' p mb n T := by
 rcases h with h | h
 ·exact hT.below h
 ·exact h.tab hT hp hm
theorem tab_stepr {q : Nat} {w w' : World} (h : Tab w) (hs : StepR q w w') (hq : 2 ≤ q) : Tab w' := by
 rcases hs with hs | hs
 ·exact h.grow hs
 ·exact tab_stepq h hs hq
theorem same_equal {a b : MacP} (ha : rightM a = true) (hb : rightM b = true) (hd : DomM a.nm a.params a.body) : burinref03_Equal.f 3000000 a.nm a.fn a.params a.more a.body b.nm b.fn b.params b.more b.body = some (sameM a b) := by
 obtain ⟨d1, d2, d3, _⟩ := hd
 obtain ⟨_, h16, _⟩ := rightP_parts ha
 rw [requal_f _ _ _ _ _ _ _ _ _ _ _ (by omega) d3 (by omega)]
 have ha : rightP a.nm a.fn a.params a.more a.body = true := ha
 have hb : rightP b.nm b.fn b.params b.more b.body = true := hb
 unfold sameM sameP
 rw [ha, hb, Bool.true_and, Bool.true_and]
 congr 1
 by_cases h : a.nm.toList = b.nm.toList
 ·rw [decide_eq_true h, beq_iff_eq.mpr h]
 ·rw [decide_eq_false h, beq_eq_false_iff_ne.mpr h]
theorem rdefine_all (q : Nat) (rs : PS) (hg : Good rs) (hl : rs.length < 1000) (nm : ByteArray) (fn more : Bool) (Ap Ab : Option Addr) (cp cb : Nat) (ps : List ByteArray) (body : List S55) (w : World) (hd : DomM nm ps body) (h : RefR w q rs)
  (hP : Kd.C Kd.string w Ap ps.length ps) (hpc : ps.length ≤ cp) (hB : Kd.C k55 w Ab body.length body) (hbc : body.length ≤ cb) (hRP : RowAt q w Ap 9 ps.length) (hRB : RowAt q w Ab 55 body.length) :
  Calls Tryz.prog 9 #[.pointer (some ⟨q, 0, none⟩), .agg #[.string nm, .bool fn, .slice Ap ps.length cp, .bool more, .slice Ab body.length cb]] w fun e w' => e = .returned (.int .i64 (codeD rs ⟨nm, fn, ps, more, body⟩)) ∧
   (∃ rs', RefR w' q rs' ∧ Good rs' ∧ rs'.length = (if newB rs ⟨nm, fn, ps, more, body⟩ then rs.length + 1 else rs.length) ∧ look (rs'.map Prod.fst) = (if newB rs ⟨nm, fn, ps, more, body⟩ then (fun y => if y = nm.data.toList then some ⟨nm, fn, ps, more, body⟩ else look (rs.map Prod.fst) y) else look (rs.map Prod.fst))) ∧ StepR q w w' := by
 cases hr : rightP nm fn ps more body with
 | false =>
  have h1 : codeD rs ⟨nm, fn, ps, more, body⟩ = 2 := by unfold codeD; rw [if_neg (by unfold rightM; rw [hr]; simp)]
  have h2 : newB rs ⟨nm, fn, ps, more, body⟩ = false := by unfold newB rightM; rw [hr]; rfl
  rw [h1, h2]
  refine (rdefine_wrong q rs nm fn more Ap Ab cp cb ps body w hd h hl hr hP hpc hB hbc).mono ?_
  rintro e w' ⟨rfl, hb⟩
  exact ⟨rfl, ⟨rs, h.below hb, hg, rfl, rfl⟩, Or.inl hb⟩
 | true =>
  have hrm : rightM ⟨nm, fn, ps, more, body⟩ = true := hr
  cases hf : findI rs nm with
  | none =>
   have h1 : codeD rs ⟨nm, fn, ps, more, body⟩ = 0 := by unfold codeD; rw [if_pos hrm]; simp only [hf]
   have h2 : newB rs ⟨nm, fn, ps, more, body⟩ = true := by unfold newB; rw [hrm]; simp [hf]
   rw [h1, h2]
   refine (rdefine_new q rs nm fn more Ap Ab cp cb ps body w hd h hl hr hf hRP hRB hP hpc hB hbc).mono ?_
   rintro e w' ⟨rfl, ⟨x, hx, hR⟩, hs⟩
   have hgi : Good (insP rs (⟨nm, fn, ps, more, body⟩, x)) := hg.ins (⟨nm, fn, ps, more, body⟩, x) hf hd hr
   exact ⟨rfl, ⟨insP rs (⟨nm, fn, ps, more, body⟩, x), hR, hgi, insP_len _ _, (look_ins hg (⟨nm, fn, ps, more, body⟩, x) hf hgi).symm⟩, Or.inr hs⟩
  | some i =>
   obtain ⟨hi, _⟩ := findI_lt hf
   have hgd : rs.getD i z0P = rs[i] := by simp [hi]
   have h2 : newB rs ⟨nm, fn, ps, more, body⟩ = false := by unfold newB; simp [hf]
   have h1 : codeD rs ⟨nm, fn, ps, more, body⟩ = if sameM rs[i].1 ⟨nm, fn, ps, more, body⟩ then 0 else 31 := by unfold codeD; rw [if_pos hrm]; simp only [hf, hgd]
   rw [h1, h2]
   have hgi := hg.gd _ (List.getElem_mem hi)
   refine (rdefine_old q rs nm fn more Ap Ab cp cb ps body w hd h hl hr i hi hf (sameM rs[i].1 ⟨nm, fn, ps, more, body⟩) (same_equal hgi.2 hrm hgi.1) hP hpc hB hbc).mono ?_
   rintro e w' ⟨rfl, hb⟩
   exact ⟨rfl, ⟨rs, h.below hb, hg, rfl, rfl⟩, Or.inl hb⟩
theorem undef_all (p mb : Nat) (rs : PS) (hg : Good rs) (nm : ByteArray) (w : World) (hnm : nm.size < maxLen) (h : TabR w p mb rs.length (look (rs.map Prod.fst))) :
  Calls Tryz.prog 10 #[.pointer (some ⟨p, 0, none⟩), .string nm] w fun e w' => e = .returned (.int .i64 0) ∧ TabR w' p mb (offN nm rs).length (look ((offN nm rs).map Prod.fst)) ∧ StepM mb w w' := by
 rw [off_len hg, ← look_off]
 exact undef_c p mb rs.length _ nm w hnm h
end Go.Proofs.YtcbfbefpbjmglaaGreatDoor.Mac
namespace Go.Proofs.YtcbfbefpbjmglaaGreatDoor.Mac
open Go.RowKit MapFun PA YtcbfbefpbjmglaaGreatDoorT YtcbfbefpbjmglaaGreatDoorW PrintWords PrintLast PrintMore
def gotP (rs : PS) (nm : ByteArray) : MacP := match findI rs nm with | some i => (rs.getD i z0P).1 | none => z0P.1
theorem gotP_dom {rs : PS} (hg : Good rs) (nm : ByteArray) : burinref03_Equal.f 3000000 (gotP rs nm).nm (gotP rs nm).fn (gotP rs nm).params (gotP rs nm).more (gotP rs nm).body (gotP rs nm).nm (gotP rs nm).fn (gotP rs nm).params (gotP rs nm).more (gotP rs nm).body = some true := by
 unfold gotP
 cases hf : findI rs nm with
 | none =>
  show burinref03_Equal.f 3000000 z0P.1.nm z0P.1.fn z0P.1.params z0P.1.more z0P.1.body z0P.1.nm z0P.1.fn z0P.1.params z0P.1.more z0P.1.body = some true
  rw [requal_f _ _ _ _ _ _ _ _ _ _ _ (by decide) (by decide) (by decide), toksEq_refl, strsEq_refl]
  simp
 | some i =>
  obtain ⟨hi, _⟩ := findI_lt hf
  have hgd : rs.getD i z0P = rs[i] := by simp [hi]
  have hgi := hg.gd _ (List.getElem_mem hi)
  simp only [hgd]
  exact requal_self rs[i].1 hgi.1 hgi.2
theorem C_empty {α : Type} (K : Kd α) (W : World) (A : Option Addr) : Kd.C K W A ([] : List α).length [] := ⟨rfl, by simp, fun h => absurd h (Nat.lt_irrefl 0)⟩
theorem get_u (p mb : Nat) (rs : PS) (hg : Good rs) (nm : ByteArray) (hnm : nm.size < maxLen) (w : World) (h : TabR w p mb rs.length (look (rs.map Prod.fst))) :
  Calls Tryz.prog 12 #[.pointer (some ⟨p, 0, none⟩), .string nm] w fun e w' => ∃ A2 k2 A4 k4, e = .returned (.tuple #[.agg #[.string (gotP rs nm).nm, .bool (gotP rs nm).fn, .slice A2 (gotP rs nm).params.length k2, .bool (gotP rs nm).more, .slice A4 (gotP rs nm).body.length k4], .bool (findI rs nm).isSome]) ∧
   Kd.C Kd.string w' A2 (gotP rs nm).params.length (gotP rs nm).params ∧ (gotP rs nm).params.length ≤ k2 ∧ Kd.C k55 w' A4 (gotP rs nm).body.length (gotP rs nm).body ∧ (gotP rs nm).body.length ≤ k4 ∧ Below w.heap.size w w' := by
 have hsz : ∀ y m, look (rs.map Prod.fst) y = some m → m.params.length ≤ 2000000 ∧ m.body.length ≤ 1000000 := fun y m hy => by
  obtain ⟨h1, _⟩ := look_some hy
  obtain ⟨x, hx, rfl⟩ := List.mem_map.1 h1
  have h2 := (hg.gd x hx).1
  exact ⟨h2.2.1, h2.2.2.1⟩
 cases hf : findI rs nm with
 | none =>
  refine (get_c p mb rs.length _ nm hnm w h hsz).mono ?_
  rintro e w' ⟨v, rfl, hv, hb⟩
  rw [look_ne hf] at hv ⊢
  obtain ⟨A, c, A', c', rfl⟩ := hv
  have hm : gotP rs nm = z0P.1 := by unfold gotP; rw [hf]
  rw [hm]
  exact ⟨A, c, A', c', rfl, C_empty _ _ _, Nat.zero_le _, C_empty _ _ _, Nat.zero_le _, hb⟩
 | some i =>
  obtain ⟨hi, _⟩ := findI_lt hf
  have hgd : rs.getD i z0P = rs[i] := by simp [hi]
  have hm : gotP rs nm = rs[i].1 := by unfold gotP; rw [hf]; simp only [hgd]
  rw [hm]
  refine (getm_c p mb rs.length _ nm rs[i].1 (look_eq hi hf) hnm w h hsz).mono ?_
  rintro e w' ⟨A2, k2, A4, k4, rfl, h2, h4, hb⟩
  have g2 := Kd.R_reads' h2
  have g4 := Kd.R_reads' h4
  exact ⟨A2, k2, A4, k4, rfl, g2.2.2, g2.2.1, g4.2.2, g4.2.1, hb⟩
theorem rget_u (q : Nat) (rs : PS) (nm : ByteArray) (w : World) (h : RefR w q rs) (hl : rs.length ≤ 1000) :
  Calls Tryz.prog 13 #[.pointer (some ⟨q, 0, none⟩), .string nm] w fun e w' => ∃ A2 k2 A4 k4, e = .returned (.tuple #[.agg #[.string (gotP rs nm).nm, .bool (gotP rs nm).fn, .slice A2 (gotP rs nm).params.length k2, .bool (gotP rs nm).more, .slice A4 (gotP rs nm).body.length k4], .bool (findI rs nm).isSome]) ∧
   Kd.C Kd.string w' A2 (gotP rs nm).params.length (gotP rs nm).params ∧ (gotP rs nm).params.length ≤ k2 ∧ Kd.C k55 w' A4 (gotP rs nm).body.length (gotP rs nm).body ∧ (gotP rs nm).body.length ≤ k4 ∧ Below w.heap.size w w' := by
 refine (rget_c q rs nm w h hl).mono ?_
 rintro e w' ⟨rfl, hb⟩
 cases hf : findI rs nm with
 | none =>
  have hm : gotP rs nm = z0P.1 := by unfold gotP; rw [hf]
  rw [hm]
  exact ⟨none, 0, none, 0, rfl, C_empty _ _ _, Nat.zero_le _, C_empty _ _ _, Nat.zero_le _, hb⟩
 | some i =>
  obtain ⟨hi, _⟩ := findI_lt hf
  have hgd : rs.getD i z0P = rs[i] := by simp [hi]
  have hm : gotP rs nm = rs[i].1 := by unfold gotP; rw [hf]; simp only [hgd]
  rw [hm]
  obtain ⟨A, c, h1, h2, h3, h4, _⟩ := h
  have hx := (h4 rs[i] (List.getElem_mem hi)).below hb
  have hg2 : (rs.map Prod.snd).getD i ⟨⟨#[]⟩, false, none, 0, 0, false, none, 0, 0⟩ = rs[i].2 := by simp [hi]
  simp only [Option.map_some, hg2]
  generalize rs[i] = r at hx ⊢
  obtain ⟨⟨nm1, fn1, ps1, more1, body1⟩, ⟨nm2, fn2, Ap1, pn1, cp1, more2, Ab1, bn1, cb1⟩⟩ := r
  obtain ⟨e1, e2, e3, e4, e5, g1, g2, g3, g4, _, _⟩ := hx
  simp only at e1 e2 e3 e4 e5 g1 g2 g3 g4 ⊢
  subst e1 e2 e3 e4 e5
  exact ⟨Ap1, cp1, Ab1, cb1, rfl, g1, g2, g3, g4, hb⟩
theorem rnames_s (q : Nat) (rs : PS) (hg : Good rs) (SS : List ByteArray) (w : World) (h : RefR w q rs) (hl : rs.length ≤ 1000) (hS : sortedN (rs.map Prod.fst) = SS) :
  Calls Tryz.prog 17 #[.pointer (some ⟨q, 0, none⟩)] w fun e w' => ∃ A c, e = .returned (.slice A SS.length c) ∧ Kd.C Kd.string w' A SS.length SS ∧ SS.length ≤ c ∧ Below w.heap.size w w' := by
 subst hS
 rw [names_one hg]
 refine (rnames_c q rs w h hl).mono ?_
 rintro e w' ⟨A, c, rfl, hR, hb⟩
 have h2 := Kd.R_reads' hR
 have hl : (rs.map fun p => p.1.nm).length = rs.length := by rw [List.length_map]
 rw [hl] at h2 ⊢
 exact ⟨A, c, rfl, h2.2.2, h2.2.1, hb⟩
structure ORow where
 k : Int
 s : ByteArray
 x : MRow
def ORow.cells (r : ORow) : List Value := [.int .i64 r.k, .string r.s, .string r.x.nm, .bool r.x.fn, .slice r.x.Ap r.x.pn r.x.cp, .bool r.x.more, .slice r.x.Ab r.x.bn r.x.cb]
def kO : Kd ORow where
 sz := 7
 E := []
 K := fun _ x cs => cs = x.cells
 M := fun _ _ _ x cs => cs = x.cells
 K_len := fun h => by rw [h]; rfl
 K_one := fun h u hu => by
  rw [h] at hu
  unfold ORow.cells at hu
  simp only [List.mem_cons, List.not_mem_nil, or_false] at hu
  rcases hu with rfl | rfl | rfl | rfl | rfl | rfl | rfl <;> rfl
 K_below := fun _ h => h
 K_of_M := fun h => h
 M_mono := fun _ h => h
 M_bound := fun h => h
 M_move := fun _ h => h
 M_lower := fun _ h => h
theorem CO_at {w : World} {A : Option Addr} {xs : List ORow} (h : Kd.C kO w A xs.length xs) (k : Nat) (hk : k < xs.length) : ∃ ad, A = some ad ∧ w.cell? (ad.add (k * 7)) = some (.int .i64 xs[k].k) ∧ w.cell? ⟨(ad.add (k * 7)).block, (ad.add (k * 7)).off + 1, none⟩ = some (.string xs[k].s) ∧ w.cell? ⟨(ad.add (k * 7)).block, (ad.add (k * 7)).off + 2, none⟩ = some (.string xs[k].x.nm) ∧ w.cell? ⟨(ad.add (k * 7)).block, (ad.add (k * 7)).off + 3, none⟩ = some (.bool xs[k].x.fn) ∧ w.cell? ⟨(ad.add (k * 7)).block, (ad.add (k * 7)).off + 4, none⟩ = some (.slice xs[k].x.Ap xs[k].x.pn xs[k].x.cp) ∧ w.cell? ⟨(ad.add (k * 7)).block, (ad.add (k * 7)).off + 5, none⟩ = some (.bool xs[k].x.more) ∧ w.cell? ⟨(ad.add (k * 7)).block, (ad.add (k * 7)).off + 6, none⟩ = some (.slice xs[k].x.Ab xs[k].x.bn xs[k].x.cb) := by
 obtain ⟨ad, e, hc⟩ := h.2.2 (by omega)
 obtain ⟨c, h1, h2, h3⟩ := hc k _ (List.getElem?_eq_getElem hk)
 have h2 : c = xs[k].cells := h2
 subst h2
 exact ⟨ad, e, h3 0 _ rfl, by rw [← add_field _ _ 1 (by omega)]; exact h3 1 _ rfl, by rw [← add_field _ _ 2 (by omega)]; exact h3 2 _ rfl, by rw [← add_field _ _ 3 (by omega)]; exact h3 3 _ rfl, by rw [← add_field _ _ 4 (by omega)]; exact h3 4 _ rfl, by rw [← add_field _ _ 5 (by omega)]; exact h3 5 _ rfl, by rw [← add_field _ _ 6 (by omega)]; exact h3 6 _ rfl⟩
end Go.Proofs.YtcbfbefpbjmglaaGreatDoor.Mac
