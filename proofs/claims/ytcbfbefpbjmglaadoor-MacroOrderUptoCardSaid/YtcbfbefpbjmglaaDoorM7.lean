import Derived.Test.YtcbfbefpbjmglaaDoorMF
import Derived.RangeFuncGives
import Derived.RangeFuncNested
import Derived.RangeFuncBound
import Derived.RangeFuncCalls
import Derived.RangeFuncLeaves
import Derived.RangeFuncBox
import Derived.RangeFuncKeeps
import Derived.Shelf.Abstract
import Derived.WalkKit
import Derived.OwnWalkIn
import Derived.TacticsInMore
import Derived.LoopNIn
import Derived.LoopIn
import Derived.Shelf.RegionOpen
import Derived.Test.YtcbfbefpbjmglaaDoorV
namespace Go.Proofs.YtcbfbefpbjmglaaDoor.Mac
open Go.RowKit Go.Proofs.MapFun Go.Proofs.YtcbfbefpbjmglaaDoor.PA Go.Proofs.YtcbfbefpbjmglaaDoorT Go.Proofs.YtcbfbefpbjmglaaDoorW.PrintWords Go.Proofs.YtcbfbefpbjmglaaDoorW.PrintLast Go.Proofs.YtcbfbefpbjmglaaDoorW.PrintMore
set_option linter.unusedVariables false
set_option linter.unusedSimpArgs false
attribute [local go_sem] Oper.semAt_some
def els : List S48 → List (S48 × ByteArray)
 | t :: e :: r => (t, e.f1) :: els r
 | _ => [(z48, ⟨#[]⟩)]
def encE (x : S48 × ByteArray) : Array Value := #[.agg #[.int .i64 x.1.f0, .string x.1.f1, .string x.1.f2, .int .i64 x.1.f3, .bool x.1.f4, .bool x.1.f5], .string x.2]
theorem els_len : ∀ l : List S48, (els l).length = l.length / 2 + 1
 | [] => rfl
 | [_] => by simp [els]
 | t :: e :: r => by rw [els, List.length_cons, els_len r, List.length_cons, List.length_cons]; omega
theorem els_drop (l : List S48) : ∀ i, 2 * i ≤ l.length → els (l.drop (2 * i)) = (els l).drop i := by
 intro i
 induction i generalizing l with
 | zero => intro _; rfl
 | succ i ih =>
  intro h
  match l, h with
  | t :: e :: r, h =>
   rw [show 2 * (i + 1) = 2 * i + 1 + 1 by omega, List.drop_succ_cons, List.drop_succ_cons, ih r (by simp at h; omega)]
   rw [show els (t :: e :: r) = (t, e.f1) :: els r from rfl, List.drop_succ_cons]
  | [_], h => simp at h; omega
  | [], h => simp at h
def KeepM (M : Nat → Prop) (N0 : Nat) (W W' : World) : Prop := ∀ k, k < N0 → ¬ M k → W'.heap[k]? = W.heap[k]?
theorem KeepM.trans {M : Nat → Prop} {N0 : Nat} {A B C : World} (h : KeepM M N0 A B) (k : KeepM M N0 B C) : KeepM M N0 A C := fun j h1 h2 => (k j h1 h2).trans (h j h1 h2)
theorem KeepM.refl (M : Nat → Prop) (N0 : Nat) (W : World) : KeepM M N0 W W := fun _ _ _ => rfl
theorem KeepM.below {M : Nat → Prop} {N0 : Nat} {W W' : World} (h : Below N0 W W') : KeepM M N0 W W' := fun k hk _ => h.block k hk
def lenAt (b : Nat) (W : World) : Nat := match W.cell? ⟨b, 0, none⟩ with | some (Value.slice _ m _) => m | _ => 0
theorem lenAt_eq {b : Nat} {W : World} {A : Option Addr} {m c : Nat} (h : W.heap[b]? = some (.cells #[.slice A m c] 23 (0, 0))) : lenAt b W = m := by
 unfold lenAt; rw [blk_cell h 0]; rfl
def InM (M : Nat → Prop) (N0 b : Nat) (A : Option Addr) (n : Nat) : Prop := ∀ ad, A = some ad → 0 < n → ad.block < N0 ∧ ¬ M ad.block ∧ ad.block ≠ b
def StB (b : Nat) (A B : World) : Prop := ∃ v, B = A.setCell ⟨b, 0, none⟩ v
theorem add_blockE (a : Addr) (n : Nat) : (a.add n).block = a.block := by unfold Addr.add; split <;> rfl
theorem C_keepM {M : Nat → Prop} {N0 b : Nat} {W W' : World} {A : Option Addr} {l : List S48} (h : Kd.C k48 W A l.length l) (hA : InM M N0 b A l.length) (hk : KeepM M N0 W W') : Kd.C k48 W' A l.length l := by
 refine ⟨h.1, h.2.1, fun hn => ?_⟩
 obtain ⟨ad, ha, hr⟩ := h.2.2 hn
 obtain ⟨b1, b2, _⟩ := hA ad ha hn
 refine ⟨ad, ha, fun j p hj => ?_⟩
 obtain ⟨c, h1, h2, h3⟩ := hr j p hj
 refine ⟨c, h1, h2, fun i u hu => ?_⟩
 have := h3 i u hu
 rw [← this]
 exact World.cell?_of_block (by rw [add_blockE]; exact hk _ b1 b2)
theorem pre_snoc {α : Type} {E : List α} {i : Nat} {x : α} (h : E[i]? = some x) : E.take i ++ [x] <+: E := by
 obtain ⟨hi, he⟩ := List.getElem?_eq_some_iff.1 h
 have : E.take (i + 1) = E.take i ++ [x] := by rw [List.take_succ_eq_append_getElem hi, he]
 rw [← this]
 exact List.take_prefix _ _
theorem listed_rel {M : Nat → Prop} {N0 b c' i : Nat} {J : List (S48 × ByteArray) → World → Prop} {l L : List S48} {wr W3 : World} {ad : Addr} {x : S48 × ByteArray} (hl : l.length ≤ 1000000) (hC : Kd.C k48 wr (some ad) L.length L) (hA : InM M N0 b (some ad) L.length) (hb3 : W3.heap[b]? = some (.cells #[.slice (some ad) L.length c'] 23 (0, 0)))
  (hlt : 1 < L.length) (hc : L.length ≤ c') (hcm : True) (hL : l.drop (2 * i) = L) (hi : 2 * i ≤ l.length) (hj : J ((els l).take i ++ [x]) W3) (hk : KeepM M N0 wr.drew W3) (hg : (els l)[i]? = some x) (hJS : ∀ s A B, J s A → StB b A B → J s B) (hwr : lenAt b wr = L.length) :
  (∃ (i : Nat) (A' : Option Addr) (d : Nat), 2 * i ≤ l.length ∧ (W3.setCell ⟨b, 0, none⟩ (.slice (if c' = 2 then some ad else some ⟨ad.block, ad.off + 12, none⟩) (L.length - 2) (c' - 2))).heap[b]? = some (.cells #[.slice A' (l.drop (2 * i)).length d] 23 (0, 0)) ∧
   Kd.C k48 (W3.setCell ⟨b, 0, none⟩ (.slice (if c' = 2 then some ad else some ⟨ad.block, ad.off + 12, none⟩) (L.length - 2) (c' - 2))) A' (l.drop (2 * i)).length (l.drop (2 * i)) ∧ InM M N0 b A' (l.drop (2 * i)).length ∧ (l.drop (2 * i)).length ≤ d ∧ True ∧
   J ((els l).take i) (W3.setCell ⟨b, 0, none⟩ (.slice (if c' = 2 then some ad else some ⟨ad.block, ad.off + 12, none⟩) (L.length - 2) (c' - 2)))) ∧
  lenAt b (W3.setCell ⟨b, 0, none⟩ (.slice (if c' = 2 then some ad else some ⟨ad.block, ad.off + 12, none⟩) (L.length - 2) (c' - 2))) < lenAt b wr := by
 have hd : l.drop (2 * (i + 1)) = L.drop 2 := by rw [← hL, List.drop_drop]; congr 1
 have hdl : (L.drop 2).length = L.length - 2 := List.length_drop
 have hll : L.length = l.length - 2 * i := by rw [← hL, List.length_drop]
 have hput := blk_put hb3 0 (.slice (if c' = 2 then some ad else some ⟨ad.block, ad.off + 12, none⟩) (L.length - 2) (c' - 2)) rfl
 have eA : (if c' = 2 then (some ad : Option Addr) else (some ad).map (·.add (2 * k48.sz))) = (if c' = 2 then some ad else some ⟨ad.block, ad.off + 12, none⟩) := by
  split
  ·rfl
  ·rfl
 have hC3 : Kd.C k48 W3 (some ad) L.length L := C_keepM (Kd.C_below hC (below_drew1 (Below.refl _ _))) hA hk
 have hC4 := Kd.C_drop (m := 2) hC3 (by omega) hc
 rw [eA] at hC4
 have hA4 : InM M N0 b (if c' = 2 then some ad else some ⟨ad.block, ad.off + 12, none⟩) (L.drop 2).length := by
  intro a ha hp
  obtain ⟨h1, h2, h3⟩ := hA ad rfl (by omega)
  split at ha
  ·cases ha; exact ⟨h1, h2, h3⟩
  ·cases ha; exact ⟨h1, h2, h3⟩
 have hlen : lenAt b (W3.setCell ⟨b, 0, none⟩ (.slice (if c' = 2 then some ad else some ⟨ad.block, ad.off + 12, none⟩) (L.length - 2) (c' - 2))) = L.length - 2 := lenAt_eq hput
 obtain ⟨hi', he⟩ := List.getElem?_eq_some_iff.1 hg
 have htk : (els l).take (i + 1) = (els l).take i ++ [x] := by rw [List.take_succ_eq_append_getElem hi', he]
 refine ⟨⟨i + 1, (if c' = 2 then some ad else some ⟨ad.block, ad.off + 12, none⟩), c' - 2, by omega, ?_, ?_, ?_, ?_, ?_, ?_⟩, by rw [hlen, hwr]; omega⟩
 ·rw [hd, hdl]; exact hput
 ·rw [hd]
  exact C_keepM (M := (· = b)) (N0 := W3.heap.size) (b := b) hC4 (fun a ha hp => by
   have h1 := hA4 a ha hp
   have hbk : a.block < W3.heap.size := by
    obtain ⟨ad', ha', hr⟩ := hC4.2.2 hp
    rw [ha] at ha'; cases ha'
    obtain ⟨cc, e1, e2, e3⟩ := hr 0 _ (List.getElem?_eq_getElem (by omega))
    have hcc : ∃ u, cc[0]? = some u := by
     have : 0 < cc.length := by rw [e1]; decide
     exact ⟨_, List.getElem?_eq_getElem this⟩
    obtain ⟨u, hu⟩ := hcc
    have := World.block_lt_of_cell? W3 _ (e3 0 u hu)
    rwa [add_blockE] at this
   exact ⟨hbk, h1.2.2, h1.2.2⟩) (fun k _ hk => Below.heap_setCell W3 ⟨b, 0, none⟩ _ k hk)
 ·rw [hd]; exact hA4
 ·rw [hd, hdl]; omega
 ·exact trivial
 ·rw [htk]; exact hJS _ _ _ hj ⟨_, rfl⟩
set_option maxRecDepth 100000 in
set_option maxHeartbeats 1000000 in
theorem listed1 (n : Nat) (hn : 3 ≤ n) (w : World) (M : Nat → Prop) (N0 b : Nat) (hb : b < N0) (hbM : ¬ M b) (hN0 : N0 ≤ w.heap.size) (A : Option Addr) (c : Nat) (l : List S48) (hl : l.length ≤ 1000000) (hB : Kd.C k48 w A l.length l) (hA : InM M N0 b A l.length) (hc : l.length ≤ c) (hcm : True) (h1 : w.heap[b]? = some (.cells #[.slice A l.length c] 23 (0, 0))) :
  SeqSt Fence.wide n Tryd.prog 75 #[.pointer (some ⟨b, 0, none⟩)] encE (KeepM M N0) (StB b) (fun xs => xs = els l) (fun pre => pre <+: els l) (els l).length w := by
 intro y J Jx W hW hJ hJx hJS hY h0
 show CallsIn Fence.wide n Tryd.prog 75 #[.func (.yield y) #[] #[], .pointer (some ⟨b, 0, none⟩)] W _
 refine callsIn_of_wp Tryd.func75 rfl trivial ?_ rfl
 simp only [Tryd.ntmps75, List.size_toArray, List.length_cons, List.length_nil, Nat.reduceAdd, Nat.reduceSub, Array.replicate_succ, Array.replicate_zero, List.push_toArray, List.append_toArray, List.nil_append, List.cons_append]
 have q1 := (hW.block b (blk_lt h1)).trans h1
 have hC := Kd.C_below hB hW
 have HY := Lib.hid hY
 have HB := Lib.hid (And.intro q1 hC)
 have H0 := Lib.hid h0
 have HJ := Lib.hid hJ
 have HJS := Lib.hid hJS
 have HWs := Lib.hid hW.size
 clear hJ hJx hJS hY h0 hB hC q1 h1 hW
 gi_wp2
 gi_loopw [16] (fun _ W1 => ∃ (i : Nat) (A' : Option Addr) (c' : Nat), 2 * i ≤ l.length ∧ W1.heap[b]? = some (.cells #[.slice A' (l.drop (2 * i)).length c'] 23 (0, 0)) ∧ Kd.C k48 W1 A' (l.drop (2 * i)).length (l.drop (2 * i)) ∧ InM M N0 b A' (l.drop (2 * i)).length ∧ (l.drop (2 * i)).length ≤ c' ∧ True ∧ J ((els l).take i) W1) (fun _ W1 => lenAt b W1)
 case atStart => exact ⟨0, A, c, by omega, HB.out.1, HB.out.2, hA, hc, hcm, H0.out⟩
 case round =>
  obtain ⟨i, A', c', hi, hb1, hC1, hA1, hc1, hcm1, hj⟩ := hrel
  have c0 := blk_cell hb1 0
  have hbl := blk_lt hb1
  have hb1lt := lenAt_eq hb1
  obtain ⟨L, hL⟩ : ∃ L, l.drop (2 * i) = L := ⟨_, rfl⟩
  rw [hL] at hb1 hC1 hA1 hc1 c0 hb1lt
  have hLl : L.length ≤ 1000000 := by rw [← hL, List.length_drop]; omega
  by_cases hlt : 1 < L.length
  ·have d1 : decide ((L.length : Int) > 1) = true := decide_eq_true (by omega)
   have d2 : (L.length : Int) > 1 := by omega
   obtain ⟨ad, had, a0, a1, a2, a3, a4, a5⟩ := at_T48 hC1 0 (by omega) (by omega)
   obtain ⟨ad', had', b0, b1, b2, b3, b4, b5⟩ := at_T48 hC1 1 (by omega) (by omega)
   subst had
   cases had'
   obtain ⟨t, ht⟩ : ∃ t, rd_T48 L 0 = t := ⟨_, rfl⟩
   obtain ⟨e, he⟩ : ∃ e, rd_T48 L 1 = e := ⟨_, rfl⟩
   rw [ht] at a0 a1 a2 a3 a4 a5
   rw [he] at b1
   obtain ⟨f0, f1, f2, f3, f4, f5⟩ := t
   obtain ⟨x, hx⟩ : ∃ x, e.f1 = x := ⟨_, rfl⟩
   rw [hx] at b1
   have hg : (els l)[i]? = some (⟨f0, f1, f2, f3, f4, f5⟩, x) := by
    have h2 := els_drop l i hi
    rw [hL] at h2
    match L, hlt, ht, he, h2 with
    | t :: e' :: r, _, ht, he, h2 =>
     rw [els] at h2
     have h3 : ((els l).drop i)[0]? = some (t, e'.f1) := by rw [← h2]; rfl
     rw [List.getElem?_drop, Nat.add_zero] at h3
     have e1 : t = ⟨f0, f1, f2, f3, f4, f5⟩ := ht
     have e2 : e' = e := he
     rw [h3, e1, e2, hx]
   clear b0 b2 b3 b4 b5
   have b1' : wr.cell? ⟨ad.block, ad.off + 6 + 1, none⟩ = some (.string x) := b1
   clear b1
   simp only [Int.toNat_zero, Nat.zero_mul, Addr.add, if_true] at a0 a1 a2 a3 a4 a5
   have hlen : ((els l).take i).length < (els l).length := by
    have := (List.getElem?_eq_some_iff.1 hg).1
    rw [List.length_take]; omega
   have hmx : Tryd.prog.follows .mixedOrders = true := by kernel_rfl
   have hL0 : 0 < L.length := by omega
   have hjd := HJ.out _ wr wr.drew none hj ⟨rfl, rfl, rfl, Nat.le_refl _, fun _ _ _ => rfl⟩ (fun r e => by cases e)
   obtain ⟨fn, tmps, assign, body, hy, hR⟩ := HY.out ((els l).take i) (⟨f0, f1, f2, f3, f4, f5⟩, x) wr.drew hjd hlen
   simp only [encE] at hy hR
   have hR1 := RoundIn.mono (R' := fun e W' => ∃ v : Bool, e = .returned (.bool v) ∧ Hid ((v = true → J ((els l).take i ++ [(⟨f0, f1, f2, f3, f4, f5⟩, x)]) W' ∧ KeepM M N0 wr.drew W') ∧ (v = false → Jx ((els l).take i ++ [(⟨f0, f1, f2, f3, f4, f5⟩, x)]) W'))) hR (fun e W' h => by
    rcases h with ⟨h1, h2, h3⟩ | ⟨h1, h2⟩
    ·exact ⟨true, h1, Lib.hid ⟨fun _ => ⟨h2, h3⟩, fun h => by cases h⟩⟩
    ·exact ⟨false, h1, Lib.hid ⟨fun h => (by cases h), fun _ => h2⟩⟩)
   have HR := Lib.hid hR1
   have HG := Lib.hid (And.intro hg hlen)
   have HI := Lib.hid (And.intro hb1 (And.intro hC1 hA1))
   clear hR hR1 hg hlen hjd hj hb1 hC1 hA1
   gi_wp2
   gi_region_with (refine ⟨fun _ => by omega, HR.out.mono ?_⟩; rintro e W3 ⟨v, rfl, hv⟩)
   all_goals
    have HV := Lib.hid hv
    clear hv
    cases v with
    | false =>
     clear c0
     gi_wp2
     refine bodyPost_ret (results_none rfl _ _ _) rfl ?_
     exact ⟨⟨_, rfl⟩, .inr ⟨_, pre_snoc HG.out.1, HV.out.2 (by first | exact rfl | trivial)⟩⟩
    | true =>
     have hb3 : W3.heap[b]? = some (.cells #[.slice (some ad) L.length c'] 23 (0, 0)) := ((HV.out.1 rfl).2 b hb hbM).trans HI.out.1
     have c3 : W3.cell? ⟨b, 0, none⟩ = some (.slice (some ad) L.length c') := blk_cell hb3 0
     have f3 : W3.frozen? ⟨b, 0, none⟩ = false := by simp [World.frozen?, hb3]
     have HB3 := Lib.hid hb3
     clear hb3 c0
     have HJ3 := Lib.hid (HV.out.1 rfl)
     clear HV
     gi_wp2
     exact listed_rel hl HI.out.2.1 HI.out.2.2 HB3.out hlt hc1 hcm1 hL hi HJ3.out.1 (HJ3.out.2) HG.out.1 HJS.out hb1lt
  ·have d1 : decide ((L.length : Int) > 1) = false := decide_eq_false (by omega)
   have d2 : ¬ (L.length : Int) > 1 := by omega
   have hel : (els l).drop i = [(z48, ⟨#[]⟩)] := by
    rw [← els_drop l i hi, hL]
    match L, hlt with
    | [], _ => rfl
    | [_], _ => rfl
    | _ :: _ :: _, h => exact absurd h (by simp)
   have hil : i < (els l).length := Nat.lt_of_not_le fun h => by rw [List.drop_eq_nil_of_le h] at hel; cases hel
   have hg : (els l)[i]? = some (z48, ⟨#[]⟩) := by
    have : ((els l).drop i)[0]? = some (z48, ⟨#[]⟩) := by rw [hel]; rfl
    rwa [List.getElem?_drop, Nat.add_zero] at this
   have hlen : ((els l).take i).length < (els l).length := by rw [List.length_take]; omega
   obtain ⟨fn, tmps, assign, body, hy, hR⟩ := HY.out ((els l).take i) (z48, ⟨#[]⟩) wr hj hlen
   simp only [encE, z48] at hy hR
   have hR1 := RoundIn.mono (R' := fun e W' => ∃ v : Bool, e = .returned (.bool v) ∧ Hid ((v = true → J ((els l).take i ++ [(z48, ⟨#[]⟩)]) W') ∧ (v = false → Jx ((els l).take i ++ [(z48, ⟨#[]⟩)]) W'))) hR (fun e W' h => by
    rcases h with ⟨h1, h2, h3⟩ | ⟨h1, h2⟩
    ·exact ⟨true, h1, Lib.hid ⟨fun _ => h2, fun h => by cases h⟩⟩
    ·exact ⟨false, h1, Lib.hid ⟨fun h => (by cases h), fun _ => h2⟩⟩)
   have HR := Lib.hid hR1
   have HG := Lib.hid (And.intro hg (And.intro hlen hel))
   clear hR hR1 hg hlen hj hb1 hC1 hA1 hel
   gi_wp2
   refine ⟨fun _ => by omega, HR.out.mono ?_⟩
   rintro e W3 ⟨v, rfl, hv⟩
   have HV := Lib.hid hv
   clear hv
   have htk : (els l).take i ++ [(z48, ⟨#[]⟩)] = els l := by
    rw [← HG.out.2.2, List.take_append_drop]
   have HT := Lib.hid htk
   clear htk
   gi_wp2
   refine ⟨rfl, _, results_none rfl _ _ _, ⟨_, rfl⟩, ?_⟩
   cases v with
   | true => exact .inl ⟨_, HT.out, HV.out.1 rfl⟩
   | false => exact .inr ⟨_, pre_snoc HG.out.1, HV.out.2 rfl⟩
end Go.Proofs.YtcbfbefpbjmglaaDoor.Mac
namespace Go.Proofs.YtcbfbefpbjmglaaDoor.Mac
open Go.RowKit Go.Proofs.MapFun Go.Proofs.YtcbfbefpbjmglaaDoor.PA Go.Proofs.YtcbfbefpbjmglaaDoorT Go.Proofs.YtcbfbefpbjmglaaDoorW.PrintWords Go.Proofs.YtcbfbefpbjmglaaDoorW.PrintLast Go.Proofs.YtcbfbefpbjmglaaDoorW.PrintMore
set_option linter.unusedVariables false
set_option linter.unusedSimpArgs false
attribute [local go_sem] Oper.semAt_some
def isClose (s : ByteArray) : Bool := s.toList == [41]
def isComma (s : ByteArray) : Bool := s.toList == [44]
def isDots (s : ByteArray) : Bool := s.toList == [46, 46, 46]
def rnd (x : S48 × ByteArray) (st : List ByteArray × Bool) : Option (List ByteArray × Bool) :=
 if isDots x.1.f1 && isClose x.2 then some (st.1, true)
 else if x.1.f0 == 1 && (isClose x.2 || isComma x.2) then some (st.1 ++ [x.1.f1], st.2)
 else none
def wentOn : List (S48 × ByteArray) → List ByteArray × Bool → Option (List ByteArray × Bool)
 | [], st => some st
 | x :: r, st => if isClose x.2 then none else (rnd x st).bind (wentOn r)
def parL : List (S48 × ByteArray) → Int → List ByteArray × Bool → Option (Int × List ByteArray × Bool)
 | [], _, _ => none
 | x :: r, n, st => (rnd x st).bind fun st' => if isClose x.2 then some (n + 2, st') else parL r (n + 2) st'
def paramsP (l : List S48) : Option (Int × List ByteArray × Bool) :=
 match l with
 | t :: _ => if isClose t.f1 then some (1, [], false) else parL (els l) 0 ([], false)
 | [] => parL (els l) 0 ([], false)
theorem wentOn_snoc (x : S48 × ByteArray) : ∀ (l : List (S48 × ByteArray)) (st : List ByteArray × Bool), wentOn (l ++ [x]) st = (wentOn l st).bind fun s => if isClose x.2 then none else rnd x s
 | [], st => by
  simp only [List.nil_append, wentOn, Option.bind_some]
  split
  ·rfl
  ·cases rnd x st <;> rfl
 | y :: r, st => by
  simp only [List.cons_append, wentOn]
  split
  ·rfl
  ·rw [Option.bind_assoc]
   congr 1
   funext s
   exact wentOn_snoc x r s
theorem parL_went : ∀ (l r : List (S48 × ByteArray)) (n : Int) (st st' : List ByteArray × Bool), wentOn l st = some st' → parL (l ++ r) n st = parL r (n + 2 * l.length) st'
 | [], r, n, st, st', h => by cases h; simp
 | x :: l, r, n, st, st', h => by
  rw [wentOn] at h
  split at h
  ·cases h
  ·rename_i hc
   obtain ⟨s, h1, h2⟩ := Option.bind_eq_some_iff.1 h
   rw [List.cons_append, parL, h1, Option.bind_some, if_neg hc, parL_went l r (n + 2) s st' h2]
   congr 1
   simp only [List.length_cons]; omega
theorem parL_left {x : S48 × ByteArray} {l r : List (S48 × ByteArray)} {st : List ByteArray × Bool} (h : wentOn l ([], false) = some st) (hr : rnd x st = none) : parL (l ++ x :: r) 0 ([], false) = none := by
 rw [parL_went l _ _ _ _ h, parL, hr]; rfl
theorem parL_closed {x : S48 × ByteArray} {l r : List (S48 × ByteArray)} {st st' : List ByteArray × Bool} (h : wentOn l ([], false) = some st) (hr : rnd x st = some st') (hc : isClose x.2 = true) : parL (l ++ x :: r) 0 ([], false) = some (2 * (l.length : Int) + 2, st') := by
 rw [parL_went l _ _ _ _ h, parL, hr, Option.bind_some, if_pos hc, Int.zero_add]
theorem listed_c (A : Option Addr) (n c : Nat) (w : World) : Calls Tryd.prog 49 #[.slice A n c] w fun e w' => e = .returned (.func (.func 75) #[] #[.pointer (some ⟨w.heap.size, 0, none⟩)]) ∧ w' = w.alloc (.cells #[.slice A n c] 23) := by
 go_enter Tryd.func49, Tryd.ntmps49
 go_wp2
 go_ret
 exact ⟨rfl, rfl⟩
theorem R_row {e : Nat} {w w' : World} {base B : Nat} {ok : Nat → Prop} {v : Value} {xs : List ByteArray} {row : Option Nat} (h : Kd.string.R e w base ok v xs) (hg : w.grownBy w' row) (hr : ∀ r, row = some r → B ≤ r ∧ ∃ o : Obj, w.heap[r]? = some o ∧ o.isCells = false) : Kd.string.R e w' base ok v xs := by
 refine Kd.R_mono (Kd.R_grown (Kd.R_bound h) hg fun k hk hr' => ?_) (fun k hk => hk.1)
 obtain ⟨_, o, ho, hc⟩ := hr k hr'.symm
 obtain ⟨_, _, _, q, _, cells, hq⟩ := hk
 rw [hq] at ho; cases ho; cases hc
structure PSt (w W : World) (B M : Nat) (nm : ByteArray) (n : Int) (ok : Bool) (st : List ByteArray × Bool) : Prop where
 box : W.heap[B]? = some (.cells #[.pointer (some ⟨M, 0, none⟩)] 61 (0, 0))
 n : W.heap[B + 1]? = some (.cells #[.int .i64 n] 3 (0, 0))
 ok : W.heap[B + 2]? = some (.cells #[.bool ok] 4 (0, 0))
 m : ∃ v, W.heap[M]? = some (.cells #[.string nm, .bool true, v, .bool st.2, .slice none 0 0] 32 (0, 0)) ∧ Kd.string.R 9 W (B + 4) (fun _ => True) v st.1
 below : Below M w W
 size : B + 4 ≤ W.heap.size
theorem blk_row {w w' : World} {k B : Nat} {c : Array Value} {t : Nat} {f : Nat × Nat} {row : Option Nat} (h : w.heap[k]? = some (.cells c t f)) (hg : w.grownBy w' row) (hr : ∀ r, row = some r → B ≤ r ∧ ∃ o : Obj, w.heap[r]? = some o ∧ o.isCells = false) : w'.heap[k]? = some (.cells c t f) :=
 (hg.block k (Array.getElem?_eq_some_iff.1 h).1 (fun e' => by obtain ⟨_, o, ho, hc⟩ := hr k e'.symm; rw [h] at ho; cases ho; cases hc)).trans h
theorem PSt.own {w W W' : World} {B M : Nat} {nm : ByteArray} {n : Int} {ok : Bool} {st : List ByteArray × Bool} {D : Nat} {row : Option Nat} (h : PSt w W B M nm n ok st) (hM : M < B) (hD : B ≤ D) (hg : W.grownBy W' row) (hr : ∀ r, row = some r → D ≤ r ∧ ∃ o : Obj, W.heap[r]? = some o ∧ o.isCells = false) : PSt w W' B M nm n ok st := by
 obtain ⟨v, h1, h2⟩ := h.m
 exact ⟨blk_row h.box hg hr, blk_row h.n hg hr, blk_row h.ok hg hr, ⟨v, blk_row h1 hg hr, R_row h2 hg hr⟩, h.below.grown hg (by have := h.size; omega) (fun k e => by have := (hr k e).1; omega), Nat.le_trans h.size hg.size⟩
theorem R_low {e : Nat} {w : World} {base : Nat} {v : Value} {xs : List ByteArray} {p : Addr} (h : Kd.string.R e w base (fun _ => True) v xs) (hp : p.block < base) (u : Value) : Kd.string.R e (w.setCell p u) base (fun _ => True) v xs :=
 Kd.R_mono (Kd.R_far (Kd.R_bound h) (fun k hk e => by have := hk.2.1; omega) u) (fun _ _ => trivial)
theorem PSt.setn {w W : World} {B M : Nat} {nm : ByteArray} {n : Int} {ok : Bool} {st : List ByteArray × Bool} (h : PSt w W B M nm n ok st) (hM : M < B) (n' : Int) : PSt w (W.setCell ⟨B + 1, 0, none⟩ (.int .i64 n')) B M nm n' ok st := by
 obtain ⟨v, h1, h2⟩ := h.m
 exact ⟨(Below.heap_setCell _ ⟨B + 1, 0, none⟩ _ _ (by simp)).trans h.box, blk_put h.n 0 _ rfl, (Below.heap_setCell _ ⟨B + 1, 0, none⟩ _ _ (by simp)).trans h.ok, ⟨v, (Below.heap_setCell _ ⟨B + 1, 0, none⟩ _ _ (by simp; omega)).trans h1, R_low h2 (by simp) _⟩, h.below.setCell (p := ⟨B + 1, 0, none⟩) (by simp; omega) _, by simpa using h.size⟩
theorem PSt.setok {w W : World} {B M : Nat} {nm : ByteArray} {n : Int} {ok : Bool} {st : List ByteArray × Bool} (h : PSt w W B M nm n ok st) (hM : M < B) (ok' : Bool) : PSt w (W.setCell ⟨B + 2, 0, none⟩ (.bool ok')) B M nm n ok' st := by
 obtain ⟨v, h1, h2⟩ := h.m
 exact ⟨(Below.heap_setCell _ ⟨B + 2, 0, none⟩ _ _ (by simp)).trans h.box, (Below.heap_setCell _ ⟨B + 2, 0, none⟩ _ _ (by simp)).trans h.n, blk_put h.ok 0 _ rfl, ⟨v, (Below.heap_setCell _ ⟨B + 2, 0, none⟩ _ _ (by simp; omega)).trans h1, R_low h2 (by simp) _⟩, h.below.setCell (p := ⟨B + 2, 0, none⟩) (by simp; omega) _, by simpa using h.size⟩
theorem PSt.stb {w W W' : World} {B M : Nat} {nm : ByteArray} {n : Int} {ok : Bool} {st : List ByteArray × Bool} (h : PSt w W B M nm n ok st) (hM : M < B) (hs : StB (B + 3) W W') : PSt w W' B M nm n ok st := by
 obtain ⟨u, rfl⟩ := hs
 obtain ⟨v, h1, h2⟩ := h.m
 exact ⟨(Below.heap_setCell _ ⟨B + 3, 0, none⟩ _ _ (by simp)).trans h.box, (Below.heap_setCell _ ⟨B + 3, 0, none⟩ _ _ (by simp)).trans h.n, (Below.heap_setCell _ ⟨B + 3, 0, none⟩ _ _ (by simp)).trans h.ok, ⟨v, (Below.heap_setCell _ ⟨B + 3, 0, none⟩ _ _ (by simp; omega)).trans h1, R_low h2 (by simp) _⟩, h.below.setCell (p := ⟨B + 3, 0, none⟩) (by simp; omega) _, by simpa using h.size⟩
theorem PSt.setmore {w W : World} {B M : Nat} {nm : ByteArray} {n : Int} {ok : Bool} {st : List ByteArray × Bool} (h : PSt w W B M nm n ok st) (hM : M < B) (m' : Bool) : PSt w (W.setCell ⟨M, 3, none⟩ (.bool m')) B M nm n ok (st.1, m') := by
 obtain ⟨v, h1, h2⟩ := h.m
 exact ⟨(Below.heap_setCell _ ⟨M, 3, none⟩ _ _ (by simp; omega)).trans h.box, (Below.heap_setCell _ ⟨M, 3, none⟩ _ _ (by simp; omega)).trans h.n, (Below.heap_setCell _ ⟨M, 3, none⟩ _ _ (by simp; omega)).trans h.ok, ⟨v, blk_put h1 3 _ rfl, R_low h2 (by simp; omega) _⟩, h.below.setCell (p := ⟨M, 3, none⟩) (by simp) _, by simpa using h.size⟩
theorem PSt.growB {w W W' : World} {B M : Nat} {nm : ByteArray} {n : Int} {ok : Bool} {st : List ByteArray × Bool} (h : PSt w W B M nm n ok st) (hM : M < B) (hb : Below W.heap.size W W') : PSt w W' B M nm n ok st := by
 obtain ⟨v, h1, h2⟩ := h.m
 exact ⟨(hb.block _ (blk_lt h.box)).trans h.box, (hb.block _ (blk_lt h.n)).trans h.n, (hb.block _ (blk_lt h.ok)).trans h.ok, ⟨v, (hb.block _ (blk_lt h1)).trans h1, Kd.R_below h2 hb⟩, h.below.trans (hb.mono (by have := h.size; omega)), Nat.le_trans h.size hb.size⟩
theorem cell_al {W : World} {p : Addr} {v : Value} (h : W.cell? p = some v) (o : Obj) : (W.alloc o).cell? p = some v := ((below_alloc (Below.refl W.heap.size W) o).cell (World.block_lt_of_cell? W _ h)).trans h
theorem info9 : (Tryd.prog.info? 9).map (fun i => (i.zero, i.size, i.bytes)) = some (some (.string ⟨#[]⟩), 1, 16) := by kernel_rfl
theorem rnd_none {f0 f3 : Int} {f1 f2 e : ByteArray} {f4 f5 b1 b2 b3 b4 : Bool} (h1 : isDots f1 = b1) (h2 : isClose e = b2) (h3 : (f0 == 1) = b3) (h4 : isComma e = b4) (hb : (b1 && b2) = false) (hc : (b3 && (b2 || b4)) = false) (st : List ByteArray × Bool) : rnd (⟨f0, f1, f2, f3, f4, f5⟩, e) st = none := by
 subst h1 h2 h3 h4
 unfold rnd
 rw [if_neg (by rw [hb]; decide), if_neg (by rw [hc]; decide)]
theorem rnd_name {f0 f3 : Int} {f1 f2 e : ByteArray} {f4 f5 b1 b2 b3 b4 : Bool} (h1 : isDots f1 = b1) (h2 : isClose e = b2) (h3 : (f0 == 1) = b3) (h4 : isComma e = b4) (hb : (b1 && b2) = false) (hc : (b3 && (b2 || b4)) = true) (st : List ByteArray × Bool) : rnd (⟨f0, f1, f2, f3, f4, f5⟩, e) st = some (st.1 ++ [f1], st.2) := by
 subst h1 h2 h3 h4
 unfold rnd
 rw [if_neg (by rw [hb]; decide), if_pos hc]
theorem rnd_dots {f0 f3 : Int} {f1 f2 e : ByteArray} {f4 f5 : Bool} (h1 : isDots f1 = true) (h2 : isClose e = true) (st : List ByteArray × Bool) : rnd (⟨f0, f1, f2, f3, f4, f5⟩, e) st = some (st.1, true) := by
 unfold rnd
 rw [if_pos (by simp [h1, h2])]
theorem PSt.setpar {w W w1 : World} {B M : Nat} {nm : ByteArray} {n : Int} {ok : Bool} {st : List ByteArray × Bool} {pv v1 : Value} {x : ByteArray} (h : PSt w W B M nm n ok st) (hM : M < B) (hm : W.heap[M]? = some (.cells #[.string nm, .bool true, pv, .bool st.2, .slice none 0 0] 32 (0, 0))) (hR : Kd.string.R 9 W (B + 4) (fun _ => True) pv st.1)
  (hR1 : Kd.string.R 9 w1 (B + 4) (fun _ => True) v1 (st.1 ++ [x])) (hg : W.drew.grownBy w1 pv.ownBlock) : PSt w (w1.setCell ⟨M, 2, none⟩ v1) B M nm n ok (st.1 ++ [x], st.2) := by
 have nb : ∀ {k : Nat} {c : Array Value} {t : Nat}, W.heap[k]? = some (.cells c t (0, 0)) → 9 ≠ t → w1.heap[k]? = some (.cells c t (0, 0)) := fun hk ht =>
  (hg.block _ (blk_lt hk) (Kd.R_ne hR hk ht)).trans hk
 have hm1 := nb hm (by decide)
 exact ⟨(Below.heap_setCell _ ⟨M, 2, none⟩ _ _ (by simp; omega)).trans (nb h.box (by decide)), (Below.heap_setCell _ ⟨M, 2, none⟩ _ _ (by simp; omega)).trans (nb h.n (by decide)), (Below.heap_setCell _ ⟨M, 2, none⟩ _ _ (by simp; omega)).trans (nb h.ok (by decide)), ⟨v1, blk_put hm1 2 _ rfl, R_low hR1 (by simp; omega) _⟩,
  Below.setCell (p := ⟨M, 2, none⟩) (((h.below.trans (below_drew (Below.refl _ _))).grown hg (by have := h.size; simp; omega) (fun k e => by have := Kd.R_base hR k e; omega))) (by simp) _, by simpa using Nat.le_trans h.size hg.size⟩
theorem wentOn_len : ∀ (l : List (S48 × ByteArray)) (st st' : List ByteArray × Bool), wentOn l st = some st' → st'.1.length ≤ st.1.length + l.length
 | [], st, st', h => by cases h; simp
 | x :: l, st, st', h => by
  rw [wentOn] at h
  split at h
  ·cases h
  ·obtain ⟨s, h1, h2⟩ := Option.bind_eq_some_iff.1 h
   have h3 := wentOn_len l s st' h2
   have h4 : s.1.length ≤ st.1.length + 1 := by
    unfold rnd at h1
    split at h1
    ·cases h1; simp
    ·split at h1
     ·cases h1; simp
     ·cases h1
   simp only [List.length_cons]; omega
theorem PSt.setpar_keep {w W w1 : World} {B M : Nat} {nm : ByteArray} {n : Int} {ok : Bool} {st : List ByteArray × Bool} {pv v1 : Value} (h : PSt w W B M nm n ok st) (hM : M < B) (hR : Kd.string.R 9 W (B + 4) (fun _ => True) pv st.1) (hg : W.drew.grownBy w1 pv.ownBlock) :
  KeepM (fun k => k = M ∨ k = B + 1) (B + 4) W (w1.setCell ⟨M, 2, none⟩ v1) ∧ KeepsOthers W (w1.setCell ⟨M, 2, none⟩ v1) := by
 refine ⟨fun k hk hn => (Below.heap_setCell _ ⟨M, 2, none⟩ _ _ (by simp; omega)).trans (hg.block k (by have := h.size; simp; omega) (fun e => by have := Kd.R_base hR k e.symm; omega)), ?_⟩
 refine KeepsOthers.trans (KeepsOthers.trans (KeepsOthers.drew W) (KeepsOthers.of_grownBy hg fun j o hj ho => ?_)) (KeepsOthers.setCell _ _ _)
 obtain ⟨c, hc⟩ := Kd.R_typed hR j hj
 have ho' : W.heap[j]? = some o := ho
 rw [hc] at ho'; cases ho'; rfl
theorem went_next {x : S48 × ByteArray} {l : List (S48 × ByteArray)} {st st' : List ByteArray × Bool} (h : wentOn l ([], false) = some st) (hc : isClose x.2 = false) (hr : rnd x st = some st') : wentOn (l ++ [x]) ([], false) = some st' := by
 rw [wentOn_snoc, h, Option.bind_some, if_neg (by rw [hc]; decide), hr]
end Go.Proofs.YtcbfbefpbjmglaaDoor.Mac
namespace Go.Proofs.YtcbfbefpbjmglaaDoor.Mac
open Go.RowKit Go.Proofs.YtcbfbefpbjmglaaDoorW.PrintLast
variable {P : Program} {ops : Array Oper} {Q : Exit → Act → World → Prop}
theorem rowsIn_round {l n : Nat} {row : String} {args : Array Value} {w : World} {R : Value → World → Prop} (h : Rows P row args w R) : RowsIn (Fence.wide.inRound l) n P row args w R :=
 fun c cs _ => let ⟨v, w', r, s⟩ := h c cs; ⟨v, w', r, stepsIn_wide.2 s⟩
theorem oper_round {l n : Nat} {o : Oper} (hd : ∀ c, o.op ≠ .defer c) {K : Act → World → Prop} {a : Act} {w : World} (h : o.wp P a w K Q) : o.wpIn (Fence.wide.inRound l) n P a w K Q := by
 unfold Oper.wpIn
 refine ⟨fun _ _ => trivial, ?_⟩
 unfold Oper.wp at h
 rw [Oper.semAt_plain _ _ _ hd]
 generalize (execOp a.eval o).run P w = r at h
 cases r with
 | ok x w' =>
  cases x with
  | enter f args => exact ⟨(fun hh => by cases hh), CallsIn.inRound l (callsIn_wide.2 h)⟩
  | row row args => exact ⟨(fun hh => by cases hh), rowsIn_round h⟩
  | round _ _ _ _ _ => exact h.elim
  | _ => exact h
 | halt x w' => cases x <;> exact h
def noDeferB (ops : Array Oper) : Bool := ops.all fun o => match o.op with | .defer _ => false | _ => true
theorem noDefer_of (h : noDeferB ops = true) {i : Nat} {o : Oper} (ho : ops[i]? = some o) : ∀ c, o.op ≠ .defer c := by
 intro c hc
 rw [noDeferB, Array.all_eq_true] at h
 obtain ⟨hi, he⟩ := Array.getElem?_eq_some_iff.1 ho
 have := h i hi
 rw [he, hc] at this
 cases this
theorem wpOp_round {l n : Nat} (hlo : ¬ LetsOut Q) (hd : noDeferB ops = true) {i : Nat} {K : Act → World → Prop} {a : Act} {w : World} (h : wpOp P ops Q i K a w) : wpOpIn (Fence.wide.inRound l) n P ops Q i K a w := by
 unfold wpOp at h
 unfold wpOpIn
 cases ho : ops[i]? with
 | none => rw [ho] at h; exact h
 | some o =>
  rw [ho] at h
  simp only at h ⊢
  split
  ·rename_i hw; rw [if_pos hw] at h; rcases h with h | h
   ·exact oper_round (noDefer_of hd ho) h
   ·exact absurd h.2 hlo
  ·rename_i hw; rw [if_neg hw] at h; exact ⟨fun _ _ => trivial, h⟩
theorem wpAny_round {l n : Nat} {md : Region.Mode} (hlo : ¬ LetsOut Q) (hd : noDeferB ops = true) : ∀ (fuel : Nat) (listed : Array Bool) (a : Act) (w : World), wpAny P md ops Q fuel listed a w → wpAnyIn (Fence.wide.inRound l) n P md ops Q fuel listed a w
 | 0, _, _, _, h => h
 | fuel + 1, _, _, _, h => ⟨h.1, fun i hi => wpOp_round hlo hd (wpOp_mono (fun a w => wpAny_round hlo hd fuel _ a w) (h.2 i hi))⟩
theorem startIn_ {S : World → Prop} {ds : List Nat} {id n l m : Nat} {a : Act} {w : World} (z : Array Bool) (hlo : ¬ LetsOut Q) (hd : noDeferB ops = true) (hm : P.follows .mixedOrders = true) (hn : ops.size = n) (hl : Array.replicate n false = z) (hS : S w.drew)
  (h : S w.drew → wpAnyLast P .any ops Q S ds n z a w.drew) : (Code.region id ops true).wpIn (Fence.wide.inRound l) m P Q a w := by
 subst hn
 subst hl
 exact wpIn_region_any hm (wpAny_round hlo hd _ _ _ _ (wpAny_of_last _ _ _ _ (h hS)))
end Go.Proofs.YtcbfbefpbjmglaaDoor.Mac
