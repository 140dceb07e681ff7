import Derived.Test.YtcbfbefpbjmglaaGreatDoorZ
import Derived.Test.YtcbfbefpbjmglaaGreatDoorM2
import Derived.RegionTactic
import Derived.ChangeAlike
import Derived.BigRegion
set_option maxRecDepth 100000
set_option linter.unusedSimpArgs false
set_option linter.unusedVariables false
namespace Go.Proofs.YtcbfbefpbjmglaaGreatDoor.Mac
open Go.RowKit PA YtcbfbefpbjmglaaGreatDoorT YtcbfbefpbjmglaaGreatDoorW PrintWords PrintLast PrintMore
theorem param_c2 (bn bm j : Nat) (nm : ByteArray) (fn more : Bool) (Ap Ab : Option Addr) (cp cb : Nat) (params : List ByteArray) (body : List S55) (w : World) (hpl : params.length ≤ 1000000) (hbl : body.length ≤ 1000000) (hj : j ≤ 1000000)
  (h1 : w.cell? ⟨bn, 0, none⟩ = some (.int .i64 body.length)) (h2 : w.heap[bm]? = some (.cells #[.string nm, .bool fn, .slice Ap params.length cp, .bool more, .slice Ab body.length cb] 33 (0, 0)))
  (hP : Kd.C Kd.string w Ap params.length params) (hpc : params.length ≤ cp) (hB : Kd.C k55 w Ab body.length body) (hbc : body.length ≤ cb) (ji : Int) (hji : ji = j) (b : Bool) (hb : paramB params more body j = b) :
  Calls Tryz.prog 52 #[.int .i64 ji, .pointer (some ⟨bn, 0, none⟩), .pointer (some ⟨bm, 0, none⟩)] w (BoolDrew b w) := by
 subst hji; subst hb
 exact param_c bn bm j nm fn more Ap Ab cp cb params body w hpl hbl hj h1 h2 hP hpc hB hbc
def BarePost (w : World) (l : List S55) (e : Ending) (w' : World) : Prop := ∃ A c, e = .returned (.slice A (bareP l).length c) ∧ (bareP l).length ≤ c ∧ Kd.C k55 w' A (bareP l).length (bareP l) ∧ Below w.heap.size w w'
theorem bare_c (A : Option Addr) (c : Nat) (l : List S55) (w : World) (hl : l.length ≤ 1000000) (hr : Kd.C k55 w A l.length l) (hc : l.length ≤ c) : Calls Tryz.prog 20 #[.slice A l.length c] w (BarePost w l) := by
 refine (macro_bare.calls _ A c l _ w hr hc (bare_f l hl)).mono ?_
 rintro e w' ⟨v, rfl, hR, hb⟩
 obtain ⟨A2, c2, rfl, l2, g2⟩ := Kd.R_reads hR
 exact ⟨A2, c2, rfl, l2, g2, hb⟩
theorem line1_C (W : World) (s : ByteArray) : Kd.C k63 (W.alloc (.cells #[.int .i64 1, .string s] 63)) (some ⟨W.heap.size, 0, none⟩) 1 [⟨1, s⟩] := by
 refine ⟨rfl, by decide, fun _ => ⟨_, rfl, fun j p hj => ?_⟩⟩
 obtain rfl : j = 0 := by have := (List.getElem?_eq_some_iff.1 hj).1; simp at this; exact this
 obtain rfl : (⟨1, s⟩ : S63) = p := by simpa using hj
 refine ⟨[.int .i64 1, .string s], rfl, k63_mk _ _, fun i u hu => ?_⟩
 have hb := blk_new W (.cells #[.int .i64 1, .string s] 63)
 have hadd : ∀ m, (⟨W.heap.size, 0, none⟩ : Addr).add m = ⟨W.heap.size, m, none⟩ := fun m => by unfold Addr.add; split <;> simp_all
 rw [hadd, Nat.zero_mul, Nat.zero_add, bC hb i]
 simpa using hu
theorem spell_size (l : List S55) (hl : l.length ≤ 500) (h : ∀ t ∈ l, t.f1.size ≤ 1048576) : (spellB l).size < 4294967281 := by
 have hlen : (Sp.itemsOf l).length = l.length := Sp.upto_length _ _
 have h1 := Sp.spellN_len 1048576 (Sp.itemsOf l) (fun x hx => by
  unfold Sp.itemsOf Sp.upto at hx
  obtain ⟨j, hj, rfl⟩ := List.mem_map.1 hx
  rw [List.mem_range] at hj
  show (l.getD j z55).f1.size ≤ _
  rw [List.getD_eq_getElem?_getD]
  simp only [List.getElem?_eq_getElem hj, Option.getD_some]
  exact h _ (List.getElem_mem _))
 rw [hlen] at h1
 have : (spellB l).size = (Sp.spellN (Sp.itemsOf l)).length := by simp [spellB, ByteArray.size]
 rw [this]
 have h2 : l.length * (1048576 + 1) ≤ 500 * (1048576 + 1) := Nat.mul_le_mul_right _ hl
 omega
theorem spell_c (A : Option Addr) (c : Nat) (l : List S55) (w : World) (hl : l.length ≤ 1000000) (h : ∀ t ∈ l, t.f1.size ≤ 1048576) (hr : Kd.C k55 w A l.length l) (hc : l.length ≤ c) : Calls Tryz.prog 32 #[.slice A l.length c] w fun e w' => e = .returned (.string (spellB l)) ∧ Below w.heap.size w w' :=
 token_Spell.calls A c l _ w hr hc (by unfold token_Spell.f; rw [if_pos (by unfold fitsT; rw [Bool.and_eq_true, List.all_eq_true, decide_eq_true_eq]; exact ⟨fun x hx => decide_eq_true (h x hx), by omega⟩)]; rfl)
theorem lexF_len : ∀ (l : List (Int × List UInt8)) (out : List TokP) (st : St), out.length ≤ 20000 → (lexF l out st).1.length ≤ 20000
 | [], out, st, h => by
  unfold lexF; split
  ·exact Nat.zero_le _
  ·exact h
 | (N, S) :: r, out, st, h => by
  unfold lexF; split
  ·exact lexF_len r _ _ (foldT_len _ _ _ _ rfl h)
  ·exact Nat.zero_le _
theorem lexP_len (l : List (Int × List UInt8)) : (lexP l).1.length ≤ 20000 := lexF_len l [] st0 (Nat.zero_le _)
def LexPost (w : World) (R : List TokP × Int × Int) (e : Ending) (w' : World) : Prop := ∃ A c L q1 q2, Hid (L = R.1.map toT ∧ q1 = R.2.1 ∧ q2 = R.2.2) ∧ e = .returned (.tuple #[.slice A (L : List S55).length c, .int .i64 q1, .int .i64 q2]) ∧ L.length ≤ c ∧ Kd.C k55 w' A L.length L ∧ Below w.heap.size w w'
theorem lex_c (s : ByteArray) (W : World) (hs : s.size < 4294967281) (hT : Tab W) : Calls Tryz.prog 22 #[.slice (some ⟨W.heap.size, 0, none⟩) 1 1] (W.alloc (.cells #[.int .i64 1, .string s] 63)) (LexPost (W.alloc (.cells #[.int .i64 1, .string s] 63)) (lexP [(1, s.data.toList)])) := by
 refine (token_Lex.calls (some ⟨W.heap.size, 0, none⟩) 1 [⟨1, s⟩] _ _ _ _ (line1_C W s) (Nat.le_refl _) (hT.grow (bA (Below.refl _ _) _)) (lex_one s hs)).mono ?_
 rintro e w' ⟨v, rfl, hR, hb⟩
 obtain ⟨A2, c2, rfl, l2, g2⟩ := Kd.R_reads hR
 exact ⟨A2, c2, _, _, _, Lib.hid ⟨rfl, rfl, rfl⟩, rfl, l2, g2, hb⟩
def BoolBelow (b : Bool) (w : World) (e : Ending) (w' : World) : Prop := e = .returned (.bool b) ∧ Below w.heap.size w w'
theorem equal_c (A B : Option Addr) (c d : Nat) (a b : List S55) (w : World) (ha : a.length ≤ 1000000) (hA : Kd.C k55 w A a.length a) (hc : a.length ≤ c) (hB : Kd.C k55 w B b.length b) (hd : b.length ≤ d) :
  Calls Tryz.prog 38 #[.slice A a.length c, .slice B b.length d] w (BoolBelow (toksEq a b) w) :=
 (api_Tok_38.calls _ A c a B d b _ w hA hc hB hd (equal_f a b ha)).mono fun e w' h => by obtain ⟨h, ⟨n, rfl⟩⟩ := h; exact ⟨h, bQ (Below.refl _ _) _⟩
theorem drewN_below (w : World) (n : Nat) : Below w.heap.size w (w.drewN n) := bQ (Below.refl _ _) _
structure BSt (w W : World) (B : Nat) (nm : ByteArray) (fn more : Bool) (Ap Ab : Option Addr) (cp cb : Nat) (params : List ByteArray) (body : List S55) : Prop where
 m : W.heap[B]? = some (.cells #[.string nm, .bool fn, .slice Ap params.length cp, .bool more, .slice Ab body.length cb] 33 (0, 0))
 n : W.heap[B + 1]? = some (.cells #[.int .i64 body.length] 3 (0, 0))
 p : Kd.C Kd.string W Ap params.length params
 b : Kd.C k55 W Ab body.length body
 bw : Below w.heap.size w W
 s : w.heap.size ≤ W.heap.size
theorem BSt.below {w W W' : World} {B : Nat} {nm : ByteArray} {fn more : Bool} {Ap Ab : Option Addr} {cp cb : Nat} {params : List ByteArray} {body : List S55} (h : BSt w W B nm fn more Ap Ab cp cb params body) (hb : Below W.heap.size W W') : BSt w W' B nm fn more Ap Ab cp cb params body :=
 ⟨(hb.block _ (blk_lt h.m)).trans h.m, (hb.block _ (blk_lt h.n)).trans h.n, Kd.C_below h.p hb, Kd.C_below h.b hb, h.bw.trans (hb.mono h.s), Nat.le_trans h.s hb.size⟩
set_option maxHeartbeats 1000000 in
theorem isBody_c (nm : ByteArray) (fn more : Bool) (Ap Ab : Option Addr) (cp cb : Nat) (params : List ByteArray) (body : List S55) (w : World) (hT : Tab w) (hpl : params.length ≤ 1000000) (hbl : body.length ≤ 1000000) (hsz : ∀ t ∈ body, t.f1.size ≤ 1048576)
  (hP : Kd.C Kd.string w Ap params.length params) (hpc : params.length ≤ cp) (hB : Kd.C k55 w Ab body.length body) (hbc : body.length ≤ cb) :
  Calls Tryz.prog 35 #[.agg #[.string nm, .bool fn, .slice Ap params.length cp, .bool more, .slice Ab body.length cb]] w (BoolBelow (isBodyP fn params more body) w) := by
 obtain ⟨W0, hW0⟩ : ∃ W0, (w.alloc (.cells #[.string nm, .bool fn, .slice Ap params.length cp, .bool more, .slice Ab body.length cb] 33)).alloc (.cells #[.int .i64 body.length] 3) = W0 := ⟨_, rfl⟩
 have hb0 : Below w.heap.size w W0 := by rw [← hW0]; exact ((Below.refl _ w).alloc (Nat.le_refl _) _).alloc (by simp) _
 obtain ⟨B, hBw⟩ : ∃ B, w.heap.size = B := ⟨_, rfl⟩
 have hs : BSt w W0 B nm fn more Ap Ab cp cb params body := by
  refine ⟨?_, ?_, Kd.C_below hP hb0, Kd.C_below hB hb0, hb0, hb0.size⟩
  ·rw [← hW0, ← hBw]; exact (Below.heap_alloc _ _ _ (by simp)).trans (blk_new w _)
  ·rw [← hW0, ← hBw]; have := blk_new (w.alloc (.cells #[.string nm, .bool fn, .slice Ap params.length cp, .bool more, .slice Ab body.length cb] 33)) (.cells #[.int .i64 body.length] 3); rwa [show (w.alloc (.cells #[.string nm, .bool fn, .slice Ap params.length cp, .bool more, .slice Ab body.length cb] 33)).heap.size = w.heap.size + 1 by simp] at this
 have TTB := Lib.hid (fun (W : World) (hb : Below w.heap.size w W) => hT.grow hb)
 have c0 : W0.cell? ⟨B, 4, none⟩ = some (.slice Ab body.length cb) := bC hs.m 4
 have c1 : W0.cell? ⟨B + 1, 0, none⟩ = some (.int .i64 body.length) := bC hs.n 0
 have HS := Lib.hid hs
 have HSD := Lib.hid (hs.below (bD (Below.refl _ _)))
 have HSZ := Lib.hid hsz
 have HBW := Lib.hid hBw
 clear hT hb0 hs hsz hP hB
 by_cases h5 : body.length ≤ 500
 ·have d1 : decide (500 < (body.length : Int)) = false := decide_eq_false (by omega)
  have d2 : ¬ (500 < (body.length : Int)) := by omega
  cases he1 : toksEq body (bareP body) with
  | false =>
   have key : isBodyP fn params more body = false := by unfold isBodyP; rw [he1, Bool.false_and, Bool.and_false]
   rw [key]
   have E1 := Lib.hid he1
   clear he1
   go_enter Tryz.func35, Tryz.ntmps35
   go_wp2
   refine start_ (n := 11) (S := fun w' => w'.cell? ⟨B + 1, 0, none⟩ = some (.int .i64 body.length) ∧ w'.cell? ⟨B, 4, none⟩ = some (.slice Ab body.length cb)) (ds := []) (fl 0 11) (by kernel_rfl) rfl rfl ⟨c1, c0⟩ (fun hHeld => ?_)
   refine tk 0 13 (fl 1 10) rfl rfl hHeld (by rintro w' ⟨s0, s1⟩; go_simp; with_reducible rfl) ?_
   refine pu 1 14 (fl 2 9) ?_
   refine pu 2 15 (fl 3 8) ?_
   refine pu 3 16 (fl 4 7) ?_
   refine pu 5 18 #[true, true, true, true, false, true, false, false, false, false, false] ?_
   refine tk 4 17 (fl 6 5) rfl rfl hHeld (by rintro w' ⟨s0, s1⟩; go_simp; with_reducible rfl) ?_
   refine tk 6 19 (fl 7 4) rfl rfl hHeld (by rintro w' ⟨s0, s1⟩; go_simp; with_reducible rfl) ?_
   refine one_ (i := 7) (N := some 20) (fl 8 3) rfl rfl (by kernel_rfl) (by decide) (fun K hK => ?_)
   refine goes_ Tryz.func20 (by kernel_rfl) rfl #[.slice Ab body.length cb] (by rfl) rfl rfl (by simp only [List.map_toArray, List.map_cons, List.map_nil]; rfl) ?_
   with_reducible refine (bare_c Ab cb body _ (by omega) HSD.out.b hbc).mono ?_
   rintro e w3 ⟨A3, c3, rfl, hc3, hR3, hb3⟩
   refine ⟨_, rfl, ?_⟩
   have HS3 := Lib.hid (HSD.out.below hb3)
   refine hK.out _ _ ⟨(bC HS3.out.n 0), (bC HS3.out.m 4)⟩ (fun hHeld => ?_)
   clear hK K
   refine norm_ (a' := ?_) ?_ ?_
   rotate_left
   ·show Act.put _ (some 20) _ = _
    simp only [Act.put, sT, sZ, sS, i64_w, i32_w]
    rfl
   refine one_ (i := 8) (N := some 21) (fl 9 2) rfl rfl (by kernel_rfl) (by decide) (fun K hK => ?_)
   refine goes_ Tryz.func38 (by kernel_rfl) rfl #[.slice Ab body.length cb, .slice A3 (bareP body).length c3] (by rfl) rfl rfl (by simp only [List.map_toArray, List.map_cons, List.map_nil]; rfl) ?_
   with_reducible refine ((E1.out ▸ equal_c Ab A3 cb c3 body (bareP body) _ (by omega) HS3.out.b hbc hR3 hc3)).mono ?_
   rintro e w4 ⟨rfl, hb4⟩
   refine ⟨_, rfl, ?_⟩
   have HS4 := Lib.hid (HS3.out.below hb4)
   refine hK.out _ _ ⟨(bC HS4.out.n 0), (bC HS4.out.m 4)⟩ (fun hHeld => ?_)
   clear hK K
   refine norm_ (a' := ?_) ?_ ?_
   rotate_left
   ·show Act.put _ (some 21) _ = _
    simp only [Act.put, sT, sZ, sS, i64_w, i32_w]
    rfl
   refine pu 9 22 (fl 10 1) ?_
   refine pu 10 23 (fl 11 0) ?_
   refine done_ (by kernel_rfl) ?_

   go_wp2
   go_ret
   exact ⟨rfl, HS4.out.bw⟩
  | true =>
   have E1 := Lib.hid he1
   clear he1
   have hsp := spell_size body h5 HSZ.out
   go_enter Tryz.func35, Tryz.ntmps35
   go_wp2
   refine start_ (n := 11) (S := fun w' => w'.cell? ⟨B + 1, 0, none⟩ = some (.int .i64 body.length) ∧ w'.cell? ⟨B, 4, none⟩ = some (.slice Ab body.length cb)) (ds := []) (fl 0 11) (by kernel_rfl) rfl rfl ⟨c1, c0⟩ (fun hHeld => ?_)
   refine tk 0 13 (fl 1 10) rfl rfl hHeld (by rintro w' ⟨s0, s1⟩; go_simp; with_reducible rfl) ?_
   refine pu 1 14 (fl 2 9) ?_
   refine pu 2 15 (fl 3 8) ?_
   refine pu 3 16 (fl 4 7) ?_
   refine pu 5 18 #[true, true, true, true, false, true, false, false, false, false, false] ?_
   refine tk 4 17 (fl 6 5) rfl rfl hHeld (by rintro w' ⟨s0, s1⟩; go_simp; with_reducible rfl) ?_
   refine tk 6 19 (fl 7 4) rfl rfl hHeld (by rintro w' ⟨s0, s1⟩; go_simp; with_reducible rfl) ?_
   refine one_ (i := 7) (N := some 20) (fl 8 3) rfl rfl (by kernel_rfl) (by decide) (fun K hK => ?_)
   refine goes_ Tryz.func20 (by kernel_rfl) rfl #[.slice Ab body.length cb] (by rfl) rfl rfl (by simp only [List.map_toArray, List.map_cons, List.map_nil]; rfl) ?_
   with_reducible refine (bare_c Ab cb body _ (by omega) HSD.out.b hbc).mono ?_
   rintro e w3 ⟨A3, c3, rfl, hc3, hR3, hb3⟩
   refine ⟨_, rfl, ?_⟩
   have HS3 := Lib.hid (HSD.out.below hb3)
   refine hK.out _ _ ⟨(bC HS3.out.n 0), (bC HS3.out.m 4)⟩ (fun hHeld => ?_)
   clear hK K
   refine norm_ (a' := ?_) ?_ ?_
   rotate_left
   ·show Act.put _ (some 20) _ = _
    simp only [Act.put, sT, sZ, sS, i64_w, i32_w]
    rfl
   refine one_ (i := 8) (N := some 21) (fl 9 2) rfl rfl (by kernel_rfl) (by decide) (fun K hK => ?_)
   refine goes_ Tryz.func38 (by kernel_rfl) rfl #[.slice Ab body.length cb, .slice A3 (bareP body).length c3] (by rfl) rfl rfl (by simp only [List.map_toArray, List.map_cons, List.map_nil]; rfl) ?_
   with_reducible refine ((E1.out ▸ equal_c Ab A3 cb c3 body (bareP body) _ (by omega) HS3.out.b hbc hR3 hc3)).mono ?_
   rintro e w4 ⟨rfl, hb4⟩
   refine ⟨_, rfl, ?_⟩
   have HS4 := Lib.hid (HS3.out.below hb4)
   refine hK.out _ _ ⟨(bC HS4.out.n 0), (bC HS4.out.m 4)⟩ (fun hHeld => ?_)
   clear hK K
   refine norm_ (a' := ?_) ?_ ?_
   rotate_left
   ·show Act.put _ (some 21) _ = _
    simp only [Act.put, sT, sZ, sS, i64_w, i32_w]
    rfl
   refine pu 9 22 (fl 10 1) ?_
   refine pu 10 23 (fl 11 0) ?_
   refine done_ (by kernel_rfl) ?_

   have c4 : w4.cell? ⟨B, 4, none⟩ = some (.slice Ab body.length cb) := bC HS4.out.m 4
   clear c0 c1 hR3 hb3 hb4
   go_wp2_with (first
    | (go_at_call 32; refine (spell_c Ab cb body _ hbl HSZ.out HS4.out.b hbc).mono ?_; rintro e w5 ⟨rfl, hb5⟩; have HS5 := Lib.hid (HS4.out.below hb5); have HT5 := Lib.hid (TTB.out w5 HS5.out.bw); clear c4 hb5)
    | (go_at_call 22; refine (lex_c (spellB body) _ hsp HT5.out).mono ?_; rintro e w6 ⟨A6, c6, L6, q1, q2, HL6, rfl, hc6, hR6, hb6⟩; have HS6 := Lib.hid ((HS5.out.below (bA (Below.refl _ _) _)).below hb6); clear hb6))
   have hq1 : q1 = (lexS body).2.1 := HL6.out.2.1
   have hlex : L6.length ≤ 1000000 := by
    rw [HL6.out.1, List.length_map]; exact Nat.le_trans (lexP_len _) (by decide)
   have hL6 : L6 = (lexS body).1.map toT := HL6.out.1
   have HQ := Lib.hid (And.intro hq1 hL6)
   have c0 : w6.cell? ⟨B, 4, none⟩ = some (.slice Ab body.length cb) := bC HS6.out.m 4
   have HS6D := Lib.hid (show Kd.C k55 w6.drew A6 L6.length L6 from Kd.C_below hR6 (bD (Below.refl _ _)))
   have HS6E := Lib.hid (HS6.out.below (bD (Below.refl _ _)))
   clear hq1 hL6 hR6 hsp
   by_cases hz : q1 = 0
   ·subst hz
    cases he3 : toksEq body (bareP L6) with
    | false =>
     have key : isBodyP fn params more body = false := by unfold isBodyP; rw [← HQ.out.2, he3, Bool.false_and, Bool.and_false, Bool.and_false, Bool.and_false]
     have KEY := Lib.hid key
     have E3 := Lib.hid he3
     clear he3 key
     refine start_ (n := 10) (S := fun w' => w'.cell? ⟨B, 4, none⟩ = some (.slice Ab body.length cb)) (ds := []) (fl 0 10) (by kernel_rfl) rfl rfl (c0) (fun hHeld => ?_)
     refine pu 0 34 (fl 1 9) ?_
     refine pu 1 35 (fl 2 8) ?_
     refine pu 2 36 (fl 3 7) ?_
     refine pu 3 37 (fl 4 6) ?_
     refine pu 5 39 #[true, true, true, true, false, true, false, false, false, false] ?_
     refine tk 4 38 (fl 6 4) rfl rfl hHeld (by intro w' s0; go_simp; with_reducible rfl) ?_
     refine one_ (i := 6) (N := some 40) (fl 7 3) rfl rfl (by kernel_rfl) (by decide) (fun K hK => ?_)
     refine goes_ Tryz.func20 (by kernel_rfl) rfl #[.slice A6 L6.length c6] (by rfl) rfl rfl (by simp only [List.map_toArray, List.map_cons, List.map_nil]; rfl) ?_
     with_reducible refine (bare_c A6 c6 L6 _ hlex HS6D.out hc6).mono ?_
     rintro e w7 ⟨A7, c7, rfl, hc7, hR7, hb7⟩
     refine ⟨_, rfl, ?_⟩
     have HS7 := Lib.hid (HS6E.out.below hb7)
     refine hK.out _ _ ((bC HS7.out.m 4)) (fun hHeld => ?_)
     clear hK K
     refine norm_ (a' := ?_) ?_ ?_
     rotate_left
     ·show Act.put _ (some 40) _ = _
      simp only [Act.put, sT, sZ, sS, i64_w, i32_w]
      rfl
     refine one_ (i := 7) (N := some 41) (fl 8 2) rfl rfl (by kernel_rfl) (by decide) (fun K hK => ?_)
     refine goes_ Tryz.func38 (by kernel_rfl) rfl #[.slice Ab body.length cb, .slice A7 (bareP L6).length c7] (by rfl) rfl rfl (by simp only [List.map_toArray, List.map_cons, List.map_nil]; rfl) ?_
     with_reducible refine ((E3.out ▸ equal_c Ab A7 cb c7 body (bareP L6) _ (by omega) HS7.out.b hbc hR7 hc7)).mono ?_
     rintro e w8 ⟨rfl, hb8⟩
     refine ⟨_, rfl, ?_⟩
     have HS8 := Lib.hid (HS7.out.below hb8)
     refine hK.out _ _ ((bC HS8.out.m 4)) (fun hHeld => ?_)
     clear hK K
     refine norm_ (a' := ?_) ?_ ?_
     rotate_left
     ·show Act.put _ (some 41) _ = _
      simp only [Act.put, sT, sZ, sS, i64_w, i32_w]
      rfl
     refine pu 8 42 (fl 9 1) ?_
     refine pu 9 43 (fl 10 0) ?_
     refine done_ (by kernel_rfl) ?_

     go_wp2
     go_ret
     rw [KEY.out]
     exact ⟨rfl, HS8.out.bw⟩
    | true =>
     have E3 := Lib.hid he3
     clear he3
     refine start_ (n := 10) (S := fun w' => w'.cell? ⟨B, 4, none⟩ = some (.slice Ab body.length cb)) (ds := []) (fl 0 10) (by kernel_rfl) rfl rfl (c0) (fun hHeld => ?_)
     refine pu 0 34 (fl 1 9) ?_
     refine pu 1 35 (fl 2 8) ?_
     refine pu 2 36 (fl 3 7) ?_
     refine pu 3 37 (fl 4 6) ?_
     refine pu 5 39 #[true, true, true, true, false, true, false, false, false, false] ?_
     refine tk 4 38 (fl 6 4) rfl rfl hHeld (by intro w' s0; go_simp; with_reducible rfl) ?_
     refine one_ (i := 6) (N := some 40) (fl 7 3) rfl rfl (by kernel_rfl) (by decide) (fun K hK => ?_)
     refine goes_ Tryz.func20 (by kernel_rfl) rfl #[.slice A6 L6.length c6] (by rfl) rfl rfl (by simp only [List.map_toArray, List.map_cons, List.map_nil]; rfl) ?_
     with_reducible refine (bare_c A6 c6 L6 _ hlex HS6D.out hc6).mono ?_
     rintro e w7 ⟨A7, c7, rfl, hc7, hR7, hb7⟩
     refine ⟨_, rfl, ?_⟩
     have HS7 := Lib.hid (HS6E.out.below hb7)
     refine hK.out _ _ ((bC HS7.out.m 4)) (fun hHeld => ?_)
     clear hK K
     refine norm_ (a' := ?_) ?_ ?_
     rotate_left
     ·show Act.put _ (some 40) _ = _
      simp only [Act.put, sT, sZ, sS, i64_w, i32_w]
      rfl
     refine one_ (i := 7) (N := some 41) (fl 8 2) rfl rfl (by kernel_rfl) (by decide) (fun K hK => ?_)
     refine goes_ Tryz.func38 (by kernel_rfl) rfl #[.slice Ab body.length cb, .slice A7 (bareP L6).length c7] (by rfl) rfl rfl (by simp only [List.map_toArray, List.map_cons, List.map_nil]; rfl) ?_
     with_reducible refine ((E3.out ▸ equal_c Ab A7 cb c7 body (bareP L6) _ (by omega) HS7.out.b hbc hR7 hc7)).mono ?_
     rintro e w8 ⟨rfl, hb8⟩
     refine ⟨_, rfl, ?_⟩
     have HS8 := Lib.hid (HS7.out.below hb8)
     refine hK.out _ _ ((bC HS8.out.m 4)) (fun hHeld => ?_)
     clear hK K
     refine norm_ (a' := ?_) ?_ ?_
     rotate_left
     ·show Act.put _ (some 41) _ = _
      simp only [Act.put, sT, sZ, sS, i64_w, i32_w]
      rfl
     refine pu 8 42 (fl 9 1) ?_
     refine pu 9 43 (fl 10 0) ?_
     refine done_ (by kernel_rfl) ?_

     have key : isBodyP fn params more body = bodyToks fn params more body 0 body := by
      unfold isBodyP; rw [← HQ.out.2, ← HQ.out.1, E1.out, E3.out, decide_eq_true h5]; rfl
     have KEY := Lib.hid key
     clear key c0 hHeld
     have c4 : w8.cell? ⟨B, 4, none⟩ = some (.slice Ab body.length cb) := bC HS8.out.m 4
     clear hc7 hR7 hb7 hb8 c4
     have c4 : w8.cell? ⟨B, 4, none⟩ = some (.slice Ab body.length cb) := bC HS8.out.m 4
     go_wp2
     go_loopw [48] (fun i W => ∃ k : Nat, k ≤ body.length ∧ i = .int .i64 k ∧ BSt w W B nm fn more Ap Ab cp cb params body ∧ Hid (bodyToks fn params more body 0 body = bodyToks fn params more body k (body.drop k))) (fun i _ => body.length - (intOf i).toNat)
     case atStart => exact ⟨0, Nat.zero_le _, rfl, HS8.out, Lib.hid rfl⟩
     case round =>
      clear c4
      obtain ⟨k, hk, rfl, hI, HR⟩ := hrel
      by_cases hlt : k < body.length
      ·obtain ⟨ad, had, a0, a1, a2, a3, a4, a5⟩ := at_T55 hI.b (k : Int) (by omega) (by omega)
       subst had
       rw [rd_at hlt, Int.toNat_natCast] at a0 a1 a2 a3 a4 a5
       have hdr : body.drop k = body[k] :: body.drop (k + 1) := List.drop_eq_getElem_cons hlt
       obtain ⟨T, hTk⟩ : ∃ T, body[k] = T := ⟨_, rfl⟩
       rw [hTk] at a0 a1 a2 a3 a4 a5 hdr
       obtain ⟨f0, f1, f2, f3, f4, f5⟩ := T
       have hHR := HR.out
       rw [hdr, bodyToks] at hHR
       have hnext : bodyTok fn params more body k ⟨f0, f1, f2, f3, f4, f5⟩ = true → Hid (bodyToks fn params more body 0 body = bodyToks fn params more body (k + 1) (body.drop (k + 1))) := fun h => Lib.hid (by rw [hHR, h, Bool.true_and])
       have hfalse : bodyTok fn params more body k ⟨f0, f1, f2, f3, f4, f5⟩ = false → bodyToks fn params more body 0 body = false := fun h => by rw [hHR, h, Bool.false_and]
       have y := blk_new wr (.cells #[.int .i64 f0, .string f1, .string f2, .int .i64 f3, .bool f4, .bool f5] 55)
       have e1 := bC y 1
       have c1 : wr.cell? ⟨B + 1, 0, none⟩ = some (.int .i64 body.length) := bC hI.n 0
       have c2 : wr.cell? ⟨B, 1, none⟩ = some (.bool fn) := bC hI.m 1
       have c3 : wr.cell? ⟨B, 3, none⟩ = some (.bool more) := bC hI.m 3
       have hBl : B < wr.heap.size := blk_lt hI.m
       have hBl1 : B + 1 < wr.heap.size := blk_lt hI.n
       have HB1 := Lib.hid (hI.below (bA (Below.refl _ _) (.cells #[.int .i64 f0, .string f1, .string f2, .int .i64 f3, .bool f4, .bool f5] 55)))
       clear y hTk hdr hHR HR hI
       cases h1 : (f1.toList == [35, 35]) with
       | true =>
        by_cases hk0 : k = 0
        ·have n0 : ((k : Int) == 0) = true := by simpa using hk0
         have HF := Lib.hid (hfalse (by simp only [bodyTok, h1]; simp [hk0]))
         clear hnext hfalse hk0
         go_wp2
         go_ret
         rw [KEY.out, HF.out]
         exact ⟨rfl, HB1.out.bw⟩
        ·have n0 : ((k : Int) == 0) = false := by simpa using hk0
         by_cases hk1 : k + 1 = body.length
         ·have n1 : ((k : Int) == (body.length : Int) - 1) = true := by simp; omega
          have HF := Lib.hid (hfalse (by simp only [bodyTok, h1]; simp [hk1]))
          clear hnext hfalse hk1 hk0
          go_wp2
          go_ret
          rw [KEY.out, HF.out]
          exact ⟨rfl, HB1.out.bw⟩
         ·have n1 : ((k : Int) == (body.length : Int) - 1) = false := by simp; omega
          have n1' : ¬ ((k : Int) = (body.length : Int) - 1) := by omega
          have HN := Lib.hid (hnext (by simp only [bodyTok, h1]; simp [hk0, hk1]))
          clear hnext
          go_wp2
          go_roundw
          case rel => exact ⟨k + 1, by omega, by go_num, HB1.out, HN.out⟩
          case measure => simp [intOf]; omega
       | false =>
        cases h2 : (f1.toList == [35]) with
        | true =>
         cases fn with
         | false =>
          have HN := Lib.hid (hnext (by simp only [bodyTok, h1, h2]; simp))
          clear hnext
          go_wp2
          go_roundw
          case rel => exact ⟨k + 1, by omega, by go_num, HB1.out, HN.out⟩
          case measure => simp [intOf]; omega
         | true =>
          have hk6 : k + 1 ≤ 1000000 := by omega
          have hcast : (k : Int) + 1 = ((k + 1 : Nat) : Int) := by omega
          have HC := Lib.hid (And.intro hk6 hcast)
          clear hcast
          cases hp : paramB params more body (k + 1) with
          | true =>
           have PCX := Lib.hid (param_c2 (B + 1) B (k + 1) nm true more Ap (some ad) cp cb params body _ hpl hbl HC.out.1 (bC HB1.out.n 0) HB1.out.m HB1.out.p hpc HB1.out.b hbc ((k : Int) + 1) HC.out.2 true hp)
           have HN := Lib.hid (hnext (by simp only [bodyTok, h1, h2]; simp [hp]))
           clear hnext
           go_wp2_with (go_at_call 52; refine PCX.out.mono ?_; rintro e w9 ⟨rfl, n9, rfl⟩)
           go_roundw
           case rel => exact ⟨k + 1, by omega, by go_num, HB1.out.below (drewN_below _ _), HN.out⟩
           case measure => simp [intOf]; omega
          | false =>
           have PCX := Lib.hid (param_c2 (B + 1) B (k + 1) nm true more Ap (some ad) cp cb params body _ hpl hbl HC.out.1 (bC HB1.out.n 0) HB1.out.m HB1.out.p hpc HB1.out.b hbc ((k : Int) + 1) HC.out.2 false hp)
           have HF := Lib.hid (hfalse (by simp only [bodyTok, h1, h2]; simp [hp]))
           clear hnext hfalse
           go_wp2_with (go_at_call 52; refine PCX.out.mono ?_; rintro e w9 ⟨rfl, n9, rfl⟩)
           go_ret
           rw [KEY.out, HF.out]
           exact ⟨rfl, (HB1.out.below (drewN_below _ _)).bw⟩
        | false =>
         cases h3 : (f1.toList == restL) with
         | true =>
          unfold restL at h3
          cases more with
          | true =>
           have HN := Lib.hid (hnext (by simp only [bodyTok, h1, h2, restL, h3]; simp))
           clear hnext
           go_wp2
           go_roundw
           case rel => exact ⟨k + 1, by omega, by go_num, HB1.out, HN.out⟩
           case measure => simp [intOf]; omega
          | false =>
           have HF := Lib.hid (hfalse (by simp only [bodyTok, h1, h2, restL, h3]; simp))
           clear hnext hfalse
           go_wp2
           go_ret
           rw [KEY.out, HF.out]
           exact ⟨rfl, HB1.out.bw⟩
         | false =>
          unfold restL at h3
          have HN := Lib.hid (hnext (by simp only [bodyTok, h1, h2, restL, h3]; simp))
          clear hnext
          go_wp2
          go_roundw
          case rel => exact ⟨k + 1, by omega, by go_num, HB1.out, HN.out⟩
          case measure => simp [intOf]; omega
      ·have HI := Lib.hid hI
       clear hI
       have HE := Lib.hid (show bodyToks fn params more body 0 body = true by rw [HR.out, List.drop_eq_nil_of_le (by omega)]; rfl)
       go_wp2
       go_ret
       rw [KEY.out, HE.out]
       exact ⟨rfl, HI.out.bw⟩
   ·have key : isBodyP fn params more body = false := by unfold isBodyP; rw [← HQ.out.1, decide_eq_false hz, Bool.false_and, Bool.and_false, Bool.and_false]
    have KEY := Lib.hid key
    clear key
    have d3 : (q1 != 0) = true := by simpa using hz
    have d4 : (q1 == 0) = false := by simpa using hz
    go_quiet (fail)
    go_wp2
    go_ret
    rw [KEY.out]
    exact ⟨rfl, bQ HS6.out.bw _⟩
 ·have d1 : decide (500 < (body.length : Int)) = true := decide_eq_true (by omega)
  have d2 : 500 < (body.length : Int) := by omega
  have key : isBodyP fn params more body = false := by unfold isBodyP; rw [decide_eq_false h5, Bool.false_and]
  rw [key]
  go_enter Tryz.func35, Tryz.ntmps35
  go_wp2
  go_quiet (fail)
  go_wp2
  go_ret
  exact ⟨rfl, bQ HS.out.bw _⟩
end Go.Proofs.YtcbfbefpbjmglaaGreatDoor.Mac
