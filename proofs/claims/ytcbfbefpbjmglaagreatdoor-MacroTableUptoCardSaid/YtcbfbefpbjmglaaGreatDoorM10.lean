import Derived.Test.YtcbfbefpbjmglaaGreatDoorZ
import Derived.Test.YtcbfbefpbjmglaaGreatDoorM8
set_option maxRecDepth 100000
set_option linter.unusedSimpArgs false
set_option linter.unusedVariables false
namespace Go.Proofs.YtcbfbefpbjmglaaGreatDoor.Mac
open Go.RowKit MapFun PA YtcbfbefpbjmglaaGreatDoorT YtcbfbefpbjmglaaGreatDoorW PrintWords PrintLast PrintMore
structure MacP where
 nm : ByteArray
 fn : Bool
 params : List ByteArray
 more : Bool
 body : List S55
def isOpen (s : ByteArray) : Bool := s.toList == [40]
def headP (l : List S55) : Option (Bool × List ByteArray × Bool × List S55) :=
 match l with
 | [] => some (false, [], false, [])
 | t :: r =>
  if t.f4 then some (false, [], false, t :: r)
  else if isOpen t.f1 then (paramsP r).bind fun x => some (true, x.2.1, x.2.2, r.drop x.1.toNat)
  else none
def parseP (l : List S55) : Option MacP :=
 match l with
 | [] => none
 | t :: r =>
  if t.f0 == 1 then (headP r).bind fun x =>
   if rightP t.f1 x.1 x.2.1 x.2.2.1 (bareP x.2.2.2) then some ⟨t.f1, x.1, x.2.1, x.2.2.1, bareP x.2.2.2⟩ else none
  else none
theorem rnd_size {x : S55 × ByteArray} {st st' : List ByteArray × Bool} (h : rnd x st = some st') : st'.1.length ≤ st.1.length + 1 ∧ ∀ p ∈ st'.1, p ∈ st.1 ∨ p = x.1.f1 := by
 unfold rnd at h
 split at h
 ·cases h; exact ⟨by simp, fun p hp => .inl hp⟩
 ·split at h
  ·cases h
   exact ⟨by simp, fun p hp => by simpa using hp⟩
  ·cases h
theorem rnd_z (e : ByteArray) (st : List ByteArray × Bool) (h : isClose e = false) : rnd (z55, e) st = none := by
 unfold rnd
 rw [if_neg (by rw [h, Bool.and_false]; decide), if_neg (by show ¬ (((0 : Int) == 1) && _) = true; simp)]
theorem parL_els : ∀ (l : List S55) (n k : Int) (st st' : List ByteArray × Bool), parL (els l) n st = some (k, st') →
  n + 2 ≤ k ∧ k ≤ n + l.length ∧ st'.1.length ≤ st.1.length + l.length ∧ ∀ p ∈ st'.1, p ∈ st.1 ∨ ∃ t ∈ l, p = t.f1
 | [], n, k, st, st', h => by
  rw [show els [] = [(z55, (⟨#[]⟩ : ByteArray))] from rfl, parL, rnd_z _ _ (by decide +kernel)] at h; cases h
 | [t], n, k, st, st', h => by
  rw [show els [t] = [(z55, (⟨#[]⟩ : ByteArray))] from rfl, parL, rnd_z _ _ (by decide +kernel)] at h; cases h
 | t :: e :: r, n, k, st, st', h => by
  rw [show els (t :: e :: r) = (t, e.f1) :: els r from rfl, parL] at h
  obtain ⟨s, h1, h2⟩ := Option.bind_eq_some_iff.1 h
  obtain ⟨g1, g2⟩ := rnd_size h1
  split at h2
  ·injection h2 with h2
   injection h2 with h3 h4
   subst h3 h4
   refine ⟨by omega, by simp only [List.length_cons]; omega, by simp only [List.length_cons]; omega, fun p hp => ?_⟩
   rcases g2 p hp with h | h
   ·exact .inl h
   ·exact .inr ⟨t, List.mem_cons_self, h⟩
  ·obtain ⟨i1, i2, i3, i4⟩ := parL_els r (n + 2) k s st' h2
   refine ⟨by omega, by simp only [List.length_cons]; omega, by simp only [List.length_cons]; omega, fun p hp => ?_⟩
   rcases i4 p hp with h | ⟨t', h, h'⟩
   ·rcases g2 p h with h | h
    ·exact .inl h
    ·exact .inr ⟨t, List.mem_cons_self, h⟩
   ·exact .inr ⟨t', List.mem_cons_of_mem _ (List.mem_cons_of_mem _ h), h'⟩
theorem paramsP_size {l : List S55} {k : Int} {st : List ByteArray × Bool} (h : paramsP l = some (k, st)) : 1 ≤ k ∧ k ≤ l.length ∧ st.1.length ≤ l.length ∧ ∀ p ∈ st.1, ∃ t ∈ l, p = t.f1 := by
 have key : parL (els l) 0 ([], false) = some (k, st) → 1 ≤ k ∧ k ≤ l.length ∧ st.1.length ≤ l.length ∧ ∀ p ∈ st.1, ∃ t ∈ l, p = t.f1 := fun h => by
  obtain ⟨h1, h2, h3, h4⟩ := parL_els l _ _ _ _ h
  exact ⟨by omega, by omega, by simpa using h3, fun p hp => (h4 p hp).resolve_left (by simp)⟩
 match l with
 | [] => exact key h
 | t :: r =>
  rw [paramsP] at h
  split at h
  ·cases h
   exact ⟨by omega, by simp only [List.length_cons]; omega, by simp, by simp⟩
  ·exact key h
theorem bareFrom_mem : ∀ i l, ∀ t ∈ bareFrom i l, ∃ t' ∈ l, t.f1 = t'.f1
 | _, [], t, h => by cases h
 | i, a :: r, t, h => by
  rw [bareFrom] at h
  rcases List.mem_cons.1 h with h | h
  ·exact ⟨a, List.mem_cons_self, by rw [h]; rfl⟩
  ·obtain ⟨t', h1, h2⟩ := bareFrom_mem (i + 1) r t h
   exact ⟨t', List.mem_cons_of_mem _ h1, h2⟩
end Go.Proofs.YtcbfbefpbjmglaaGreatDoor.Mac
namespace Go.Proofs.YtcbfbefpbjmglaaGreatDoor.Mac
open Go.RowKit MapFun PA YtcbfbefpbjmglaaGreatDoorT YtcbfbefpbjmglaaGreatDoorW PrintWords PrintLast PrintMore
attribute [local go_sem] Oper.semAt_some
theorem C_block {w : World} {A : Option Addr} {l : List S55} (h : Kd.C k55 w A l.length l) : ∀ ad, A = some ad → 0 < l.length → ad.block < w.heap.size := by
 intro ad ha hp
 obtain ⟨ad', ha', hr⟩ := h.2.2 hp
 rw [ha] at ha'; cases ha'
 obtain ⟨cc, e1, e2, e3⟩ := hr 0 _ (List.getElem?_eq_getElem (by omega))
 have hcc : ∃ u, cc[0]? = some u := by
  have : 0 < cc.length := by rw [e1]; decide
  exact ⟨_, List.getElem?_eq_getElem this⟩
 obtain ⟨u, hu⟩ := hcc
 have := cl w _ (e3 0 u hu)
 rwa [add_blockE] at this
def ParsePost (l : List S55) (w : World) : Ending → World → Prop := fun e w' =>
 (match parseP l with
 | some m => ∃ vp vb, e = .returned (.tuple #[.agg #[.string m.nm, .bool m.fn, vp, .bool m.more, vb], .int .i64 0]) ∧ Kd.string.R 9 w' w.heap.size (fun _ => True) vp m.params ∧ Kd.R k55 55 w' w.heap.size (fun _ => True) vb m.body
 | none => e = .returned (.tuple #[.agg #[.string ⟨#[]⟩, .bool false, .slice none 0 0, .bool false, .slice none 0 0], .int .i64 30])) ∧ Below w.heap.size w w'
structure QSt (w W : World) (B : Nat) (nm : ByteArray) (fn : Bool) (pv : Value) (ps : List ByteArray) (more : Bool) : Prop where
 r : W.heap[B]? = some (.cells #[.string ⟨#[]⟩, .bool false, .slice none 0 0, .bool false, .slice none 0 0] 33 (0, 0))
 m : W.heap[B + 1]? = some (.cells #[.string nm, .bool fn, pv, .bool more, .slice none 0 0] 33 (0, 0))
 p : Kd.string.R 9 W (B + 2) (fun _ => True) pv ps
 below : Below B w W
 size : B + 2 ≤ W.heap.size
 t : Tab W
theorem bare_o (A : Option Addr) (c : Nat) (b : List S55) (W : World) (hl : b.length ≤ 1000000) (hB : Kd.C k55 W A b.length b) (hc : b.length ≤ c) :
  Calls Tryz.prog 20 #[.slice A b.length c] W fun e w' => ∃ Ab cb, e = .returned (.slice Ab (bareP b).length cb) ∧ Kd.R k55 55 w' W.heap.size (fun _ => True) (.slice Ab (bareP b).length cb) (bareP b) ∧ Below W.heap.size W w' := by
 refine (macro_bare.calls _ A c b _ W hB hc (bare_f b hl)).mono ?_
 rintro e w' ⟨v, rfl, hR, hb⟩
 obtain ⟨Ab, cb, rfl⟩ := Kd.R_slice hR
 exact ⟨Ab, cb, rfl, hR, hb⟩
def set5 (W : World) (B : Nat) (v0 v1 v2 v3 v4 : Value) : World := ((((W.setCell ⟨B, 0, none⟩ v0).setCell ⟨B, 1, none⟩ v1).setCell ⟨B, 2, none⟩ v2).setCell ⟨B, 3, none⟩ v3).setCell ⟨B, 4, none⟩ v4
theorem put5 {W : World} {B : Nat} {cs : Array Value} (h : W.heap[B]? = some (.cells cs 33 (0, 0))) (hs : cs.size = 5) (v0 v1 v2 v3 v4 : Value) : (set5 W B v0 v1 v2 v3 v4).heap[B]? = some (.cells #[v0, v1, v2, v3, v4] 33 (0, 0)) ∧ Below B W (set5 W B v0 v1 v2 v3 v4) ∧ ∀ k, k ≠ B → (set5 W B v0 v1 v2 v3 v4).heap[k]? = W.heap[k]? := by
 match cs, hs with
 | ⟨[a, b, c, d, e]⟩, _ =>
  refine ⟨bU (bU (bU (bU (bU h 0 v0 rfl) 1 v1 rfl) 2 v2 rfl) 3 v3 rfl) 4 v4 rfl, ?_, fun k hk => ?_⟩
  ·exact (((((Below.refl _ _).setCell (p := ⟨B, 0, none⟩) (Nat.le_refl _) _).setCell (p := ⟨B, 1, none⟩) (Nat.le_refl _) _).setCell (p := ⟨B, 2, none⟩) (Nat.le_refl _) _).setCell (p := ⟨B, 3, none⟩) (Nat.le_refl _) _).setCell (p := ⟨B, 4, none⟩) (Nat.le_refl _) _
  ·exact (Below.heap_setCell _ ⟨B, 4, none⟩ _ _ hk).trans ((Below.heap_setCell _ ⟨B, 3, none⟩ _ _ hk).trans ((Below.heap_setCell _ ⟨B, 2, none⟩ _ _ hk).trans ((Below.heap_setCell _ ⟨B, 1, none⟩ _ _ hk).trans (Below.heap_setCell _ ⟨B, 0, none⟩ _ _ hk))))
theorem frz_blk {W : World} {b : Nat} {cs : Array Value} {t : Nat} (h : W.heap[b]? = some (.cells cs t (0, 0))) (k : Nat) : W.frozen? ⟨b, k, none⟩ = false := by simp [World.frozen?, h]
theorem R_high {α : Type} {d : Kd α} {e : Nat} {w w1 : World} {base : Nat} {v : Value} {xs : List α} (h : d.R e w base (fun _ => True) v xs) (hm : ∀ k, base ≤ k → k < w.heap.size → w1.heap[k]? = w.heap[k]?) : d.R e w1 base (fun _ => True) v xs :=
 Kd.R_mono (Kd.R_step (Kd.R_bound h) (fun k hk hl => hm k hk.2.1 hl)) (fun _ _ => trivial)
theorem good5 {w W : World} {B : Nat} {A : Value} {l : List S55} {cs : Array Value} {rest : List Value} {t1 vp vb : Value} {m : MacP} (hBw : w.heap.size = B) (hp : parseP l = some m) (h : W.heap[B]? = some (.cells cs 33 (0, 0))) (hs : cs.size = 5) (hb : Below B w W)
  (hP : Kd.string.R 9 W (B + 2) (fun _ => True) vp m.params) (hBd : k55.R 55 W (B + 2) (fun _ => True) vb m.body) :
  bodyPost Tryz.prog Tryz.f6 (ParsePost l w) .ret { tmps := (A :: t1 :: .pointer (some ⟨B, 0, none⟩) :: .int .i64 0 :: rest).toArray, defers := [] } (set5 W B (.string m.nm) (.bool m.fn) vp (.bool m.more) vb) := by
 obtain ⟨h1, h2, h3⟩ := put5 h hs (.string m.nm) (.bool m.fn) vp (.bool m.more) vb
 refine bodyPost_ret (results_ct rfl _ _ B 33 _ (0, 0) _ (by simp) h1 Tryz.underlying33 rfl (by kernel_rfl)) rfl ?_
 rw [ParsePost, hp]
 exact ⟨⟨vp, vb, by simp, Kd.R_lower (R_high hP (fun k hk _ => h3 k (by omega))) (by omega), Kd.R_lower (R_high hBd (fun k hk _ => h3 k (by omega))) (by omega)⟩, by rw [hBw]; exact hb.trans h2⟩
theorem fail5 {w W : World} {B : Nat} {A : Value} {l : List S55} {cs : Array Value} {rest : List Value} {t1 : Value} (hBw : w.heap.size = B) (hp : parseP l = none) (h : W.heap[B]? = some (.cells cs 33 (0, 0))) (hs : cs.size = 5) (hb : Below B w W) :
  bodyPost Tryz.prog Tryz.f6 (ParsePost l w) .ret { tmps := (A :: t1 :: .pointer (some ⟨B, 0, none⟩) :: .int .i64 30 :: rest).toArray, defers := [] } (set5 W B (.string ⟨#[]⟩) (.bool false) (.slice none 0 0) (.bool false) (.slice none 0 0)) := by
 obtain ⟨h1, h2, _⟩ := put5 h hs (.string ⟨#[]⟩) (.bool false) (.slice none 0 0) (.bool false) (.slice none 0 0)
 refine bodyPost_ret (results_ct rfl _ _ B 33 _ (0, 0) _ (by simp) h1 Tryz.underlying33 rfl (by kernel_rfl)) rfl ?_
 rw [ParsePost, hp]
 exact ⟨by simp, by rw [hBw]; exact hb.trans h2⟩
set_option maxHeartbeats 3000000 in
theorem Parse_c (A : Option Addr) (c : Nat) (l : List S55) (w : World) (hT : Tab w) (hl : l.length ≤ 1000000) (hz : ∀ t ∈ l, t.f1.size ≤ 1048576) (hB : Kd.C k55 w A l.length l) (hc : l.length ≤ c) (hcm : True) :
  Calls Tryz.prog 6 #[.slice A l.length c] w (ParsePost l w) := by
 go_enter Tryz.func6, Tryz.ntmps6
 refine wp_seq_k fun K1 hK1 => ?_
 have HK1 := Lib.hid hK1
 clear hK1
 go_wp2
 refine HK1.out _ _ ?_
 obtain ⟨B, hBw⟩ : ∃ B, w.heap.size = B := ⟨_, rfl⟩
 obtain ⟨W0, hW0⟩ : ∃ W0, w.alloc (.cells #[.string ⟨#[]⟩, .bool false, .slice none 0 0, .bool false, .slice none 0 0] 33) = W0 := ⟨_, rfl⟩
 have hb0 : Below w.heap.size w W0 := by rw [← hW0]; exact (Below.refl _ w).alloc (Nat.le_refl _) _
 have q0 : W0.heap[B]? = some (.cells #[.string ⟨#[]⟩, .bool false, .slice none 0 0, .bool false, .slice none 0 0] 33 (0, 0)) := by rw [← hW0, ← hBw]; exact blk_new w _
 have hs0 : W0.heap.size = B + 1 := by rw [← hW0, ← hBw]; simp
 have hB0 := Kd.C_below hB hb0
 have hT0 := hT.grow hb0
 have hbk := C_block hB
 rw [hW0, hBw]
 rw [hBw] at hb0 hbk
 have HB := Lib.hid (And.intro hB0 (And.intro q0 (And.intro hb0 (And.intro hs0 hT0))))
 clear hB hB0 q0 hb0 hs0 hW0 HK1 hT0
 cases l with
 | nil =>
  have HP : parseP [] = none := rfl
  have c0 := bC HB.out.2.1 0
  have c1 := bC HB.out.2.1 1
  have c2 := bC HB.out.2.1 2
  have c3 := bC HB.out.2.1 3
  have c4 := bC HB.out.2.1 4
  have z0 : ∀ k, W0.frozen? ⟨B, k, none⟩ = false := fun k => by simp [World.frozen?, HB.out.2.1]
  have z1 := z0 1
  have z2 := z0 2
  have z3 := z0 3
  have z4 := z0 4
  have z5 := z0 0
  clear z0
  go_wp2
  exact fail5 hBw HP HB.out.2.1 rfl HB.out.2.2.1
 | cons t r =>
  obtain ⟨ad, had, a0, a1, a2, a3, a4, a5⟩ := at_T55 HB.out.1 0 (by omega) (by simp only [List.length_cons]; omega)
  subst had
  have ht : rT (t :: r) 0 = t := rfl
  rw [ht] at a0 a1
  simp only [Int.toNat_zero, Nat.zero_mul, Addr.add, if_true] at a0 a1
  clear a2 a3 a4 a5 ht
  have d1 : (((t :: r).length : Int) == 0) = false := by simp only [List.length_cons]; simp; omega
  obtain ⟨b, hb⟩ : ∃ b, (t.f0 == 1) = b := ⟨_, rfl⟩
  cases b with
  | false =>
   have HP : parseP (t :: r) = none := by rw [parseP, if_neg (by rw [hb]; decide)]
   have c0 := bC HB.out.2.1 0
   have c1 := bC HB.out.2.1 1
   have c2 := bC HB.out.2.1 2
   have c3 := bC HB.out.2.1 3
   have c4 := bC HB.out.2.1 4
   have z0 : ∀ k, W0.frozen? ⟨B, k, none⟩ = false := fun k => by simp [World.frozen?, HB.out.2.1]
   have z1 := z0 1
   have z2 := z0 2
   have z3 := z0 3
   have z4 := z0 4
   have z5 := z0 0
   clear z0
   have hne : t.f0 ≠ 1 := by simpa using hb
   have hn2 : (t.f0 != 1) = true := by simpa using hb
   go_wp2
   exact fail5 hBw HP HB.out.2.1 rfl HB.out.2.2.1
  | true =>
   have hf0 : t.f0 = 1 := by simpa using hb
   rw [hf0] at a0
   refine wp_seq_k fun K2 hK2 => ?_
   have HK2 := Lib.hid hK2
   clear hK2
   go_wp2
   refine HK2.out _ _ ?_
   clear HK2
   refine wp_seq_k fun K3 hK3 => ?_
   have HK3 := Lib.hid hK3
   clear hK3
   go_wp2
   refine HK3.out _ _ ?_
   clear HK3
   obtain ⟨W1, hW1⟩ : ∃ W1, W0.alloc (.cells #[.string t.f1, .bool false, .slice none 0 0, .bool false, .slice none 0 0] 33) = W1 := ⟨_, rfl⟩
   have hb1 : Below (B + 1) W0 W1 := by rw [← hW1, ← HB.out.2.2.2.1]; exact (Below.refl _ _).alloc (Nat.le_refl _) _
   have hC1 : Kd.C k55 W1 (some ad) (t :: r).length (t :: r) := Kd.C_below HB.out.1 (by rw [HB.out.2.2.2.1]; exact hb1)
   have q1 : W1.heap[B + 1]? = some (.cells #[.string t.f1, .bool false, .slice none 0 0, .bool false, .slice none 0 0] 33 (0, 0)) := by rw [← hW1, ← HB.out.2.2.2.1]; exact blk_new W0 _
   have hst : QSt w W1 B t.f1 false (.slice none 0 0) [] false := ⟨(hb1.block B (by omega)).trans HB.out.2.1, q1, Kd.R_nil _ _ _ _ _, HB.out.2.2.1.trans (hb1.mono (by omega)), by rw [← hW1, World.size_alloc, HB.out.2.2.2.1]; exact Nat.le_refl _, HB.out.2.2.2.2.grow (by rw [HB.out.2.2.2.1]; exact hb1)⟩
   rw [hW1, HB.out.2.2.2.1]
   have hCr := Kd.C_drop (m := 1) hC1 (by simp only [List.length_cons]; omega) hc
   have HQ := Lib.hid (And.intro hst hCr)
   clear hst hC1 hCr q1 hb1 hW1 a0 a1
   refine wp_seq_k fun K4 hK4 => ?_
   have T4 : ∀ (A2 : Option Addr) (c2 : Nat), Kd.C k55 W1 A2 r.length r → r.length ≤ c2 → True → (∀ a, A2 = some a → 0 < r.length → a.block < B + 1) → ∀ u6 u7 u8 u9 u10 u11 u12 u13 u14 u15 u16 u17 u18 u19 u20 u21 u22 u23 : Value, K4 { tmps := #[.slice A2 r.length c2, undef, .pointer (some ⟨B, 0, none⟩), .int .i64 0, .pointer (some ⟨B + 1, 0, none⟩), undef, u6, u7, u8, u9, u10, u11, u12, u13, u14, u15, u16, u17, u18, u19, u20, u21, u22, u23, undef, undef, undef, undef, undef, undef, undef, undef, undef, undef, undef, undef, undef, undef, undef, undef, undef, undef, undef, undef, undef, undef, undef, undef, undef, undef, undef, undef, undef, undef, undef, undef, undef, undef, undef, undef], defers := [] } W1 := by
    intro A2 c2 hC2 hc2 hcm2 hbk2 u6 u7 u8 u9 u10 u11 u12 u13 u14 u15 u16 u17 u18 u19 u20 u21 u22 u23
    refine hK4 _ _ ?_
    refine wp_seq_k fun K5 hK5 => ?_
    have T5 : ∀ (A3 : Option Addr) (c3 : Nat) (b : List S55) (W : World) (fn more : Bool) (pv : Value) (ps : List ByteArray), QSt w W B t.f1 fn pv ps more → Kd.C k55 W A3 b.length b → b.length ≤ c3 → b.length ≤ 1000000 → ps.length ≤ 1000000 → (∀ p ∈ ps, p.size ≤ 1048576) → (∀ x ∈ b, x.f1.size ≤ 1048576) → parseP (t :: r) = (if rightP t.f1 fn ps more (bareP b) then some ⟨t.f1, fn, ps, more, bareP b⟩ else none) → ∀ u5 u6 u7 u8 u9 u10 u11 u12 u13 u14 u15 u16 u17 u18 u19 u20 u21 u22 u23 u24 u25 u26 u27 u28 u29 u30 u31 u32 u33 u34 u35 u36 u37 u38 u39 u40 u41 u42 u43 u44 u45 u46 u47 u48 u49 u50 u51 : Value, K5 { tmps := #[.slice A3 b.length c3, undef, .pointer (some ⟨B, 0, none⟩), .int .i64 0, .pointer (some ⟨B + 1, 0, none⟩), u5, u6, u7, u8, u9, u10, u11, u12, u13, u14, u15, u16, u17, u18, u19, u20, u21, u22, u23, u24, u25, u26, u27, u28, u29, u30, u31, u32, u33, u34, u35, u36, u37, u38, u39, u40, u41, u42, u43, u44, u45, u46, u47, u48, u49, u50, u51, undef, undef, undef, undef, undef, undef, undef, undef], defers := [] } W := by
     intro A3 c3 b W fn more pv ps hq hC3 hc3 hbl hpl hps hbz hpp u5 u6 u7 u8 u9 u10 u11 u12 u13 u14 u15 u16 u17 u18 u19 u20 u21 u22 u23 u24 u25 u26 u27 u28 u29 u30 u31 u32 u33 u34 u35 u36 u37 u38 u39 u40 u41 u42 u43 u44 u45 u46 u47 u48 u49 u50 u51
     refine hK5 _ _ ?_
     obtain ⟨Ap, cp, rfl⟩ := Kd.R_slice hq.p
     have HX := Lib.hid (And.intro hq (And.intro hC3 (And.intro hpp (And.intro hps hbz))))
     clear hq hC3 hpp hps hbz
     refine wp_seq_k fun K6 hK6 => ?_
     have HK6 := Lib.hid hK6
     clear hK6
     have hmm := HX.out.1.m
     have hml := blk_lt hmm
     go_wp2_with (go_at_call 20; go_loud (refine (bare_o A3 c3 b _ hbl HX.out.2.1 hc3).mono ?_; rintro e W2 ⟨Ab, cb, rfl, hRb, hbb⟩; have hm2 := (hbb.block _ hml).trans hmm; have c4 := bC hm2 4; have z4 := frz_blk hm2 4; have HR := Lib.hid (And.intro hRb hbb); clear hRb hbb hm2))
     refine HK6.out _ _ ?_
     clear HK6 c4 z4
     have hsz := HX.out.1.size
     have hbb := HR.out.2
     obtain ⟨W3, hW3⟩ : ∃ W3, W2.setCell ⟨B + 1, 4, none⟩ (.slice Ab (bareP b).length cb) = W3 := ⟨_, rfl⟩
     have far3 : ∀ k, k ≠ B + 1 → W3.heap[k]? = W2.heap[k]? := fun k hk => by rw [← hW3]; exact Below.heap_setCell _ ⟨B + 1, 4, none⟩ _ _ hk
     have m3 : W3.heap[B + 1]? = some (.cells #[.string t.f1, .bool fn, .slice Ap ps.length cp, .bool more, .slice Ab (bareP b).length cb] 33 (0, 0)) := by
      rw [← hW3]; exact bU ((hbb.block _ (blk_lt HX.out.1.m)).trans HX.out.1.m) 4 _ rfl
     have r3 := (far3 B (by omega)).trans ((hbb.block _ (blk_lt HX.out.1.r)).trans HX.out.1.r)
     have p3 : Kd.string.R 9 W3 (B + 2) (fun _ => True) (.slice Ap ps.length cp) ps := R_high (Kd.R_below HX.out.1.p hbb) (fun k hk _ => far3 k (by omega))
     have b3 : k55.R 55 W3 (B + 2) (fun _ => True) (.slice Ab (bareP b).length cb) (bareP b) := R_high (Kd.R_lower HR.out.1 hsz) (fun k hk _ => far3 k (by omega))
     have w3 : Below B w W3 := by rw [← hW3]; exact (HX.out.1.below.trans (hbb.mono (by omega))).setCell (p := ⟨B + 1, 4, none⟩) (by simp) _
     rw [hW3]
     have c0 := bC m3 0
     have c1 := bC m3 1
     have c2' := bC m3 2
     have c3' := bC m3 3
     have c4 := bC m3 4
     have hbpl : (bareP b).length ≤ 1000000 := by rw [bareP, bareFrom_len]; exact hbl
     have hdm : DomM t.f1 ps (bareP b) := ⟨hz t List.mem_cons_self, Nat.le_trans hpl (by decide), hbpl, HX.out.2.2.2.1, fun x hx => by obtain ⟨x', h1, h2⟩ := bareFrom_mem _ _ x hx; rw [h2]; exact HX.out.2.2.2.2 x' h1⟩
     have hrc := right_c t.f1 fn more Ap Ab cp cb ps (bareP b) W3 (hT.grow (by rw [hBw]; exact w3)) hdm (Kd.R_reads' p3).2.2 (Kd.R_reads' p3).2.1 (Kd.R_reads' b3).2.2 (Kd.R_reads' b3).2.1
     have HY := Lib.hid (And.intro m3 (And.intro r3 (And.intro p3 (And.intro b3 (And.intro w3 hrc)))))
     clear m3 r3 p3 b3 w3 hrc hdm hbpl far3 hW3 hbb
     have hpp := HX.out.2.2.1
     obtain ⟨rb, hrb⟩ : ∃ rb, rightP t.f1 fn ps more (bareP b) = rb := ⟨_, rfl⟩
     rw [hrb] at hpp
     have HPP := Lib.hid (And.intro hrb hpp)
     clear hrb hpp HX HR
     have FX : ∀ W4, Below W3.heap.size W3 W4 → W4.heap[B]? = some (.cells #[.string ⟨#[]⟩, .bool false, .slice none 0 0, .bool false, .slice none 0 0] 33 (0, 0)) := fun W4 h => (h.block _ (blk_lt HY.out.2.1)).trans HY.out.2.1
     have FM : ∀ W4, Below W3.heap.size W3 W4 → W4.heap[B + 1]? = some (.cells #[.string t.f1, .bool fn, .slice Ap ps.length cp, .bool more, .slice Ab (bareP b).length cb] 33 (0, 0)) := fun W4 h => (h.block _ (blk_lt HY.out.1)).trans HY.out.1
     have hw3 : B ≤ W3.heap.size := Nat.le_of_lt (blk_lt HY.out.2.1)
     go_wp2_with (go_at_call 21; refine HY.out.2.2.2.2.2.mono ?_; rintro e W4 ⟨rfl, hb4⟩; rw [HPP.out.1]; clear c0 c1 c2' c3' c4; have c0 := bC (FX W4 hb4) 0; have c1 := bC (FX W4 hb4) 1; have c2' := bC (FX W4 hb4) 2; have c3' := bC (FX W4 hb4) 3; have c4 := bC (FX W4 hb4) 4; have m0 := bC (FM W4 hb4) 0; have m1 := bC (FM W4 hb4) 1; have m2 := bC (FM W4 hb4) 2; have m3 := bC (FM W4 hb4) 3; have m4 := bC (FM W4 hb4) 4; have z1 := frz_blk (FX W4 hb4) 1; have z2 := frz_blk (FX W4 hb4) 2; have z3 := frz_blk (FX W4 hb4) 3; have z4 := frz_blk (FX W4 hb4) 4; have z5 := frz_blk (FX W4 hb4) 0; have H4 := Lib.hid hb4; clear hb4; cases rb)
     all_goals have hwl : B ≤ W3.heap.size := hw3
     ·have hpt : parseP (t :: r) = none := by simpa using HPP.out.2
      exact fail5 hBw hpt (FX _ H4.out) rfl (HY.out.2.2.2.2.1.trans (H4.out.mono hw3))
     ·have hpt : parseP (t :: r) = some ⟨t.f1, fn, ps, more, bareP b⟩ := by simpa using HPP.out.2
      exact good5 (m := ⟨t.f1, fn, ps, more, bareP b⟩) hBw hpt (FX _ H4.out) rfl (HY.out.2.2.2.2.1.trans (H4.out.mono hw3)) (Kd.R_below HY.out.2.2.1 H4.out) (Kd.R_below HY.out.2.2.2.1 H4.out)
    have HT5 := Lib.hid T5
    clear T5 hK5
    have hst := HQ.out.1
    cases r with
    | nil =>
     have hp : parseP [t] = (if rightP t.f1 false [] false (bareP []) then some ⟨t.f1, false, [], false, bareP []⟩ else none) := by rw [parseP, if_pos hb]; rfl
     have HP := Lib.hid (And.intro hp (And.intro hst hC2))
     clear hp hst hC2
     go_wp2
     exact HT5.out A2 c2 [] W1 false false _ [] HP.out.2.1 HP.out.2.2 hc2 (by simp) (by simp) (by simp) (by simp) HP.out.1 _ _ _ _ _ _ _ _ _ _ _ _ _ _ _ _ _ _ _ _ _ _ _ _ _ _ _ _ _ _ _ _ _ _ _ _ _ _ _ _ _ _ _ _ _ _ _
    | cons t' r' =>
     obtain ⟨ad2, had2, e0, e1, e2, e3, e4, e5⟩ := at_T55 hC2 0 (by omega) (by simp only [List.length_cons]; omega)
     subst had2
     have ht' : rT (t' :: r') 0 = t' := rfl
     rw [ht'] at e1 e4
     simp only [Int.toNat_zero, Nat.zero_mul, Addr.add, if_true] at e1 e4
     clear e0 e2 e3 e5 ht'
     obtain ⟨b4, hb4⟩ : ∃ b4, t'.f4 = b4 := ⟨_, rfl⟩
     rw [hb4] at e4
     obtain ⟨x, hx⟩ : ∃ x, t'.f1 = x := ⟨_, rfl⟩
     rw [hx] at e1
     have d2 : (((t' :: r').length : Int) == 0) = false := by simp only [List.length_cons]; simp; omega
     cases b4 with
     | true =>
      have hp : parseP (t :: t' :: r') = (if rightP t.f1 false [] false (bareP (t' :: r')) then some ⟨t.f1, false, [], false, bareP (t' :: r')⟩ else none) := by rw [parseP, if_pos hb, headP, if_pos hb4]; rfl
      have HP := Lib.hid (And.intro hp (And.intro hst hC2))
      clear hp hst hC2
      go_wp2
      exact HT5.out (some ad2) c2 (t' :: r') W1 false false _ [] HP.out.2.1 HP.out.2.2 hc2 (by simp only [List.length_cons] at hl ⊢; omega) (by simp) (by simp) (fun x hx => hz x (List.mem_cons_of_mem _ hx)) HP.out.1 _ _ _ _ _ _ _ _ _ _ _ _ _ _ _ _ _ _ _ _ _ _ _ _ _ _ _ _ _ _ _ _ _ _ _ _ _ _ _ _ _ _ _ _ _ _ _
     | false =>
      cases hop : isOpen x with
      | false =>
       have hox : (x.toList == [40]) = false := hop
       have hp : parseP (t :: t' :: r') = none := by rw [parseP, if_pos hb, headP, if_neg (by rw [hb4]; decide), hx, if_neg (by rw [hop]; decide)]; rfl
       have HP := Lib.hid (And.intro hp (And.intro hst hC2))
       clear hp hC2
       have c0 := bC hst.r 0
       have c1 := bC hst.r 1
       have c2' := bC hst.r 2
       have c3 := bC hst.r 3
       have c4 := bC hst.r 4
       have z1 := frz_blk hst.r 1
       have z2 := frz_blk hst.r 2
       have z3 := frz_blk hst.r 3
       have z4 := frz_blk hst.r 4
       have z5 := frz_blk hst.r 0
       clear hst
       go_wp2
       exact fail5 hBw HP.out.1 HP.out.2.1.r rfl HP.out.2.1.below
      | true =>
       have hox : (x.toList == [40]) = true := hop
       have hml := blk_lt hst.m
       have cm1 := bC hst.m 1
       have zm1 := frz_blk hst.m 1
       have hrl : r'.length ≤ 1000000 := by simp only [List.length_cons] at hl; omega
       obtain ⟨W5, hW5⟩ : ∃ W5, W1.setCell ⟨B + 1, 1, none⟩ (.bool true) = W5 := ⟨_, rfl⟩
       have far5 : ∀ k, k ≠ B + 1 → W5.heap[k]? = W1.heap[k]? := fun k hk => by rw [← hW5]; exact Below.heap_setCell _ ⟨B + 1, 1, none⟩ _ _ hk
       have m5 : W5.heap[B + 1]? = some (.cells #[.string t.f1, .bool true, .slice none 0 0, .bool false, .slice none 0 0] 33 (0, 0)) := by rw [← hW5]; exact bU hst.m 1 _ rfl
       have r5 := (far5 B (by omega)).trans hst.r
       have w5 : Below B w W5 := by rw [← hW5]; exact hst.below.setCell (p := ⟨B + 1, 1, none⟩) (by simp) _
       have s5 : B + 2 ≤ W5.heap.size := by rw [← hW5]; simpa using hst.size
       have hC5 : Kd.C k55 W5 (some ad2) (t' :: r').length (t' :: r') := C_keepM (M := (· = B + 1)) (N0 := B + 2) (b := B + 1) hC2 (fun a ha hp => by have := hbk2 a ha (by simp); exact ⟨by omega, by omega, by omega⟩) (fun k _ hk => far5 k hk)
       have hC6 : Kd.C k55 W5 (if c2 = 1 then some ad2 else some ⟨ad2.block, ad2.off + 6, none⟩) r'.length r' := Kd.C_drop (m := 1) hC5 (by simp) hc2
       have hb6 : ∀ a, (if c2 = 1 then some ad2 else some (⟨ad2.block, ad2.off + 6, none⟩ : Addr)) = some a → 0 < r'.length → a.block < B + 1 := fun a ha hp => by
        have := hbk2 ad2 rfl (by simp)
        split at ha
        ·cases ha; omega
        ·cases ha; exact this
       have hc6 : r'.length ≤ c2 - 1 := by simp only [List.length_cons] at hc2; omega
       have hcm6 : True := trivial
       by_cases hc21 : c2 = 1
       ·subst hc21
        rw [if_pos rfl] at hC6 hb6
        have hr0 : r'.length = 0 := by simp only [List.length_cons] at hc2; omega
        cases hpp : paramsP r' with
        | none =>
         have hpar : Calls Tryz.prog 19 #[.pointer (some ⟨B + 1, 0, none⟩), .slice (some ad2) r'.length 0] W5 (fun e w' => e = .returned (.int .i64 (-1)) ∧ Below (B + 1) W5 w') :=
          (params_c (B + 1) t.f1 (some ad2) 0 r' W5 hrl hC6 hb6 hc6 hcm6 m5).mono (fun e w' h => by rw [ParPost, hpp] at h; exact h)
         have hp : parseP (t :: t' :: r') = none := by rw [parseP, if_pos hb, headP, if_neg (by rw [hb4]; decide), hx, if_pos hop, hpp]; rfl
         rw [← hW5] at hpar
         rw [hr0] at hpar
         have HP := Lib.hid (And.intro hpar (And.intro hp (And.intro hst hC6)))
         have FX : ∀ W6, Below (B + 1) W5 W6 → W6.heap[B]? = some (.cells #[.string ⟨#[]⟩, .bool false, .slice none 0 0, .bool false, .slice none 0 0] 33 (0, 0)) := fun W6 h => (h.block B (Nat.lt_succ_self B)).trans r5
         have HFX := Lib.hid FX
         have HW5 := Lib.hid (And.intro w5 (And.intro s5 hW5))
         clear hpar hp hst hC6 m5 r5 hC2 FX far5 hC5 w5 s5 hb6 hW5
         go_wp2_with (go_at_call 19; go_loud (refine HP.out.1.mono ?_); rintro e W6 ⟨rfl, h6'⟩; have h6 := HW5.out.2.2 ▸ h6'; have c0 := bC (HFX.out W6 h6) 0; have c1 := bC (HFX.out W6 h6) 1; have c2' := bC (HFX.out W6 h6) 2; have c3 := bC (HFX.out W6 h6) 3; have c4 := bC (HFX.out W6 h6) 4; have z1 := frz_blk (HFX.out W6 h6) 1; have z2 := frz_blk (HFX.out W6 h6) 2; have z3 := frz_blk (HFX.out W6 h6) 3; have z4 := frz_blk (HFX.out W6 h6) 4; have z5 := frz_blk (HFX.out W6 h6) 0; have H6 := Lib.hid h6; clear h6 h6')
         exact fail5 hBw HP.out.2.1 (HFX.out _ H6.out) rfl (HW5.out.1.trans (H6.out.mono (Nat.le_succ B)))
        | some y =>
         have := (paramsP_size hpp).1
         have := (paramsP_size hpp).2.1
         omega
       ·rw [if_neg hc21] at hC6 hb6
        cases hpp : paramsP r' with
        | none =>
         have hpar : Calls Tryz.prog 19 #[.pointer (some ⟨B + 1, 0, none⟩), .slice (some ⟨ad2.block, ad2.off + 6, none⟩) r'.length (c2 - 1)] W5 (fun e w' => e = .returned (.int .i64 (-1)) ∧ Below (B + 1) W5 w') :=
          (params_c (B + 1) t.f1 (some ⟨ad2.block, ad2.off + 6, none⟩) (c2 - 1) r' W5 hrl hC6 hb6 hc6 hcm6 m5).mono (fun e w' h => by rw [ParPost, hpp] at h; exact h)
         have hp : parseP (t :: t' :: r') = none := by rw [parseP, if_pos hb, headP, if_neg (by rw [hb4]; decide), hx, if_pos hop, hpp]; rfl
         rw [← hW5] at hpar
         have HP := Lib.hid (And.intro hpar (And.intro hp (And.intro hst hC6)))
         have FX : ∀ W6, Below (B + 1) W5 W6 → W6.heap[B]? = some (.cells #[.string ⟨#[]⟩, .bool false, .slice none 0 0, .bool false, .slice none 0 0] 33 (0, 0)) := fun W6 h => (h.block B (Nat.lt_succ_self B)).trans r5
         have HFX := Lib.hid FX
         have HW5 := Lib.hid (And.intro w5 (And.intro s5 hW5))
         clear hpar hp hst hC6 m5 r5 hC2 FX far5 hC5 w5 s5 hb6 hW5
         go_wp2_with (go_at_call 19; go_loud (refine HP.out.1.mono ?_); rintro e W6 ⟨rfl, h6'⟩; have h6 := HW5.out.2.2 ▸ h6'; have c0 := bC (HFX.out W6 h6) 0; have c1 := bC (HFX.out W6 h6) 1; have c2' := bC (HFX.out W6 h6) 2; have c3 := bC (HFX.out W6 h6) 3; have c4 := bC (HFX.out W6 h6) 4; have z1 := frz_blk (HFX.out W6 h6) 1; have z2 := frz_blk (HFX.out W6 h6) 2; have z3 := frz_blk (HFX.out W6 h6) 3; have z4 := frz_blk (HFX.out W6 h6) 4; have z5 := frz_blk (HFX.out W6 h6) 0; have H6 := Lib.hid h6; clear h6 h6')
         exact fail5 hBw HP.out.2.1 (HFX.out _ H6.out) rfl (HW5.out.1.trans (H6.out.mono (Nat.le_succ B)))
        | some y =>
         obtain ⟨n, st⟩ := y
         obtain ⟨g1, g2, g3, g4⟩ := paramsP_size hpp
         obtain ⟨k, rfl⟩ : ∃ k : Nat, n = (k : Int) := ⟨n.toNat, by omega⟩
         have hk : k ≤ r'.length := by omega
         have hpar : Calls Tryz.prog 19 #[.pointer (some ⟨B + 1, 0, none⟩), .slice (some ⟨ad2.block, ad2.off + 6, none⟩) r'.length (c2 - 1)] W5 (fun e w' => (e = .returned (.int .i64 (k : Int)) ∧ ∃ v, w'.heap[B + 1]? = some (.cells #[.string t.f1, .bool true, v, .bool st.2, .slice none 0 0] 33 (0, 0)) ∧ Kd.string.R 9 w' W5.heap.size (fun _ => True) v st.1) ∧ Below (B + 1) W5 w') :=
          (params_c (B + 1) t.f1 (some ⟨ad2.block, ad2.off + 6, none⟩) (c2 - 1) r' W5 hrl hC6 hb6 hc6 hcm6 m5).mono (fun e w' h => by rw [ParPost, hpp] at h; exact h)
         have hp : parseP (t :: t' :: r') = (if rightP t.f1 true st.1 st.2 (bareP (r'.drop k)) then some ⟨t.f1, true, st.1, st.2, bareP (r'.drop k)⟩ else none) := by rw [parseP, if_pos hb, headP, if_neg (by rw [hb4]; decide), hx, if_pos hop, hpp]; rfl
         have hC7 : Kd.C k55 W5 (if c2 = 1 + k then some ad2 else some ⟨ad2.block, ad2.off + (1 + k) * 6, none⟩) (r'.drop k).length (r'.drop k) := by
          have := Kd.C_drop (m := 1 + k) hC5 (by simp only [List.length_cons]; omega) hc2
          have eA : (some ad2).map (fun x => x.add ((1 + k) * k55.sz)) = some ⟨ad2.block, ad2.off + (1 + k) * 6, none⟩ := by
           show some (ad2.add ((1 + k) * 6)) = _
           rw [Addr.add, if_neg (by omega)]
          rw [show (t' :: r').drop (1 + k) = r'.drop k by rw [Nat.add_comm, List.drop_succ_cons], eA] at this
          exact this
         have hb7 := hbk2 ad2 rfl (by simp)
         have hdl : (r'.drop k).length = r'.length - k := List.length_drop
         rw [← hW5] at hpar
         have HP := Lib.hid (And.intro hpar (And.intro hp (And.intro hst hC6)))
         have HC7 := Lib.hid (And.intro hC7 (And.intro hdl (And.intro g4 (And.intro hC5 (And.intro g3 hb7)))))
         have HW5 := Lib.hid (And.intro w5 (And.intro s5 (And.intro hW5 r5)))
         clear hpar hp hst hC6 m5 r5 hC2 far5 hC5 w5 s5 hb6 hW5 hC7 hdl g4 g3 g1 hb7
         have hk1 : 1 + (k : Int) ≤ ((t' :: r').length : Int) := by simp only [List.length_cons]; omega
         go_wp2_with (go_at_call 19; refine HP.out.1.mono ?_; rintro e W6 ⟨⟨rfl, v, hm6, hR6⟩, h6'⟩; have H6 := Lib.hid (And.intro hm6 (And.intro hR6 (HW5.out.2.2.1 ▸ h6'))); clear hm6 hR6 h6')
         all_goals have hb6 := H6.out.2.2
         all_goals have hq : QSt w W6 B t.f1 true v st.1 st.2 := ⟨(hb6.block B (Nat.lt_succ_self B)).trans HW5.out.2.2.2, H6.out.1, Kd.R_lower H6.out.2.1 (by rw [HW5.out.2.2.1]; exact HW5.out.2.1), HW5.out.1.trans (hb6.mono (Nat.le_succ B)), Nat.le_trans HW5.out.2.1 hb6.size, hT.grow (by rw [hBw]; exact HW5.out.1.trans (hb6.mono (Nat.le_succ B)))⟩
         all_goals have hdl := HC7.out.2.1
         all_goals have hC7 := HC7.out.1
         all_goals have hrr : r'.length + 1 - (1 + k) = (r'.drop k).length := by rw [hdl]; omega
         all_goals have hcc : (r'.drop k).length ≤ c2 - (1 + k) := by simp only [List.length_cons] at hc2; omega
         ·rw [if_pos h] at hC7
          have hC8 : Kd.C k55 W6 (some ad2) (r'.drop k).length (r'.drop k) := C_keepM (M := (· = B + 1)) (N0 := B + 2) (b := B + 1) hC7 (fun a ha hp => by cases ha; have := HC7.out.2.2.2.2.2; exact ⟨(by show ad2.block < B + 2; omega), (by show ¬ ad2.block = B + 1; omega), (by show ad2.block ≠ B + 1; omega)⟩) (fun kk h1 h2 => hb6.block kk (by omega))
          rw [hrr]
          exact HT5.out (some ad2) 0 (r'.drop k) W6 true st.2 v st.1 hq hC8 (by omega) (by rw [hdl]; omega) (by have := HC7.out.2.2.2.2.1; omega) (fun p hp => by obtain ⟨x, h1, rfl⟩ := HC7.out.2.2.1 p hp; exact hz x (List.mem_cons_of_mem _ (List.mem_cons_of_mem _ h1))) (fun x hx => hz x (List.mem_cons_of_mem _ (List.mem_cons_of_mem _ (List.mem_of_mem_drop hx)))) HP.out.2.1 _ _ _ _ _ _ _ _ _ _ _ _ _ _ _ _ _ _ _ _ _ _ _ _ _ _ _ _ _ _ _ _ _ _ _ _ _ _ _ _ _ _ _ _ _ _ _
         ·rw [if_neg h] at hC7
          have hC8 : Kd.C k55 W6 (some ⟨ad2.block, ad2.off + (1 + k) * 6, none⟩) (r'.drop k).length (r'.drop k) := C_keepM (M := (· = B + 1)) (N0 := B + 2) (b := B + 1) hC7 (fun a ha hp => by cases ha; have := HC7.out.2.2.2.2.2; exact ⟨(by show ad2.block < B + 2; omega), (by show ¬ ad2.block = B + 1; omega), (by show ad2.block ≠ B + 1; omega)⟩) (fun kk h1 h2 => hb6.block kk (by omega))
          rw [hrr, show ad2.add ((1 + k) * 6) = ⟨ad2.block, ad2.off + (1 + k) * 6, none⟩ by rw [Addr.add, if_neg (by omega)]]
          exact HT5.out (some ⟨ad2.block, ad2.off + (1 + k) * 6, none⟩) (c2 - (1 + k)) (r'.drop k) W6 true st.2 v st.1 hq hC8 hcc (by rw [hdl]; omega) (by have := HC7.out.2.2.2.2.1; omega) (fun p hp => by obtain ⟨x, h1, rfl⟩ := HC7.out.2.2.1 p hp; exact hz x (List.mem_cons_of_mem _ (List.mem_cons_of_mem _ h1))) (fun x hx => hz x (List.mem_cons_of_mem _ (List.mem_cons_of_mem _ (List.mem_of_mem_drop hx)))) HP.out.2.1 _ _ _ _ _ _ _ _ _ _ _ _ _ _ _ _ _ _ _ _ _ _ _ _ _ _ _ _ _ _ _ _ _ _ _ _ _ _ _ _ _ _ _ _ _ _ _
   clear hK4
   have HT4 := Lib.hid T4
   have HQC := HQ.out.2
   clear T4
   by_cases hc1 : c = 1
   ·rw [if_pos hc1] at HQC
    have HC := Lib.hid HQC
    clear HQC
    go_wp2
    exact HT4.out _ _ HC.out (by simp only [List.length_cons] at hc; omega) trivial (fun a ha hp => by have := hbk a ha (by simp); omega) _ _ _ _ _ _ _ _ _ _ _ _ _ _ _ _ _ _
   ·rw [if_neg hc1] at HQC
    have HC := Lib.hid HQC
    clear HQC
    go_wp2
    exact HT4.out _ _ HC.out (by simp only [List.length_cons] at hc; omega) trivial (fun a ha hp => by cases ha; have := hbk ad rfl (by simp); rw [add_blockE]; omega) _ _ _ _ _ _ _ _ _ _ _ _ _ _ _ _ _ _
end Go.Proofs.YtcbfbefpbjmglaaGreatDoor.Mac
