import Derived.Test.YtcbfbefpbjmglaaGreatDoorZ
import Derived.Test.YtcbfbefpbjmglaaGreatDoorDA
set_option maxRecDepth 100000
set_option linter.unusedSimpArgs false
set_option linter.unusedVariables false
namespace Go.Proofs.YtcbfbefpbjmglaaGreatDoor.Mac
open Go.RowKit MapFun PA YtcbfbefpbjmglaaGreatDoorT YtcbfbefpbjmglaaGreatDoorW PrintWords PrintLast PrintMore
attribute [local go_sem] Oper.semAt_some
structure InvT (w W : World) (p mb q : Nat) (rs : PS) : Prop where
 bel : Below w.heap.size w W
 good : Good rs
 tab : TabR W p mb rs.length (look (rs.map Prod.fst))
 ref : RefR W q rs
 tt : Tab W
theorem InvT.grow {w W W' : World} {p mb q : Nat} {rs : PS} (h : InvT w W p mb q rs) (hb : Below W.heap.size W W') : InvT w W' p mb q rs :=
 ⟨h.bel.trans (hb.mono h.bel.size), h.good, h.tab.below hb, h.ref.below hb, h.tt.grow hb⟩
theorem C_set {α : Type} {K : Kd α} {W : World} {A : Option Addr} {n B i : Nat} {v : Value} {l : List α} (h : K.C W A n l) (hK : ∀ p c, K.K W p c → K.K (W.setCell ⟨B, i, none⟩ v) p c) (hne : 0 < n → ∀ ad, A = some ad → ad.block ≠ B) : K.C (W.setCell ⟨B, i, none⟩ v) A n l := by
 refine ⟨h.1, h.2.1, fun hn => ?_⟩
 obtain ⟨ad, ha, hr⟩ := h.2.2 hn
 refine ⟨ad, ha, fun j p hj => ?_⟩
 obtain ⟨c, h1, h2, h3⟩ := hr j p hj
 refine ⟨c, h1, hK _ _ h2, fun i' u hu => ?_⟩
 rw [← h3 i' u hu]
 exact World.cell?_of_block (Below.heap_setCell W ⟨B, i, none⟩ v _ (by rw [add_block]; exact hne hn ad ha))
theorem RowAt.mono {q q' : Nat} {W : World} {A : Option Addr} {e n : Nat} (h : RowAt q W A e n) (hq : q ≤ q') : RowAt q' W A e n := fun hn ad ha => by
 rcases h hn ad ha with h1 | h1
 ·exact Or.inl (Nat.lt_of_lt_of_le h1 hq)
 ·exact Or.inr h1
theorem RowAt.of_R {α : Type} {K : Kd α} {q : Nat} {W : World} {base e n c : Nat} {A : Option Addr} {l : List α} (h : K.R e W base (fun _ => True) (.slice A n c) l) : RowAt q W A e n := fun hn ad ha => Or.inr (Ty.of_R h hn ad ha)
theorem InvT.setB {w W : World} {p mb q B : Nat} {rs : PS} {cs : Array Value} (h : InvT w W p mb q rs) (hB : W.heap[B]? = some (.cells cs 35 (0, 0))) (hp : p < B) (hm : mb < B) (hq : q < B) (h2 : 2 ≤ q) (hw : w.heap.size ≤ B) (v : Value) : InvT w (W.setCell ⟨B, 1, none⟩ v) p mb q rs := by
 have far : ∀ k, k ≠ B → (W.setCell ⟨B, 1, none⟩ v).heap[k]? = W.heap[k]? := fun k hk => Below.heap_setCell W ⟨B, 1, none⟩ v k hk
 have hty : ∀ {A : Option Addr} {e n : Nat}, Ty W A e n → e ≠ 35 → (0 < n → ∀ ad, A = some ad → ad.block ≠ B) := fun ht he hn ad ha e2 => by
  obtain ⟨cs', fr, h3⟩ := ht hn ad ha
  rw [e2, hB] at h3
  cases h3
  exact he rfl
 have hty2 : ∀ {A : Option Addr} {e n : Nat}, Ty W A e n → e ≠ 35 → Ty (W.setCell ⟨B, 1, none⟩ v) A e n := fun ht he hn ad ha => by
  obtain ⟨cs', fr, h3⟩ := ht hn ad ha
  exact ⟨cs', fr, (far _ (hty ht he hn ad ha)).trans h3⟩
 have hro : ∀ {A : Option Addr} {e n : Nat}, RowAt q W A e n → e ≠ 35 → (0 < n → ∀ ad, A = some ad → ad.block ≠ B) := fun ht he hn ad ha e2 => by
  rcases ht hn ad ha with h3 | ⟨cs', fr, h3⟩
  ·omega
  ·rw [e2, hB] at h3
   cases h3
   exact he rfl
 have hro2 : ∀ {A : Option Addr} {e n : Nat}, RowAt q W A e n → e ≠ 35 → RowAt q (W.setCell ⟨B, 1, none⟩ v) A e n := fun ht he hn ad ha => by
  have hne := hro ht he hn ad ha
  rcases ht hn ad ha with h3 | ⟨cs', fr, h3⟩
  ·exact Or.inl h3
  ·exact Or.inr ⟨cs', fr, (far _ hne).trans h3⟩
 refine ⟨h.bel.setCell (p := ⟨B, 1, none⟩) hw v, h.good, ?_, ?_, ?_⟩
 ·obtain ⟨f, h1, h3⟩ := h.tab.hm
  refine ⟨(far p (by omega)).trans h.tab.hp, f, h1.block (far mb (by omega)), fun y => ?_⟩
  have := h3 y
  cases hT : look (rs.map Prod.fst) y with
  | none => rw [hT] at this; exact this
  | some m =>
   rw [hT] at this
   obtain ⟨u, e, Ap, cp, Ab, cb, e2, g1, g2, g3, g4, g5, g6⟩ := this
   exact ⟨u, e, Ap, cp, Ab, cb, e2, C_set g1 (fun _ _ h => h) (hty g5 (by decide)), g2, C_set g3 (fun _ _ h => h) (hty g6 (by decide)), g4, hty2 g5 (by decide), hty2 g6 (by decide)⟩
 ·obtain ⟨A, c, g1, g2, g3, g4, g5⟩ := h.ref
  refine ⟨A, c, (far q (by omega)).trans g1, g2, C_set g3 (fun _ _ h => h) ?_, fun x hx => ?_, hty2 g5 (by decide)⟩
  ·rw [List.length_map]; exact hty g5 (by decide)
  ·have g := g4 x hx
   exact ⟨g.nm, g.fn, g.more, g.pn, g.bn, C_set g.P (fun _ _ h => h) (hro g.RP (by decide)), g.pc, C_set g.B (fun _ _ h => h) (hro g.RB (by decide)), g.bc, hro2 g.RP (by decide), hro2 g.RB (by decide)⟩
 ·obtain ⟨⟨t, fr, e⟩, m, e2⟩ := h.tt
  refine ⟨⟨t, fr, (far 0 (by omega)).trans e⟩, m, ?_⟩
  rw [← e2]
  exact World.cell?_of_block (far 1 (by omega))
theorem InvT.defined {w W w9 w10 : World} {p mb q n : Nat} {T : List UInt8 → Option MacP} {rs rs' : PS} (h : InvT w W p mb q rs) (hpq : p < q ∧ mb < q ∧ w.heap.size ≤ mb ∧ w.heap.size ≤ q ∧ 2 ≤ q)
  (hT : TabR w9 p mb n T) (hS : StepM mb W w9) (hR : RefR w10 q rs') (hg : Good rs') (hn : rs'.length = n) (hl : look (rs'.map Prod.fst) = T) (hs : StepR q w9 w10) : InvT w w10 p mb q rs' := by
 subst hn hl
 have hb9 := hS.below h.bel hpq.2.2.1 h.bel.size
 exact ⟨hs.below hb9 hpq.2.2.2.1 hb9.size, hg, hs.tab hT (by omega) (by omega), hR, tab_stepr (tab_step h.tt hS) hs hpq.2.2.2.2⟩
theorem newLen {bn : Bool} {n nn : Nat} (h : (if bn = true then n + 1 else n) = nn) : nn ≤ n + 1 := by subst h; split <;> omega
def TextAt (W : World) (B : Nat) (s : ByteArray) : Prop := W.cell? ⟨B, 1, none⟩ = some (.string s)
set_option maxHeartbeats 4000000 in
theorem table_c (l : List (MacP × ORow)) (A : Option Addr) (c : Nat) (w : World) (hT : Tab w) (hC : Kd.C kO w A (l.map Prod.snd).length (l.map Prod.snd)) (hc : l.length ≤ c) (hm : ∀ r ∈ l, r.2.s.size ≤ 1048576 ∧ DomM r.1.nm r.1.params r.1.body ∧ MacX w.heap.size w r.1 r.2.x) (hl : l.length ≤ 1048576) :
  Calls Tryz.prog 3 #[.slice A l.length c] w fun e w' => e = .returned (.bool true) ∧ Below w.heap.size w w' := by
 have HX := Lib.hid (And.intro hT (And.intro hC hm))
 clear hT hC hm
 have ST1 : True := trivial
 go_enter Tryz.func3, Tryz.ntmps3
 go_upto_region 4 with (first
  | (have g_ := ST1; clear g_ ST1; go_at_call 4; refine (shown_c _ HX.out.1).mono ?_; rintro e W1 ⟨rfl, hb1⟩; have H1 := Lib.hid hb1; clear hb1; have ST2 : True := trivial)
  | (have g_ := ST2; clear g_ ST2; go_at_call 5; refine (new_c _).mono ?_; rintro e W2 ⟨p, mb, rfl, hTab2, hmb, hb2⟩; have H2 := Lib.hid (And.intro hTab2 (And.intro hmb hb2)); clear hTab2 hmb hb2))
 obtain ⟨q, hq⟩ : ∃ q, W2.heap.size = q := ⟨_, rfl⟩
 obtain ⟨W3, hW3⟩ : ∃ W3, W2.alloc (.cells #[.slice none 0 0] 29) = W3 := ⟨_, rfl⟩
 rw [hW3]
 try rw [hq]
 have q3 : W3.heap[q]? = some (.cells #[.slice none 0 0] 29 (0, 0)) := by rw [← hW3, ← hq]; exact blk_new W2 _
 have hb3 : Below W2.heap.size W2 W3 := by rw [← hW3]; exact (Below.refl _ _).alloc (Nat.le_refl _) _
 have hbw : Below w.heap.size w W3 := (H1.out.trans (H2.out.2.2.mono H1.out.size)).trans (hb3.mono (Nat.le_trans H1.out.size H2.out.2.2.size))
 have hpq : p < q ∧ mb < q ∧ w.heap.size ≤ mb ∧ w.heap.size ≤ q ∧ 2 ≤ q := by
  obtain ⟨f, hf, _⟩ := H2.out.1.hm
  have h1 := hf.lt
  have h2 := blk_lt H2.out.1.hp
  have h3 := H1.out.size
  have h4 := H2.out.2.1
  have h5 := H2.out.2.2.size
  have h6 := HX.out.1.two
  omega
 have hI : InvT w W3 p mb q [] := ⟨hbw, ⟨List.Pairwise.nil, (fun _ h => by cases h)⟩, H2.out.1.below hb3, ⟨none, 0, q3, Nat.le_refl _, C_empty _ _ _, (fun _ h => by cases h), fun h => absurd h (Nat.lt_irrefl 0)⟩, HX.out.1.grow hbw⟩
 have HB := Lib.hid (And.intro hI hpq)
 clear q3 hb3 hbw hpq hI hW3 hq
 go_wp2
 go_loopw [6] (fun i W => ∃ (k : Nat) (rs : PS), k ≤ l.length ∧ k ≤ 100 ∧ i = .int .i64 k ∧ rs.length ≤ k ∧ InvT w W p mb q rs) (fun i _ => l.length - (RowKit.intOf i).toNat)
 case atStart => exact ⟨0, [], Nat.zero_le _, Nat.zero_le _, rfl, Nat.le_refl _, HB.out.1⟩
 case round =>
  obtain ⟨k, rs, hk, hk100, rfl, hrs, hI⟩ := hrel
  by_cases hlt : k < l.length
  ·by_cases hlt2 : k < 100
   ·have hkm : k < (l.map Prod.snd).length := by rw [List.length_map]; exact hlt
    obtain ⟨ad, rfl, x0, x1, x2, x3, x4, x5, x6⟩ := CO_at (Kd.C_below HX.out.2.1 hI.bel) k hkm
    have hmk := HX.out.2.2 l[k] (List.getElem_mem hlt)
    rw [List.getElem_map] at x0 x1 x2 x3 x4 x5 x6
    have HW := Lib.hid (show wrap64 ((k : Int) + 1) = ((k + 1 : Nat) : Int) by unfold wrap64; omega)
    generalize l[k] = r at x0 x1 x2 x3 x4 x5 x6 hmk
    obtain ⟨⟨nm, fn, ps, more, body⟩, ⟨kd, s, ⟨nm2, fn2, Ap, pn1, cp, more2, Ab, bn1, cb⟩⟩⟩ := r
    obtain ⟨hs, hd, e1, e2, e3, e4, e5, g1, g2, g3, g4, g5, g6⟩ := hmk
    simp only at e1 e2 e3 e4 e5 g1 g2 g3 g4 g5 g6 hs hd x0 x1 x2 x3 x4 x5 x6
    subst e1 e2 e3 e4 e5
    have HM := Lib.hid (And.intro hs (And.intro hd (And.intro (Kd.C_below g1 hI.bel) (And.intro g2 (And.intro (Kd.C_below g3 hI.bel) (And.intro g4 (And.intro ((g5.below hI.bel).mono HB.out.2.2.2.2.1) ((g6.below hI.bel).mono HB.out.2.2.2.2.1))))))))
    have HI := Lib.hid (And.intro hI hrs)
    clear hs hd g1 g2 g3 g4 g5 g6 hI hrs hkm
    go_upto_block 2 with (fail)
    obtain ⟨Bx, hBx⟩ : ∃ B, wr.heap.size = B := ⟨_, rfl⟩
    obtain ⟨W4, hW4⟩ : ∃ W', wr.alloc (.cells #[.int .i64 kd, .string s, .string nm2, .bool fn2, .slice Ap ps.length cp, .bool more2, .slice Ab body.length cb] 35) = W' := ⟨_, rfl⟩
    have q4 : W4.heap[Bx]? = some (.cells #[.int .i64 kd, .string s, .string nm2, .bool fn2, .slice Ap ps.length cp, .bool more2, .slice Ab body.length cb] 35 (0, 0)) := by rw [← hW4, ← hBx]; exact blk_new wr _
    have hb4 : Below wr.heap.size wr W4 := by rw [← hW4]; exact (Below.refl _ _).alloc (Nat.le_refl _) _
    have hI4 := HI.out.1.grow hb4
    have hqB : q < Bx := by
     obtain ⟨_, _, g, _⟩ := HI.out.1.ref
     rw [← hBx]; exact blk_lt g
    have H4 := Lib.hid (And.intro q4 (And.intro hb4 (And.intro hI4 (And.intro hqB (show w.heap.size ≤ Bx by rw [← hBx]; exact HI.out.1.bel.size)))))
    rw [hW4]
    try rw [hBx]
    clear hW4 q4 hb4 hI4 hqB x0 x1 x2 x3 x4 x5 x6 hBx
    obtain ⟨κ, hκ⟩ : ∃ κ, (wrap64 (kd.tmod 3 + 3)).tmod 3 = κ := ⟨_, rfl⟩
    rw [hκ]
    clear hκ
    go_cut [8] (fun v wc => v = .bool true ∧ ∃ (rs' : PS) (nm' : ByteArray), rs'.length ≤ k + 1 ∧ InvT w wc p mb q rs' ∧ nm'.size < maxLen ∧ TextAt wc Bx nm')
    case first =>
     have x0 := bC H4.out.1 0
     have x1 := bC H4.out.1 1
     have HMX : Hid (s.size < maxLen) := Lib.hid (by have := HM.out.1; unfold maxLen; omega)
     have HRL : Hid (rs.length ≤ 1000) := Lib.hid (by have := HI.out.2; omega)
     have HNE : Hid (Bx ≠ q) := Lib.hid (by have := H4.out.2.2.2.1; omega)
     by_cases hk0 : κ = 0
     ·subst hk0
      have ST5 : True := trivial
      go_upto_region 14 with (first
       | (have g_ := ST5; clear g_ ST5; go_at_call 7; refine (burinlaw03_lexed.calls s (toksO s) _ H4.out.2.2.1.tt (lexed_o s HM.out.1)).mono ?_; rintro e W5 ⟨v5, rfl, hR5, hb5⟩; obtain ⟨A5, c5, rfl⟩ := Kd.R_slice hR5; have H5 := Lib.hid (And.intro (Kd.R_reads' hR5) hb5); clear hR5 hb5; have ST6 : True := trivial)
       | (have g_ := ST6; clear g_ ST6; go_at_call 6; refine (macro_Parse.calls A5 c5 (toksO s) _ _ _ _ _ _ _ H5.out.1.2.2 H5.out.1.2.1 (H4.out.2.2.1.tt.grow H5.out.2) (parse_o s HM.out.1)).mono ?_; rintro e W6 ⟨v6, v7, rfl, hR6, hR7, hb6⟩; obtain ⟨A6, c6, rfl⟩ := Kd.R_slice hR6; obtain ⟨A7, c7, rfl⟩ := Kd.R_slice hR7; have H6 := Lib.hid (And.intro (Kd.R_reads' hR6) (And.intro (Kd.R_reads' hR7) (And.intro (H5.out.2.trans (hb6.mono H5.out.2.size)) (And.intro (RowAt.of_R (q := q) hR6) (RowAt.of_R (q := q) hR7))))); clear hR6 hR7 hb6))
      obtain ⟨B8, hB8⟩ : ∃ B, W6.heap.size = B := ⟨_, rfl⟩
      obtain ⟨W8, hW8⟩ : ∃ W', W6.alloc (.cells #[.string (macZ s).nm, .bool (macZ s).fn, .slice A6 (macZ s).params.length c6, .bool (macZ s).more, .slice A7 (macZ s).body.length c7] 33) = W' := ⟨_, rfl⟩
      have q8 : W8.heap[B8]? = some (.cells #[.string (macZ s).nm, .bool (macZ s).fn, .slice A6 (macZ s).params.length c6, .bool (macZ s).more, .slice A7 (macZ s).body.length c7] 33 (0, 0)) := by rw [← hW8, ← hB8]; exact blk_new W6 _
      have hb68 : Below W6.heap.size W6 W8 := by rw [← hW8]; exact (Below.refl _ _).alloc (Nat.le_refl _) _
      have hb8 : Below W4.heap.size W4 W8 := H6.out.2.2.1.trans (hb68.mono H6.out.2.2.1.size)
      have hqB8 : B8 ≠ q := by have := H4.out.2.2.2.1; have := blk_lt H4.out.1; have := H6.out.2.2.1.size; omega
      have HNE := Lib.hid (And.intro hqB8 (show Bx ≠ q by have := H4.out.2.2.2.1; omega))
      rw [hW8]
      try rw [hB8]
      have a0 := bC q8 0
      have a1 := bC q8 1
      have a2 := bC q8 2
      have a3 := bC q8 3
      have a4 := bC q8 4
      have HQ : Hid (W8.drew.heap[B8]? = some (.cells #[.string (macZ s).nm, .bool (macZ s).fn, .slice A6 (macZ s).params.length c6, .bool (macZ s).more, .slice A7 (macZ s).body.length c7] 33 (0, 0)) ∧ W8.drew.heap[Bx]? = some (.cells #[.int .i64 kd, .string s, .string nm2, .bool fn2, .slice Ap ps.length cp, .bool more2, .slice Ab body.length cb] 35 (0, 0))) := Lib.hid (And.intro (kD q8) (kD ((hb8.block _ (blk_lt H4.out.1)).trans H4.out.1)))
      have H8 := Lib.hid (And.intro hb8 hb68)
      clear hW8 q8 hb68 hb8 hqB8 x0 x1 hB8
      have hId := (H4.out.2.2.1.grow H8.out.1).grow (bD (Below.refl _ _))
      have hl9 : rs.length < 1000 := by have := HI.out.2; omega
      have hd1 := define_all p mb rs hId.good hl9 (macZ s).nm (macZ s).fn (macZ s).more A6 A7 c6 c7 (macZ s).params (macZ s).body W8.drew hId.tt (macZ_dom s HM.out.1) hId.tab (Kd.C_drew (Kd.C_below H6.out.1.2.2 H8.out.2)) H6.out.1.2.1 (Kd.C_drew (Kd.C_below H6.out.2.1.2.2 H8.out.2)) H6.out.2.1.2.1
      have hd2 := fun (W9 : World) (hS : StepM mb W8.drew W9) => rdefine_all q rs hId.good hl9 (macZ s).nm (macZ s).fn (macZ s).more A6 A7 c6 c7 (macZ s).params (macZ s).body W9 (macZ_dom s HM.out.1) (hId.ref.step hS) (hS.strs (Kd.C_drew (Kd.C_below H6.out.1.2.2 H8.out.2))) H6.out.1.2.1 (hS.toks (Kd.C_drew (Kd.C_below H6.out.2.1.2.2 H8.out.2))) H6.out.2.1.2.1 ((((H6.out.2.2.2.1.below H8.out.2).below (bD (Below.refl _ _)))).step hS) ((((H6.out.2.2.2.2.below H8.out.2).below (bD (Below.refl _ _)))).step hS)
      obtain ⟨cd, hcd⟩ : ∃ cd, codeD rs ⟨(macZ s).nm, (macZ s).fn, (macZ s).params, (macZ s).more, (macZ s).body⟩ = cd := ⟨_, rfl⟩
      obtain ⟨bn, hbn⟩ : ∃ bn, newB rs ⟨(macZ s).nm, (macZ s).fn, (macZ s).params, (macZ s).more, (macZ s).body⟩ = bn := ⟨_, rfl⟩
      rw [hcd, hbn] at hd1
      simp only [hcd, hbn] at hd2
      obtain ⟨nn, hnn⟩ : ∃ nn, (if bn = true then rs.length + 1 else rs.length) = nn := ⟨_, rfl⟩
      obtain ⟨TT, hTT⟩ : ∃ TT, (if bn = true then (fun y => if y = ((macZ s).nm : ByteArray).data.toList then some ⟨(macZ s).nm, (macZ s).fn, (macZ s).params, (macZ s).more, (macZ s).body⟩ else look (rs.map Prod.fst) y) else look (rs.map Prod.fst)) = TT := ⟨_, rfl⟩
      rw [hnn, hTT] at hd1
      simp only [hnn, hTT] at hd2
      have hle := newLen hnn
      have HD1 := Lib.hid hd1
      have HD2 := Lib.hid hd2
      have HId := Lib.hid (And.intro hId hle)
      clear hd1 hd2 hId hcd hbn hnn hTT hl9 hle
      refine start_ (n := 8) (S := fun w' => w'.cell? ⟨B8, 0, none⟩ = some (.string (macZ s).nm) ∧ w'.cell? ⟨B8, 1, none⟩ = some (.bool (macZ s).fn) ∧ w'.cell? ⟨B8, 2, none⟩ = some (.slice A6 (macZ s).params.length c6) ∧ w'.cell? ⟨B8, 3, none⟩ = some (.bool (macZ s).more) ∧ w'.cell? ⟨B8, 4, none⟩ = some (.slice A7 (macZ s).body.length c7)) (ds := [5]) (fl 0 8) (by kernel_rfl) rfl rfl ⟨a0, a1, a2, a3, a4⟩ (fun hHeld => ?_)
      refine pu 0 60 (fl 1 7) ?_
      refine pu 3 63 #[true, false, false, true, false, false, false, false] ?_
      refine tk 1 61 #[true, true, false, true, false, false, false, false] rfl rfl hHeld (by rintro w' ⟨s0, s1, s2, s3, s4⟩; go_simp; with_reducible rfl) ?_
      refine tk 4 64 #[true, true, false, true, true, false, false, false] rfl rfl hHeld (by rintro w' ⟨s0, s1, s2, s3, s4⟩; go_simp; with_reducible rfl) ?_
      refine one_ (i := 2) (N := some 62) (fl 5 3) rfl rfl (by kernel_rfl) (by decide) (fun K hK => ?_)
      refine goes_ Tryz.func8 (by kernel_rfl) rfl #[.pointer (some ⟨p, 0, none⟩), .agg #[.string (macZ s).nm, .bool (macZ s).fn, .slice A6 (macZ s).params.length c6, .bool (macZ s).more, .slice A7 (macZ s).body.length c7]] (by rfl) rfl rfl (by simp only [List.map_toArray, List.map_cons, List.map_nil]; rfl) ?_
      with_reducible refine (HD1.out).mono ?_
      rintro e w9 ⟨rfl, hT9, hS9⟩
      refine ⟨_, rfl, ?_⟩
      have q9 := hS9.block HQ.out.1
      have x9 := hS9.block HQ.out.2
      have H9 := Lib.hid (And.intro hT9 (And.intro hS9 (And.intro q9 x9)))
      clear hT9 hS9 x9
      refine hK.out _ _ ⟨(bC q9 0), (bC q9 1), (bC q9 2), (bC q9 3), (bC q9 4)⟩ (fun hHeld => ?_)
      clear hK K
      refine norm_ (a' := ?_) ?_ ?_
      rotate_left
      ·show Act.put _ (some 62) _ = _
       simp only [Act.put, sT, sZ, sS, i64_w, i32_w]
       rfl
      refine last_ (i := 5) (N := some 65) (fl 6 2) rfl rfl (by kernel_rfl) (by decide) (fun K hK => ?_)
      refine goes_ Tryz.func9 (by kernel_rfl) rfl #[.pointer (some ⟨q, 0, none⟩), .agg #[.string (macZ s).nm, .bool (macZ s).fn, .slice A6 (macZ s).params.length c6, .bool (macZ s).more, .slice A7 (macZ s).body.length c7]] (by rfl) rfl rfl (by simp only [List.map_toArray, List.map_cons, List.map_nil]; rfl) ?_
      with_reducible refine (HD2.out _ H9.out.2.1).mono ?_
      rintro e w10 ⟨rfl, ⟨rs2, hR10, hG10, hN10, hL10⟩, hS10⟩
      refine ⟨_, rfl, ?_⟩
      have q10 := hS10.block HNE.out.1 H9.out.2.2.1
      have x10 := hS10.block HNE.out.2 H9.out.2.2.2
      have H10 := Lib.hid (And.intro hR10 (And.intro hG10 (And.intro hN10 (And.intro hL10 (And.intro hS10 (And.intro q10 x10))))))
      clear hR10 hG10 hN10 hL10 hS10 q10 x10 q9
      refine hK.out _ _ ?_
      clear hK K
      refine norm_ (a' := ?_) ?_ ?_
      rotate_left
      ·show Act.put _ (some 65) _ = _
       simp only [Act.put, sT, sZ, sS, i64_w, i32_w]
       rfl
      refine pu 6 66 (fl 7 1) ?_
      refine pu 7 8 (fl 8 0) ?_
      refine done_ (by kernel_rfl) ?_
      have y0 := bC H10.out.2.2.2.2.2.1 0
      have x1 := bC H10.out.2.2.2.2.2.2 1
      have f1 := frz_blk H10.out.2.2.2.2.2.2 1
      go_wp2
      go_meet
      case rel =>
       have hI10 := HId.out.1.defined HB.out.2 H9.out.1 H9.out.2.1 H10.out.1 H10.out.2.1 H10.out.2.2.1 H10.out.2.2.2.1 H10.out.2.2.2.2.1
       have hq1 := H4.out.2.2.2.1
       exact ⟨by simp, rs2, (macZ s).nm, by have := H10.out.2.2.1; have := HId.out.2; have := HI.out.2; omega, hI10.setB H10.out.2.2.2.2.2.2 (by have := HB.out.2; omega) (by have := HB.out.2; omega) hq1 HB.out.2.2.2.2.2 H4.out.2.2.2.2 _, by have := (macZ_dom s HM.out.1).1; unfold maxLen; omega, bC (bU H10.out.2.2.2.2.2.2 1 (.string (macZ s).nm) rfl) 1⟩
     ·by_cases hk1 : κ = 1
      ·subst hk1
       have ST5 : True := trivial
       go_wp2_with (first
        | (have g_ := ST5; clear g_ ST5; go_at_call 10; refine (undef_all p mb rs H4.out.2.2.1.good s _ HMX.out H4.out.2.2.1.tab).mono ?_; rintro e W5 ⟨rfl, hT5, hS5⟩; clear x0 x1; have q5 := hS5.block H4.out.1; have x1 := bC q5 1; have H5 := Lib.hid (And.intro hT5 (And.intro hS5 q5)); clear hT5 hS5 q5; have ST6 : True := trivial)
        | (have g_ := ST6; clear g_ ST6; go_at_call 11; refine (rundef_c q rs s _ (H4.out.2.2.1.ref.step H5.out.2.1) HRL.out).mono ?_; rintro e W6 ⟨⟨u6, rfl⟩, hR6, hS6⟩; have q6 := hS6.block HNE.out H5.out.2.2; have H6 := Lib.hid (And.intro hR6 (And.intro hS6 q6)); clear hR6 hS6 q6))
       go_meet
       case rel =>
        have hI6 := H4.out.2.2.1.defined HB.out.2 H5.out.1 H5.out.2.1 H6.out.1 (H4.out.2.2.1.good.off s) rfl rfl (Or.inr H6.out.2.1)
        exact ⟨by simp, offN s rs, s, by have h5 := List.length_filter_le (fun p : MacP × MRow => !(p.1.nm.toList == s.toList)) rs; have := HI.out.2; unfold offN; omega, hI6, HMX.out, bC H6.out.2.2 1⟩
      ·have x2 := bC H4.out.1 2
       have x3 := bC H4.out.1 3
       have x4 := bC H4.out.1 4
       have x5 := bC H4.out.1 5
       have x6 := bC H4.out.1 6
       have HQ : Hid (W4.drew.heap[Bx]? = some (.cells #[.int .i64 kd, .string s, .string nm2, .bool fn2, .slice Ap ps.length cp, .bool more2, .slice Ab body.length cb] 35 (0, 0)) ∧ W4.drew.heap[Bx]? = some (.cells #[.int .i64 kd, .string s, .string nm2, .bool fn2, .slice Ap ps.length cp, .bool more2, .slice Ab body.length cb] 35 (0, 0))) := Lib.hid (And.intro (kD H4.out.1) (kD H4.out.1))
       have HNE : Hid (Bx ≠ q ∧ Bx ≠ q) := Lib.hid ⟨HNE.out, HNE.out⟩
       have ek0 : (κ == 0) = false := beq_eq_false_iff_ne.mpr hk0
       have ek1 : (κ == 1) = false := beq_eq_false_iff_ne.mpr hk1
       clear hk0 hk1
       go_upto_region 10 with (fail)
       have hId := (H4.out.2.2.1).grow (bD (Below.refl _ _))
       have hl9 : rs.length < 1000 := by have := HI.out.2; omega
       have hd1 := define_all p mb rs hId.good hl9 nm2 fn2 more2 Ap Ab cp cb ps body W4.drew hId.tt HM.out.2.1 hId.tab (Kd.C_drew (Kd.C_below HM.out.2.2.1 H4.out.2.1)) HM.out.2.2.2.1 (Kd.C_drew (Kd.C_below HM.out.2.2.2.2.1 H4.out.2.1)) HM.out.2.2.2.2.2.1
       have hd2 := fun (W9 : World) (hS : StepM mb W4.drew W9) => rdefine_all q rs hId.good hl9 nm2 fn2 more2 Ap Ab cp cb ps body W9 HM.out.2.1 (hId.ref.step hS) (hS.strs (Kd.C_drew (Kd.C_below HM.out.2.2.1 H4.out.2.1))) HM.out.2.2.2.1 (hS.toks (Kd.C_drew (Kd.C_below HM.out.2.2.2.2.1 H4.out.2.1))) HM.out.2.2.2.2.2.1 ((((HM.out.2.2.2.2.2.2.1.below H4.out.2.1).below (bD (Below.refl _ _)))).step hS) ((((HM.out.2.2.2.2.2.2.2.below H4.out.2.1).below (bD (Below.refl _ _)))).step hS)
       obtain ⟨cd, hcd⟩ : ∃ cd, codeD rs ⟨nm2, fn2, ps, more2, body⟩ = cd := ⟨_, rfl⟩
       obtain ⟨bn, hbn⟩ : ∃ bn, newB rs ⟨nm2, fn2, ps, more2, body⟩ = bn := ⟨_, rfl⟩
       rw [hcd, hbn] at hd1
       simp only [hcd, hbn] at hd2
       obtain ⟨nn, hnn⟩ : ∃ nn, (if bn = true then rs.length + 1 else rs.length) = nn := ⟨_, rfl⟩
       obtain ⟨TT, hTT⟩ : ∃ TT, (if bn = true then (fun y => if y = (nm2 : ByteArray).data.toList then some ⟨nm2, fn2, ps, more2, body⟩ else look (rs.map Prod.fst) y) else look (rs.map Prod.fst)) = TT := ⟨_, rfl⟩
       rw [hnn, hTT] at hd1
       simp only [hnn, hTT] at hd2
       have hle := newLen hnn
       have HD1 := Lib.hid hd1
       have HD2 := Lib.hid hd2
       have HId := Lib.hid (And.intro hId hle)
       clear hd1 hd2 hId hcd hbn hnn hTT hl9 hle
       refine start_ (n := 10) (S := fun w' => w'.cell? ⟨Bx, 2, none⟩ = some (.string nm2) ∧ w'.cell? ⟨Bx, 3, none⟩ = some (.bool fn2) ∧ w'.cell? ⟨Bx, 4, none⟩ = some (.slice Ap ps.length cp) ∧ w'.cell? ⟨Bx, 5, none⟩ = some (.bool more2) ∧ w'.cell? ⟨Bx, 6, none⟩ = some (.slice Ab body.length cb)) (ds := [7]) (fl 0 10) (by kernel_rfl) rfl rfl ⟨x2, x3, x4, x5, x6⟩ (fun hHeld => ?_)
       refine pu 0 38 (fl 1 9) ?_
       refine pu 1 39 (fl 2 8) ?_
       refine pu 4 42 #[true, true, false, false, true, false, false, false, false, false] ?_
       refine pu 5 43 #[true, true, false, false, true, true, false, false, false, false] ?_
       refine tk 2 40 #[true, true, true, false, true, true, false, false, false, false] rfl rfl hHeld (by rintro w' ⟨s0, s1, s2, s3, s4⟩; go_simp; with_reducible rfl) ?_
       refine tk 6 44 #[true, true, true, false, true, true, true, false, false, false] rfl rfl hHeld (by rintro w' ⟨s0, s1, s2, s3, s4⟩; go_simp; with_reducible rfl) ?_
       refine one_ (i := 3) (N := some 41) (fl 7 3) rfl rfl (by kernel_rfl) (by decide) (fun K hK => ?_)
       refine goes_ Tryz.func8 (by kernel_rfl) rfl #[.pointer (some ⟨p, 0, none⟩), .agg #[.string nm2, .bool fn2, .slice Ap ps.length cp, .bool more2, .slice Ab body.length cb]] (by rfl) rfl rfl (by simp only [List.map_toArray, List.map_cons, List.map_nil]; rfl) ?_
       with_reducible refine (HD1.out).mono ?_
       rintro e w9 ⟨rfl, hT9, hS9⟩
       refine ⟨_, rfl, ?_⟩
       have q9 := hS9.block HQ.out.1
       have x9 := hS9.block HQ.out.2
       have H9 := Lib.hid (And.intro hT9 (And.intro hS9 (And.intro q9 x9)))
       clear hT9 hS9 x9
       refine hK.out _ _ ⟨(bC q9 2), (bC q9 3), (bC q9 4), (bC q9 5), (bC q9 6)⟩ (fun hHeld => ?_)
       clear hK K
       refine norm_ (a' := ?_) ?_ ?_
       rotate_left
       ·show Act.put _ (some 41) _ = _
        simp only [Act.put, sT, sZ, sS, i64_w, i32_w]
        rfl
       refine last_ (i := 7) (N := some 45) (fl 8 2) rfl rfl (by kernel_rfl) (by decide) (fun K hK => ?_)
       refine goes_ Tryz.func9 (by kernel_rfl) rfl #[.pointer (some ⟨q, 0, none⟩), .agg #[.string nm2, .bool fn2, .slice Ap ps.length cp, .bool more2, .slice Ab body.length cb]] (by rfl) rfl rfl (by simp only [List.map_toArray, List.map_cons, List.map_nil]; rfl) ?_
       with_reducible refine (HD2.out _ H9.out.2.1).mono ?_
       rintro e w10 ⟨rfl, ⟨rs2, hR10, hG10, hN10, hL10⟩, hS10⟩
       refine ⟨_, rfl, ?_⟩
       have q10 := hS10.block HNE.out.1 H9.out.2.2.1
       have x10 := hS10.block HNE.out.2 H9.out.2.2.2
       have H10 := Lib.hid (And.intro hR10 (And.intro hG10 (And.intro hN10 (And.intro hL10 (And.intro hS10 (And.intro q10 x10))))))
       clear hR10 hG10 hN10 hL10 hS10 q10 x10 q9
       refine hK.out _ _ ?_
       clear hK K
       refine norm_ (a' := ?_) ?_ ?_
       rotate_left
       ·show Act.put _ (some 45) _ = _
        simp only [Act.put, sT, sZ, sS, i64_w, i32_w]
        rfl
       refine pu 8 46 (fl 9 1) ?_
       refine pu 9 8 (fl 10 0) ?_
       refine done_ (by kernel_rfl) ?_
       clear x0 x1 x2 x3 x4 x5 x6
       have x1 := bC H10.out.2.2.2.2.2.2 1
       have x2 := bC H10.out.2.2.2.2.2.2 2
       have f1 := frz_blk H10.out.2.2.2.2.2.2 1
       go_wp2
       go_meet
       case rel =>
        have hI10 := HId.out.1.defined HB.out.2 H9.out.1 H9.out.2.1 H10.out.1 H10.out.2.1 H10.out.2.2.1 H10.out.2.2.2.1 H10.out.2.2.2.2.1
        have hq1 := H4.out.2.2.2.1
        exact ⟨by simp, rs2, nm2, by have := H10.out.2.2.1; have := HId.out.2; have := HI.out.2; omega, hI10.setB H10.out.2.2.2.2.2.2 (by have := HB.out.2; omega) (by have := HB.out.2; omega) hq1 HB.out.2.2.2.2.2 H4.out.2.2.2.2 _, by have := HM.out.2.1.1; unfold maxLen; omega, bC (bU H10.out.2.2.2.2.2.2 1 (.string nm2) rfl) 1⟩
    case rest =>
     obtain ⟨rfl, rs2, nm3, hl2, hI, hsz, htx⟩ := hcut
     have htx : wc.cell? ⟨Bx, 1, none⟩ = some (.string nm3) := htx
     have hlx := cl wc _ htx
     have HJ := Lib.hid (And.intro hI (And.intro hsz (And.intro htx (And.intro hlx (show rs2.length ≤ 1000 by omega)))))
     have HL2 := Lib.hid hl2
     clear hl2 hI hsz hlx
     have ST5 : True := trivial
     go_upto_region 20 with (have g_ := ST5; clear g_ ST5; go_at_call 12; refine (get_u p mb rs2 HJ.out.1.good nm3 HJ.out.2.1 _ HJ.out.1.tab).mono ?_; rintro e W5 ⟨A5, k5, A6, k6, rfl, hc5, hk5, hc6, hk6, hb5⟩; have H5 := Lib.hid (And.intro hc5 (And.intro hk5 (And.intro hc6 (And.intro hk6 hb5)))); clear hc5 hk5 hc6 hk6 hb5)
     obtain ⟨B6, hB6⟩ : ∃ B, W5.heap.size = B := ⟨_, rfl⟩
     obtain ⟨W6, hW6⟩ : ∃ W', W5.alloc (.cells #[.string (gotP rs2 nm3).nm, .bool (gotP rs2 nm3).fn, .slice A5 (gotP rs2 nm3).params.length k5, .bool (gotP rs2 nm3).more, .slice A6 (gotP rs2 nm3).body.length k6] 33) = W' := ⟨_, rfl⟩
     have q6 : W6.heap[B6]? = some (.cells #[.string (gotP rs2 nm3).nm, .bool (gotP rs2 nm3).fn, .slice A5 (gotP rs2 nm3).params.length k5, .bool (gotP rs2 nm3).more, .slice A6 (gotP rs2 nm3).body.length k6] 33 (0, 0)) := by rw [← hW6, ← hB6]; exact blk_new W5 _
     have hb56 : Below W5.heap.size W5 W6 := by rw [← hW6]; exact (Below.refl _ _).alloc (Nat.le_refl _) _
     have hb6 : Below wc.heap.size wc W6 := H5.out.2.2.2.2.trans (hb56.mono H5.out.2.2.2.2.size)
     rw [hW6]
     try rw [hB6]
     have htx6 := (hb6.cell (p := ⟨Bx, 1, none⟩) HJ.out.2.2.2.1).trans htx
     have H6 := Lib.hid (And.intro q6 (And.intro hb6 (And.intro (Kd.C_below H5.out.1 hb56) (Kd.C_below H5.out.2.2.1 hb56))))
     clear hW6 q6 hb56 hb6 htx hB6
     have ST6 : True := trivial
     go_upto_region 21 with (have g_ := ST6; clear g_ ST6; go_at_call 13; refine (rget_u q rs2 nm3 _ (HJ.out.1.ref.below H6.out.2.1) HJ.out.2.2.2.2).mono ?_; rintro e W7 ⟨A7, k7, A8, k8, rfl, hc7, hk7, hc8, hk8, hb7⟩; have H7 := Lib.hid (And.intro hc7 (And.intro hk7 (And.intro hc8 (And.intro hk8 hb7)))); clear hc7 hk7 hc8 hk8 hb7)
     obtain ⟨B8, hB8⟩ : ∃ B, W7.heap.size = B := ⟨_, rfl⟩
     obtain ⟨W8, hW8⟩ : ∃ W', W7.alloc (.cells #[.string (gotP rs2 nm3).nm, .bool (gotP rs2 nm3).fn, .slice A7 (gotP rs2 nm3).params.length k7, .bool (gotP rs2 nm3).more, .slice A8 (gotP rs2 nm3).body.length k8] 33) = W' := ⟨_, rfl⟩
     have q8 : W8.heap[B8]? = some (.cells #[.string (gotP rs2 nm3).nm, .bool (gotP rs2 nm3).fn, .slice A7 (gotP rs2 nm3).params.length k7, .bool (gotP rs2 nm3).more, .slice A8 (gotP rs2 nm3).body.length k8] 33 (0, 0)) := by rw [← hW8, ← hB8]; exact blk_new W7 _
     have hb78 : Below W7.heap.size W7 W8 := by rw [← hW8]; exact (Below.refl _ _).alloc (Nat.le_refl _) _
     have hb68 : Below W6.heap.size W6 W8 := H7.out.2.2.2.2.trans (hb78.mono H7.out.2.2.2.2.size)
     have q6 := (hb68.block _ (blk_lt H6.out.1)).trans H6.out.1
     rw [hW8]
     try rw [hB8]
     have a0 := bC q6 0
     have a1 := bC q6 1
     have a2 := bC q6 2
     have a3 := bC q6 3
     have a4 := bC q6 4
     have b0 := bC q8 0
     have b1 := bC q8 1
     have b2 := bC q8 2
     have b3 := bC q8 3
     have b4 := bC q8 4
     obtain ⟨SS, hSS⟩ : ∃ SS, sortedN (rs2.map Prod.fst) = SS := ⟨_, rfl⟩
     have hSl : SS.length ≤ 1000000 := by rw [← hSS, sortedN_len, List.length_map]; have := HJ.out.2.2.2.2; omega
     have hr2 : (rs2.map Prod.fst).length = rs2.length := by rw [List.length_map]
     have hT8 : TabR W8 p mb (rs2.map Prod.fst).length (look (rs2.map Prod.fst)) := by rw [hr2]; exact (HJ.out.1.tab.below H6.out.2.1).below hb68
     have H8 := Lib.hid (And.intro (H6.out.2.1.trans (hb68.mono H6.out.2.1.size)) (And.intro (Kd.C_below H6.out.2.2.1 hb68) (And.intro (Kd.C_below H6.out.2.2.2 hb68) (And.intro (Kd.C_below H7.out.1 hb78) (And.intro (Kd.C_below H7.out.2.2.1 hb78) (And.intro hT8 (And.intro ((HJ.out.1.ref.below H6.out.2.1).below hb68) (And.intro hSS (And.intro (sameNames_f SS hSl) (And.intro (by rw [hr2]; exact HJ.out.2.2.2.2 : (rs2.map Prod.fst).length ≤ 1000) (gotP_dom HJ.out.1.good nm3)))))))))))
     clear hW8 q8 hb78 hb68 q6 hB8 hSS hSl hr2 hT8 htx6
     have ST7 : True := trivial
     obtain ⟨⟨nmg, fng, psg, moreg, bodyg⟩, hgp⟩ : ∃ g, gotP rs2 nm3 = g := ⟨_, rfl⟩
     obtain ⟨bg, hbg⟩ : ∃ b, (findI rs2 nm3).isSome = b := ⟨_, rfl⟩
     rw [hbg]
     rw [hgp] at H5 H6 H7 H8 a0 a1 a2 a3 a4 b0 b1 b2 b3 b4 ⊢
     clear hgp hbg
     go_wp2_with (first
      | (have g_ := ST7; clear g_ ST7; go_at_call 14; refine (burinref03_Equal.calls 3000000 nmg fng A5 k5 psg moreg A6 k6 bodyg nmg fng A7 k7 psg moreg A8 k8 bodyg true _ H8.out.2.1 H5.out.2.1 H8.out.2.2.1 H5.out.2.2.2.1 H8.out.2.2.2.1 H7.out.2.1 H8.out.2.2.2.2.1 H7.out.2.2.2.1 H8.out.2.2.2.2.2.2.2.2.2.2).mono ?_; rintro e W9 ⟨rfl, hb9⟩; have H9 := Lib.hid hb9; clear a0 a1 a2 a3 a4 b0 b1 b2 b3 b4 hb9; have ST8 : True := trivial)
      | (have g_ := ST8; clear g_ ST8; go_at_call 16; refine (names_s p mb _ (rs2.map Prod.fst) SS _ (H8.out.2.2.2.2.2.1.below H9.out) HJ.out.1.good.nodup H8.out.2.2.2.2.2.2.2.2.2.1 H8.out.2.2.2.2.2.2.2.1).mono ?_; rintro e W10 ⟨A10, k10, rfl, hC10, hk10, hb10⟩; have H10 := Lib.hid (And.intro hC10 (And.intro hk10 (H9.out.trans (hb10.mono H9.out.size)))); clear hC10 hk10 hb10; have ST9 : True := trivial)
      | (have g_ := ST9; clear g_ ST9; go_at_call 17; refine (rnames_s q rs2 HJ.out.1.good SS _ (H8.out.2.2.2.2.2.2.1.below H10.out.2.2) HJ.out.2.2.2.2 H8.out.2.2.2.2.2.2.2.1).mono ?_; rintro e W11 ⟨A11, k11, rfl, hC11, hk11, hb11⟩; have H11 := Lib.hid (And.intro hC11 (And.intro hk11 (And.intro (Kd.C_below H10.out.1 hb11) (H10.out.2.2.trans (hb11.mono H10.out.2.2.size))))); clear hC11 hk11 hb11; have ST10 : True := trivial)
      | (have g_ := ST10; clear g_ ST10; go_at_call 15; refine (burinref03_SameNames.calls 1000001 A10 k10 SS A11 k11 SS true _ H11.out.2.2.1 H10.out.2.1 H11.out.1 H11.out.2.1 H8.out.2.2.2.2.2.2.2.2.1).mono ?_; rintro e W12 ⟨rfl, hb12⟩; have H12 := Lib.hid hb12; clear hb12))
     obtain ⟨n12, h12⟩ := H12.out
     have hbf : Below wc.heap.size wc W12 := by rw [h12]; exact bQ (H8.out.1.trans (H11.out.2.2.2.mono H8.out.1.size)) n12
     exact ⟨⟨k + 1, rs2, hlt, by omega, by simp, HL2.out, HJ.out.1.grow hbf⟩, by simp [RowKit.intOf]; omega⟩
   ·have HZ := Lib.hid hI.bel
    have hk1 : k = 100 := by omega
    clear hI hrs
    subst hk1
    go_wp2
    go_ret
    exact ⟨rfl, HZ.out⟩
  ·have HZ := Lib.hid hI.bel
   clear hI hrs
   go_wp2
   go_ret
   exact ⟨rfl, HZ.out⟩
end Go.Proofs.YtcbfbefpbjmglaaGreatDoor.Mac
