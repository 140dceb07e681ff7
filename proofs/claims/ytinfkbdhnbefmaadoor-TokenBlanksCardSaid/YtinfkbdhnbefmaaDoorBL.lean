import Derived.Test.YtinfkbdhnbefmaaDoorAK
import Derived.Test.YtinfkbdhnbefmaaDoorPBx2
import Derived.Test.YtinfkbdhnbefmaaDoorR7
namespace Go.Proofs.YtinfkbdhnbefmaaDoor.PB
open Go.RowKit Go.Proofs.YtinfkbdhnbefmaaDoorT Go.Proofs.YtinfkbdhnbefmaaDoorW.PrintWords Go.Proofs.YtinfkbdhnbefmaaDoorW.PrintLast Go.Proofs.YtinfkbdhnbefmaaDoorW.PrintMore
open Go.Proofs.YtinfkbdhnbefmaaDoor.Bk (restB lineB AlL Al blanks_law)
set_option linter.unusedVariables false
set_option linter.unusedSimpArgs false
theorem lex_lit (s : ByteArray) (hsz : s.size < 4294967281) (a : List TokP) (e0 n0 : Int) (hq : lexP [(1, s.data.toList)] = (a, e0, n0)) (W : World) (hT : Tab W) (bl : Nat) (hb : W.heap[bl]? = some (.cells #[.int .i64 1, .string s] 31 (0, 0))) :
    Calls Tryd.prog 12 #[.slice (some ⟨bl, 0, none⟩) 1 1] W fun e w' => ∃ v0, e = .returned (.tuple #[v0, .int .i64 e0, .int .i64 n0]) ∧ Kd.R k34 34 w' W.heap.size (fun _ => True) v0 (a.map toT) ∧ Below W.heap.size W w' := by
  have hC : Kd.C k31 W (some ⟨bl, 0, none⟩) ([(⟨1, s⟩ : S31)]).length [(⟨1, s⟩ : S31)] := by
    refine ⟨rfl, by simp, fun hp => ⟨_, rfl, fun j p hj => ?_⟩⟩
    have hj0 : j = 0 := by have := (List.getElem?_eq_some_iff.1 hj).1; simp at this; exact this
    subst hj0
    have hp : (⟨1, s⟩ : S31) = p := by simpa using hj
    subst hp
    refine ⟨[.int .i64 1, .string s], rfl, k31_mk W _, fun i u hu => ?_⟩
    obtain ⟨c0, c1⟩ := cell_two hb
    match i, hu with
    | 0, hu => simp at hu; subst hu; simpa [Addr.add] using c0
    | 1, hu => simp at hu; subst hu; simpa [Addr.add] using c1
  have hf : token_Lex.f [(⟨1, s⟩ : S31)] = some (a.map toT, e0, n0) := by
    unfold token_Lex.f
    rw [if_pos (by simp [fits]; omega)]
    show some ((lexP [(1, s.data.toList)]).1.map toT, (lexP [(1, s.data.toList)]).2.1, (lexP [(1, s.data.toList)]).2.2) = _
    rw [hq]
  exact token_Lex.calls (some ⟨bl, 0, none⟩) 1 [(⟨1, s⟩ : S31)] (a.map toT) e0 n0 W hC (by simp) hT hf
theorem restB_app (B : List UInt8) : ∀ x y : List TokP, restB B (x ++ y) = restB B x ++ restB B y
  | [], y => rfl
  | u :: x, y => by rw [List.cons_append, restB, restB_app B x y, restB]; simp
theorem lineB_app (B : List UInt8) : ∀ x y : List TokP, ∃ X, lineB B (x ++ y) = lineB B x ++ X
  | [], [] => ⟨[], by simp [lineB]⟩
  | [], t :: r => ⟨_, rfl⟩
  | t :: x, y => ⟨restB B y, by show B ++ (t.s ++ restB B (x ++ y)) = B ++ (t.s ++ restB B x) ++ restB B y; rw [restB_app]; simp⟩
theorem lineB_snoc (B : List UInt8) (u : TokP) : ∀ x : List TokP, x ≠ [] → lineB B (x ++ [u]) = lineB B x ++ ((if u.sp then 32 :: B else []) ++ u.s)
  | [], h => absurd rfl h
  | t :: x, _ => by
    show B ++ (t.s ++ restB B (x ++ [u])) = B ++ (t.s ++ restB B x) ++ _
    rw [restB_app]; simp [restB]
theorem shown_b : burinlaw02_shown.f = some true := by kernel_rfl
theorem bstr_app (a b : List UInt8) : bstr a ++ bstr b = bstr (a ++ b) := by
  apply ByteArray.ext; apply Array.ext'; simp [bstr]
set_option maxRecDepth 100000 in
set_option maxHeartbeats 2000000 in
theorem blanks_calls (s : ByteArray) (kd : Int) (w : World) (hs : s.size ≤ 1000) (hT : Tab w) (a b : List TokP) (n0 m : Int) (hq : lexP [(1, s.data.toList)] = (a, 0, n0)) (B : List UInt8) (hBl : B.length ≤ 10)
   (hix : ∀ W, (Instr.index 32 (.agg #[.string ⟨#[32]⟩, .string ⟨#[9]⟩, .string ⟨#[47, 42, 42, 47]⟩, .string ⟨#[11, 12, 32, 47, 42, 32, 39, 32, 42, 47]⟩]) (.int .i64 ((wrap64 (kd.tmod 4 + 4)).tmod 4))).run Tryd.prog W = .ok (.string (bstr B)) W)
   (hTT : (lineB B a).length ≤ 13000) (hal : a.length ≤ 1000) (hb : lexP [(1, lineB B a ++ endB)] = (b, 0, m)) (hab : alB (a.map toT) (b.map toT)) :
    Calls Tryd.prog 4 #[.string s, .int .i64 kd] w fun e w' => e = .returned (.bool true) ∧ Below w.heap.size w w' := by
  have hs1 : ¬ ((s.size : Int) > 1000) := by omega
  have hs2 : (s.size : Int) ≤ 1000 := by omega
  have HSH := Aside0.mk (burinlaw02_shown.calls true w hT shown_b)
  have HL1 := Aside0.mk (fun W (hT : Tab W) bl hb => lex_lit s (by omega) a 0 n0 hq W hT bl hb)
  have hTl : (lineB B a ++ endB).length ≤ 13006 := by rw [List.length_append]; show _ + 6 ≤ 13006; omega
  have HL2 := Aside0.mk (fun W (hT : Tab W) bl hb' => lex_lit (bstr (lineB B a ++ endB)) (by rw [bstr_size]; omega) b 0 m hb W hT bl hb')
  have HT := Aside0.mk hT
  have HTT := Aside0.mk (And.intro hTT (And.intro hab hBl))
  clear hT hq hb hTl hTT hab
  go_enter Tryd.func4, Tryd.ntmps4
  go_wp2_with (first | (go_at_call 10; refine HSH.out.mono ?_; rintro e w1 ⟨rfl, hb1⟩) | (go_at_call 12; refine (HL1.out _ (HT.out.grow (below_alloc hb1 _)) _ (World.alloc_heap_new _ _)).mono ?_; rintro e w2 ⟨v, rfl, hR, hb2⟩; obtain ⟨A, c, rfl, hcl, hC⟩ := Kd.R_reads hR; rw [List.length_map] at hC; rw [List.length_map]))
  have HB2 := Aside0.mk (And.intro hb1 (And.intro hb2 (And.intro hR hC)))
  have HCL := Aside0.mk hcl
  clear hb1 hb2 hR hC hcl hix
  go_loopg [10, 11] a.length (fun g v10 v11 w' => ∃ i : Nat, i + g = a.length ∧ v11 = .int .i64 (i : Int) ∧ v10 = .string (bstr (lineB B (a.take i))) ∧ w' = w2)
  case atStart => exact ⟨0, by omega, rfl, rfl, rfl⟩
  case round =>
    obtain ⟨i, hi, rfl, rfl, rfl⟩ := hrel
    cases gk with
    | zero =>
      have hlt : ¬ ((i : Int) < (a.length : Int)) := by omega
      have hia : a.take i = a := List.take_of_length_le (by omega)
      rw [hia]
      have hadd : ¬ (9223372036854775807 < (bstr (lineB B a)).size + 6) := by rw [bstr_size]; have := HTT.out.1; omega
      have happ : bstr (lineB B a) ++ ⟨#[32, 47, 47, 32, 39, 32]⟩ = bstr (lineB B a ++ endB) := by rw [show (⟨#[32, 47, 47, 32, 39, 32]⟩ : ByteArray) = bstr endB from rfl, bstr_app]
      have hA := below_alloc HB2.out.1 (.cells #[.int .i64 1, .string s] 31)
      have hBw : Below w.heap.size w _ := hA.trans (HB2.out.2.1.mono hA.size)
      have HAK := Aside0.mk (fun (W : World) (A4 : Option Addr) (c4 : Nat) (g1 : Kd.C k34 W A (a.map toT).length (a.map toT)) (g2 : Kd.C k34 W A4 (b.map toT).length (b.map toT)) => by
        have := alike_calls A A4 c c4 (a.map toT) (b.map toT) W g1 g2 HTT.out.2.1.1 HTT.out.2.1.2
        rw [List.length_map, List.length_map] at this
        exact this)
      have hC2 : Kd.C k34 wr A (a.map toT).length (a.map toT) := by rw [List.length_map]; exact HB2.out.2.2.2
      have HC2 := Aside0.mk hC2
      have HBW := Aside0.mk hBw
      clear hC2 hBw hA hi
      go_wp2_with (first
        | (go_at_call 12; refine (HL2.out _ (HT.out.grow (below_alloc HBW.out _)) _ (World.alloc_heap_new _ _)).mono ?_; rintro e w4 ⟨v, rfl, hR4, hb4⟩; obtain ⟨A4, c4, rfl, hcl4, hC4⟩ := Kd.R_reads hR4; have hb4' := below_step (below_alloc (Below.refl _ _) _) hb4; have HC4 := Aside0.mk (And.intro hC4 hb4'); clear hR4 hC4 hcl4 hb4 hb4'; rw [List.length_map])
        | (go_at_call 15; refine (HAK.out _ _ _ (Kd.C_below HC2.out HC4.out.2) HC4.out.1).mono ?_; rintro e w5 ⟨rfl, hb5⟩))
      go_ret
      exact ⟨rfl, below_step (below_step HBW.out HC4.out.2) hb5⟩
    | succ gk =>
      have hil : i < a.length := by omega
      have hlt : (i : Int) < (a.length : Int) := by omega
      have h0 : (0 : Int) ≤ (i : Int) := by omega
      have HC := HB2.out.2.2.2
      rw [show a.length = (a.map toT).length by rw [List.length_map]] at hlt
      obtain ⟨ad, rfl, x0, x1, x2, x3, x4, x5⟩ := at_T34 (n := (a.map toT).length) (by rw [List.length_map]; exact HC) (i : Int) h0 hlt
      rw [List.length_map] at hlt
      have hrd : rd_T34 (a.map toT) (i : Int) = toT (a[i]'hil) := by unfold rd_T34; rw [List.getD_eq_getElem?_getD, Int.toNat_natCast, List.getElem?_map, List.getElem?_eq_getElem hil]; rfl
      rw [hrd] at x1 x4
      obtain ⟨u, hu⟩ : ∃ u, a[i]'hil = u := ⟨_, rfl⟩
      rw [hu] at x1 x4
      simp only [Int.toNat_natCast] at x1 x4
      have hx1 : (toT u).f1 = bstr u.s := rfl
      have hx4 : (toT u).f4 = u.sp := rfl
      rw [hx1] at x1
      rw [hx4] at x4
      have htk : a.take (i + 1) = a.take i ++ [u] := by rw [List.take_succ_eq_append_getElem hil, hu]
      obtain ⟨X, hX⟩ := lineB_app B (a.take (i + 1)) (a.drop (i + 1))
      rw [List.take_append_drop] at hX
      have hXl := congrArg List.length hX
      rw [List.length_append] at hXl
      have hTl := HTT.out.1
      have hl1 : (lineB B (a.take (i + 1))).length ≤ 13000 := by omega
      have hwr : wrap64 ((i : Int) + 1) = (i : Int) + 1 := by unfold wrap64; omega
      obtain ⟨cur, hc⟩ : ∃ c, lineB B (a.take i) = c := ⟨_, rfl⟩
      have hBs := HTT.out.2.2
      by_cases hst : u.sp = true ∧ 0 < i
      · obtain ⟨hsp, hpos⟩ := hst
        have hcur : lineB B (a.take (i + 1)) = cur ++ [32] ++ B ++ u.s := by
          rw [htk, lineB_snoc B u _ (by intro e; have := congrArg List.length e; rw [List.length_take, List.length_nil] at this; omega), hc, hsp]; simp
        have hsz := hl1
        rw [hcur, List.length_append, List.length_append, List.length_append] at hsz
        simp only [List.length_singleton] at hsz
        rw [hc]
        rw [hsp] at x4
        have hpi : (0 : Int) < (i : Int) := by omega
        have hpi2 : decide ((i : Int) > 0) = true := decide_eq_true hpi
        have a1 : ¬ (9223372036854775807 < (bstr cur).size + 1) := by rw [bstr_size]; omega
        have a2 : ¬ (9223372036854775807 < (bstr cur ++ ⟨#[32]⟩).size + (bstr B).size) := by rw [show (⟨#[32]⟩ : ByteArray) = bstr [32] from rfl, bstr_app, bstr_size, bstr_size, List.length_append, List.length_singleton]; omega
        have a3 : ¬ (9223372036854775807 < (bstr cur ++ ⟨#[32]⟩ ++ bstr B).size + (bstr u.s).size) := by rw [show (⟨#[32]⟩ : ByteArray) = bstr [32] from rfl, bstr_app, bstr_app, bstr_size, bstr_size, List.length_append, List.length_append, List.length_singleton]; omega
        have HCur := Aside0.mk (And.intro hcur htk)
        have HII := Aside0.mk hi
        clear x0 x2 x3 x5 hx1 hx4 hrd HC hX hXl hTl hl1 hsz hcur htk hc hBs hi hu hBl hal
        go_wp2
        go_roundg gk
        case measure => omega
        case rel =>
          refine ⟨i + 1, by have := HII.out; omega, by simp [hwr], ?_, rfl⟩
          rw [HCur.out.1, show (⟨#[32]⟩ : ByteArray) = bstr [32] from rfl, bstr_app, bstr_app, bstr_app]
      · have hcur : lineB B (a.take (i + 1)) = cur ++ u.s := by
          by_cases hi0 : i = 0
          · subst hi0
            rw [htk, ← hc]; show B ++ (u.s ++ []) = B ++ u.s; rw [List.append_nil]
          · have hsp : u.sp = false := by
              cases h : u.sp with
              | false => rfl
              | true => exact absurd ⟨h, by omega⟩ hst
            rw [htk, lineB_snoc B u _ (by intro e; have := congrArg List.length e; rw [List.length_take, List.length_nil] at this; omega), hc, hsp]; simp
        have hsz := hl1
        rw [hcur, List.length_append] at hsz
        rw [hc]
        have a1 : ¬ (9223372036854775807 < (bstr cur).size + (bstr u.s).size) := by rw [bstr_size, bstr_size]; omega
        have HCur := Aside0.mk (And.intro hcur htk)
        have HII := Aside0.mk hi
        cases hsp : u.sp with
        | true =>
          rw [hsp] at x4 hst
          have hpi : ¬ ((i : Int) > 0) := by intro h; exact hst ⟨rfl, by omega⟩
          clear x0 x2 x3 x5 hx1 hx4 hrd HC hX hXl hTl hl1 hsz hcur htk hc hBs hi hu hBl hal hst
          go_wp2
          go_roundg gk
          case measure => omega
          case rel => exact ⟨i + 1, by have := HII.out; omega, by simp [hwr], by rw [HCur.out.1, bstr_app], rfl⟩
        | false =>
          rw [hsp] at x4
          clear x0 x2 x3 x5 hx1 hx4 hrd HC hX hXl hTl hl1 hsz hcur htk hc hBs hi hu hBl hal hst
          go_wp2
          go_roundg gk
          case measure => omega
          case rel => exact ⟨i + 1, by have := HII.out; omega, by simp [hwr], by rw [HCur.out.1, bstr_app], rfl⟩
set_option maxRecDepth 100000 in
set_option maxHeartbeats 2000000 in
theorem blanks_err (s : ByteArray) (kd : Int) (w : World) (hs : s.size ≤ 1000) (hT : Tab w) (a : List TokP) (e0 n0 : Int) (hq : lexP [(1, s.data.toList)] = (a, e0, n0)) (he : e0 ≠ 0) :
    Calls Tryd.prog 4 #[.string s, .int .i64 kd] w fun e w' => e = .returned (.bool true) ∧ Below w.heap.size w w' := by
  have hs1 : ¬ ((s.size : Int) > 1000) := by omega
  have hs2 : (s.size : Int) ≤ 1000 := by omega
  have hne : (e0 != 0) = true := bne_iff_ne.2 he
  have HSH := Aside0.mk (burinlaw02_shown.calls true w hT shown_b)
  have HL1 := Aside0.mk (fun W (hT : Tab W) bl hb => lex_lit s (by omega) a e0 n0 hq W hT bl hb)
  have HT := Aside0.mk hT
  clear hT hq
  go_enter Tryd.func4, Tryd.ntmps4
  go_wp2_with (first | (go_at_call 10; refine HSH.out.mono ?_; rintro e w1 ⟨rfl, hb1⟩) | (go_at_call 12; refine (HL1.out _ (HT.out.grow (below_alloc hb1 _)) _ (World.alloc_heap_new _ _)).mono ?_; rintro e w2 ⟨v, rfl, hR, hb2⟩; obtain ⟨A, c, rfl, hcl, hC⟩ := Kd.R_reads hR))
  go_ret
  have hA := below_alloc hb1 (.cells #[.int .i64 1, .string s] 31)
  exact ⟨rfl, hA.trans (hb2.mono hA.size)⟩
set_option maxRecDepth 100000 in
set_option maxHeartbeats 2000000 in
theorem blanks_long (s : ByteArray) (kd : Int) (w : World) (hs : ¬ s.size ≤ 1000) (hT : Tab w) :
    Calls Tryd.prog 4 #[.string s, .int .i64 kd] w fun e w' => e = .returned (.bool true) ∧ Below w.heap.size w w' := by
  have hs1 : (1000 : Int) < (s.size : Int) := by omega
  have HSH := Aside0.mk (burinlaw02_shown.calls true w hT shown_b)
  clear hT
  go_enter Tryd.func4, Tryd.ntmps4
  go_wp2_with (go_at_call 10; refine HSH.out.mono ?_; rintro e w1 ⟨rfl, hb1⟩)
  go_ret
  exact ⟨rfl, hb1⟩
theorem idx_ok (kd : Int) : ∃ j : Nat, j < 4 ∧ (wrap64 (kd.tmod 4 + 4)).tmod 4 = (j : Int) := by
  have h1 : kd.tmod 4 < 4 := Int.tmod_lt_of_pos kd (by omega)
  have h2 : -4 < kd.tmod 4 := Int.lt_tmod_of_pos kd (by omega)
  obtain ⟨x, hx⟩ : ∃ x, kd.tmod 4 = x := ⟨_, rfl⟩
  rw [hx] at h1 h2 ⊢
  have hw : wrap64 (x + 4) = x + 4 := by unfold wrap64; omega
  rw [hw]
  have : x = -3 ∨ x = -2 ∨ x = -1 ∨ x = 0 ∨ x = 1 ∨ x = 2 ∨ x = 3 := by omega
  rcases this with rfl | rfl | rfl | rfl | rfl | rfl | rfl
  · exact ⟨1, by omega, rfl⟩
  · exact ⟨2, by omega, rfl⟩
  · exact ⟨3, by omega, rfl⟩
  · exact ⟨0, by omega, rfl⟩
  · exact ⟨1, by omega, rfl⟩
  · exact ⟨2, by omega, rfl⟩
  · exact ⟨3, by omega, rfl⟩
theorem al_of {x y : TokP} (h : Al x y) : al (toT x) (toT y) :=
  ⟨by show (x.kind : Int) = y.kind; rw [h.1], by show bstr x.s = bstr y.s; rw [h.2.1], rfl, h.2.2.1, h.2.2.2⟩
theorem alB_of : ∀ {a b : List TokP}, AlL a b → alB (a.map toT) (b.map toT)
  | [], [], _ => ⟨rfl, fun i hi => by simp at hi⟩
  | x :: a, y :: b, h => by
    obtain ⟨h1, h2⟩ := alB_of h.2
    refine ⟨by rw [List.map_cons, List.map_cons, List.length_cons, List.length_cons, h1], fun i hi => ?_⟩
    cases i with
    | zero => exact al_of h.1
    | succ i => exact h2 i (by rw [List.map_cons, List.length_cons] at hi; omega)
  | [], _ :: _, h => h.elim
  | _ :: _, [], h => h.elim
theorem blanks_len : ∀ j, j < 4 → (blanks j).length ≤ 10
  | 0, _ => by decide
  | 1, _ => by decide
  | 2, _ => by decide
  | 3, _ => by decide
  | _ + 4, h => by omega
theorem index_ok (J : Int) : ∀ (j : Nat), j < 4 → J = (j : Int) → ∀ W, (Instr.index 32 (.agg #[.string ⟨#[32]⟩, .string ⟨#[9]⟩, .string ⟨#[47, 42, 42, 47]⟩, .string ⟨#[11, 12, 32, 47, 42, 32, 39, 32, 42, 47]⟩]) (.int .i64 J)).run Tryd.prog W = .ok (.string (bstr (blanks j))) W
  | 0, _, h, W => by rw [h]; first | rfl | (go_simp; done) | (go_simp; rfl)
  | 1, _, h, W => by rw [h]; first | rfl | (go_simp; done) | (go_simp; rfl)
  | 2, _, h, W => by rw [h]; first | rfl | (go_simp; done) | (go_simp; rfl)
  | 3, _, h, W => by rw [h]; first | rfl | (go_simp; done) | (go_simp; rfl)
  | _ + 4, hj, _, _ => by omega
/-- The law's call. -/
theorem blanks_true (s : ByteArray) (kd : Int) (w : World) (hT : Tab w) :
    Calls Tryd.prog 4 #[.string s, .int .i64 kd] w fun e w' => e = .returned (.bool true) ∧ Below w.heap.size w w' := by
  by_cases hs : s.size ≤ 1000
  · obtain ⟨⟨a, e0, n0⟩, hq⟩ : ∃ q, lexP [(1, s.data.toList)] = q := ⟨_, rfl⟩
    by_cases he : e0 = 0
    · subst he
      obtain ⟨j, hj, hJ⟩ := idx_ok kd
      have hsz := Lib.size_eq s
      obtain ⟨t1, t2, b, m, hb, hab⟩ := blanks_law s.data.toList (by omega) a n0 hq (blanks j) (blk_all j) (blanks_len j hj)
      exact blanks_calls s kd w hs hT a b n0 m hq (blanks j) (blanks_len j hj) (index_ok _ j hj hJ) t1 t2 hb (alB_of hab)
    · exact blanks_err s kd w hs hT a e0 n0 hq he
  · exact blanks_long s kd w hs hT
end Go.Proofs.YtinfkbdhnbefmaaDoor.PB
