import Derived.Test.YtgdkkcdmflopjaaDoorMR3
import Derived.Test.YtgdkkcdmflopjaaDoorMK2
namespace Go.Proofs.YtgdkkcdmflopjaaDoor.Mc
open Go.RowKit Go.Proofs.YtgdkkcdmflopjaaDoor.PA Go.Proofs.YtgdkkcdmflopjaaDoor.Pure Go.Proofs.MapFun Go.Proofs.YtgdkkcdmflopjaaDoorW.PrintWords Go.Proofs.YtgdkkcdmflopjaaDoorW.PrintLast Go.Proofs.YtgdkkcdmflopjaaDoorW.PrintMore
set_option linter.unusedVariables false
set_option linter.unusedSimpArgs false
set_option maxRecDepth 100000 in
set_option maxHeartbeats 8000000 in
theorem bad_calls (A0 : Option Addr) (c0 : Nat) (l0 : List S35) (A1 : Option Addr) (c1 : Nat) (l1 : List S40) (a2 : ByteArray) (v3 v4 : Value) (a5 a6 : Int) (w : World)
    (hr0 : Kd.C k35 w A0 l0.length l0) (hc0 : l0.length ≤ c0) (hr1 : Kd.C k40 w A1 l1.length l1) (hc1 : l1.length ≤ c1) (hT : Tab w) (h : BadOk l0 l1) :
    Calls Tryd.prog 9 #[.slice A0 l0.length c0, .slice A1 l1.length c1, .string a2, v3, v4, .int .i64 a5, .int .i64 a6] w fun e w' =>
      ∃ v2_ : Value, e = .returned (.agg #[.int .i64 190, .int .i64 0, v2_]) ∧ Kd.N k69 69 w' w.heap.size (fun k_ => (w.heap.size ≤ k_)) v2_ [] ∧ Below w.heap.size w w' := by
  have ba : Below w.heap.size w (w.alloc (.cells #[.int .i64 0, .int .i64 0, .slice none 0 0] 29)) := (Below.refl _ _).alloc (Nat.le_refl _) _
  have HR := Lib.hid ((right_calls A0 c0 l0 A1 c1 l1 _ (Kd.C_below hr0 ba) hc0 h.small (by have := h.len; omega) (Kd.C_below hr1 ba) hc1 h.names (hT.below ba) h.kindsU).mono (fun e w' (hp : RightPost l0 l1 _ e w') => (show e = .returned (.tuple #[.map none, .bool false]) ∧ Below (w.alloc (.cells #[.int .i64 0, .int .i64 0, .slice none 0 0] 29)).heap.size (w.alloc (.cells #[.int .i64 0, .int .i64 0, .slice none 0 0] 29)) w' from by
    obtain ⟨hb, ⟨hy, _, _⟩ | ⟨_, he⟩⟩ := hp
    · rw [h.right] at hy; cases hy
    · exact ⟨he, hb⟩)))
  have BA := Lib.hid ba
  clear ba hr0 hr1 hT h hc0 hc1
  go_enter Tryd.func9, Tryd.ntmps9
  go_wp2_with (go_at_call 19; refine HR.out.mono ?_; rintro e w1 ⟨rfl, hb⟩; have x0 := (hb.cell (p := ⟨w.heap.size, 0, none⟩) (World.block_lt_of_cell? _ _ (cell_new (i := 0) rfl rfl))).trans (cell_new (i := 0) rfl rfl); have x1 := (hb.cell (p := ⟨w.heap.size, 1, none⟩) (World.block_lt_of_cell? _ _ (cell_new (i := 1) rfl rfl))).trans (cell_new (i := 1) rfl rfl); have x2 := (hb.cell (p := ⟨w.heap.size, 2, none⟩) (World.block_lt_of_cell? _ _ (cell_new (i := 2) rfl rfl))).trans (cell_new (i := 2) rfl rfl); have hbl := (hb.block w.heap.size (Array.getElem?_eq_some_iff.1 (alloc_at w #[.int .i64 0, .int .i64 0, .slice none 0 0] 29)).1).trans (alloc_at w #[.int .i64 0, .int .i64 0, .slice none 0 0] 29); have f0 := fz_at hbl 0; have f1 := fz_at hbl 1; have f2 := fz_at hbl 2; have HBL := Lib.hid hbl; have HB := Lib.hid (BA.out.trans (hb.mono BA.out.size)); clear hb hbl)
  have hf : (((w1.setCell ⟨w.heap.size, 0, none⟩ (.int .i64 190)).setCell ⟨w.heap.size, 1, none⟩ (.int .i64 0)).setCell ⟨w.heap.size, 2, none⟩ (.slice none 0 0)).heap[w.heap.size]? = some (.cells #[.int .i64 190, .int .i64 0, .slice none 0 0] 29 (0, 0)) := by
    rw [heap_same (heap_same (heap_same HBL.out))]; rfl
  refine bodyPost_ret (results_cell_row rfl _ _ w.heap.size 29 #[.int .i64 190, .int .i64 0, .slice none 0 0] (0, 0) _ rfl hf Tryd.underlying29 rfl (by kernel_rfl)) rfl ?_
  exact ⟨_, rfl, Kd.N_nil _ _ _ _ _, ((HB.out.setCell (p := ⟨w.heap.size, 0, none⟩) (Nat.le_refl _) _).setCell (p := ⟨w.heap.size, 1, none⟩) (Nat.le_refl _) _).setCell (p := ⟨w.heap.size, 2, none⟩) (Nat.le_refl _) _⟩
end Go.Proofs.YtgdkkcdmflopjaaDoor.Mc
namespace Go.Proofs.YtgdkkcdmflopjaaDoor.Mc
open Go.RowKit Go.Proofs.YtgdkkcdmflopjaaDoor.PA Go.Proofs.YtgdkkcdmflopjaaDoor.Pure Go.Proofs.MapFun Go.Proofs.YtgdkkcdmflopjaaDoorW.PrintWords Go.Proofs.YtgdkkcdmflopjaaDoorW.PrintLast Go.Proofs.YtgdkkcdmflopjaaDoorW.PrintMore
set_option linter.unusedVariables false
theorem mach_Run.calls (A0 : Option Addr) (c0 : Nat) (l0 : List S35) (A1 : Option Addr) (c1 : Nat) (l1 : List S40) (a2 : ByteArray) (A3 : Option Addr) (c3 : Nat) (l3 : List Int) (A4 : Option Addr) (c4 : Nat) (l4 : List Int) (a5 a6 : Int) (r1 r2 : Int) (r3 : List S69) (w : World)
    (hr0 : Kd.C k35 w A0 l0.length l0) (hc0 : l0.length ≤ c0) (hr1 : Kd.C k40 w A1 l1.length l1) (hc1 : l1.length ≤ c1) (hr3 : Kd.C (Kd.int .i64) w A3 l3.length l3) (hc3 : l3.length ≤ c3) (hr4 : Kd.C (Kd.int .i64) w A4 l4.length l4) (hc4 : l4.length ≤ c4)
    (h : mach_Run.f l0 l1 a2 l3 l4 a5 a6 = some (r1, r2, r3)) (hT : Tab w) :
    Calls Tryd.prog 9 #[.slice A0 l0.length c0, .slice A1 l1.length c1, .string a2, .slice A3 l3.length c3, .slice A4 l4.length c4, .int .i64 a5, .int .i64 a6] w fun e w' => ∃ v2_ : Value, e = .returned (.agg #[.int .i64 r1, .int .i64 r2, v2_]) ∧ Kd.N k69 69 w' w.heap.size (fun k_ => (w.heap.size ≤ k_)) v2_ r3 ∧ Below w.heap.size w w' := by
  rcases mach_Run.back h with ⟨p, hp, rfl, rfl, rfl⟩ | ⟨hbd, rfl, rfl, rfl⟩
  rotate_left
  · exact bad_calls A0 c0 l0 A1 c1 l1 a2 _ _ a5 a6 w hr0 hc0 hr1 hc1 hT hbd
  obtain rfl := hp.noscr
  obtain ⟨c, rfl⟩ : ∃ c, l1 = [c] := by
    match l1, hp.one with
    | [c], _ => exact ⟨c, rfl⟩
  rcases hp.few with h0 | h2
  · obtain rfl : l3 = [] := List.length_eq_zero_iff.1 h0
    exact run0_calls A0 c0 l0 A1 c1 c a2 A3 c3 A4 c4 a5 a6 p w hr0 hc0 hr1 hc1 hr3 hc3 hr4 hT hp
  · obtain ⟨a, b, rfl⟩ : ∃ a b, l3 = [a, b] := by
      match l3, h2 with
      | [a, b], _ => exact ⟨a, b, rfl⟩
    exact run2_calls A0 c0 l0 A1 c1 c a2 A3 c3 a b A4 c4 a5 a6 p w hr0 hc0 hr1 hc1 hr3 hc3 hr4 hT hp
end Go.Proofs.YtgdkkcdmflopjaaDoor.Mc
namespace Go.Proofs.YtgdkkcdmflopjaaDoor.Mc
open Go.RowKit Go.Proofs.YtgdkkcdmflopjaaDoor.PA Go.Proofs.YtgdkkcdmflopjaaDoor.Pure Go.Proofs.MapFun Go.Proofs.YtgdkkcdmflopjaaDoorW.PrintWords Go.Proofs.YtgdkkcdmflopjaaDoorW.PrintLast Go.Proofs.YtgdkkcdmflopjaaDoorW.PrintMore
set_option linter.unusedVariables false
theorem flat_at (n : Nat) : ∀ (css : List (List Value)), (∀ c ∈ css, c.length = n) → ∀ (j i : Nat) (c : List Value), css[j]? = some c → i < n → css.flatten[j * n + i]? = c[i]?
  | [], _, j, i, c, h, _ => by simp at h
  | c0 :: css, hl, 0, i, c, h, hi => by
    simp only [List.getElem?_cons_zero, Option.some.injEq] at h
    subst h
    have := hl c0 (List.mem_cons_self ..)
    rw [List.flatten_cons, Nat.zero_mul, Nat.zero_add, List.getElem?_append_left (by omega)]
  | c0 :: css, hl, j + 1, i, c, h, hi => by
    rw [List.getElem?_cons_succ] at h
    have h0 := hl c0 (List.mem_cons_self ..)
    have ih := flat_at n css (fun c hc => hl c (List.mem_cons_of_mem _ hc)) j i c h hi
    rw [List.flatten_cons, List.getElem?_append_right (by rw [h0, Nat.add_mul]; omega), h0]
    rw [show (j + 1) * n + i - n = j * n + i by rw [Nat.add_mul]; omega]
    exact ih
theorem lit_C {α : Type} (d : Kd α) (W : World) (t : TypeId) (xs : List α) (css : List (List Value)) (hlen : css.length = xs.length) (hsz : ∀ c ∈ css, c.length = d.sz) (hmax : xs.length ≤ maxLen) (cs : Array Value) (hcs : cs = css.flatten.toArray)
    (hK : ∀ (j : Nat) (x : α) (c : List Value), xs[j]? = some x → css[j]? = some c → d.K (W.alloc (.cells cs t)) x c) : Kd.C d (W.alloc (.cells cs t)) (some ⟨W.heap.size, 0, none⟩) xs.length xs := by
  refine ⟨rfl, hmax, fun _ => ⟨_, rfl, fun j p hj => ?_⟩⟩
  have hj' : j < css.length := by rw [hlen]; exact (List.getElem?_eq_some_iff.1 hj).1
  refine ⟨css[j], hsz _ (List.getElem_mem _), hK j p _ hj (List.getElem?_eq_getElem hj'), fun i u hu => ?_⟩
  have hi : i < d.sz := by have := (List.getElem?_eq_some_iff.1 hu).1; rw [hsz _ (List.getElem_mem _)] at this; exact this
  have := flat_at d.sz css hsz j i _ (List.getElem?_eq_getElem hj') hi
  have hb := alloc_at W cs t
  have hc : cs[j * d.sz + i]? = some u := by rw [hcs, List.getElem?_toArray, this]; exact hu
  have e : (⟨W.heap.size, 0, none⟩ : Addr).add (j * d.sz + i) = ⟨W.heap.size, j * d.sz + i, none⟩ := by
    generalize j * d.sz + i = n
    unfold Addr.add
    by_cases h : n = 0
    · simp [h]
    · simp [h]
  rw [e]
  exact cell_at hb (j * d.sz + i) hc
end Go.Proofs.YtgdkkcdmflopjaaDoor.Mc
namespace Go.Proofs.YtgdkkcdmflopjaaDoor.Mc
open Go.RowKit Go.Proofs.YtgdkkcdmflopjaaDoor.PA Go.Proofs.YtgdkkcdmflopjaaDoor.Pure Go.Proofs.MapFun Go.Proofs.YtgdkkcdmflopjaaDoorW.PrintWords Go.Proofs.YtgdkkcdmflopjaaDoorW.PrintLast Go.Proofs.YtgdkkcdmflopjaaDoorW.PrintMore
set_option linter.unusedVariables false
def nmF : ByteArray := ⟨#[102]⟩
def iLab : S35 := ⟨15, 0, 0, 0, 0, false, 0, ⟨#[102]⟩⟩
def iRet : S35 := ⟨17, 0, 0, 0, 0, false, 0, ⟨#[]⟩⟩
def iMov (d s : Int) : S35 := ⟨2, d, s, 0, 0, false, 0, ⟨#[]⟩⟩
def iTwo (d s op : Int) : S35 := ⟨5, d, s, 0, 0, false, op, ⟨#[]⟩⟩
def hd2 : S40 := ⟨⟨#[102]⟩, 7, [7, 7], false, 0, []⟩
def l4 : List S35 := [iLab, iMov 0 7, iTwo 0 6 1, iRet]
def l3 : List S35 := [iLab, iMov 0 7, iTwo 0 6 1]
theorem t1 : rightP l4 [hd2] = true := by decide +kernel
theorem t2 : labAt l4 l4.length nmF.data.toList = some 0 := by decide +kernel
theorem t3 : findP [hd2] nmF = 0 := by decide +kernel
theorem t4 : (endP l4 [2, 3] 10 64 0).e = 0 := by decide +kernel
theorem t5 : (endP l4 [2, 3] 10 64 0).reg 0 = 5 := by decide +kernel
theorem t6 : (endP l3 [2, 3] 10 64 0).e = 193 := by decide +kernel
theorem t7 : (beginsP (st0 64 0) [2, 3] 64).e = 0 := by decide +kernel
theorem t8 : (endP l4 [2, 3] 10 64 0).reg 4 = wrap64 ((beginsP (st0 64 0) [2, 3] 64).reg 4 + 8) := by decide +kernel
instance (s : St) : Decidable (keptOk s) := by unfold keptOk; infer_instance
theorem t9 : keptOk (endP l4 [2, 3] 10 64 0) := by decide +kernel
end Go.Proofs.YtgdkkcdmflopjaaDoor.Mc
namespace Go.Proofs.YtgdkkcdmflopjaaDoor.Mc
open Go.RowKit Go.Proofs.YtgdkkcdmflopjaaDoor.PA Go.Proofs.YtgdkkcdmflopjaaDoor.Pure Go.Proofs.MapFun Go.Proofs.YtgdkkcdmflopjaaDoorW.PrintWords Go.Proofs.YtgdkkcdmflopjaaDoorW.PrintLast Go.Proofs.YtgdkkcdmflopjaaDoorW.PrintMore
set_option linter.unusedVariables false
set_option linter.unusedSimpArgs false
theorem longs2_c (w : World) : Calls Tryd.prog 13 #[.string ⟨#[102]⟩, .int .i64 2] w fun e w' => ∃ A2 c2 A5 c5, e = .returned (.agg #[.string ⟨#[102]⟩, .int .i64 7, .slice A2 2 c2, .bool false, .int .i64 0, .slice A5 0 c5]) ∧ Kd.K k40 w' hd2 [.string ⟨#[102]⟩, .int .i64 7, .slice A2 2 c2, .bool false, .int .i64 0, .slice A5 0 c5] ∧ Below w.heap.size w w' := by
  refine (burinlaw19_longs.calls 5 ⟨#[102]⟩ 2 ⟨#[102]⟩ 7 [7, 7] false 0 [] w (by kernel_rfl)).mono ?_
  rintro e w' ⟨v2, v5, rfl, h2, h5, hb⟩
  obtain ⟨A2, c2, rfl, l2, g2⟩ := Kd.R_reads h2
  obtain ⟨A5, c5, rfl, l5, g5⟩ := Kd.R_reads (Kd.S_R h5)
  exact ⟨A2, c2, A5, c5, rfl, k40_mk w' hd2 l2 g2 l5 g5, hb⟩
theorem label_c (w : World) : Calls Tryd.prog 12 #[.string ⟨#[102]⟩] w fun e w' => e = .returned (.agg #[.int .i64 15, .int .i64 0, .int .i64 0, .int .i64 0, .int .i64 0, .bool false, .int .i64 0, .string ⟨#[102]⟩]) ∧ Below w.heap.size w w' :=
  burinlaw19_label.calls ⟨#[102]⟩ 15 0 0 0 0 false 0 ⟨#[102]⟩ w rfl
def c35l (x : S35) : List Value := [.int .i64 x.f0, .int .i64 x.f1, .int .i64 x.f2, .int .i64 x.f3, .int .i64 x.f4, .bool x.f5, .int .i64 x.f6, .string x.f7]
theorem lit35 (W : World) (xs : List S35) (hmax : xs.length ≤ maxLen) (cs : Array Value) (hcs : cs = (xs.map c35l).flatten.toArray) : Kd.C k35 (W.alloc (.cells cs 35)) (some ⟨W.heap.size, 0, none⟩) xs.length xs := by
  refine lit_C k35 W 35 xs (xs.map c35l) (by simp) (fun c hc => ?_) hmax cs hcs (fun j x c hx hc => ?_)
  · obtain ⟨x, _, rfl⟩ := List.mem_map.1 hc; rfl
  · rw [List.getElem?_map, hx] at hc
    obtain rfl := Option.some.inj hc
    exact k35_mk _ x
theorem lit40 (W : World) (c : S40) (cs : List Value) (hsz : cs.length = 6) (hK : Kd.K k40 (W.alloc (.cells cs.toArray 40)) c cs) : Kd.C k40 (W.alloc (.cells cs.toArray 40)) (some ⟨W.heap.size, 0, none⟩) 1 [c] := by
  refine lit_C k40 W 40 [c] [cs] rfl (fun c hc => ?_) (by simp [maxLen]) _ (by simp) (fun j x c' hx hc => ?_)
  · obtain rfl := List.mem_singleton.1 hc; exact hsz
  · match j, hx, hc with
    | 0, hx, hc =>
      obtain rfl := Option.some.inj hx
      obtain rfl := Option.some.inj hc
      exact hK
theorem regB_all {l : List S35} (h : l.all (fun x => decide (0 ≤ x.f1 ∧ x.f1 < 16 ∧ 0 ≤ x.f2 ∧ x.f2 < 16 ∧ -9223372036854775808 ≤ x.f3 ∧ x.f3 ≤ 9223372036854775807 ∧ x.f0 ≠ 13 ∧ x.f0 ≠ 14 ∧ x.f0 ≠ 16 ∧ x.f7.size ≤ 140737488351232)) = true) : ∀ x ∈ l, plainB x ∧ x.f7.size ≤ 140737488351232 := by
  intro x hx
  have := List.all_eq_true.1 h x hx
  simp only [decide_eq_true_eq] at this
  obtain ⟨h1, h2, h3, h4, h5, h6, h7, h8, h9, h10⟩ := this
  exact ⟨⟨⟨h1, h2, h3, h4⟩, ⟨h5, h6⟩, h7, h8, h9⟩, h10⟩
theorem in_two (a b : Int) (ha : In64 a) (hb : In64 b) : ∀ k, In64 (([a, b] : List Int).getD k 0)
  | 0 => ha
  | 1 => hb
  | k + 2 => by simpa using in0
instance (x : S35) : Decidable (kindU x) := by unfold kindU; infer_instance
theorem s4ok : RunOk l4 [hd2] ⟨#[102]⟩ [2, 3] [] 10 64 0 where
  right := t1
  plain := regB_all (by decide +kernel)
  kindsU := by decide +kernel
  len := by decide
  names := by intro c hc; obtain rfl := List.mem_singleton.1 hc; decide
  one := rfl
  find := t3
  lab := t2
  nsize := by decide
  few := .inr rfl
  kinds := rfl
  ain := in_two 2 3 (by unfold In64; omega) (by unfold In64; omega)
  ret := rfl
  noscr := rfl
  steps0 := by decide
  steps1 := by decide
  stack0 := by decide
  stack1 := by decide
  stack16 := by decide
  beg := t7
  kept := fun _ => ⟨t9, t8⟩
theorem s4eq : mach_Run.f l4 [hd2] ⟨#[102]⟩ [2, 3] [] 10 64 = some (0, 5, (endP l4 [2, 3] 10 64 0).ev) := by
  rw [mach_Run.eq s4ok]
  have h4 : (endP l4 [2, 3] 10 64 ((0 : Nat) : Int)).e = 0 := t4
  have h5 : (endP l4 [2, 3] 10 64 ((0 : Nat) : Int)).reg 0 = 5 := t5
  rw [h4, if_pos rfl, h5]
  have h6 : toP 5 7 = 5 := by decide +kernel
  rw [h6]
  rfl
theorem s3ok : RunOk l3 [hd2] ⟨#[102]⟩ [2, 3] [] 10 64 0 where
  right := by decide +kernel
  plain := regB_all (by decide +kernel)
  kindsU := by decide +kernel
  len := by decide
  names := by intro c hc; obtain rfl := List.mem_singleton.1 hc; decide
  one := rfl
  find := t3
  lab := by decide +kernel
  nsize := by decide
  few := .inr rfl
  kinds := rfl
  ain := in_two 2 3 (by unfold In64; omega) (by unfold In64; omega)
  ret := rfl
  noscr := rfl
  steps0 := by decide
  steps1 := by decide
  stack0 := by decide
  stack1 := by decide
  stack16 := by decide
  beg := t7
  kept := fun h => by rw [show (endP l3 [2, 3] 10 64 ((0 : Nat) : Int)).e = 193 from t6] at h; cases h
theorem s3eq : mach_Run.f l3 [hd2] ⟨#[102]⟩ [2, 3] [] 10 64 = some (193, 0, (endP l3 [2, 3] 10 64 0).ev) := by
  rw [mach_Run.eq s3ok]
  have h4 : (endP l3 [2, 3] 10 64 ((0 : Nat) : Int)).e = 193 := t6
  rw [h4, if_neg (by decide)]
  rfl
theorem C_take {α : Type} {d : Kd α} {w : World} {A : Option Addr} {n : Nat} {xs : List α} (h : Kd.C d w A n xs) (m : Nat) (hm : m ≤ n) : Kd.C d w A m (xs.take m) := by
  obtain ⟨h1, h2, h3⟩ := h
  refine ⟨by rw [List.length_take]; omega, Nat.le_trans hm h2, fun h0 => ?_⟩
  obtain ⟨ad, e, hc⟩ := h3 (by omega)
  refine ⟨ad, e, fun j p hj => hc j p ?_⟩
  rw [List.getElem?_take] at hj
  split at hj
  · exact hj
  · cases hj
theorem lit40n {W : World} {n : Nat} (hn : n = W.heap.size) (c : S40) (cs : List Value) (hsz : cs.length = 6) (hK : Kd.K k40 (W.alloc (.cells cs.toArray 40)) c cs) : Kd.C k40 (W.alloc (.cells cs.toArray 40)) (some ⟨n, 0, none⟩) 1 [c] := by
  subst hn
  exact lit40 W c cs hsz hK
theorem fz_new {W : World} {cs : Array Value} {t : TypeId} {i n : Nat} (hn : n = W.heap.size) : (W.alloc (.cells cs t)).frozen? ⟨n, i, none⟩ = false := by
  subst hn
  exact fz_at (alloc_at W cs t) i
theorem fz_allocN {w : World} {n i : Nat} (hlt : n < w.heap.size) (h : w.frozen? ⟨n, i, none⟩ = false) (o : Obj) : (w.alloc o).frozen? ⟨n, i, none⟩ = false :=
  (((Below.refl w.heap.size w).alloc (Nat.le_refl _) o).frozen (p := ⟨n, i, none⟩) hlt).trans h
theorem C_none {α : Type} (d : Kd α) (w : World) : Kd.C d w none 0 [] := ⟨rfl, by decide, fun h => absurd h (by decide)⟩
theorem run_c (l : List S35) (args : List Int) (Al : Option Addr) (cl : Nat) (nm : ByteArray) (a5 a6 r1 r2 : Int) (r3 : List S69) (Ah : Option Addr) (As : Option Addr) (w : World) (hl : Kd.C k35 w Al l.length l) (hcl : l.length ≤ cl) (hh : Kd.C k40 w Ah 1 [hd2]) (ha : Kd.C (Kd.int .i64) w As args.length args)
    (h : mach_Run.f l [hd2] nm args [] a5 a6 = some (r1, r2, r3)) (hT : Tab w) :
    Calls Tryd.prog 9 #[.slice Al l.length cl, .slice Ah 1 1, .string nm, .slice As args.length args.length, .slice none 0 0, .int .i64 a5, .int .i64 a6] w fun e w' => ∃ Av cv nv, e = .returned (.agg #[.int .i64 r1, .int .i64 r2, .slice Av nv cv]) ∧ Below w.heap.size w w' := by
  refine (mach_Run.calls Al cl l Ah 1 [hd2] nm As args.length args none 0 [] a5 a6 r1 r2 r3 w hl hcl hh (Nat.le_refl _) ha (Nat.le_refl _) (C_none _ _) (Nat.le_refl _) h hT).mono ?_
  rintro e w' ⟨v, rfl, hN, hb⟩
  obtain ⟨Av, cv, rfl, _, _⟩ := Kd.N_reads hN
  exact ⟨Av, cv, _, rfl, hb⟩
end Go.Proofs.YtgdkkcdmflopjaaDoor.Mc
namespace Go.Proofs.YtgdkkcdmflopjaaDoor.Mc
open Go.RowKit Go.Proofs.YtgdkkcdmflopjaaDoor.PA Go.Proofs.YtgdkkcdmflopjaaDoor.Pure Go.Proofs.MapFun Go.Proofs.YtgdkkcdmflopjaaDoorW.PrintWords Go.Proofs.YtgdkkcdmflopjaaDoorW.PrintLast Go.Proofs.YtgdkkcdmflopjaaDoorW.PrintMore
theorem N_own2 {α : Type} {d : Kd α} {e B : Nat} {w1 : World} {v : Value} {xs : List α} (h : Kd.N d e w1 B (fun k => B ≤ k) v xs) : Kd.N d e w1 B (fun k => B ≤ k ∧ B ≤ k ∧ True) v xs := Kd.N_mono h (fun _ hk => ⟨hk, hk, trivial⟩)
end Go.Proofs.YtgdkkcdmflopjaaDoor.Mc
