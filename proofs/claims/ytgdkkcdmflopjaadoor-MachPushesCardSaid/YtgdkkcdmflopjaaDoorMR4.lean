import Derived.Test.YtgdkkcdmflopjaaDoorMR3
import Derived.Test.YtgdkkcdmflopjaaDoorMK2
namespace Go.Proofs.YtgdkkcdmflopjaaDoor.Mc
open Go.RowKit Go.Proofs.YtgdkkcdmflopjaaDoor.PA Go.Proofs.YtgdkkcdmflopjaaDoor.Pure Go.Proofs.MapFun Go.Proofs.YtgdkkcdmflopjaaDoorW.PrintWords Go.Proofs.YtgdkkcdmflopjaaDoorW.PrintLast Go.Proofs.YtgdkkcdmflopjaaDoorW.PrintMore
set_option linter.unusedVariables false
theorem mach_Run.calls (A0 : Option Addr) (c0 : Nat) (l0 : List S35) (A1 : Option Addr) (c1 : Nat) (l1 : List S40) (a2 : ByteArray) (A3 : Option Addr) (c3 : Nat) (l3 : List Int) (A4 : Option Addr) (c4 : Nat) (l4 : List Int) (a5 a6 : Int) (r1 r2 : Int) (r3 : List S69) (w : World)
    (hr0 : Kd.C k35 w A0 l0.length l0) (hc0 : l0.length ≤ c0) (hr1 : Kd.C k40 w A1 l1.length l1) (hc1 : l1.length ≤ c1) (hr3 : Kd.C (Kd.int .i64) w A3 l3.length l3) (hc3 : l3.length ≤ c3) (hr4 : Kd.C (Kd.int .i64) w A4 l4.length l4) (hc4 : l4.length ≤ c4)
    (h : mach_Run.f l0 l1 a2 l3 l4 a5 a6 = some (r1, r2, r3)) (hT : Tab w) :
    Calls Tryd.prog 9 #[.slice A0 l0.length c0, .slice A1 l1.length c1, .string a2, .slice A3 l3.length c3, .slice A4 l4.length c4, .int .i64 a5, .int .i64 a6] w fun e w' => ∃ v2_ : Value, e = .returned (.agg #[.int .i64 r1, .int .i64 r2, v2_]) ∧ Kd.N k69 69 w' w.heap.size (fun k_ => (w.heap.size ≤ k_)) v2_ r3 ∧ Below w.heap.size w w' := by
  obtain ⟨p, hp, rfl, rfl, rfl⟩ := mach_Run.back h
  obtain rfl := hp.noscr
  obtain ⟨c, rfl⟩ : ∃ c, l1 = [c] := by
    match l1, hp.one with
    | [c], _ => exact ⟨c, rfl⟩
  rcases hp.few with h0 | h2
  · obtain rfl : l3 = [] := List.length_eq_zero_iff.1 h0
    exact run0_calls A0 c0 l0 A1 c1 c a2 A3 c3 A4 c4 a5 a6 p w hr0 hc0 hr1 hc1 hr3 hc3 hr4 hT hp
  · obtain ⟨a, b, rfl⟩ : ∃ a b, l3 = [a, b] := by
      match l3, h2 with
      | [a, b], _ => exact ⟨a, b, rfl⟩
    exact run2_calls A0 c0 l0 A1 c1 c a2 A3 c3 a b A4 c4 a5 a6 p w hr0 hc0 hr1 hc1 hr3 hc3 hr4 hT hp
end Go.Proofs.YtgdkkcdmflopjaaDoor.Mc
namespace Go.Proofs.YtgdkkcdmflopjaaDoor.Mc
open Go.RowKit Go.Proofs.YtgdkkcdmflopjaaDoor.PA Go.Proofs.YtgdkkcdmflopjaaDoor.Pure Go.Proofs.MapFun Go.Proofs.YtgdkkcdmflopjaaDoorW.PrintWords Go.Proofs.YtgdkkcdmflopjaaDoorW.PrintLast Go.Proofs.YtgdkkcdmflopjaaDoorW.PrintMore
set_option linter.unusedVariables false
theorem flat_at (n : Nat) : ∀ (css : List (List Value)), (∀ c ∈ css, c.length = n) → ∀ (j i : Nat) (c : List Value), css[j]? = some c → i < n → css.flatten[j * n + i]? = c[i]?
  | [], _, j, i, c, h, _ => by simp at h
  | c0 :: css, hl, 0, i, c, h, hi => by
    simp only [List.getElem?_cons_zero, Option.some.injEq] at h
    subst h
    have := hl c0 (List.mem_cons_self ..)
    rw [List.flatten_cons, Nat.zero_mul, Nat.zero_add, List.getElem?_append_left (by omega)]
  | c0 :: css, hl, j + 1, i, c, h, hi => by
    rw [List.getElem?_cons_succ] at h
    have h0 := hl c0 (List.mem_cons_self ..)
    have ih := flat_at n css (fun c hc => hl c (List.mem_cons_of_mem _ hc)) j i c h hi
    rw [List.flatten_cons, List.getElem?_append_right (by rw [h0, Nat.add_mul]; omega), h0]
    rw [show (j + 1) * n + i - n = j * n + i by rw [Nat.add_mul]; omega]
    exact ih
theorem lit_C {α : Type} (d : Kd α) (W : World) (t : TypeId) (xs : List α) (css : List (List Value)) (hlen : css.length = xs.length) (hsz : ∀ c ∈ css, c.length = d.sz) (hmax : xs.length ≤ maxLen) (cs : Array Value) (hcs : cs = css.flatten.toArray)
    (hK : ∀ (j : Nat) (x : α) (c : List Value), xs[j]? = some x → css[j]? = some c → d.K (W.alloc (.cells cs t)) x c) : Kd.C d (W.alloc (.cells cs t)) (some ⟨W.heap.size, 0, none⟩) xs.length xs := by
  refine ⟨rfl, hmax, fun _ => ⟨_, rfl, fun j p hj => ?_⟩⟩
  have hj' : j < css.length := by rw [hlen]; exact (List.getElem?_eq_some_iff.1 hj).1
  refine ⟨css[j], hsz _ (List.getElem_mem _), hK j p _ hj (List.getElem?_eq_getElem hj'), fun i u hu => ?_⟩
  have hi : i < d.sz := by have := (List.getElem?_eq_some_iff.1 hu).1; rw [hsz _ (List.getElem_mem _)] at this; exact this
  have := flat_at d.sz css hsz j i _ (List.getElem?_eq_getElem hj') hi
  have hb := alloc_at W cs t
  have hc : cs[j * d.sz + i]? = some u := by rw [hcs, List.getElem?_toArray, this]; exact hu
  have e : (⟨W.heap.size, 0, none⟩ : Addr).add (j * d.sz + i) = ⟨W.heap.size, j * d.sz + i, none⟩ := by
    generalize j * d.sz + i = n
    unfold Addr.add
    by_cases h : n = 0
    · simp [h]
    · simp [h]
  rw [e]
  exact cell_at hb (j * d.sz + i) hc
end Go.Proofs.YtgdkkcdmflopjaaDoor.Mc
namespace Go.Proofs.YtgdkkcdmflopjaaDoor.Mc
open Go.RowKit Go.Proofs.YtgdkkcdmflopjaaDoor.PA Go.Proofs.YtgdkkcdmflopjaaDoor.Pure Go.Proofs.MapFun Go.Proofs.YtgdkkcdmflopjaaDoorW.PrintWords Go.Proofs.YtgdkkcdmflopjaaDoorW.PrintLast Go.Proofs.YtgdkkcdmflopjaaDoorW.PrintMore
set_option linter.unusedVariables false
set_option linter.unusedSimpArgs false
theorem longs2_c (w : World) : Calls Tryd.prog 13 #[.string ⟨#[102]⟩, .int .i64 2] w fun e w' => ∃ A2 c2 A5 c5, e = .returned (.agg #[.string ⟨#[102]⟩, .int .i64 7, .slice A2 2 c2, .bool false, .int .i64 0, .slice A5 0 c5]) ∧ Kd.K k40 w' hd2 [.string ⟨#[102]⟩, .int .i64 7, .slice A2 2 c2, .bool false, .int .i64 0, .slice A5 0 c5] ∧ Below w.heap.size w w' := by
  refine (burinlaw19_longs.calls 5 ⟨#[102]⟩ 2 ⟨#[102]⟩ 7 [7, 7] false 0 [] w (by kernel_rfl)).mono ?_
  rintro e w' ⟨v2, v5, rfl, h2, h5, hb⟩
  obtain ⟨A2, c2, rfl, l2, g2⟩ := Kd.R_reads h2
  obtain ⟨A5, c5, rfl, l5, g5⟩ := Kd.R_reads (Kd.S_R h5)
  exact ⟨A2, c2, A5, c5, rfl, k40_mk w' hd2 l2 g2 l5 g5, hb⟩
theorem label_c (w : World) : Calls Tryd.prog 12 #[.string ⟨#[102]⟩] w fun e w' => e = .returned (.agg #[.int .i64 15, .int .i64 0, .int .i64 0, .int .i64 0, .int .i64 0, .bool false, .int .i64 0, .string ⟨#[102]⟩]) ∧ Below w.heap.size w w' :=
  burinlaw19_label.calls ⟨#[102]⟩ 15 0 0 0 0 false 0 ⟨#[102]⟩ w rfl
def c35l (x : S35) : List Value := [.int .i64 x.f0, .int .i64 x.f1, .int .i64 x.f2, .int .i64 x.f3, .int .i64 x.f4, .bool x.f5, .int .i64 x.f6, .string x.f7]
theorem lit35 (W : World) (xs : List S35) (hmax : xs.length ≤ maxLen) (cs : Array Value) (hcs : cs = (xs.map c35l).flatten.toArray) : Kd.C k35 (W.alloc (.cells cs 35)) (some ⟨W.heap.size, 0, none⟩) xs.length xs := by
  refine lit_C k35 W 35 xs (xs.map c35l) (by simp) (fun c hc => ?_) hmax cs hcs (fun j x c hx hc => ?_)
  · obtain ⟨x, _, rfl⟩ := List.mem_map.1 hc; rfl
  · rw [List.getElem?_map, hx] at hc
    obtain rfl := Option.some.inj hc
    exact k35_mk _ x
theorem lit40 (W : World) (c : S40) (cs : List Value) (hsz : cs.length = 6) (hK : Kd.K k40 (W.alloc (.cells cs.toArray 40)) c cs) : Kd.C k40 (W.alloc (.cells cs.toArray 40)) (some ⟨W.heap.size, 0, none⟩) 1 [c] := by
  refine lit_C k40 W 40 [c] [cs] rfl (fun c hc => ?_) (by simp [maxLen]) _ (by simp) (fun j x c' hx hc => ?_)
  · obtain rfl := List.mem_singleton.1 hc; exact hsz
  · match j, hx, hc with
    | 0, hx, hc =>
      obtain rfl := Option.some.inj hx
      obtain rfl := Option.some.inj hc
      exact hK
theorem regB_all {l : List S35} (h : l.all (fun x => decide (0 ≤ x.f1 ∧ x.f1 < 16 ∧ 0 ≤ x.f2 ∧ x.f2 < 16 ∧ -9223372036854775808 ≤ x.f3 ∧ x.f3 ≤ 9223372036854775807 ∧ x.f0 ≠ 13 ∧ x.f0 ≠ 14 ∧ x.f0 ≠ 16 ∧ x.f7.size ≤ 140737488351232)) = true) : ∀ x ∈ l, plainB x ∧ x.f7.size ≤ 140737488351232 := by
  intro x hx
  have := List.all_eq_true.1 h x hx
  simp only [decide_eq_true_eq] at this
  obtain ⟨h1, h2, h3, h4, h5, h6, h7, h8, h9, h10⟩ := this
  exact ⟨⟨⟨h1, h2, h3, h4⟩, ⟨h5, h6⟩, h7, h8, h9⟩, h10⟩
theorem in_two (a b : Int) (ha : In64 a) (hb : In64 b) : ∀ k, In64 (([a, b] : List Int).getD k 0)
  | 0 => ha
  | 1 => hb
  | k + 2 => by simpa using in0
instance (x : S35) : Decidable (kindU x) := by unfold kindU; infer_instance
theorem s4ok : RunOk l4 [hd2] ⟨#[102]⟩ [2, 3] [] 10 64 0 where
  right := t1
  plain := regB_all (by decide +kernel)
  kindsU := by decide +kernel
  len := by decide
  names := by intro c hc; obtain rfl := List.mem_singleton.1 hc; decide
  one := rfl
  find := t3
  lab := t2
  nsize := by decide
  few := .inr rfl
  kinds := rfl
  ain := in_two 2 3 (by unfold In64; omega) (by unfold In64; omega)
  ret := rfl
  noscr := rfl
  steps0 := by decide
  steps1 := by decide
  stack0 := by decide
  stack1 := by decide
  stack16 := by decide
  beg := t7
  kept := fun _ => ⟨t9, t8⟩
theorem s4eq : mach_Run.f l4 [hd2] ⟨#[102]⟩ [2, 3] [] 10 64 = some (0, 5, (endP l4 [2, 3] 10 64 0).ev) := by
  rw [mach_Run.eq s4ok]
  have h4 : (endP l4 [2, 3] 10 64 ((0 : Nat) : Int)).e = 0 := t4
  have h5 : (endP l4 [2, 3] 10 64 ((0 : Nat) : Int)).reg 0 = 5 := t5
  rw [h4, if_pos rfl, h5]
  have h6 : toP 5 7 = 5 := by decide +kernel
  rw [h6]
  rfl
theorem s3ok : RunOk l3 [hd2] ⟨#[102]⟩ [2, 3] [] 10 64 0 where
  right := by decide +kernel
  plain := regB_all (by decide +kernel)
  kindsU := by decide +kernel
  len := by decide
  names := by intro c hc; obtain rfl := List.mem_singleton.1 hc; decide
  one := rfl
  find := t3
  lab := by decide +kernel
  nsize := by decide
  few := .inr rfl
  kinds := rfl
  ain := in_two 2 3 (by unfold In64; omega) (by unfold In64; omega)
  ret := rfl
  noscr := rfl
  steps0 := by decide
  steps1 := by decide
  stack0 := by decide
  stack1 := by decide
  stack16 := by decide
  beg := t7
  kept := fun h => by rw [show (endP l3 [2, 3] 10 64 ((0 : Nat) : Int)).e = 193 from t6] at h; cases h
theorem s3eq : mach_Run.f l3 [hd2] ⟨#[102]⟩ [2, 3] [] 10 64 = some (193, 0, (endP l3 [2, 3] 10 64 0).ev) := by
  rw [mach_Run.eq s3ok]
  have h4 : (endP l3 [2, 3] 10 64 ((0 : Nat) : Int)).e = 193 := t6
  rw [h4, if_neg (by decide)]
  rfl
theorem C_take {α : Type} {d : Kd α} {w : World} {A : Option Addr} {n : Nat} {xs : List α} (h : Kd.C d w A n xs) (m : Nat) (hm : m ≤ n) : Kd.C d w A m (xs.take m) := by
  obtain ⟨h1, h2, h3⟩ := h
  refine ⟨by rw [List.length_take]; omega, Nat.le_trans hm h2, fun h0 => ?_⟩
  obtain ⟨ad, e, hc⟩ := h3 (by omega)
  refine ⟨ad, e, fun j p hj => hc j p ?_⟩
  rw [List.getElem?_take] at hj
  split at hj
  · exact hj
  · cases hj
theorem lit40n {W : World} {n : Nat} (hn : n = W.heap.size) (c : S40) (cs : List Value) (hsz : cs.length = 6) (hK : Kd.K k40 (W.alloc (.cells cs.toArray 40)) c cs) : Kd.C k40 (W.alloc (.cells cs.toArray 40)) (some ⟨n, 0, none⟩) 1 [c] := by
  subst hn
  exact lit40 W c cs hsz hK
theorem fz_new {W : World} {cs : Array Value} {t : TypeId} {i n : Nat} (hn : n = W.heap.size) : (W.alloc (.cells cs t)).frozen? ⟨n, i, none⟩ = false := by
  subst hn
  exact fz_at (alloc_at W cs t) i
theorem fz_allocN {w : World} {n i : Nat} (hlt : n < w.heap.size) (h : w.frozen? ⟨n, i, none⟩ = false) (o : Obj) : (w.alloc o).frozen? ⟨n, i, none⟩ = false :=
  (((Below.refl w.heap.size w).alloc (Nat.le_refl _) o).frozen (p := ⟨n, i, none⟩) hlt).trans h
theorem C_none {α : Type} (d : Kd α) (w : World) : Kd.C d w none 0 [] := ⟨rfl, by decide, fun h => absurd h (by decide)⟩
theorem run_c (l : List S35) (args : List Int) (Al : Option Addr) (cl : Nat) (nm : ByteArray) (a5 a6 r1 r2 : Int) (r3 : List S69) (Ah : Option Addr) (As : Option Addr) (w : World) (hl : Kd.C k35 w Al l.length l) (hcl : l.length ≤ cl) (hh : Kd.C k40 w Ah 1 [hd2]) (ha : Kd.C (Kd.int .i64) w As args.length args)
    (h : mach_Run.f l [hd2] nm args [] a5 a6 = some (r1, r2, r3)) (hT : Tab w) :
    Calls Tryd.prog 9 #[.slice Al l.length cl, .slice Ah 1 1, .string nm, .slice As args.length args.length, .slice none 0 0, .int .i64 a5, .int .i64 a6] w fun e w' => ∃ Av cv nv, e = .returned (.agg #[.int .i64 r1, .int .i64 r2, .slice Av nv cv]) ∧ Below w.heap.size w w' := by
  refine (mach_Run.calls Al cl l Ah 1 [hd2] nm As args.length args none 0 [] a5 a6 r1 r2 r3 w hl hcl hh (Nat.le_refl _) ha (Nat.le_refl _) (C_none _ _) (Nat.le_refl _) h hT).mono ?_
  rintro e w' ⟨v, rfl, hN, hb⟩
  obtain ⟨Av, cv, rfl, _, _⟩ := Kd.N_reads hN
  exact ⟨Av, cv, _, rfl, hb⟩
end Go.Proofs.YtgdkkcdmflopjaaDoor.Mc
namespace Go.Proofs.YtgdkkcdmflopjaaDoor.Mc
open Go.RowKit Go.Proofs.YtgdkkcdmflopjaaDoor.PA Go.Proofs.YtgdkkcdmflopjaaDoor.Pure Go.Proofs.MapFun Go.Proofs.YtgdkkcdmflopjaaDoorW.PrintWords Go.Proofs.YtgdkkcdmflopjaaDoorW.PrintLast Go.Proofs.YtgdkkcdmflopjaaDoorW.PrintMore
set_option linter.unusedVariables false
set_option linter.unusedSimpArgs false
def plainQ (x : S35) : Bool := decide (0 ≤ x.f1 ∧ x.f1 < 16 ∧ 0 ≤ x.f2 ∧ x.f2 < 16 ∧ -9223372036854775808 ≤ x.f3 ∧ x.f3 ≤ 9223372036854775807 ∧ x.f0 ≠ 13 ∧ x.f0 ≠ 14 ∧ x.f0 ≠ 16 ∧ x.f7.size ≤ 140737488351232)
theorem toP7 {v : Int} (h : In64 v) : toP v 7 = v := by
  unfold In64 at h
  show conv 7 v = v
  show (v + 9223372036854775808) % 18446744073709551616 - 9223372036854775808 = v
  omega
end Go.Proofs.YtgdkkcdmflopjaaDoor.Mc
namespace Go.Proofs.YtgdkkcdmflopjaaDoor.Mc
open Go.RowKit Go.Proofs.YtgdkkcdmflopjaaDoor.PA Go.Proofs.YtgdkkcdmflopjaaDoor.Pure Go.Proofs.MapFun Go.Proofs.YtgdkkcdmflopjaaDoorW.PrintWords Go.Proofs.YtgdkkcdmflopjaaDoorW.PrintLast Go.Proofs.YtgdkkcdmflopjaaDoorW.PrintMore
set_option linter.unusedVariables false
set_option linter.unusedSimpArgs false
def hd0 : S40 := ⟨⟨#[102]⟩, 7, [], false, 0, []⟩
def tlL (l : List Int) : List S35 := iMov 2 4 :: (pushesL l ++ (iImm 0 0 :: (popsL l.length ++ [iRet])))
theorem codeL_eq (l : List Int) : codeL l = iLab :: tlL l := rfl
theorem mem_pushes {x : S35} : ∀ {l : List Int}, x ∈ pushesL l → (∃ v ∈ l, x = iImm 1 v) ∨ x = iPush 1
  | [], h => by cases h
  | v :: l, h => by
    rw [pushesL, List.mem_cons, List.mem_cons] at h
    rcases h with rfl | rfl | h
    · exact .inl ⟨v, List.mem_cons_self .., rfl⟩
    · exact .inr rfl
    · rcases mem_pushes h with ⟨u, hu, e⟩ | e
      · exact .inl ⟨u, List.mem_cons_of_mem _ hu, e⟩
      · exact .inr e
theorem mem_pops {x : S35} : ∀ {n : Nat}, x ∈ popsL n → x = iPop 1 ∨ x = iTwo 0 0 1 ∨ x = iTwo 0 1 2
  | 0, h => by cases h
  | n + 1, h => by
    rw [popsL, List.mem_cons, List.mem_cons, List.mem_cons] at h
    rcases h with e | e | e | h
    · exact .inl e
    · exact .inr (.inl e)
    · exact .inr (.inr e)
    · exact mem_pops h
theorem mem_tl {l : List Int} {x : S35} (h : x ∈ tlL l) : x = iMov 2 4 ∨ (∃ v ∈ l, x = iImm 1 v) ∨ x = iPush 1 ∨ x = iImm 0 0 ∨ x = iPop 1 ∨ x = iTwo 0 0 1 ∨ x = iTwo 0 1 2 ∨ x = iRet := by
  unfold tlL at h
  rw [List.mem_cons, List.mem_append, List.mem_cons, List.mem_append, List.mem_singleton] at h
  rcases h with e | h | e | h | e
  · exact .inl e
  · rcases mem_pushes h with h | e
    · exact .inr (.inl h)
    · exact .inr (.inr (.inl e))
  · exact .inr (.inr (.inr (.inl e)))
  · rcases mem_pops h with e | e | e
    · exact .inr (.inr (.inr (.inr (.inl e))))
    · exact .inr (.inr (.inr (.inr (.inr (.inl e)))))
    · exact .inr (.inr (.inr (.inr (.inr (.inr (.inl e))))))
  · exact .inr (.inr (.inr (.inr (.inr (.inr (.inr e))))))
theorem form_imm (v : Int) : formP (iImm 1 v) = true := by
  simp [formP, wantP, iImm, eq35, noReg, e0]
def goodX (x : S35) : Prop := formP x = true ∧ (x.f0 == 15) = false ∧ plainQ x = true ∧ kindU x ∧ x.f0 ≠ 16 ∧ x.f0 ≠ 13 ∧ x.f0 ≠ 14
theorem tl_good {l : List Int} (hv : ∀ v ∈ l, In64 v) {x : S35} (h : x ∈ tlL l) : goodX x := by
  rcases mem_tl h with rfl | ⟨v, hm, rfl⟩ | rfl | rfl | rfl | rfl | rfl | rfl
  · unfold goodX; decide +kernel
  · refine ⟨form_imm v, rfl, ?_, .inl rfl, (show (1 : Int) ≠ 16 by decide), (show (1 : Int) ≠ 13 by decide), (show (1 : Int) ≠ 14 by decide)⟩
    have := hv v hm
    unfold In64 at this
    unfold plainQ
    rw [decide_eq_true_eq]
    exact ⟨(show (0 : Int) ≤ 1 by decide), (show (1 : Int) < 16 by decide), (show (0 : Int) ≤ 0 by decide), (show (0 : Int) < 16 by decide), this.1, this.2, (show (1 : Int) ≠ 13 by decide), (show (1 : Int) ≠ 14 by decide), (show (1 : Int) ≠ 16 by decide), (show (0 : Nat) ≤ 140737488351232 by decide)⟩
  all_goals (unfold goodX; decide +kernel)
theorem lab_good : formP iLab = true ∧ plainQ iLab = true ∧ kindU iLab := by decide +kernel
theorem code_len (l : List Int) : (codeL l).length = 5 * l.length + 4 := by
  simp [codeL, pushes_len, pops_len]; omega
theorem code_at (l : List Int) (j : Nat) (hj : j + 1 < (codeL l).length) : (codeL l).getD (j + 1) z35 ∈ tlL l := by
  rw [codeL_eq] at hj ⊢
  rw [List.length_cons] at hj
  rw [List.getD_cons_succ, getD_get _ _ (by omega)]
  exact List.getElem_mem _
theorem code_right (l : List Int) (hv : ∀ v ∈ l, In64 v) (hl : l.length ≤ 60) : rightP (codeL l) [hd0] = true := by
  have hlen := code_len l
  unfold rightP
  rw [Bool.and_eq_true, Bool.and_eq_true, Bool.and_eq_true]
  refine ⟨⟨⟨?_, decide_eq_true (by omega)⟩, by decide +kernel⟩, ?_⟩
  · unfold labelsP
    rw [List.all_eq_true]
    intro j hj
    rw [List.mem_range] at hj
    unfold labOk
    cases j with
    | zero => exact Bool.and_eq_true_iff.2 ⟨lab_good.1, rfl⟩
    | succ j =>
      obtain ⟨h1, h2, _⟩ := tl_good hv (code_at l j hj)
      rw [h1, h2]; rfl
  · rw [List.all_eq_true]
    intro j hj
    rw [List.mem_range] at hj
    unfold callOk
    cases j with
    | zero => rfl
    | succ j =>
      obtain ⟨_, _, _, _, h3, h4, h5⟩ := tl_good hv (code_at l j hj)
      rw [if_neg h3, if_neg (by intro h; rcases h with h | h; exact h4 h; exact h5 h)]
theorem code_ok (l : List Int) (hv : ∀ v ∈ l, In64 v) (hl : l.length ≤ 60) (stack : Int) (g0 : 16 ≤ stack) (g1 : stack ≤ 65536) (g2 : stack % 16 = 0) (hbeg : (beginsP (st0 stack ((0 : Nat) : Int)) [] stack).e = 0)
    (hkept : (endP (codeL l) [] 1000 stack ((0 : Nat) : Int)).e = 0 → keptOk (endP (codeL l) [] 1000 stack ((0 : Nat) : Int)) ∧ (endP (codeL l) [] 1000 stack ((0 : Nat) : Int)).reg 4 = wrap64 ((beginsP (st0 stack ((0 : Nat) : Int)) [] stack).reg 4 + 8)) :
    RunOk (codeL l) [hd0] ⟨#[102]⟩ [] [] 1000 stack 0 where
  right := code_right l hv hl
  plain := regB_all (List.all_eq_true.2 fun x hx => by
    rw [codeL_eq, List.mem_cons] at hx
    rcases hx with rfl | hx
    · exact lab_good.2.1
    · exact (tl_good hv hx).2.2.1)
  kindsU := fun x hx => by
    rw [codeL_eq, List.mem_cons] at hx
    rcases hx with rfl | hx
    · exact lab_good.2.2
    · exact (tl_good hv hx).2.2.2.1
  len := by rw [code_len]; omega
  names := by intro c hc; obtain rfl := List.mem_singleton.1 hc; decide
  one := rfl
  find := by decide +kernel
  lab := by
    unfold labAt
    rw [List.take_length, codeL_eq, List.findIdx?_cons]
    rfl
  nsize := by decide
  few := .inl rfl
  kinds := rfl
  ain := fun k => by simpa using in0
  ret := rfl
  noscr := rfl
  steps0 := by decide
  steps1 := by decide
  stack0 := g0
  stack1 := g1
  stack16 := g2
  beg := hbeg
  kept := hkept
theorem pi64 : PI 64 [] 0 (beginsP (st0 512 ((0 : Nat) : Int)) [] 512) :=
  ⟨by decide +kernel, by decide +kernel, by decide +kernel, by decide +kernel, by decide +kernel, by decide +kernel, by decide +kernel, fun i h => absurd h (by simp)⟩
theorem pi2 : PI 2 [] 0 (beginsP (st0 16 ((0 : Nat) : Int)) [] 16) :=
  ⟨by decide +kernel, by decide +kernel, by decide +kernel, by decide +kernel, by decide +kernel, by decide +kernel, by decide +kernel, fun i h => absurd h (by simp)⟩
theorem code_good (l : List Int) (hv : ∀ v ∈ l, In64 v) (hl : l.length ≤ 60) (W : Nat) (hW : W ≤ 8192) (hk : l.length + 1 ≤ W) (stack : Int) (hst : stack = 8 * (W : Int)) (hp : PI W [] 0 (beginsP (st0 stack ((0 : Nat) : Int)) [] stack)) (g0 : 16 ≤ stack) (g1 : stack ≤ 65536) (g2 : stack % 16 = 0) :
    ∃ ev, mach_Run.f (codeL l) [hd0] ⟨#[102]⟩ [] [] 1000 stack = some (0, wantF 0 l.reverse, ev) := by
  obtain ⟨r1, r2, r3, r4⟩ := code_run W hW l _ hp hv hk (1000 - (5 * l.length + 4))
  rw [show 1000 - (5 * l.length + 4) + 5 * l.length + 4 = 1000 by omega] at r1 r2 r3 r4
  have hR := code_ok l hv hl stack g0 g1 g2 hp.e (fun _ => ⟨r3, by
    refine Eq.trans r4 ?_
    rw [hp.r4, w64_id (by simp; omega)]; simp; omega⟩)
  refine ⟨(endP (codeL l) [] 1000 stack ((0 : Nat) : Int)).ev, ?_⟩
  rw [mach_Run.eq hR]
  have e1 : (endP (codeL l) [] 1000 stack ((0 : Nat) : Int)).e = 0 := r1
  have e2 : (endP (codeL l) [] 1000 stack ((0 : Nat) : Int)).reg 0 = wantF 0 l.reverse := r2
  rw [e1, if_pos rfl, e2, toP7 (wantF_in _ in0)]
theorem code_err (a b : Int) (t : List Int) (s : St) (h : PI 2 [] 0 s) (n : Nat) : (goesP (codeL (a :: b :: t)) (n + 6) s).e = 191 := by
  have h1 := h.step s.fl
  have e1 : goesP (codeL (a :: b :: t)) (n + 6) s = goesP (codeL (a :: b :: t)) (n + 5) { s with pc := s.pc + 1, fl := s.fl } :=
    goes_step (P := []) (x := iLab) rfl h.pc (stp_lab _ _) h1.e
  generalize ({ s with pc := s.pc + 1, fl := s.fl } : St) = s1 at h1 e1
  have h2 := (h1.step s1.fl).setR 2 (s1.reg 4) (by omega)
  have e2 : goesP (codeL (a :: b :: t)) (n + 5) s1 = goesP (codeL (a :: b :: t)) (n + 4) (St.setR { s1 with pc := s1.pc + 1, fl := s1.fl } 2 (s1.reg 4)) :=
    goes_step (P := [iLab]) (x := iMov 2 4) rfl h1.pc (stp_mov _ _ _ _) h2.e
  generalize St.setR { s1 with pc := s1.pc + 1, fl := s1.fl } 2 (s1.reg 4) = s2 at h2 e2
  obtain ⟨s3, e3, h3⟩ := push_phase 2 (by omega) (n + 2) (codeL (a :: b :: t)) (iImm 1 b :: iPush 1 :: (pushesL t ++ (iImm 0 0 :: (popsL (a :: b :: t).length ++ [iRet])))) [a] [] [iLab, iMov 2 4] s2 rfl h2 (by simp)
  have h4 := (h3.step s3.fl).setR 1 b (by omega)
  have e4 : goesP (codeL (a :: b :: t)) (n + 2) s3 = goesP (codeL (a :: b :: t)) (n + 1) (St.setR { s3 with pc := s3.pc + 1, fl := s3.fl } 1 b) :=
    goes_step (P := [iLab, iMov 2 4, iImm 1 a, iPush 1]) (x := iImm 1 b) rfl h3.pc (stp_imm _ _ _ _) h4.e
  generalize St.setR { s3 with pc := s3.pc + 1, fl := s3.fl } 1 b = s4 at h4 e4
  have hr : wrap64 (St.reg { s4 with pc := s4.pc + 1, fl := none } 4 - 8) = -8 := by
    show wrap64 (s4.reg 4 - 8) = -8
    rw [h4.r4]; simp; decide +kernel
  have hp : St.push { s4 with pc := s4.pc + 1, fl := none } (s4.reg 1) = { St.setR { s4 with pc := s4.pc + 1, fl := none } 4 (-8) with e := 191 } := by
    unfold St.push St.store
    rw [hr, if_neg (by simp [wordOk])]
  have e5 : goesP (codeL (a :: b :: t)) (n + 1) s4 = { St.setR { s4 with pc := s4.pc + 1, fl := none } 4 (-8) with e := 191 } := by
    refine goes_err (P := [iLab, iMov 2 4, iImm 1 a, iPush 1, iImm 1 b]) (x := iPush 1) (S := pushesL t ++ (iImm 0 0 :: (popsL (a :: b :: t).length ++ [iRet]))) rfl (by rw [h4.pc]; simp) ?_ (by show (191 : Int) ≠ 0; decide)
    rw [stp_push]
    show (false, St.push _ (s4.reg 1)) = _
    rw [hp]
  rw [e1, e2]
  have e3' : goesP (codeL (a :: b :: t)) (n + 4) s2 = goesP (codeL (a :: b :: t)) (n + 2) s3 := e3
  rw [e3', e4, e5]
theorem code_bad (a b : Int) (t : List Int) (hv : ∀ v ∈ a :: b :: t, In64 v) (hl : (a :: b :: t).length ≤ 60) :
    ∃ ev, mach_Run.f (codeL (a :: b :: t)) [hd0] ⟨#[102]⟩ [] [] 1000 16 = some (191, 0, ev) := by
  have e1 : (endP (codeL (a :: b :: t)) [] 1000 16 ((0 : Nat) : Int)).e = 191 := code_err a b t _ pi2 994
  have hR := code_ok (a :: b :: t) hv hl 16 (by decide) (by decide) (by decide) pi2.e (fun h => by rw [e1] at h; cases h)
  refine ⟨(endP (codeL (a :: b :: t)) [] 1000 16 ((0 : Nat) : Int)).ev, ?_⟩
  rw [mach_Run.eq hR, e1, if_neg (by decide)]
end Go.Proofs.YtgdkkcdmflopjaaDoor.Mc
