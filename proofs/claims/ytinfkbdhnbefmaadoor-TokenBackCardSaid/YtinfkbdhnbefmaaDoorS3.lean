import Derived.Test.YtinfkbdhnbefmaaDoorS1
import Derived.Test.YtinfkbdhnbefmaaDoorS2
import Derived.Lib.OthersKept
import Derived.RangeFuncCalls
import Derived.RangeFuncWrites
import Derived.RangeFuncBound
import Derived.Lib.Hide
namespace Go.Proofs.YtinfkbdhnbefmaaDoor.Sp
open Go.RowKit Go.Shelf Go.Lib Go.Proofs.YtinfkbdhnbefmaaDoor.PB
set_option linter.unusedVariables false
set_option linter.unusedSimpArgs false
attribute [local go_sem] Oper.semAt_some
def sepOf (first : Bool) (x : S34) : List UInt8 := if first then [] else if x.f5 then [10] else if x.f4 then [32] else []
/-- Tokens' text. -/
def spellN : List (Nat × S34) → List UInt8
  | [] => []
  | x :: r => sepOf (x.1 == 0) x.2 ++ x.2.f1.data.toList ++ spellN r
theorem spellN_snoc (x : Nat × S34) : ∀ l : List (Nat × S34), spellN (l ++ [x]) = spellN l ++ (sepOf (x.1 == 0) x.2 ++ x.2.f1.data.toList)
  | [] => by simp [spellN]
  | y :: l => by rw [List.cons_append, spellN, spellN_snoc x l, spellN]; simp
theorem sepOf_len (b : Bool) (x : S34) : (sepOf b x).length ≤ 1 := by
  unfold sepOf
  cases b <;> cases x.f5 <;> cases x.f4 <;> simp
theorem spellN_len (M : Nat) : ∀ l : List (Nat × S34), (∀ x ∈ l, x.2.f1.size ≤ M) → (spellN l).length ≤ l.length * (M + 1)
  | [], _ => Nat.zero_le _
  | x :: r, h => by
    have h1 := h x (by simp)
    have h2 := spellN_len M r (fun y hy => h y (by simp [hy]))
    have h3 := sepOf_len (x.1 == 0) x.2
    rw [spellN, List.length_append, List.length_append, ← Lib.size_eq, List.length_cons, Nat.succ_mul]
    omega
theorem isBF_grown {T e : TypeId} {B b : Nat} {bs : List Value} {w w' : World} {row : Option Nat} (h : Lib.IsBuilderF T e B b bs w) (hg : w.grownBy w' row) (hr : ∀ r, row = some r → ∃ o, w.heap[r]? = some o ∧ o.isCells = false) : Lib.IsBuilderF T e B b bs w' := by
  have key : ∀ p, Lib.BuilderAtF T e B b p bs w → Lib.BuilderAtF T e B b p bs w' := by
    rintro p ⟨hB, v, hb, hown, hne⟩
    have far : ∀ k c t fz, w.heap[k]? = some (Obj.cells c t fz) → w'.heap[k]? = some (Obj.cells c t fz) := fun k c t fz hk => (hg.block k (Array.getElem?_eq_some_iff.1 hk).1 (fun e' => by obtain ⟨o, ho, hc⟩ := hr k e'.symm; rw [hk] at ho; cases ho; cases hc)).trans hk
    refine ⟨hB, v, far _ _ _ _ hb, ⟨hown.1, ?_⟩, hne⟩
    rcases hown.2 with hn | ⟨g, cap, cur, fz, hv, hbg, hgg, rest⟩
    · exact .inl hn
    · exact .inr ⟨g, cap, cur, fz, hv, hbg, far _ _ _ _ hgg, rest⟩
  exact h.imp (key _) (key _)
theorem isBF_lt {T e : TypeId} {B b : Nat} {bs : List Value} {w : World} (h : Lib.IsBuilderF T e B b bs w) : b < w.heap.size := by
  rcases h with ⟨_, v, hb, _⟩ | ⟨_, v, hb, _⟩ <;> exact (Array.getElem?_eq_some_iff.1 hb).1
theorem kf_of {n0 B : Nat} {W W' : World} (h : Lib.OthersKept 5 (some n0) W W') (hs : W.heap.size ≤ W'.heap.size) (hB : n0 < B) : KeepsFrom B W W' :=
  ⟨hs, fun k o hk ho hc => h k o ho (by intro e; cases e; omega) (fun c fz e => by subst e; cases hc)⟩
theorem byteCells_snoc (l : List UInt8) (c : UInt8) : Lib.byteCells l ++ [.int .u8 (c.toNat : Int)] = Lib.byteCells (l ++ [c]) := by simp [Lib.byteCells]
theorem byteCells_str (l : List UInt8) (s : ByteArray) : Lib.byteCells l ++ Lib.strCells s = Lib.byteCells (l ++ s.data.toList) := by simp [Lib.byteCells, Lib.strCells]
theorem byteCells_len (l : List UInt8) : (Lib.byteCells l).length = l.length := by simp [Lib.byteCells]
def tokCells (x : S34) : Array Value := #[.int .i64 x.f0, .string x.f1, .string x.f2, .int .i64 x.f3, .bool x.f4, .bool x.f5]
set_option maxRecDepth 100000 in
set_option maxHeartbeats 4000000 in
theorem spell_calls (M : Nat) (A : Option Addr) (c : Nat) (zs : List S34) (w : World) (hz : zs.length ≤ 4611686018427387904) (hM : ∀ x ∈ zs, x.f1.size ≤ M) (hfull : (zs.length + 1) * (M + 1) ≤ 70368744177664) (hI : Toks w.heap.size w (.slice A zs.length c) zs) :
    Calls Tryd.prog 18 #[.slice A zs.length c] w fun e w' => e = .returned (.string ⟨(spellN (itemsOf zs)).toArray⟩) ∧ Below w.heap.size w w' := by
  refine (callsIn_wide (n := 5)).1 ?_
  refine callsIn_of_wp_marks Tryd.func18 rfl trivial ?_ rfl
  simp only [Tryd.ntmps18, List.size_toArray, List.length_cons, List.length_nil, Nat.reduceAdd, Nat.reduceSub, Array.replicate_succ, Array.replicate_zero, List.push_toArray, List.append_toArray, List.nil_append, List.cons_append]
  gi_wp2_with (refine ⟨trivial, ?_⟩; gi_at_call 23; refine (all_in Fence.wide _ trivial rfl _ _ _ _).mono ?_; rintro e w' ⟨rfl, rfl⟩)
  have bN := Boxed.new (w.alloc (.cells #[.pointer none, .slice none 0 0] 58)) 25 (.slice A zs.length c)
  simp only [World.size_alloc] at bN
  have hBd : Lib.IsBuilderF 58 5 w.heap.size w.heap.size (Lib.byteCells []) ((w.alloc (.cells #[.pointer none, .slice none 0 0] 58)).alloc (.cells #[.slice A zs.length c] 25)) := (Lib.IsBuilderF.of (Lib.fresh_isBuilder 58 5 w)).alloc _
  have hB0 : Below w.heap.size w ((w.alloc (.cells #[.pointer none, .slice none 0 0] 58)).alloc (.cells #[.slice A zs.length c] 25)) := ((Below.refl _ w).alloc (Nat.le_refl _) _).alloc (by simp) _
  have hs1 : ((w.alloc (.cells #[.pointer none, .slice none 0 0] 58)).alloc (.cells #[.slice A zs.length c] 25)).heap.size = w.heap.size + 1 + 1 := by simp
  obtain ⟨w1, hw1⟩ : ∃ w1, (w.alloc (.cells #[.pointer none, .slice none 0 0] 58)).alloc (.cells #[.slice A zs.length c] 25) = w1 := ⟨_, rfl⟩
  rw [hw1] at bN hBd hB0 hs1 ⊢
  clear hw1
  obtain ⟨n0, hn0⟩ : ∃ n0, w.heap.size = n0 := ⟨_, rfl⟩
  rw [hn0] at bN hBd hB0 hs1 hI ⊢
  have hI1 := hI.below hB0
  clear hI
  have HN0 := Lib.hid hn0
  refine wpIn_rangeFunc_ownH (F := Fence.wide) (n := 5) rfl (by decide) (gf := 35) (lb := #[.pointer (some ⟨n0 + 1, 0, none⟩)]) rfl trivial (enters_of Tryd.func35 (by kernel_rfl) rfl)
    (all_stops M Fence.wide (5 - 1) trivial rfl (by decide) (n0 + 1) n0 _ zs hM hz w1 (by omega) (by omega) bN.cell hI1) (fun h k => h.trans k)
    (fun W l o o' hl ho hc hw => (Below.refl n0 W).grown (grownBy_putObj' W l o') (by have := (Array.getElem?_eq_some_iff.1 ho).1; omega) (fun k e => by cases e; omega)) (Below.refl _ _) (fun _ => rfl)
    (fun pre W => Lib.IsBuilderF 58 5 n0 n0 (Lib.byteCells (spellN (pre.map Tk.val))) W ∧ Below n0 w W)
    (fun _ _ _ => False)
    (fun s W W' row hs hg hr => ⟨isBF_grown hs.1 hg (fun r e => (hr r e).2), hs.2.grown hg (by have := hs.2.size; omega) (fun k e => by have := (hr k e).1; omega)⟩)
    (fun _ _ _ _ _ hs _ _ => hs)
    ⟨hBd, hB0⟩
    (fun x a' W => ∃ B, n0 < B ∧ W.heap[B]? = some (.cells (tokCells x.val.2) 34 (0, 0)) ∧ a' = { tmps := #[.slice A zs.length c, undef, .string ⟨#[]⟩, .pointer (some ⟨n0, 0, none⟩), .int .i64 (x.val.1 : Int), .pointer (some ⟨B, 0, none⟩), .slice A zs.length c, .func (.func 35) #[] #[.pointer (some ⟨n0 + 1, 0, none⟩)], .int .i64 (x.val.1 : Int), .agg (tokCells x.val.2), undef, undef, undef, undef, undef, undef, undef, undef, undef, undef, undef, undef, undef, undef, undef], defers := [] })
    (fun x a' s W W' row hs hg hr => by
      obtain ⟨B, h1, h2, h3⟩ := hs
      exact ⟨B, h1, (hg.block B (Array.getElem?_eq_some_iff.1 h2).1 (fun e' => by obtain ⟨o, ho, hc⟩ := (hr B e'.symm).2; rw [h2] at ho; cases ho; cases hc)).trans h2, h3⟩)
    ?assign ?body ?done (fun D c pre W _ _ h _ => h.elim)
  case assign =>
    rintro l pre ⟨⟨i, f0, f1, f2, f3, f4, f5⟩, hx⟩ W K ⟨hi1, hi2⟩ hK
    simp only [encT]
    have hbn : Below W.heap.size W (W.alloc (.cells #[.int .i64 f0, .string f1, .string f2, .int .i64 f3, .bool f4, .bool f5] 34)) := (Below.refl _ _).alloc (Nat.le_refl _) _
    have hnW : n0 ≤ W.heap.size := by have := hi2.size; omega
    have HK := Lib.hid hK
    clear hK
    have hnb : n0 < W.heap.size := isBF_lt hi1
    gi_wp2
    exact HK.out _ _ ((KeepsOthers.alloc W _).from _) (hbn.mono hnW) ⟨hi1.alloc _, hi2.trans (hbn.mono hnW)⟩ ⟨W.heap.size, hnb, World.alloc_heap_new _ _, rfl⟩
  case body =>
    rintro l pre ⟨⟨i, f0, f1, f2, f3, f4, f5⟩, hx⟩ a' W hl hr ⟨hi1, hi2⟩ ⟨B, hB1, hB2, rfl⟩ hlen
    clear hr
    simp only [tokCells] at hB2 ⊢
    obtain ⟨d0, d1, d2, d3, d4, d5⟩ := Go.Proofs.YtinfkbdhnbefmaaDoorT.cell_six hB2
    have hsn : spellN ((pre ++ [(⟨⟨i, f0, f1, f2, f3, f4, f5⟩, hx⟩ : Tk M)]).map Tk.val) = spellN (pre.map Tk.val) ++ (sepOf (i == 0) ⟨f0, f1, f2, f3, f4, f5⟩ ++ f1.data.toList) := by
      rw [List.map_append]; exact spellN_snoc _ _
    have hln := spellN_len M (pre.map Tk.val) (fun x hx => by obtain ⟨y, _, rfl⟩ := List.mem_map.1 hx; exact y.le)
    rw [List.length_map] at hln
    have hx' : f1.size ≤ M := hx
    have hmul : pre.length * (M + 1) + (M + 1) ≤ (zs.length + 1) * (M + 1) := by
      rw [← Nat.succ_mul]; exact Nat.mul_le_mul_right _ (by omega)
    obtain ⟨bs, hbs⟩ : ∃ bs, spellN (pre.map Tk.val) = bs := ⟨_, rfl⟩
    rw [hbs] at hi1 hsn hln
    have hsz : bs.length + 1 + f1.size ≤ 140737488355328 := by omega
    have HI : Aside (∀ W', Lib.IsBuilderF 58 5 n0 n0 (Lib.byteCells (bs ++ (sepOf (i == 0) ⟨f0, f1, f2, f3, f4, f5⟩ ++ f1.data.toList))) W' → Below n0 W W' → Lib.OthersKept 5 (some n0) W W' →
        (KeepsFrom w1.heap.size W W' ∧ Below n0 W W' ∧ Lib.IsBuilderF 58 5 n0 n0 (Lib.byteCells (spellN ((pre ++ [(⟨⟨i, f0, f1, f2, f3, f4, f5⟩, hx⟩ : Tk M)]).map Tk.val))) W' ∧ Below n0 w W')) := by
      refine Lib.hid fun W' h1 h2 h3 => ⟨kf_of h3 h2.size (by omega), h2, ?_, hi2.trans h2⟩
      rw [hsn]; exact h1
    have hnW : n0 ≤ W.heap.size := by have := isBF_lt hi1; omega
    have HWB : Aside (∀ (cc : UInt8) (W' : World), Lib.IsBuilderF 58 5 n0 n0 (Lib.byteCells bs) W' → n0 ≤ W'.heap.size → CallsIn (Fence.wide.inRound l) (5 - 1 - 1 - 1) Tryd.prog 24 #[.pointer (some ⟨n0, 0, none⟩), .int .u8 (cc.toNat : Int)] W' fun e w' => e = .returned .nilIface ∧ Lib.IsBuilderF 58 5 n0 n0 (Lib.byteCells (bs ++ [cc])) w' ∧ Below n0 W' w' ∧ Lib.OthersKept 5 (some n0) W' w') := by
      refine Lib.hid fun cc W' h1 h2 => CallsIn.inRound l (callsIn_wide.2 ((Tryd.Builder_WriteByte_k n0 n0 _ _ W' h1 (by rw [byteCells_len]; omega) h2).mono ?_))
      rintro e w' ⟨rfl, h3, h4, h5⟩
      rw [byteCells_snoc] at h3
      exact ⟨rfl, .inr h3, h4, h5⟩
    have HWS : Aside (∀ (b2 : List UInt8) (W' : World), Lib.IsBuilderF 58 5 n0 n0 (Lib.byteCells b2) W' → b2.length ≤ bs.length + 1 → n0 ≤ W'.heap.size → CallsIn (Fence.wide.inRound l) (5 - 1 - 1 - 1) Tryd.prog 25 #[.pointer (some ⟨n0, 0, none⟩), .string f1] W' fun e w' => (∃ m, e = .returned (.tuple #[.int .i64 m, .nilIface])) ∧ Lib.IsBuilderF 58 5 n0 n0 (Lib.byteCells (b2 ++ f1.data.toList)) w' ∧ Below n0 W' w' ∧ Lib.OthersKept 5 (some n0) W' w') := by
      refine Lib.hid fun b2 W' h1 h0 h2 => CallsIn.inRound l (callsIn_wide.2 ((Tryd.Builder_WriteString_k n0 n0 _ _ W' h1 (by rw [byteCells_len]; omega) h2).mono ?_))
      rintro e w' ⟨rfl, h3, h4, h5⟩
      rw [byteCells_str] at h3
      exact ⟨⟨_, rfl⟩, .inr h3, h4, h5⟩
    have HB := Lib.hid (And.intro hi1 (And.intro hB2 hB1))
    clear hi1 hi2 hB2 hB1 hln hmul hx' hsn hbs hI1 hB0 hBd bN hl hlen
    by_cases hi0 : i = 0
    · subst hi0
      have hi0 : ((0 : Nat) : Int) = 0 := rfl
      gi_wp2_with (refine ⟨trivial, ?_⟩; gi_at_call 25; refine (HWS.out bs _ HB.out.1 (by omega) hnW).mono ?_; rintro e W2 ⟨⟨m, rfl⟩, hI2, hb2, ho2⟩)
      exact HI.out _ hI2 hb2 ho2
    · have hi1 : ((i : Nat) : Int) ≠ 0 := by omega
      have hib : (i == 0) = false := by simpa using hi0
      have hib2 : ((i : Int) == 0) = false := by simpa using hi0
      rw [hib] at HI
      cases f5 with
      | true =>
        gi_wp2_with (first | (refine ⟨trivial, ?_⟩; gi_at_call 24; refine (HWB.out 10 _ HB.out.1 hnW).mono ?_; rintro e W2 ⟨rfl, hI2, hb2, ho2⟩; have hk2 := ho2 B _ HB.out.2.1 (by intro e; cases e; exact Nat.lt_irrefl _ HB.out.2.2) (by intro c fz e; cases e); obtain ⟨d0, d1, d2, d3, d4, d5⟩ := Go.Proofs.YtinfkbdhnbefmaaDoorT.cell_six hk2; have hn2 : n0 ≤ W2.heap.size := Nat.le_trans hnW hb2.size) | (refine ⟨trivial, ?_⟩; gi_at_call 25; refine (HWS.out (bs ++ [10]) _ hI2 (by simp) hn2).mono ?_; rintro e W3 ⟨⟨m, rfl⟩, hI3, hb3, ho3⟩))
        exact HI.out _ (by rw [← List.append_assoc]; exact hI3) (hb2.trans hb3) (ho2.trans ho3)
      | false =>
        cases f4 with
        | true =>
          gi_wp2_with (first | (refine ⟨trivial, ?_⟩; gi_at_call 24; refine (HWB.out 32 _ HB.out.1 hnW).mono ?_; rintro e W2 ⟨rfl, hI2, hb2, ho2⟩; have hk2 := ho2 B _ HB.out.2.1 (by intro e; cases e; exact Nat.lt_irrefl _ HB.out.2.2) (by intro c fz e; cases e); obtain ⟨d0, d1, d2, d3, d4, d5⟩ := Go.Proofs.YtinfkbdhnbefmaaDoorT.cell_six hk2; have hn2 : n0 ≤ W2.heap.size := Nat.le_trans hnW hb2.size) | (refine ⟨trivial, ?_⟩; gi_at_call 25; refine (HWS.out (bs ++ [32]) _ hI2 (by simp) hn2).mono ?_; rintro e W3 ⟨⟨m, rfl⟩, hI3, hb3, ho3⟩))
          exact HI.out _ (by rw [← List.append_assoc]; exact hI3) (hb2.trans hb3) (ho2.trans ho3)
        | false =>
          gi_wp2_with (refine ⟨trivial, ?_⟩; gi_at_call 25; refine (HWS.out bs _ HB.out.1 (by omega) hnW).mono ?_; rintro e W2 ⟨⟨m, rfl⟩, hI2, hb2, ho2⟩)
          exact HI.out _ hI2 hb2 ho2
  case done =>
    rintro D xs W hD rfl ⟨hi1, hi2⟩ hK
    rw [upto_items hM] at hi1
    have hnW : n0 ≤ W.heap.size := by have := isBF_lt hi1; omega
    have HS : ∀ W', Lib.IsBuilderF 58 5 n0 n0 (Lib.byteCells (spellN (itemsOf zs))) W' → n0 ≤ W'.heap.size → CallsIn Fence.wide (5 - 1) Tryd.prog 26 #[.pointer (some ⟨n0, 0, none⟩)] W' fun e w' => e = .returned (.string ⟨(spellN (itemsOf zs)).toArray⟩) ∧ Below n0 W' w' ∧ Lib.OthersKept 5 (some n0) W' w' := fun W' h1 h2 => callsIn_wide.2 ((Tryd.Builder_String_any_k n0 n0 _ W' h1 h2).mono fun e w' ⟨h3, _, h4, h5⟩ => ⟨h3, h4, h5⟩)
    have HH := Lib.hid (And.intro HS (And.intro hi1 (And.intro hi2 hK)))
    clear HS hi1 hi2 hK hI1 hB0 hBd bN
    gi_wp2_with (refine ⟨trivial, ?_⟩; gi_at_call 26; refine (HH.out.1 _ HH.out.2.1 hnW).mono ?_; rintro e W2 ⟨rfl, hb2, ho2⟩)
    show bodyPostM _ _ _ _ _ Exit.ret _ _
    have hK2 := ho2 D _ HH.out.2.2.2 (by intro e; cases e; omega) (by intro c fz e; cases e)
    refine ⟨by simp, .inl ⟨_, _, rfl, run_takeDeferred hK2, ?_⟩⟩
    refine ⟨_, results_tmp rfl _ _ _, rfl, ?_⟩
    rw [HN0.out]
    exact (HH.out.2.2.1.trans hb2).grown (grownBy_putObj' W2 D _) (by have := HH.out.2.2.1.size; have := hb2.size; omega) (fun k e => by cases e; omega)
end Go.Proofs.YtinfkbdhnbefmaaDoor.Sp
