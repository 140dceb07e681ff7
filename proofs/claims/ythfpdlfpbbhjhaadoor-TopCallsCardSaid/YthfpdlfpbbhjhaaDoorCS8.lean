import Derived.Test.YthfpdlfpbbhjhaaDoorCS1
import Derived.Scope
import Derived.Test.YthfpdlfpbbhjhaaDoorV
import Derived.OwnWalkIn
import Derived.RangeFuncCalls
namespace Go.Proofs.YthfpdlfpbbhjhaaDoor.Mc
open Go.RowKit Go.Proofs.YthfpdlfpbbhjhaaDoor.PA Go.Proofs.YthfpdlfpbbhjhaaDoorW.PrintWords Go.Proofs.YthfpdlfpbbhjhaaDoorW.PrintLast Go.Proofs.YthfpdlfpbbhjhaaDoorW.PrintMore
set_option linter.unusedVariables false
set_option linter.unusedSimpArgs false
attribute [local go_sem] Oper.semAt_some
set_option maxRecDepth 100000 in
set_option maxHeartbeats 4000000 in
theorem eights1 (n : Nat) (hn : 3 ≤ n) (w : World) (b1 b2 H g : Nat) (reg : Int) (hr0 : 0 ≤ reg) (hr8 : reg ≤ 8) (ok : Bool) (hok : decide (1 ≤ 6 - reg) = ok)
    (h1 : w.heap[b1]? = some (.cells #[.pointer (some ⟨H, 0, none⟩)] 68 (0, 0))) (h2 : w.heap[b2]? = some (.cells #[.slice (some ⟨g, 0, none⟩) 1 1] 25 (0, 0))) (hr : w.cell? ⟨H, 1, none⟩ = some (.int .i64 reg)) (hg : w.cell? ⟨g, 0, none⟩ = some (.int .i64 1)) :
    SeqStopsK Fence.wide n Tryd.prog 54 #[.pointer (some ⟨b1, 0, none⟩), .pointer (some ⟨b2, 0, none⟩)] (fun (_ : Unit) => #[.int .i64 0, .bool ok]) (fun _ _ => True) (fun xs => xs = [()]) (fun pre => pre = [()]) 1 w := by
  intro l J Jx W hW hJ hJx hY h0
  show CallsIn Fence.wide n Tryd.prog 54 #[.func (.yield l) #[] #[], .pointer (some ⟨b1, 0, none⟩), .pointer (some ⟨b2, 0, none⟩)] W _
  refine callsIn_of_wp Tryd.func54 rfl trivial ?_ rfl
  simp only [Tryd.ntmps54, List.size_toArray, List.length_cons, List.length_nil, Nat.reduceAdd, Nat.reduceSub, Array.replicate_succ, Array.replicate_zero, List.push_toArray, List.append_toArray, List.nil_append, List.cons_append]
  have q1 := blk_cell ((hW.block b1 (blk_lt h1)).trans h1) 0
  have q2 := blk_cell ((hW.block b2 (blk_lt h2)).trans h2) 0
  have q3 := (hW.cell (World.block_lt_of_cell? w _ hr)).trans hr
  have q4 := (hW.cell (World.block_lt_of_cell? w _ hg)).trans hg
  obtain ⟨fn, tmps, assign, body, hy, hR⟩ := hY [] () _ h0 (by decide)
  have HR := Lib.hid hR
  have HY := Lib.hid hy
  subst hok
  clear hJ hJx hY h0 hW h1 h2 hR hy
  gi_wp2
  gi_loopw [14, 4] (fun i lf wr => (i = .int .i64 0 ∧ lf = .int .i64 (6 - reg) ∧ wr = W) ∨ (i = .int .i64 1 ∧ J [()] wr)) (fun i _ _ => 1 - (intOf i).toNat)
  case atStart => exact .inl ⟨rfl, rfl, rfl⟩
  case round =>
    obtain (⟨rfl, rfl, rfl⟩ | ⟨rfl, hj⟩) := hrel
    · gi_wp2
      rw [HY.out]
      gi_wp2
      refine ⟨fun _ => by omega, HR.out.mono ?_⟩
      rintro e W3 (⟨rfl, hJ3, _⟩ | ⟨rfl, hJ3⟩)
      · have H3 := Lib.hid hJ3
        clear hJ3
        gi_wp2
        go_roundw
        case rel => exact .inr ⟨rfl, H3.out⟩
        case measure => simp [intOf]
      · have H3 := Lib.hid hJ3
        clear hJ3
        gi_wp2
        refine bodyPost_ret (results_none rfl _ _ _) rfl ?_
        exact ⟨⟨_, rfl⟩, .inr ⟨_, rfl, H3.out⟩⟩
    · gi_wp2
      go_end0
      exact ⟨⟨_, rfl⟩, .inl ⟨_, rfl, hj⟩⟩
end Go.Proofs.YthfpdlfpbbhjhaaDoor.Mc
namespace Go.Proofs.YthfpdlfpbbhjhaaDoor.Mc
open Go.RowKit Go.Proofs.YthfpdlfpbbhjhaaDoor.PA Go.Proofs.YthfpdlfpbbhjhaaDoorW.PrintWords Go.Proofs.YthfpdlfpbbhjhaaDoorW.PrintLast Go.Proofs.YthfpdlfpbbhjhaaDoorW.PrintMore
set_option linter.unusedVariables false
set_option linter.unusedSimpArgs false
attribute [local go_sem] Oper.semAt_some
theorem below_put {n₀ : Nat} {w W : World} (h : Below n₀ w W) (hn : n₀ ≤ w.heap.size) (l : Nat) (o' : Obj) (hl : w.heap.size ≤ l) : Below n₀ w (W.putObj l o') :=
  h.trans ((Below.refl n₀ W).grown (grownBy_putObj' W l o') (Nat.le_trans hn h.size) (fun k e => by cases e; omega))
set_option maxHeartbeats 1000000 in
theorem eights_in (n H g : Nat) (w : World) :
    CallsIn Fence.wide n Tryd.prog 39 #[.pointer (some ⟨H, 0, none⟩), .slice (some ⟨g, 0, none⟩) 1 1] w fun e w' => e = .returned (.func (.func 54) #[] #[.pointer (some ⟨w.heap.size, 0, none⟩), .pointer (some ⟨w.heap.size + 1, 0, none⟩)]) ∧ w' = (w.alloc (.cells #[.pointer (some ⟨H, 0, none⟩)] 68)).alloc (.cells #[.slice (some ⟨g, 0, none⟩) 1 1] 25) := by
  refine callsIn_of_wp Tryd.func39 rfl trivial ?_ rfl
  simp only [Tryd.ntmps39, List.size_toArray, List.length_cons, List.length_nil, Nat.reduceAdd, Nat.reduceSub, Array.replicate_succ, Array.replicate_zero, List.push_toArray, List.append_toArray, List.nil_append, List.cons_append]
  gi_wp2
  go_ret
  exact ⟨by simp, rfl⟩
set_option maxRecDepth 100000 in
set_option maxHeartbeats 4000000 in
theorem fits_c (w : World) (H g : Nat) (reg : Int) (hr0 : 0 ≤ reg) (hr8 : reg ≤ 8) (ok : Bool) (hok : decide (1 ≤ 6 - reg) = ok) (hr : w.cell? ⟨H, 1, none⟩ = some (.int .i64 reg)) (hg : w.cell? ⟨g, 0, none⟩ = some (.int .i64 1)) :
    Calls Tryd.prog 38 #[.pointer (some ⟨H, 0, none⟩), .slice (some ⟨g, 0, none⟩) 1 1] w fun e w' => e = .returned (.bool ok) ∧ Below w.heap.size w w' := by
  refine (callsIn_wide (n := 6)).1 ?_
  refine callsIn_of_wp_marks Tryd.func38 rfl trivial ?_ rfl
  simp only [Tryd.ntmps38, List.size_toArray, List.length_cons, List.length_nil, Nat.reduceAdd, Nat.reduceSub, Array.replicate_succ, Array.replicate_zero, List.push_toArray, List.append_toArray, List.nil_append, List.cons_append]
  have HR := Lib.hid hr
  have HO := Lib.hid hok
  clear hr hok
  gi_wp2
  refine wpIn_wide.2 (wp_scope_straight ((wpIn_wide (n := 6)).1 ?_))
  gi_wp2
  refine wpIn_label ?_
  gi_wp2_with (refine ⟨trivial, ?_⟩; gi_at_call 39; refine (eights_in _ _ _ _).mono ?_; rintro e w2 ⟨rfl, hw2⟩)
  subst hw2
  have x0 : Boxed (((w.alloc (.cells #[.bool true] 4)).alloc (.cells #[.pointer (some ⟨H, 0, none⟩)] 68)).alloc (.cells #[.slice (some ⟨g, 0, none⟩) 1 1] 25)) w.heap.size 4 (.bool true) := blk_al (blk_al (blk_new w _) _) _
  have y1 : (((w.alloc (.cells #[.bool true] 4)).alloc (.cells #[.pointer (some ⟨H, 0, none⟩)] 68)).alloc (.cells #[.slice (some ⟨g, 0, none⟩) 1 1] 25)).heap[w.heap.size + 1]? = some (.cells #[.pointer (some ⟨H, 0, none⟩)] 68 (0, 0)) := blk_al (blk_new1 w _ _) _
  have y2 : (((w.alloc (.cells #[.bool true] 4)).alloc (.cells #[.pointer (some ⟨H, 0, none⟩)] 68)).alloc (.cells #[.slice (some ⟨g, 0, none⟩) 1 1] 25)).heap[w.heap.size + 1 + 1]? = some (.cells #[.slice (some ⟨g, 0, none⟩) 1 1] 25 (0, 0)) := by
    have := blk_new ((w.alloc (.cells #[.bool true] 4)).alloc (.cells #[.pointer (some ⟨H, 0, none⟩)] 68)) (.cells #[.slice (some ⟨g, 0, none⟩) 1 1] 25)
    rwa [show ((w.alloc (.cells #[.bool true] 4)).alloc (.cells #[.pointer (some ⟨H, 0, none⟩)] 68)).heap.size = w.heap.size + 1 + 1 by simp] at this
  have hB2 : Below w.heap.size w (((w.alloc (.cells #[.bool true] 4)).alloc (.cells #[.pointer (some ⟨H, 0, none⟩)] 68)).alloc (.cells #[.slice (some ⟨g, 0, none⟩) 1 1] 25)) := (((Below.refl _ w).alloc (Nat.le_refl _) _).alloc (by simp) _).alloc (by simp; omega) _
  have hs2 : (((w.alloc (.cells #[.bool true] 4)).alloc (.cells #[.pointer (some ⟨H, 0, none⟩)] 68)).alloc (.cells #[.slice (some ⟨g, 0, none⟩) 1 1] 25)).heap.size = w.heap.size + 3 := by simp
  have r1 := (hB2.cell (World.block_lt_of_cell? w _ HR.out)).trans HR.out
  have r2 := (hB2.cell (World.block_lt_of_cell? w _ hg)).trans hg
  obtain ⟨W2, hW2⟩ : ∃ W2, (((w.alloc (.cells #[.bool true] 4)).alloc (.cells #[.pointer (some ⟨H, 0, none⟩)] 68)).alloc (.cells #[.slice (some ⟨g, 0, none⟩) 1 1] 25)) = W2 := ⟨_, rfl⟩
  rw [hW2] at x0 y1 y2 hB2 hs2 r1 r2 ⊢
  obtain ⟨n0, hn0⟩ : ∃ n0, w.heap.size = n0 := ⟨_, rfl⟩
  rw [hn0] at x0 y1 y2 hB2 hs2 ⊢
  have HN0 := Lib.hid hn0
  clear hn0 hW2
  refine wpIn_rangeFunc_ownH (F := Fence.wide) (n := 6) rfl (by decide) (gf := 54) (lb := #[.pointer (some ⟨n0 + 1, 0, none⟩), .pointer (some ⟨n0 + 1 + 1, 0, none⟩)]) rfl trivial (enters_of Tryd.func54 (by kernel_rfl) rfl)
    (eights1 5 (by decide) W2 (n0 + 1) (n0 + 1 + 1) H g reg hr0 hr8 ok HO.out y1 y2 r1 r2) (fun _ _ => trivial) (fun _ _ _ _ _ _ _ _ => trivial) (Below.refl _ _) (fun _ => rfl)
    (fun pre W => (pre = [] ∨ ok = true) ∧ Boxed W n0 4 (.bool true) ∧ Below n0 w W)
    (fun c pre W => c = .exit 0 ∧ ok = false ∧ Boxed W n0 4 (.bool false) ∧ Below n0 w W)
    (fun s W W' row hs hg hr => ⟨hs.1, hs.2.1.kept hg (fun e => by have := (hr _ e.symm).1; omega), hs.2.2.grown hg (by have := hs.2.1.lt; omega) (fun k e => by have := (hr k e).1; omega)⟩)
    (fun c s W W' row hs hg hr => ⟨hs.1, hs.2.1, hs.2.2.1.kept hg (fun e => by have := (hr _ e.symm).1; omega), hs.2.2.2.grown hg (by have := hs.2.2.1.lt; omega) (fun k e => by have := (hr k e).1; omega)⟩)
    ⟨.inl rfl, x0, hB2⟩
    (fun x a' W => a' = { tmps := #[.pointer (some ⟨H, 0, none⟩), .slice (some ⟨g, 0, none⟩) 1 1, undef, undef, .bool false, .pointer (some ⟨n0, 0, none⟩), undef, .bool ok, .slice (some ⟨g, 0, none⟩) 1 1, .pointer (some ⟨g, 0, none⟩), .int .i64 1, .bool true, .pointer (some ⟨H, 0, none⟩), .slice (some ⟨g, 0, none⟩) 1 1, .func (.func 54) #[] #[.pointer (some ⟨n0 + 1, 0, none⟩), .pointer (some ⟨n0 + 1 + 1, 0, none⟩)], .int .i64 0, .bool ok, undef, undef, undef], defers := [] })
    (fun x a' s W W' row hs hg hr => hs) ?assign ?body ?done ?stop
  case assign =>
    rintro l pre x W K hI hK
    gi_wp2
    exact hK _ _ (KeepsFrom.refl _ _) trivial hI rfl
  case body =>
    rintro l pre x a' W hl hlo ⟨hp, h1, h2⟩ rfl hlen
    have hf := h1.frozen
    have hc := h1.cell
    have HH := Lib.hid (And.intro h1 h2)
    clear h1 h2 hlo
    cases ok with
    | true =>
      gi_wp2
      exact ⟨KeepsFrom.refl _ _, trivial, HH.out.1, HH.out.2⟩
    | false =>
      gi_wp2
      exact ⟨(KeepsOthers.setCell _ _ _).from _, rfl, HH.out.1.set _, HH.out.2.trans ((Below.refl n0 W).setCell (p := ⟨n0, 0, none⟩) (Nat.le_refl _) _)⟩
  case done =>
    rintro D xs W hD rfl ⟨h0, h1, h2⟩ hK
    obtain rfl : ok = true := by rcases h0 with h0 | h0; cases h0; exact h0
    have c0 := h1.cell
    have HH := Lib.hid (And.intro h1 (And.intro h2 (And.intro hK hD)))
    clear h1 h2 hK h0
    gi_wp2
    rw [Exit.noGoto_ret]
    show bodyPostM _ _ _ _ _ Exit.ret _ _
    refine ⟨by simp, .inl ⟨_, _, rfl, run_takeDeferred HH.out.2.2.1, ?_⟩⟩
    refine ⟨_, results_tmp rfl _ _ _, rfl, ?_⟩
    rw [HN0.out]
    exact below_put HH.out.2.1 (by rw [← HN0.out]; exact Nat.le_refl _) D _ (by have := HN0.out; have := HH.out.2.2.2; omega)
  case stop =>
    rintro D c pre W hD hpre ⟨rfl, rfl, h1, h2⟩ hK
    have c0 := h1.cell
    have HH := Lib.hid (And.intro h1 (And.intro h2 (And.intro hK hD)))
    clear h1 h2 hK
    gi_wp2
    rw [Exit.noGoto_ret]
    show bodyPostM _ _ _ _ _ Exit.ret _ _
    refine ⟨by simp, .inl ⟨_, _, rfl, run_takeDeferred HH.out.2.2.1, ?_⟩⟩
    refine ⟨_, results_tmp rfl _ _ _, rfl, ?_⟩
    rw [HN0.out]
    exact below_put HH.out.2.1 (by rw [← HN0.out]; exact Nat.le_refl _) D _ (by have := HN0.out; have := HH.out.2.2.2; omega)
end Go.Proofs.YthfpdlfpbbhjhaaDoor.Mc
namespace Go.Proofs.YthfpdlfpbbhjhaaDoor.Mc
open Go.RowKit Go.Proofs.YthfpdlfpbbhjhaaDoorW.PrintLast
variable {P : Program} {ops : Array Oper} {Q : Exit → Act → World → Prop}
theorem rowsIn_round {l n : Nat} {row : String} {args : Array Value} {w : World} {R : Value → World → Prop} (h : Rows P row args w R) : RowsIn (Fence.wide.inRound l) n P row args w R :=
  fun c cs _ => let ⟨v, w', r, s⟩ := h c cs; ⟨v, w', r, stepsIn_wide.2 s⟩
theorem oper_round {l n : Nat} {o : Oper} (hd : ∀ c, o.op ≠ .defer c) {K : Act → World → Prop} {a : Act} {w : World} (h : o.wp P a w K Q) : o.wpIn (Fence.wide.inRound l) n P a w K Q := by
  unfold Oper.wpIn
  refine ⟨fun _ _ => trivial, ?_⟩
  unfold Oper.wp at h
  rw [Oper.semAt_plain _ _ _ hd]
  generalize (execOp a.eval o).run P w = r at h
  cases r with
  | ok x w' =>
    cases x with
    | enter f args => exact ⟨(fun hh => by cases hh), CallsIn.inRound l (callsIn_wide.2 h)⟩
    | row row args => exact ⟨(fun hh => by cases hh), rowsIn_round h⟩
    | round _ _ _ _ _ => exact h.elim
    | _ => exact h
  | halt x w' => cases x <;> exact h
def noDeferB (ops : Array Oper) : Bool := ops.all fun o => match o.op with | .defer _ => false | _ => true
theorem noDefer_of (h : noDeferB ops = true) {i : Nat} {o : Oper} (ho : ops[i]? = some o) : ∀ c, o.op ≠ .defer c := by
  intro c hc
  rw [noDeferB, Array.all_eq_true] at h
  obtain ⟨hi, he⟩ := Array.getElem?_eq_some_iff.1 ho
  have := h i hi
  rw [he, hc] at this
  cases this
theorem wpOp_round {l n : Nat} (hlo : ¬ LetsOut Q) (hd : noDeferB ops = true) {i : Nat} {K : Act → World → Prop} {a : Act} {w : World} (h : wpOp P ops Q i K a w) : wpOpIn (Fence.wide.inRound l) n P ops Q i K a w := by
  unfold wpOp at h
  unfold wpOpIn
  cases ho : ops[i]? with
  | none => rw [ho] at h; exact h
  | some o =>
    rw [ho] at h
    simp only at h ⊢
    split
    · rename_i hw; rw [if_pos hw] at h; rcases h with h | h
      · exact oper_round (noDefer_of hd ho) h
      · exact absurd h.2 hlo
    · rename_i hw; rw [if_neg hw] at h; exact ⟨fun _ _ => trivial, h⟩
theorem wpAny_round {l n : Nat} {md : Region.Mode} (hlo : ¬ LetsOut Q) (hd : noDeferB ops = true) : ∀ (fuel : Nat) (listed : Array Bool) (a : Act) (w : World), wpAny P md ops Q fuel listed a w → wpAnyIn (Fence.wide.inRound l) n P md ops Q fuel listed a w
  | 0, _, _, _, h => h
  | fuel + 1, _, _, _, h => ⟨h.1, fun i hi => wpOp_round hlo hd (wpOp_mono (fun a w => wpAny_round hlo hd fuel _ a w) (h.2 i hi))⟩
theorem startIn_ {S : World → Prop} {ds : List Nat} {id n l m : Nat} {a : Act} {w : World} (z : Array Bool) (hlo : ¬ LetsOut Q) (hd : noDeferB ops = true) (hm : P.follows .mixedOrders = true) (hn : ops.size = n) (hl : Array.replicate n false = z) (hS : S w.drew)
    (h : S w.drew → wpAnyLast P .any ops Q S ds n z a w.drew) : (Code.region id ops true).wpIn (Fence.wide.inRound l) m P Q a w := by
  subst hn
  subst hl
  exact wpIn_region_any hm (wpAny_round hlo hd _ _ _ _ (wpAny_of_last _ _ _ _ (h hS)))
end Go.Proofs.YthfpdlfpbbhjhaaDoor.Mc
