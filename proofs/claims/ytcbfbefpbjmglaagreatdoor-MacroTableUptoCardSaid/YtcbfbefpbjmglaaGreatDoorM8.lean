import Derived.Test.YtcbfbefpbjmglaaGreatDoorZ
import Derived.Test.YtcbfbefpbjmglaaGreatDoorRO
import Derived.Test.YtcbfbefpbjmglaaGreatDoorV
import Derived.OwnWalkIn
import Derived.RangeFuncCalls
set_option maxRecDepth 100000
set_option linter.unusedSimpArgs false
set_option linter.unusedVariables false
namespace Go.Proofs.YtcbfbefpbjmglaaGreatDoor.Mac
open Go.RowKit MapFun PA YtcbfbefpbjmglaaGreatDoorT YtcbfbefpbjmglaaGreatDoorW PrintWords PrintLast PrintMore
attribute [local go_sem] Oper.semAt_some
def isClose (s : ByteArray) : Bool := s.toList == [41]
def isComma (s : ByteArray) : Bool := s.toList == [44]
def isDots (s : ByteArray) : Bool := s.toList == [46, 46, 46]
def rnd (x : S55 × ByteArray) (st : List ByteArray × Bool) : Option (List ByteArray × Bool) :=
 if isDots x.1.f1 && isClose x.2 then some (st.1, true)
 else if x.1.f0 == 1 && (isClose x.2 || isComma x.2) then some (st.1 ++ [x.1.f1], st.2)
 else none
def wentOn : List (S55 × ByteArray) → List ByteArray × Bool → Option (List ByteArray × Bool)
 | [], st => some st
 | x :: r, st => if isClose x.2 then none else (rnd x st).bind (wentOn r)
def parL : List (S55 × ByteArray) → Int → List ByteArray × Bool → Option (Int × List ByteArray × Bool)
 | [], _, _ => none
 | x :: r, n, st => (rnd x st).bind fun st' => if isClose x.2 then some (n + 2, st') else parL r (n + 2) st'
def paramsP (l : List S55) : Option (Int × List ByteArray × Bool) :=
 match l with
 | t :: _ => if isClose t.f1 then some (1, [], false) else parL (els l) 0 ([], false)
 | [] => parL (els l) 0 ([], false)
theorem wentOn_snoc (x : S55 × ByteArray) : ∀ (l : List (S55 × ByteArray)) (st : List ByteArray × Bool), wentOn (l ++ [x]) st = (wentOn l st).bind fun s => if isClose x.2 then none else rnd x s
 | [], st => by
  simp only [List.nil_append, wentOn, Option.bind_some]
  split
  ·rfl
  ·cases rnd x st <;> rfl
 | y :: r, st => by
  simp only [List.cons_append, wentOn]
  split
  ·rfl
  ·rw [Option.bind_assoc]
   congr 1
   funext s
   exact wentOn_snoc x r s
theorem parL_went : ∀ (l r : List (S55 × ByteArray)) (n : Int) (st st' : List ByteArray × Bool), wentOn l st = some st' → parL (l ++ r) n st = parL r (n + 2 * l.length) st'
 | [], r, n, st, st', h => by cases h; simp
 | x :: l, r, n, st, st', h => by
  rw [wentOn] at h
  split at h
  ·cases h
  ·rename_i hc
   obtain ⟨s, h1, h2⟩ := Option.bind_eq_some_iff.1 h
   rw [List.cons_append, parL, h1, Option.bind_some, if_neg hc, parL_went l r (n + 2) s st' h2]
   congr 1
   simp only [List.length_cons]; omega
theorem parL_left {x : S55 × ByteArray} {l r : List (S55 × ByteArray)} {st : List ByteArray × Bool} (h : wentOn l ([], false) = some st) (hr : rnd x st = none) : parL (l ++ x :: r) 0 ([], false) = none := by
 rw [parL_went l _ _ _ _ h, parL, hr]; rfl
theorem parL_closed {x : S55 × ByteArray} {l r : List (S55 × ByteArray)} {st st' : List ByteArray × Bool} (h : wentOn l ([], false) = some st) (hr : rnd x st = some st') (hc : isClose x.2 = true) : parL (l ++ x :: r) 0 ([], false) = some (2 * (l.length : Int) + 2, st') := by
 rw [parL_went l _ _ _ _ h, parL, hr, Option.bind_some, if_pos hc, Int.zero_add]
theorem listed_c (A : Option Addr) (n c : Nat) (w : World) : Calls Tryz.prog 33 #[.slice A n c] w fun e w' => e = .returned (.func (.func 50) #[] #[.pointer (some ⟨w.heap.size, 0, none⟩)]) ∧ w' = w.alloc (.cells #[.slice A n c] 31) := by
 go_enter Tryz.func33, Tryz.ntmps33
 go_wp2
 go_ret
 exact ⟨rfl, rfl⟩
theorem R_row {e : Nat} {w w' : World} {base B : Nat} {ok : Nat → Prop} {v : Value} {xs : List ByteArray} {row : Option Nat} (h : Kd.string.R e w base ok v xs) (hg : w.grownBy w' row) (hr : ∀ r, row = some r → B ≤ r ∧ ∃ o : Obj, w.heap[r]? = some o ∧ o.isCells = false) : Kd.string.R e w' base ok v xs := by
 refine Kd.R_mono (Kd.R_grown (Kd.R_bound h) hg fun k hk hr' => ?_) (fun k hk => hk.1)
 obtain ⟨_, o, ho, hc⟩ := hr k hr'.symm
 obtain ⟨_, _, _, q, _, cells, hq⟩ := hk
 rw [hq] at ho; cases ho; cases hc
structure PSt (w W : World) (B M : Nat) (nm : ByteArray) (n : Int) (ok : Bool) (st : List ByteArray × Bool) : Prop where
 box : W.heap[B]? = some (.cells #[.pointer (some ⟨M, 0, none⟩)] 57 (0, 0))
 n : W.heap[B + 1]? = some (.cells #[.int .i64 n] 3 (0, 0))
 ok : W.heap[B + 2]? = some (.cells #[.bool ok] 4 (0, 0))
 m : ∃ v, W.heap[M]? = some (.cells #[.string nm, .bool true, v, .bool st.2, .slice none 0 0] 33 (0, 0)) ∧ Kd.string.R 9 W (B + 4) (fun _ => True) v st.1
 below : Below M w W
 size : B + 4 ≤ W.heap.size
theorem blk_row {w w' : World} {k B : Nat} {c : Array Value} {t : Nat} {f : Nat × Nat} {row : Option Nat} (h : w.heap[k]? = some (.cells c t f)) (hg : w.grownBy w' row) (hr : ∀ r, row = some r → B ≤ r ∧ ∃ o : Obj, w.heap[r]? = some o ∧ o.isCells = false) : w'.heap[k]? = some (.cells c t f) :=
 (hg.block k (Array.getElem?_eq_some_iff.1 h).1 (fun e' => by obtain ⟨_, o, ho, hc⟩ := hr k e'.symm; rw [h] at ho; cases ho; cases hc)).trans h
theorem PSt.own {w W W' : World} {B M : Nat} {nm : ByteArray} {n : Int} {ok : Bool} {st : List ByteArray × Bool} {D : Nat} {row : Option Nat} (h : PSt w W B M nm n ok st) (hM : M < B) (hD : B ≤ D) (hg : W.grownBy W' row) (hr : ∀ r, row = some r → D ≤ r ∧ ∃ o : Obj, W.heap[r]? = some o ∧ o.isCells = false) : PSt w W' B M nm n ok st := by
 obtain ⟨v, h1, h2⟩ := h.m
 exact ⟨blk_row h.box hg hr, blk_row h.n hg hr, blk_row h.ok hg hr, ⟨v, blk_row h1 hg hr, R_row h2 hg hr⟩, h.below.grown hg (by have := h.size; omega) (fun k e => by have := (hr k e).1; omega), Nat.le_trans h.size hg.size⟩
theorem R_low {e : Nat} {w : World} {base : Nat} {v : Value} {xs : List ByteArray} {p : Addr} (h : Kd.string.R e w base (fun _ => True) v xs) (hp : p.block < base) (u : Value) : Kd.string.R e (w.setCell p u) base (fun _ => True) v xs :=
 Kd.R_mono (Kd.R_far (Kd.R_bound h) (fun k hk e => by have := hk.2.1; omega) u) (fun _ _ => trivial)
theorem PSt.setn {w W : World} {B M : Nat} {nm : ByteArray} {n : Int} {ok : Bool} {st : List ByteArray × Bool} (h : PSt w W B M nm n ok st) (hM : M < B) (n' : Int) : PSt w (W.setCell ⟨B + 1, 0, none⟩ (.int .i64 n')) B M nm n' ok st := by
 obtain ⟨v, h1, h2⟩ := h.m
 exact ⟨(Below.heap_setCell _ ⟨B + 1, 0, none⟩ _ _ (by simp)).trans h.box, bU h.n 0 _ rfl, (Below.heap_setCell _ ⟨B + 1, 0, none⟩ _ _ (by simp)).trans h.ok, ⟨v, (Below.heap_setCell _ ⟨B + 1, 0, none⟩ _ _ (by simp; omega)).trans h1, R_low h2 (by simp) _⟩, h.below.setCell (p := ⟨B + 1, 0, none⟩) (by simp; omega) _, by simpa using h.size⟩
theorem PSt.setok {w W : World} {B M : Nat} {nm : ByteArray} {n : Int} {ok : Bool} {st : List ByteArray × Bool} (h : PSt w W B M nm n ok st) (hM : M < B) (ok' : Bool) : PSt w (W.setCell ⟨B + 2, 0, none⟩ (.bool ok')) B M nm n ok' st := by
 obtain ⟨v, h1, h2⟩ := h.m
 exact ⟨(Below.heap_setCell _ ⟨B + 2, 0, none⟩ _ _ (by simp)).trans h.box, (Below.heap_setCell _ ⟨B + 2, 0, none⟩ _ _ (by simp)).trans h.n, bU h.ok 0 _ rfl, ⟨v, (Below.heap_setCell _ ⟨B + 2, 0, none⟩ _ _ (by simp; omega)).trans h1, R_low h2 (by simp) _⟩, h.below.setCell (p := ⟨B + 2, 0, none⟩) (by simp; omega) _, by simpa using h.size⟩
theorem PSt.stb {w W W' : World} {B M : Nat} {nm : ByteArray} {n : Int} {ok : Bool} {st : List ByteArray × Bool} (h : PSt w W B M nm n ok st) (hM : M < B) (hs : StB (B + 3) W W') : PSt w W' B M nm n ok st := by
 obtain ⟨u, rfl⟩ := hs
 obtain ⟨v, h1, h2⟩ := h.m
 exact ⟨(Below.heap_setCell _ ⟨B + 3, 0, none⟩ _ _ (by simp)).trans h.box, (Below.heap_setCell _ ⟨B + 3, 0, none⟩ _ _ (by simp)).trans h.n, (Below.heap_setCell _ ⟨B + 3, 0, none⟩ _ _ (by simp)).trans h.ok, ⟨v, (Below.heap_setCell _ ⟨B + 3, 0, none⟩ _ _ (by simp; omega)).trans h1, R_low h2 (by simp) _⟩, h.below.setCell (p := ⟨B + 3, 0, none⟩) (by simp; omega) _, by simpa using h.size⟩
theorem PSt.setmore {w W : World} {B M : Nat} {nm : ByteArray} {n : Int} {ok : Bool} {st : List ByteArray × Bool} (h : PSt w W B M nm n ok st) (hM : M < B) (m' : Bool) : PSt w (W.setCell ⟨M, 3, none⟩ (.bool m')) B M nm n ok (st.1, m') := by
 obtain ⟨v, h1, h2⟩ := h.m
 exact ⟨(Below.heap_setCell _ ⟨M, 3, none⟩ _ _ (by simp; omega)).trans h.box, (Below.heap_setCell _ ⟨M, 3, none⟩ _ _ (by simp; omega)).trans h.n, (Below.heap_setCell _ ⟨M, 3, none⟩ _ _ (by simp; omega)).trans h.ok, ⟨v, bU h1 3 _ rfl, R_low h2 (by simp; omega) _⟩, h.below.setCell (p := ⟨M, 3, none⟩) (by simp) _, by simpa using h.size⟩
theorem PSt.growB {w W W' : World} {B M : Nat} {nm : ByteArray} {n : Int} {ok : Bool} {st : List ByteArray × Bool} (h : PSt w W B M nm n ok st) (hM : M < B) (hb : Below W.heap.size W W') : PSt w W' B M nm n ok st := by
 obtain ⟨v, h1, h2⟩ := h.m
 exact ⟨(hb.block _ (blk_lt h.box)).trans h.box, (hb.block _ (blk_lt h.n)).trans h.n, (hb.block _ (blk_lt h.ok)).trans h.ok, ⟨v, (hb.block _ (blk_lt h1)).trans h1, Kd.R_below h2 hb⟩, h.below.trans (hb.mono (by have := h.size; omega)), Nat.le_trans h.size hb.size⟩
theorem cell_al {W : World} {p : Addr} {v : Value} (h : W.cell? p = some v) (o : Obj) : (W.alloc o).cell? p = some v := ((bA (Below.refl W.heap.size W) o).cell (cl W _ h)).trans h
theorem info9 : (Tryz.prog.info? 9).map (fun i => (i.zero, i.size, i.bytes)) = some (some (.string ⟨#[]⟩), 1, 16) := by kernel_rfl
theorem rnd_none {f0 f3 : Int} {f1 f2 e : ByteArray} {f4 f5 b1 b2 b3 b4 : Bool} (h1 : isDots f1 = b1) (h2 : isClose e = b2) (h3 : (f0 == 1) = b3) (h4 : isComma e = b4) (hb : (b1 && b2) = false) (hc : (b3 && (b2 || b4)) = false) (st : List ByteArray × Bool) : rnd (⟨f0, f1, f2, f3, f4, f5⟩, e) st = none := by
 subst h1 h2 h3 h4
 unfold rnd
 rw [if_neg (by rw [hb]; decide), if_neg (by rw [hc]; decide)]
theorem rnd_name {f0 f3 : Int} {f1 f2 e : ByteArray} {f4 f5 b1 b2 b3 b4 : Bool} (h1 : isDots f1 = b1) (h2 : isClose e = b2) (h3 : (f0 == 1) = b3) (h4 : isComma e = b4) (hb : (b1 && b2) = false) (hc : (b3 && (b2 || b4)) = true) (st : List ByteArray × Bool) : rnd (⟨f0, f1, f2, f3, f4, f5⟩, e) st = some (st.1 ++ [f1], st.2) := by
 subst h1 h2 h3 h4
 unfold rnd
 rw [if_neg (by rw [hb]; decide), if_pos hc]
theorem rnd_dots {f0 f3 : Int} {f1 f2 e : ByteArray} {f4 f5 : Bool} (h1 : isDots f1 = true) (h2 : isClose e = true) (st : List ByteArray × Bool) : rnd (⟨f0, f1, f2, f3, f4, f5⟩, e) st = some (st.1, true) := by
 unfold rnd
 rw [if_pos (by simp [h1, h2])]
theorem PSt.setpar {w W w1 : World} {B M : Nat} {nm : ByteArray} {n : Int} {ok : Bool} {st : List ByteArray × Bool} {pv v1 : Value} {x : ByteArray} (h : PSt w W B M nm n ok st) (hM : M < B) (hm : W.heap[M]? = some (.cells #[.string nm, .bool true, pv, .bool st.2, .slice none 0 0] 33 (0, 0))) (hR : Kd.string.R 9 W (B + 4) (fun _ => True) pv st.1)
  (hR1 : Kd.string.R 9 w1 (B + 4) (fun _ => True) v1 (st.1 ++ [x])) (hg : W.drew.grownBy w1 pv.ownBlock) : PSt w (w1.setCell ⟨M, 2, none⟩ v1) B M nm n ok (st.1 ++ [x], st.2) := by
 have nb : ∀ {k : Nat} {c : Array Value} {t : Nat}, W.heap[k]? = some (.cells c t (0, 0)) → 9 ≠ t → w1.heap[k]? = some (.cells c t (0, 0)) := fun hk ht =>
  (hg.block _ (blk_lt hk) (Kd.R_ne hR hk ht)).trans hk
 have hm1 := nb hm (by decide)
 exact ⟨(Below.heap_setCell _ ⟨M, 2, none⟩ _ _ (by simp; omega)).trans (nb h.box (by decide)), (Below.heap_setCell _ ⟨M, 2, none⟩ _ _ (by simp; omega)).trans (nb h.n (by decide)), (Below.heap_setCell _ ⟨M, 2, none⟩ _ _ (by simp; omega)).trans (nb h.ok (by decide)), ⟨v1, bU hm1 2 _ rfl, R_low hR1 (by simp; omega) _⟩,
  Below.setCell (p := ⟨M, 2, none⟩) (((h.below.trans (below_drew (Below.refl _ _))).grown hg (by have := h.size; simp; omega) (fun k e => by have := Kd.R_base hR k e; omega))) (by simp) _, by simpa using Nat.le_trans h.size hg.size⟩
theorem wentOn_len : ∀ (l : List (S55 × ByteArray)) (st st' : List ByteArray × Bool), wentOn l st = some st' → st'.1.length ≤ st.1.length + l.length
 | [], st, st', h => by cases h; simp
 | x :: l, st, st', h => by
  rw [wentOn] at h
  split at h
  ·cases h
  ·obtain ⟨s, h1, h2⟩ := Option.bind_eq_some_iff.1 h
   have h3 := wentOn_len l s st' h2
   have h4 : s.1.length ≤ st.1.length + 1 := by
    unfold rnd at h1
    split at h1
    ·cases h1; simp
    ·split at h1
     ·cases h1; simp
     ·cases h1
   simp only [List.length_cons]; omega
theorem PSt.setpar_keep {w W w1 : World} {B M : Nat} {nm : ByteArray} {n : Int} {ok : Bool} {st : List ByteArray × Bool} {pv v1 : Value} (h : PSt w W B M nm n ok st) (hM : M < B) (hR : Kd.string.R 9 W (B + 4) (fun _ => True) pv st.1) (hg : W.drew.grownBy w1 pv.ownBlock) :
  KeepM (fun k => k = M ∨ k = B + 1) (B + 4) W (w1.setCell ⟨M, 2, none⟩ v1) ∧ KeepsOthers W (w1.setCell ⟨M, 2, none⟩ v1) := by
 refine ⟨fun k hk hn => (Below.heap_setCell _ ⟨M, 2, none⟩ _ _ (by simp; omega)).trans (hg.block k (by have := h.size; simp; omega) (fun e => by have := Kd.R_base hR k e.symm; omega)), ?_⟩
 refine KeepsOthers.trans (KeepsOthers.trans (KeepsOthers.drew W) (KeepsOthers.of_grownBy hg fun j o hj ho => ?_)) (KeepsOthers.setCell _ _ _)
 obtain ⟨c, hc⟩ := Kd.R_typed hR j hj
 have ho' : W.heap[j]? = some o := ho
 rw [hc] at ho'; cases ho'; rfl
theorem went_next {x : S55 × ByteArray} {l : List (S55 × ByteArray)} {st st' : List ByteArray × Bool} (h : wentOn l ([], false) = some st) (hc : isClose x.2 = false) (hr : rnd x st = some st') : wentOn (l ++ [x]) ([], false) = some st' := by
 rw [wentOn_snoc, h, Option.bind_some, if_neg (by rw [hc]; decide), hr]
end Go.Proofs.YtcbfbefpbjmglaaGreatDoor.Mac
namespace Go.Proofs.YtcbfbefpbjmglaaGreatDoor.Mac
open Go.RowKit YtcbfbefpbjmglaaGreatDoorW.PrintLast
variable {P : Program} {ops : Array Oper} {Q : Exit → Act → World → Prop}
theorem rowsIn_round {l n : Nat} {row : String} {args : Array Value} {w : World} {R : Value → World → Prop} (h : Rows P row args w R) : RowsIn (Fence.wide.inRound l) n P row args w R :=
 fun c cs _ => let ⟨v, w', r, s⟩ := h c cs; ⟨v, w', r, stepsIn_wide.2 s⟩
theorem oper_round {l n : Nat} {o : Oper} (hd : ∀ c, o.op ≠ .defer c) {K : Act → World → Prop} {a : Act} {w : World} (h : o.wp P a w K Q) : o.wpIn (Fence.wide.inRound l) n P a w K Q := by
 unfold Oper.wpIn
 refine ⟨fun _ _ => trivial, ?_⟩
 unfold Oper.wp at h
 rw [Oper.semAt_plain _ _ _ hd]
 generalize (execOp a.eval o).run P w = r at h
 cases r with
 | ok x w' =>
  cases x with
  | enter f args => exact ⟨(fun hh => by cases hh), CallsIn.inRound l (callsIn_wide.2 h)⟩
  | row row args => exact ⟨(fun hh => by cases hh), rowsIn_round h⟩
  | round _ _ _ _ _ => exact h.elim
  | _ => exact h
 | halt x w' => cases x <;> exact h
def noDeferB (ops : Array Oper) : Bool := ops.all fun o => match o.op with | .defer _ => false | _ => true
theorem noDefer_of (h : noDeferB ops = true) {i : Nat} {o : Oper} (ho : ops[i]? = some o) : ∀ c, o.op ≠ .defer c := by
 intro c hc
 rw [noDeferB, Array.all_eq_true] at h
 obtain ⟨hi, he⟩ := Array.getElem?_eq_some_iff.1 ho
 have := h i hi
 rw [he, hc] at this
 cases this
theorem wpOp_round {l n : Nat} (hlo : ¬ LetsOut Q) (hd : noDeferB ops = true) {i : Nat} {K : Act → World → Prop} {a : Act} {w : World} (h : wpOp P ops Q i K a w) : wpOpIn (Fence.wide.inRound l) n P ops Q i K a w := by
 unfold wpOp at h
 unfold wpOpIn
 cases ho : ops[i]? with
 | none => rw [ho] at h; exact h
 | some o =>
  rw [ho] at h
  simp only at h ⊢
  split
  ·rename_i hw; rw [if_pos hw] at h; rcases h with h | h
   ·exact oper_round (noDefer_of hd ho) h
   ·exact absurd h.2 hlo
  ·rename_i hw; rw [if_neg hw] at h; exact ⟨fun _ _ => trivial, h⟩
theorem wpAny_round {l n : Nat} {md : Region.Mode} (hlo : ¬ LetsOut Q) (hd : noDeferB ops = true) : ∀ (fuel : Nat) (listed : Array Bool) (a : Act) (w : World), wpAny P md ops Q fuel listed a w → wpAnyIn (Fence.wide.inRound l) n P md ops Q fuel listed a w
 | 0, _, _, _, h => h
 | fuel + 1, _, _, _, h => ⟨h.1, fun i hi => wpOp_round hlo hd (wpOp_mono (fun a w => wpAny_round hlo hd fuel _ a w) (h.2 i hi))⟩
theorem startIn_ {S : World → Prop} {ds : List Nat} {id n l m : Nat} {a : Act} {w : World} (z : Array Bool) (hlo : ¬ LetsOut Q) (hd : noDeferB ops = true) (hm : P.follows .mixedOrders = true) (hn : ops.size = n) (hl : Array.replicate n false = z) (hS : S w.drew)
  (h : S w.drew → wpAnyLast P .any ops Q S ds n z a w.drew) : (Code.region id ops true).wpIn (Fence.wide.inRound l) m P Q a w := by
 subst hn
 subst hl
 exact wpIn_region_any hm (wpAny_round hlo hd _ _ _ _ (wpAny_of_last _ _ _ _ (h hS)))
end Go.Proofs.YtcbfbefpbjmglaaGreatDoor.Mac
namespace Go.Proofs.YtcbfbefpbjmglaaGreatDoor.Mac
open Go.RowKit MapFun PA YtcbfbefpbjmglaaGreatDoorT YtcbfbefpbjmglaaGreatDoorW PrintWords PrintLast PrintMore
attribute [local go_sem] Oper.semAt_some
def ParPost (M base : Nat) (nm : ByteArray) (l : List S55) (w : World) : Ending → World → Prop := fun e w' =>
 (match paramsP l with
 | some (n, st) => e = .returned (.int .i64 n) ∧ ∃ v, w'.heap[M]? = some (.cells #[.string nm, .bool true, v, .bool st.2, .slice none 0 0] 33 (0, 0)) ∧ Kd.string.R 9 w' base (fun _ => True) v st.1
 | none => e = .returned (.int .i64 (-1))) ∧ Below M w w'
set_option maxHeartbeats 1000000 in
theorem params_c (M : Nat) (nm : ByteArray) (A : Option Addr) (c : Nat) (l : List S55) (w : World) (hl : l.length ≤ 1000000) (hB : Kd.C k55 w A l.length l) (hA : ∀ ad, A = some ad → 0 < l.length → ad.block < M) (hc : l.length ≤ c) (hcm : True)
  (hM : w.heap[M]? = some (.cells #[.string nm, .bool true, .slice none 0 0, .bool false, .slice none 0 0] 33 (0, 0))) :
  Calls Tryz.prog 19 #[.pointer (some ⟨M, 0, none⟩), .slice A l.length c] w (ParPost M w.heap.size nm l w) := by
 refine (callsIn_wide (n := 5)).1 ?_
 refine callsIn_of_wp_marks Tryz.func19 rfl trivial ?_ rfl
 simp only [Tryz.ntmps19, List.size_toArray, List.length_cons, List.length_nil, Nat.reduceAdd, Nat.reduceSub, Array.replicate_succ, Array.replicate_zero, List.push_toArray, List.append_toArray, List.nil_append, List.cons_append]
 obtain ⟨B, hBw⟩ : ∃ B, w.heap.size = B := ⟨_, rfl⟩
 have hMB : M < B := by rw [← hBw]; exact blk_lt hM
 gi_wp2
 obtain ⟨W0, hW0⟩ : ∃ W0, w.alloc (.cells #[.pointer (some ⟨M, 0, none⟩)] 57) = W0 := ⟨_, rfl⟩
 have hb0 : Below w.heap.size w W0 := by rw [← hW0]; exact (Below.refl _ w).alloc (Nat.le_refl _) _
 have q0 : W0.heap[B]? = some (.cells #[.pointer (some ⟨M, 0, none⟩)] 57 (0, 0)) := by rw [← hW0, ← hBw]; exact blk_new w _
 have hs0 : W0.heap.size = B + 1 := by rw [← hW0, ← hBw]; simp
 have qM := (hb0.block M (blk_lt hM)).trans hM
 have hB0 := Kd.C_below hB hb0
 rw [hW0, hBw]
 rw [hBw] at hb0
 have HB := Lib.hid (And.intro hB0 (And.intro qM (And.intro q0 (And.intro hb0 hs0))))
 clear hB hM hB0 qM q0 hb0 hs0 hW0
 refine wpIn_wide.2 (wp_scope_straight ((wpIn_wide (n := 5)).1 ?_))
 refine wpIn_seq_k fun K hK => ?_
 have T : (∀ t r, l = t :: r → isClose t.f1 = false) → ∀ u9 u10 u11 u12 u13 u14 u15 u16 u17 u18 : Value, K { tmps := #[.pointer (some ⟨M, 0, none⟩), .slice A l.length c, .pointer (some ⟨B, 0, none⟩), undef, .int .i64 0, undef, undef, undef, undef, u9, u10, u11, u12, u13, u14, u15, u16, u17, u18, undef, undef, undef, undef, undef, undef, undef, undef, undef, undef, undef, undef, undef, undef, undef, undef, undef, undef, undef, undef, undef, undef, undef, undef, undef, undef, undef, undef, undef, undef, undef, undef, undef, undef, undef, undef, undef, undef, undef, undef, undef, undef, undef, undef, undef], defers := [] } W0 := by
  intro hnc u9 u10 u11 u12 u13 u14 u15 u16 u17 u18
  refine hK _ _ ?_
  gi_wp2
  refine wpIn_label ?_
  obtain ⟨W2, hW2⟩ : ∃ W2, (W0.alloc (.cells #[.int .i64 0] 3)).alloc (.cells #[.bool false] 4) = W2 := ⟨_, rfl⟩
  have hb2 : Below (B + 1) W0 W2 := by rw [← hW2, ← HB.out.2.2.2.2]; exact ((Below.refl _ W0).alloc (Nat.le_refl _) _).alloc (by simp) _
  have q1 : W2.heap[B + 1]? = some (.cells #[.int .i64 0] 3 (0, 0)) := by rw [← hW2, ← HB.out.2.2.2.2]; exact kA (blk_new W0 _) _
  have q2 : W2.heap[B + 2]? = some (.cells #[.bool false] 4 (0, 0)) := by
   have := blk_new (W0.alloc (.cells #[.int .i64 0] 3)) (.cells #[.bool false] 4)
   rw [hW2, World.size_alloc, HB.out.2.2.2.2] at this; exact this
  have hs2 : W2.heap.size = B + 3 := by rw [← hW2]; simp [HB.out.2.2.2.2]
  rw [hW2, show W0.heap.size + 1 = B + 2 by rw [HB.out.2.2.2.2], HB.out.2.2.2.2]
  have H2 := Lib.hid (And.intro hb2 (And.intro q1 (And.intro q2 hs2)))
  clear hb2 q1 q2 hs2 hW2
  gi_wp2_with (refine ⟨trivial, ?_⟩; gi_at_call 33; refine (callsIn_wide.2 (listed_c A l.length c _)).mono ?_; rintro e w' ⟨rfl, rfl⟩)
  have hs3 : (W2.alloc (.cells #[.slice A l.length c] 31)).heap.size = B + 4 := by simp [H2.out.2.2.2]
  have hb3 : Below (B + 3) W2 (W2.alloc (.cells #[.slice A l.length c] 31)) := by rw [← H2.out.2.2.2]; exact (Below.refl _ W2).alloc (Nat.le_refl _) _
  have q3 : (W2.alloc (.cells #[.slice A l.length c] 31)).heap[B + 3]? = some (.cells #[.slice A l.length c] 31 (0, 0)) := by rw [← H2.out.2.2.2]; exact blk_new W2 _
  obtain ⟨W3, hW3⟩ : ∃ W3, W2.alloc (.cells #[.slice A l.length c] 31) = W3 := ⟨_, rfl⟩
  rw [hW3, H2.out.2.2.2]
  rw [hW3] at hs3 hb3 q3
  have hb03 : Below (B + 1) W0 W3 := H2.out.1.trans (hb3.mono (by omega))
  have hC3 : Kd.C k55 W3 A l.length l := Kd.C_below HB.out.1 (by rw [HB.out.2.2.2.2]; exact hb03)
  have hst : PSt w W3 B M nm 0 false ([], false) := by
   refine ⟨(hb03.block B (by omega)).trans HB.out.2.2.1, (hb3.block (B + 1) (by omega)).trans H2.out.2.1, (hb3.block (B + 2) (by omega)).trans H2.out.2.2.1, ⟨_, (hb03.block M (by omega)).trans HB.out.2.1, Kd.R_nil _ _ _ _ _⟩, (HB.out.2.2.2.1.mono (by omega)).trans (hb03.mono (by omega)), by omega⟩
  have hnl : parL (els l) 0 ([], false) = paramsP l := by
   match l, hnc with
   | t :: r, hnc => rw [paramsP, if_neg (by rw [hnc t r rfl]; decide)]
   | [], _ => rfl
  have H3 := Lib.hid (And.intro hst hnl)
  have hInM : InM (fun k => k = M ∨ k = B + 1) (B + 4) (B + 3) A l.length := fun ad ha hp => by
   have := hA ad ha hp
   exact ⟨by omega, by omega, by omega⟩
  have hseq := listed1 4 (by decide) W3 (fun k => k = M ∨ k = B + 1) (B + 4) (B + 3) (by omega) (by omega) (by omega) A c l hl hC3 hInM hc hcm q3
  clear hst hnl hC3 hb3 hb03 q3 hInM H2 hW3
  refine wpIn_range_st (F := Fence.wide) (n := 5) rfl (by decide) (gf := 50) (lb := #[.pointer (some ⟨B + 3, 0, none⟩)]) rfl trivial (enters_of Tryz.func50 (by kernel_rfl) rfl)
   (fun h k => h.trans k) (fun W l o hl k hk _ => World.putObj_heap_other (by omega)) (fun A B' h k hk => by obtain ⟨u, rfl⟩ := h; exact Below.heap_setCell _ ⟨B + 3, 0, none⟩ _ _ (by simp; omega)) hseq (fun _ => rfl)
   (fun pre W => ∃ st, wentOn pre ([], false) = some st ∧ PSt w W B M nm (2 * pre.length) false st)
   (fun pre W => ∃ pre' x st, pre = pre' ++ [x] ∧ wentOn pre' ([], false) = some st ∧ ((rnd x st = none ∧ ∃ st', PSt w W B M nm (2 * pre'.length + 2) false st') ∨ (∃ st', rnd x st = some st' ∧ isClose x.2 = true ∧ PSt w W B M nm (2 * pre'.length + 2) true st')))
   (fun pre W W' row ⟨st, h1, h2⟩ hg hr => ⟨st, h1, h2.own hMB (by omega) hg hr⟩)
   (fun pre W W' row ⟨pre', x, st, h0, h1, h2⟩ hg hr => ⟨pre', x, st, h0, h1, h2.imp (fun ⟨h3, st', h4⟩ => ⟨h3, st', h4.own hMB (by omega) hg hr⟩) (fun ⟨st', h3, h4, h5⟩ => ⟨st', h3, h4, h5.own hMB (by omega) hg hr⟩)⟩)
   (fun pre W W' ⟨st, h1, h2⟩ hs => ⟨st, h1, h2.stb hMB hs⟩)
   ⟨_, rfl, H3.out.1⟩ 0
   (fun x a' W => ∃ B7, B + 4 ≤ B7 ∧ W.heap[B7]? = some (.cells #[.int .i64 x.1.f0, .string x.1.f1, .string x.1.f2, .int .i64 x.1.f3, .bool x.1.f4, .bool x.1.f5] 55 (0, 0)) ∧ a' = { tmps := #[.pointer (some ⟨M, 0, none⟩), .slice A l.length c, .pointer (some ⟨B, 0, none⟩), undef, .int .i64 0, .pointer (some ⟨B + 1, 0, none⟩), .pointer (some ⟨B + 2, 0, none⟩), .pointer (some ⟨B7, 0, none⟩), .string x.2, u9, u10, u11, u12, u13, u14, u15, u16, u17, u18, .slice A l.length c, .func (.func 50) #[] #[.pointer (some ⟨B + 3, 0, none⟩)], .agg #[.int .i64 x.1.f0, .string x.1.f1, .string x.1.f2, .int .i64 x.1.f3, .bool x.1.f4, .bool x.1.f5], .string x.2, undef, undef, undef, undef, undef, undef, undef, undef, undef, undef, undef, undef, undef, undef, undef, undef, undef, undef, undef, undef, undef, undef, undef, undef, undef, undef, undef, undef, undef, undef, undef, undef, undef, undef, undef, undef, undef, undef, undef, undef, undef], defers := [] })
   (fun x a' s W W' row hs hg hr => by
    obtain ⟨B7, h1, h2, h3⟩ := hs
    exact ⟨B7, h1, blk_row h2 hg hr, h3⟩)
   ?assign ?body ?done ?stop
  case assign =>
   rintro l' pre ⟨⟨f0, f1, f2, f3, f4, f5⟩, e⟩ W K ⟨st, h1, h2⟩ hK
   simp only [encE]
   have hbn : Below W.heap.size W (W.alloc (.cells #[.int .i64 f0, .string f1, .string f2, .int .i64 f3, .bool f4, .bool f5] 55)) := (Below.refl _ _).alloc (Nat.le_refl _) _
   have hnW := h2.size
   have HK := Lib.hid hK
   clear hK
   gi_wp2
   exact HK.out _ _ ((KeepsOthers.alloc W _).from _) (KeepM.below (hbn.mono (by omega))) ⟨st, h1, h2.growB hMB hbn⟩ ⟨W.heap.size, hnW, World.alloc_heap_new _ _, rfl⟩
  case body =>
   rintro l' pre ⟨⟨f0, f1, f2, f3, f4, f5⟩, e⟩ a' W ⟨st, h1, h2⟩ ⟨B7, hB7, hb7, rfl⟩ hlen
   have hln : pre.length ≤ 500000 := by rw [els_len] at hlen; omega
   refine wpIn_block ?_
   refine wpIn_seq_k fun K1 hK1 => ?_
   have c5 := bC h2.n 0
   have f5' : W.frozen? ⟨B + 1, 0, none⟩ = false := by simp [World.frozen?, h2.n]
   have hb5 := blk_lt h2.n
   have HK1 := Lib.hid hK1
   clear hK1
   gi_wp2
   refine HK1.out _ _ ?_
   have hb74 := (Below.heap_setCell W ⟨B + 1, 0, none⟩ (.int .i64 (2 * (pre.length : Int) + 2)) B7 (by simp; omega)).trans hb7
   have hst4 := h2.setn hMB (2 * (pre.length : Int) + 2)
   have hk4 : KeepM (fun k => k = M ∨ k = B + 1) (B + 4) W (W.setCell ⟨B + 1, 0, none⟩ (.int .i64 (2 * (pre.length : Int) + 2))) := fun k _ hk => Below.heap_setCell _ ⟨B + 1, 0, none⟩ _ _ (by simp; omega)
   have hf4 : KeepsFrom W3.heap.size W (W.setCell ⟨B + 1, 0, none⟩ (.int .i64 (2 * (pre.length : Int) + 2))) := (KeepsOthers.setCell _ _ _).from _
   obtain ⟨W4, hW4⟩ : ∃ W4, W.setCell ⟨B + 1, 0, none⟩ (.int .i64 (2 * (pre.length : Int) + 2)) = W4 := ⟨_, rfl⟩
   rw [hW4] at hb74 hst4 hk4 hf4 ⊢
   have HH := Lib.hid (And.intro h1 (And.intro hk4 hf4))
   clear hW4 c5 f5' hb5 HK1 h2 hb7 h1 hk4 hf4
   refine wpIn_seq_k fun K2 hK2 => ?_
   have HK2 := Lib.hid hK2
   clear hK2
   refine wpIn_block ?_
   refine wpIn_seq_k fun K3 hK3 => ?_
   have d1 := bC hb74 1
   have d0 := bC hb74 0
   obtain ⟨pv, hm4, hR4⟩ := hst4.m
   have cb := bC hst4.box 0
   have fm : ∀ k, W4.frozen? ⟨M, k, none⟩ = false := fun k => by simp [World.frozen?, hm4]
   have fm3 := fm 3
   have fm2 := fm 2
   have cm3 := bC hm4 3
   have cm2 := bC hm4 2
   have hMl := blk_lt hm4
   obtain ⟨b1, hb1⟩ : ∃ b1, isDots f1 = b1 := ⟨_, rfl⟩
   obtain ⟨b2, hb2⟩ : ∃ b2, isClose e = b2 := ⟨_, rfl⟩
   have HS := Lib.hid (And.intro hst4 (And.intro hm4 (And.intro hR4 (And.intro hb74 fm))))
   clear hst4 hm4 hR4 hb74 fm
   have hb1' : (f1.toList == [46, 46, 46]) = b1 := hb1
   have hb2' : (e.toList == [41]) = b2 := hb2
   have T3 : (b1 && b2) = false → ∀ v26 v27 v28 v29 v30 v31 v32 : Value, K3 { tmps := #[.pointer (some ⟨M, 0, none⟩), .slice A l.length c, .pointer (some ⟨B, 0, none⟩), undef, .int .i64 0, .pointer (some ⟨B + 1, 0, none⟩), .pointer (some ⟨B + 2, 0, none⟩), .pointer (some ⟨B7, 0, none⟩), .string e, u9, u10, u11, u12, u13, u14, u15, u16, u17, u18, .slice A l.length c, .func (.func 50) #[] #[.pointer (some ⟨B + 3, 0, none⟩)], .agg #[.int .i64 f0, .string f1, .string f2, .int .i64 f3, .bool f4, .bool f5], .string e, .int .i64 (2 * (pre.length : Int)), .int .i64 (2 * (pre.length : Int) + 2), .bool false, v26, v27, v28, v29, v30, v31, v32, undef, undef, undef, undef, undef, undef, undef, undef, undef, undef, undef, undef, undef, undef, undef, undef, undef, undef, undef, undef, undef, undef, undef, undef, undef, undef, undef, undef, undef, undef, undef], defers := [] } W4 := by
    intro hbb v26 v27 v28 v29 v30 v31 v32
    refine hK3 _ _ ?_
    refine wpIn_cond_false rfl ?_
    refine wpIn_seq_k fun K4 hK4 => ?_
    obtain ⟨b3, hb3⟩ : ∃ b3, (f0 == 1) = b3 := ⟨_, rfl⟩
    obtain ⟨b4, hb4⟩ : ∃ b4, isComma e = b4 := ⟨_, rfl⟩
    have hb4' : (e.toList == [44]) = b4 := hb4
    have T4 : ∀ v37 v38 v39 v40 v41 v42 v43 v44 v45 v46 v47 : Value, ∀ b, (b3 && (b2 || b4)) = b → K4 { tmps := #[.pointer (some ⟨M, 0, none⟩), .slice A l.length c, .pointer (some ⟨B, 0, none⟩), undef, .int .i64 0, .pointer (some ⟨B + 1, 0, none⟩), .pointer (some ⟨B + 2, 0, none⟩), .pointer (some ⟨B7, 0, none⟩), .string e, u9, u10, u11, u12, u13, u14, u15, u16, u17, u18, .slice A l.length c, .func (.func 50) #[] #[.pointer (some ⟨B + 3, 0, none⟩)], .agg #[.int .i64 f0, .string f1, .string f2, .int .i64 f3, .bool f4, .bool f5], .string e, .int .i64 (2 * (pre.length : Int)), .int .i64 (2 * (pre.length : Int) + 2), .bool false, v26, v27, v28, v29, v30, v31, v32, undef, undef, undef, .bool b, v37, v38, v39, v40, v41, v42, v43, v44, v45, v46, v47, undef, undef, undef, undef, undef, undef, undef, undef, undef, undef, undef, undef, undef, undef, undef, undef], defers := [] } W4 := by
     intro v37 v38 v39 v40 v41 v42 v43 v44 v45 v46 v47 b hb
     refine hK4 _ _ ?_
     cases b with
     | false =>
      refine wpIn_cond_false rfl ?_
      gi_wp2
      exact ⟨rfl, HH.out.2.2, _, _, _, rfl, HH.out.1, .inl ⟨rnd_none hb1 hb2 hb3 hb4 hbb hb _, _, HS.out.1⟩⟩
     | true =>
      refine wpIn_cond_true rfl ?_
      have hneM := Kd.R_ne HS.out.2.2.1 HS.out.2.1 (by decide)
      have hneB := Kd.R_ne HS.out.2.2.1 HS.out.1.box (by decide)
      have hne7 := Kd.R_ne HS.out.2.2.1 HS.out.2.2.2.1 (by decide)
      have hB7l := blk_lt HS.out.2.2.2.1
      have hBl := blk_lt HS.out.1.box
      have hW4s := HS.out.1.size
      have hpM : Kd.string.M W4.drew (B + 4) (fun _ => False) f1 [.string f1] := rfl
      have hstl : st.1.length + 1 ≤ 1000000 := by have := wentOn_len _ _ _ HH.out.1; simp only [List.length_nil] at this; omega
      refine startIn_ (n := 12) (S := fun w' => w'.cell? ⟨B, 0, none⟩ = some (.pointer (some ⟨M, 0, none⟩)) ∧ w'.cell? ⟨M, 2, none⟩ = some pv ∧ w'.cell? ⟨B7, 1, none⟩ = some (.string f1)) (ds := [11]) (fl 0 12) (fun hlo => by obtain ⟨_, _, h⟩ := hlo; exact h) (by kernel_rfl) (by kernel_rfl) rfl rfl ⟨cb, cm2, d1⟩ (fun hHeld => ?_)
      refine pu 5 53 #[false, false, false, false, false, true, false, false, false, false, false, false] ?_
      refine tk 0 48 #[true, false, false, false, false, true, false, false, false, false, false, false] rfl rfl hHeld (by rintro w' ⟨s0, s1, s2⟩; go_simp; with_reducible rfl) ?_
      refine tk 1 49 #[true, true, false, false, false, true, false, false, false, false, false, false] rfl rfl hHeld (by rintro w' ⟨s0, s1, s2⟩; go_simp; with_reducible rfl) ?_
      refine pu 2 50 #[true, true, true, false, false, true, false, false, false, false, false, false] ?_
      refine pu 3 51 #[true, true, true, true, false, true, false, false, false, false, false, false] ?_
      refine tk 4 52 (fl 6 6) rfl rfl hHeld (by rintro w' ⟨s0, s1, s2⟩; go_simp; with_reducible rfl) ?_
      refine tk 6 54 (fl 7 5) rfl rfl hHeld (by rintro w' ⟨s0, s1, s2⟩; go_simp; with_reducible rfl) ?_
      refine one_ (i := 7) (N := some 55) (fl 8 4) rfl rfl (by kernel_rfl) (by decide) (fun K hK => ?_)
      refine value_ (w1 := ?_) (v := ?_) (by rfl) rfl ?_ ?_
      rotate_left 2
      ·go_simp
       constructor
       ·rfl
       ·rfl
      refine hK.out _ _ ⟨(cell_al cb _), (cell_al cm2 _), (cell_al d1 _)⟩ (fun hHeld => ?_)
      clear hK K
      refine norm_ (a' := ?_) ?_ ?_
      rotate_left
      ·show Act.put _ (some 55) _ = _
       simp only [Act.put, sT, sZ, sS, i64_w, i32_w]
       rfl
      refine one_ (i := 8) (N := some 56) (fl 9 3) rfl rfl (by kernel_rfl) (by decide) (fun K hK => ?_)
      refine Kd.R_append_step (P := Tryz.prog) (w0 := W4) (W := W4.drew) Kd.string (B + 4) (by rfl) _ _ 30 9 (.string ⟨#[]⟩) 16 (by rfl) Tryz.underlying30 info9 (by rfl) (by decide) (by decide) pv st.1 f1 [.string f1] (fun _ => True) (fun _ => False) (by rfl) (by rfl) hpM (fun _ h => h.elim) (fun _ _ => trivial) (Kd.R_drew HS.out.2.2.1) (below_drew (Below.refl _ _)) (by simp; omega) (by omega) ?_
      intro v1 w1 hR1 hbl1 hgrow hat
      obtain ⟨A1, c1, rfl⟩ := Kd.R_slice hR1
      have hw0 : w1.cell? ⟨M, 2, none⟩ = some pv := ((hgrow.cell_far _ (by simp; omega) hneM).trans cm2)
      have hwf : w1.frozen? ⟨M, 2, none⟩ = false := (hgrow.frozen_far _ (by simp; omega) hneM).trans (HS.out.2.2.2.2 2)
      have hwb : w1.cell? ⟨B, 0, none⟩ = some (.pointer (some ⟨M, 0, none⟩)) := ((hgrow.cell_far _ (by simp; omega) hneB).trans cb)
      refine hK.out _ _ ⟨hwb, hw0, ((hgrow.cell_far _ (by simp; omega) hne7).trans d1)⟩ (fun hHeld => ?_)
      clear hK K
      refine norm_ (a' := ?_) ?_ ?_
      rotate_left
      ·show Act.put _ (some 56) _ = _
       simp only [Act.put, sT, sZ, sS, i64_w, i32_w]
       rfl
      refine pu 9 57 (fl 10 2) ?_
      refine pu 10 58 (fl 11 1) ?_
      refine last_ (i := 11) (N := none) (fl 12 0) rfl rfl (by kernel_rfl) (by decide) (fun K hK => ?_)
      refine skip_ (w1 := ?_) (by rfl) rfl ?_ ?_
      rotate_left
      ·go_simp
       rfl
      refine hK.out _ _ ?_
      clear hK K
      refine done_ (by kernel_rfl) ?_
      refine HK2.out _ _ ?_
      rw [show st.1.length + 1 = (st.1 ++ [f1]).length by simp]
      have hst5 := HS.out.1.setpar hMB HS.out.2.1 HS.out.2.2.1 hR1 hgrow
      obtain ⟨hk5, ho5⟩ := HS.out.1.setpar_keep (v1 := .slice A1 (st.1 ++ [f1]).length c1) hMB HS.out.2.2.1 hgrow
      obtain ⟨W5, hW5⟩ : ∃ W5, w1.setCell ⟨M, 2, none⟩ (.slice A1 (st.1 ++ [f1]).length c1) = W5 := ⟨_, rfl⟩
      rw [hW5] at hst5 hk5 ho5 ⊢
      have cok := bC hst5.ok 0
      have fok : W5.frozen? ⟨B + 2, 0, none⟩ = false := by simp [World.frozen?, hst5.ok]
      have hokl := blk_lt hst5.ok
      have HF := Lib.hid (And.intro hst5 (And.intro hk5 ho5))
      clear hst5 hk5 ho5 hW5 hw0 hwf hwb hat hgrow hbl1 hR1 hpM hneM hneB hne7 hB7l hBl hW4s cb cm2 cm3 fm3 fm2 d1 d0 hMl
      cases b2 with
      | true =>
       gi_wp2
       exact ⟨rfl, HH.out.2.2.trans ((HF.out.2.2.trans (KeepsOthers.setCell _ _ _)).from _), _, _, _, rfl, HH.out.1, .inr ⟨_, rnd_name hb1 hb2 hb3 hb4 hbb hb _, hb2, HF.out.1.setok hMB true⟩⟩
      | false =>
       gi_wp2
       refine ⟨HH.out.2.2.trans (HF.out.2.2.from _), HH.out.2.1.trans HF.out.2.1, _, went_next HH.out.1 hb2 (rnd_name hb1 hb2 hb3 hb4 hbb hb _), ?_⟩
       rw [List.length_append, List.length_singleton, Int.natCast_add, Int.mul_add]
       exact HF.out.1
    have HT4 := Lib.hid T4
    clear T4 hK4 hb1' hb1
    cases b2 <;> cases b3 <;> cases b4
    all_goals
     gi_wp2
     exact HT4.out _ _ _ _ _ _ _ _ _ _ _ _ rfl
   have HT3 := Lib.hid T3
   clear T3
   cases b1 with
   | false =>
    clear hK3
    gi_wp2
    exact HT3.out rfl _ _ _ _ _ _ _
   | true =>
    cases b2 with
    | false =>
     clear hK3
     gi_wp2
     exact HT3.out rfl _ _ _ _ _ _ _
    | true =>
     have HK3 := Lib.hid hK3
     clear hK3
     gi_wp2
     refine HK3.out _ _ ?_
     refine wpIn_cond_true rfl ?_
     gi_wp2
     refine HK2.out _ _ ?_
     have hst5 := HS.out.1.setmore hMB true
     obtain ⟨W5, hW5⟩ : ∃ W5, W4.setCell ⟨M, 3, none⟩ (.bool true) = W5 := ⟨_, rfl⟩
     have ho5 : KeepsOthers W4 W5 := by rw [← hW5]; exact KeepsOthers.setCell _ _ _
     rw [hW5] at hst5 ⊢
     have cok := bC hst5.ok 0
     have fok : W5.frozen? ⟨B + 2, 0, none⟩ = false := by simp [World.frozen?, hst5.ok]
     have hokl := blk_lt hst5.ok
     have HF := Lib.hid (And.intro hst5 ho5)
     clear hst5 ho5 hW5 cb cm2 cm3 fm3 fm2 d1 d0 hMl
     gi_wp2
     exact ⟨rfl, HH.out.2.2.trans ((HF.out.2.trans (KeepsOthers.setCell _ _ _)).from _), _, _, _, rfl, HH.out.1, .inr ⟨_, rnd_dots hb1 hb2 _, hb2, HF.out.1.setok hMB true⟩⟩
  case done =>
   rintro D xs W hD rfl ⟨st, h1, h2⟩ hK
   have hpn : paramsP l = none := by
    have := parL_went (els l) [] 0 _ _ h1
    rw [List.append_nil, H3.out.2] at this
    rw [this]; rfl
   have cok := bC h2.ok 0
   have HF := Lib.hid (And.intro hpn (And.intro h2 hK))
   clear hpn h2 hK
   gi_wp2
   show bodyPostM _ _ _ _ _ Exit.ret _ _
   refine ⟨by simp, .inl ⟨_, _, rfl, run_takeDeferred HF.out.2.2, ?_⟩⟩
   refine ⟨_, results_tmp rfl _ _ _, ?_⟩
   rw [ParPost, HF.out.1]
   refine ⟨rfl, PSt.below (HF.out.2.1.own hMB (Nat.le_refl _) (grownBy_putObj' W D _) (fun r e => by cases e; exact ⟨by omega, _, HF.out.2.2, rfl⟩))⟩
  case stop =>
   rintro D pre W hD ⟨r, hr⟩ ⟨pre', x, st, rfl, h1, h2⟩ hK
   rw [List.append_assoc, List.singleton_append] at hr
   rcases h2 with ⟨h3, st', h2⟩ | ⟨st', h3, h4, h2⟩
   ·have hpn : paramsP l = none := by rw [← H3.out.2, ← hr]; exact parL_left h1 h3
    have cok := bC h2.ok 0
    have HF := Lib.hid (And.intro hpn (And.intro h2 hK))
    clear hpn h2 hK
    gi_wp2
    show bodyPostM _ _ _ _ _ Exit.ret _ _
    refine ⟨by simp, .inl ⟨_, _, rfl, run_takeDeferred HF.out.2.2, ?_⟩⟩
    refine ⟨_, results_tmp rfl _ _ _, ?_⟩
    rw [ParPost, HF.out.1]
    refine ⟨rfl, PSt.below (HF.out.2.1.own hMB (Nat.le_refl _) (grownBy_putObj' W D _) (fun r e => by cases e; exact ⟨by omega, _, HF.out.2.2, rfl⟩))⟩
   ·have hpn : paramsP l = some (2 * (pre'.length : Int) + 2, st') := by rw [← H3.out.2, ← hr]; exact parL_closed h1 h3 h4
    have cok := bC h2.ok 0
    have cn := bC h2.n 0
    have HF := Lib.hid (And.intro hpn (And.intro h2 hK))
    clear hpn h2 hK
    gi_wp2
    show bodyPostM _ _ _ _ _ Exit.ret _ _
    refine ⟨by simp, .inl ⟨_, _, rfl, run_takeDeferred HF.out.2.2, ?_⟩⟩
    refine ⟨_, results_tmp rfl _ _ _, ?_⟩
    have hown := HF.out.2.1.own hMB (Nat.le_refl _) (grownBy_putObj' W D (.deferred none)) (fun r e => by cases e; exact ⟨by omega, _, HF.out.2.2, rfl⟩)
    rw [ParPost, HF.out.1]
    obtain ⟨v, g1, g2⟩ := hown.m
    exact ⟨⟨rfl, v, g1, Kd.R_lower g2 (by omega)⟩, hown.below⟩
 clear hK
 by_cases hl0 : 0 < l.length
 ·have d1 : decide ((l.length : Int) > 0) = true := decide_eq_true (by omega)
  have d2 : (l.length : Int) > 0 := by omega
  obtain ⟨ad, had, a0, a1, a2, a3, a4, a5⟩ := at_T55 HB.out.1 0 (by omega) (by omega)
  subst had
  obtain ⟨x, hx⟩ : ∃ x, (rT l 0).f1 = x := ⟨_, rfl⟩
  rw [hx] at a1
  simp only [Int.toNat_zero, Nat.zero_mul, Addr.add, if_true] at a1
  clear a0 a2 a3 a4 a5
  cases hcl : isClose x with
  | true =>
   have hcx : (x.toList == [41]) = true := hcl
   have HT := Lib.hid T
   clear T
   have hpp : paramsP l = some (1, [], false) := by
    match l, hl0, hx with
    | t :: r, _, hx =>
     have e1 : t.f1 = x := hx
     rw [paramsP, e1, if_pos hcl]
   have HP := Lib.hid hpp
   clear hpp
   gi_wp2
   show bodyPostM _ _ _ _ _ Exit.ret _ _
   refine ⟨_, results_tmp rfl _ _ _, ?_⟩
   rw [ParPost, HP.out]
   exact ⟨⟨rfl, _, HB.out.2.1, Kd.R_nil _ _ _ _ _⟩, HB.out.2.2.2.1.mono (by omega)⟩
  | false =>
   have hcx : (x.toList == [41]) = false := hcl
   have hnc : ∀ t r, l = t :: r → isClose t.f1 = false := by
    rintro t r rfl
    rw [← hcl, ← hx]; rfl
   have HT := Lib.hid (T hnc)
   clear T
   gi_wp2
   exact HT.out _ _ _ _ _ _ _ _ _ _
 ·have d1 : decide ((l.length : Int) > 0) = false := decide_eq_false (by omega)
  have d2 : ¬ (l.length : Int) > 0 := by omega
  have hnc : ∀ t r, l = t :: r → isClose t.f1 = false := by
   rintro t r rfl
   exact absurd hl0 (by simp)
  have HT := Lib.hid (T hnc)
  clear T
  gi_wp2
  exact HT.out _ _ _ _ _ _ _ _ _ _
end Go.Proofs.YtcbfbefpbjmglaaGreatDoor.Mac
