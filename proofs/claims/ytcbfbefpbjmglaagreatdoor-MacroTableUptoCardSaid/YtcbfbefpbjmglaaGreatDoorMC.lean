import Derived.Test.YtcbfbefpbjmglaaGreatDoorZ
import Derived.Test.YtcbfbefpbjmglaaGreatDoorM10
set_option linter.unusedSimpArgs false
set_option linter.unusedVariables false
namespace Go.Proofs.YtcbfbefpbjmglaaGreatDoor.PA
open Go.RowKit Mac YtcbfbefpbjmglaaGreatDoorT YtcbfbefpbjmglaaGreatDoorW PrintWords PrintLast PrintMore
theorem info9 : (Tryz.prog.info? 9).map (fun i => (i.zero, i.size, i.bytes)) = some (some (.string ⟨#[]⟩), 1, 16) := by kernel_rfl
def slices_Clone_string_string.f (l0 : List ByteArray) : Option (List ByteArray) := if l0.length ≤ 8796093022208 then some l0 else none
theorem repsB (w : World) (base : Nat) (ok : Nat → Prop) (l : List ByteArray) : Reps (Kd.string.M w base ok) Kd.string.sz l (l.map Value.string) := by
 refine ⟨by rw [List.length_map]; show l.length = l.length * 1; omega, fun j p hj => ?_⟩
 show Kd.string.M w base ok p (((l.map Value.string).drop (j * 1)).take 1)
 obtain ⟨hlt, rfl⟩ := List.getElem?_eq_some_iff.1 hj
 rw [Nat.mul_one, List.drop_eq_getElem_cons (by simpa using hlt)]
 simp only [List.getElem_map, List.take_succ_cons, List.take_zero]
 rfl
theorem R_of_row {w : World} {base : Nat} {v : Value} {l : List ByteArray} (h : w.ownsRow base 9 1 v l.length (l.map Value.string)) : Kd.R Kd.string 9 w base (fun _ => True) v l :=
 ⟨fun _ _ => trivial, l.map Value.string, h, repsB _ _ _ _⟩
theorem spot_none {w : World} {a : Addr} {v : Value} (h : w.cell? a = some v) : a = ⟨a.block, a.off, none⟩ := by
 obtain ⟨b, o, sp⟩ := a
 unfold World.cell? at h
 cases sp with
 | none => rfl
 | some x =>
  split at h
  ·simp at h
  ·cases h
theorem cellB {w : World} {A : Option Addr} {l : List ByteArray} {bk o : Nat} (h : Kd.C Kd.string w A l.length l) (hA : A = some ⟨bk, o, none⟩) {k : Nat} (hk : k < l.length) : w.cell? ⟨bk, o + k, none⟩ = some (.string l[k]) := by
 obtain ⟨ad, ha, h1⟩ := str_at h hk
 rw [hA] at ha; cases ha
 unfold Addr.add at h1
 split at h1
 ·rename_i h0; subst h0; exact h1
 ·exact h1
theorem headB {w : World} {ad : Addr} {l : List ByteArray} (h : Kd.C Kd.string w (some ad) l.length l) (hk : 0 < l.length) : ad = ⟨ad.block, ad.off, none⟩ ∧ ad.block < w.heap.size := by
 obtain ⟨ad', ha, h1⟩ := str_at h hk
 cases ha
 unfold Addr.add at h1
 rw [if_pos rfl] at h1
 exact ⟨spot_none h1, cl w _ h1⟩
theorem slices_Clone_string_string.calls (A0 : Option Addr) (c0 : Nat) (l0 : List ByteArray) (r : List ByteArray) (w : World) (hr0 : Kd.C Kd.string w A0 l0.length l0) (hc0 : l0.length ≤ c0) (h : slices_Clone_string_string.f l0 = some r) :
  Calls Tryz.prog 30 #[.slice A0 l0.length c0] w fun e w' => ∃ v, e = .returned v ∧ Kd.R Kd.string 9 w' w.heap.size (fun _ => True) v r ∧ Below w.heap.size w w' := by
 unfold slices_Clone_string_string.f at h
 by_cases hl : l0.length ≤ 8796093022208
 ·rw [if_pos hl] at h
  obtain rfl := Option.some.inj h
  cases A0 with
  | none =>
   have h0 : l0 = [] := by
    cases l0 with
    | nil => rfl
    | cons x l =>
     obtain ⟨ad, ha, _⟩ := str_at hr0 (k := 0) (by simp)
     cases ha
   subst h0
   refine (Tryz.slices_Clone_string_nil _ _ _).mono ?_
   rintro e w' ⟨rfl, rfl⟩
   exact ⟨_, rfl, Kd.R_nil _ _ _ _ _, Below.refl _ _⟩
  | some ad =>
   by_cases h0 : l0.length = 0
   ·have h0' : l0 = [] := List.eq_nil_of_length_eq_zero h0
    subst h0'
    refine (Tryz.slices_Clone_string_zero ad _ _).mono ?_
    rintro e w' ⟨v, rfl, ho, _, hb⟩
    exact ⟨_, rfl, R_of_row ho, hb⟩
   ·obtain ⟨hadn, _⟩ := headB hr0 (by omega)
    rw [hadn]
    refine (Tryz.slices_Clone_string ad.block ad.off l0.length c0 l0 w (Nat.le_refl _) (by omega) (fun j hj => ?_)).mono ?_
    ·rw [cellB hr0 (congrArg some hadn) hj]; simp [hj]
    ·rintro e w' ⟨v, rfl, ho, _, hb⟩
     rw [List.take_length] at ho
     exact ⟨_, rfl, R_of_row ho, hb⟩
 ·rw [if_neg hl] at h; cases h
def fitsJ (l0 : List ByteArray) (s : ByteArray) : Bool := l0.all (fun x => decide (x.size ≤ 1048576)) && (decide (l0.length ≤ 60000000) && decide (s.size ≤ 1048576))
def joinB (l0 : List ByteArray) (s : ByteArray) : ByteArray := ⟨(Lib.join (l0.map (·.data.toList)) s.data.toList).toArray⟩
def strings_Join.f (l0 : List ByteArray) (s : ByteArray) : Option ByteArray := if fitsJ l0 s = true then some (joinB l0 s) else none
theorem join_len (s : List UInt8) (hs : s.length ≤ 1048576) : ∀ l : List (List UInt8), (∀ x ∈ l, x.length ≤ 1048576) → (Lib.join l s).length ≤ l.length * 2097152
 | [], _ => by simp [Lib.join_nil]
 | x :: l, h => by
  rw [Lib.join_cons]
  have hx := h x List.mem_cons_self
  have : ∀ l : List (List UInt8), (∀ x ∈ l, x.length ≤ 1048576) → (Lib.joinTail s l).length ≤ l.length * 2097152 := by
   intro l
   induction l with
   | nil => intro _; simp [Lib.joinTail]
   | cons y l ih =>
    intro h
    have h1 := ih (fun x hx => h x (List.mem_cons_of_mem _ hx))
    have h2 := h y List.mem_cons_self
    unfold Lib.joinTail at h1 ⊢
    rw [List.map_cons, List.flatten_cons, List.length_append, List.length_append, List.length_cons]
    omega
  have h1 := this l (fun x hx => h x (List.mem_cons_of_mem _ hx))
  rw [List.length_append, List.length_cons]
  omega
theorem strings_Join.calls (A0 : Option Addr) (c0 : Nat) (l0 : List ByteArray) (s : ByteArray) (r : ByteArray) (w : World) (hr0 : Kd.C Kd.string w A0 l0.length l0) (hc0 : l0.length ≤ c0) (h : strings_Join.f l0 s = some r) :
  Calls Tryz.prog 31 #[.slice A0 l0.length c0, .string s] w fun e w' => e = .returned (.string r) ∧ Below w.heap.size w w' := by
 unfold strings_Join.f at h
 by_cases hs : fitsJ l0 s = true
 ·rw [if_pos hs] at h
  obtain rfl := Option.some.inj h
  unfold fitsJ at hs
  simp only [Bool.and_eq_true, List.all_eq_true, decide_eq_true_eq] at hs
  by_cases h0 : l0.length = 0
  ·have h0' : l0 = [] := List.eq_nil_of_length_eq_zero h0
   subst h0'
   refine (Tryz.strings_Join_none _ _ _ _).mono ?_
   rintro e w' ⟨rfl, rfl⟩
   exact ⟨rfl, Below.refl _ _⟩
  ·obtain ⟨ad, ha, _⟩ := str_at hr0 (k := 0) (by omega)
   subst ha
   obtain ⟨hadn, hbk⟩ := headB hr0 (by omega)
   rw [hadn]
   have hjl := join_len s.data.toList (by have := hs.2.2; rwa [Lib.size_eq] at this) (l0.map (·.data.toList)) (fun x hx => by
    obtain ⟨y, hy, rfl⟩ := List.mem_map.1 hx
    have := hs.1 y hy
    rwa [Lib.size_eq] at this)
   rw [List.length_map] at hjl
   exact Tryz.strings_Join ad.block ad.off c0 l0 s w (fun j x hj => by obtain ⟨hlt, rfl⟩ := List.getElem?_eq_some_iff.1 hj; exact cellB hr0 (congrArg some hadn) hlt) hbk (by omega) hc0 (by omega)
 ·rw [if_neg hs] at h; cases h
def domM (nm : ByteArray) (ps : List ByteArray) (body : List S55) : Bool := decide (nm.size ≤ 1048576) && (decide (ps.length ≤ 2000000) && (decide (body.length ≤ 1000000) && (ps.all (fun x => decide (x.size ≤ 1048576)) && body.all (fun x => decide (x.f1.size ≤ 1048576)))))
theorem domM_of {nm : ByteArray} {ps : List ByteArray} {body : List S55} (h : domM nm ps body = true) : DomM nm ps body := by
 unfold domM at h
 simp only [Bool.and_eq_true, List.all_eq_true, decide_eq_true_eq] at h
 exact ⟨h.1, h.2.1, h.2.2.1, h.2.2.2.1, h.2.2.2.2⟩
def macro_Right.f (nm : ByteArray) (fn : Bool) (ps : List ByteArray) (more : Bool) (body : List S55) : Option Bool := if domM nm ps body = true then some (rightP nm fn ps more body) else none
theorem macro_Right.calls (a0_0 : ByteArray) (a0_1 : Bool) (A0_2 : Option Addr) (c0_2 : Nat) (l0_2 : List ByteArray) (a0_3 : Bool) (A0_4 : Option Addr) (c0_4 : Nat) (l0_4 : List (S55)) (r : Bool) (w : World) (hr0_2 : Kd.C Kd.string w A0_2 l0_2.length l0_2) (hc0_2 : l0_2.length ≤ c0_2) (hr0_4 : Kd.C k55 w A0_4 l0_4.length l0_4) (hc0_4 : l0_4.length ≤ c0_4) (hT : Tab w) (h : macro_Right.f a0_0 a0_1 l0_2 a0_3 l0_4 = some r) :
  Calls Tryz.prog 21 #[.agg #[.string a0_0, .bool a0_1, .slice A0_2 l0_2.length c0_2, .bool a0_3, .slice A0_4 l0_4.length c0_4]] w fun e w' => e = .returned (.bool r) ∧ Below w.heap.size w w' := by
 unfold macro_Right.f at h
 by_cases hs : domM a0_0 l0_2 l0_4 = true
 ·rw [if_pos hs] at h
  obtain rfl := Option.some.inj h
  exact right_c a0_0 a0_1 a0_3 A0_2 A0_4 c0_2 c0_4 l0_2 l0_4 w hT (domM_of hs) hr0_2 hc0_2 hr0_4 hc0_4
 ·rw [if_neg hs] at h; cases h
def domL (l : List S55) : Bool := decide (l.length ≤ 1000000) && l.all (fun x => decide (x.f1.size ≤ 1048576))
def macP (o : Option MacP) : ByteArray × Bool × List ByteArray × Bool × List S55 × Int := match o with
 | some m => (m.nm, m.fn, m.params, m.more, m.body, 0)
 | none => (⟨#[]⟩, false, [], false, [], 30)
def macro_Parse.f (l : List S55) : Option (ByteArray × Bool × List ByteArray × Bool × List S55 × Int) := if domL l = true then some (macP (parseP l)) else none
theorem macro_Parse.calls (A0 : Option Addr) (c0 : Nat) (l0 : List (S55)) (r1 : ByteArray) (r2 : Bool) (r3 : List ByteArray) (r4 : Bool) (r5 : List S55) (r6 : Int) (w : World) (hr0 : Kd.C k55 w A0 l0.length l0) (hc0 : l0.length ≤ c0) (hT : Tab w) (h : macro_Parse.f l0 = some (r1, r2, r3, r4, r5, r6)) :
  Calls Tryz.prog 6 #[.slice A0 l0.length c0] w fun e w' => ∃ v0_ v1_ : Value, e = .returned (.tuple #[.agg #[.string r1, .bool r2, v0_, .bool r4, v1_], .int .i64 r6]) ∧ Kd.R Kd.string 9 w' w.heap.size (fun _ => True) v0_ r3 ∧ Kd.R k55 55 w' w.heap.size (fun _ => True) v1_ r5 ∧ Below w.heap.size w w' := by
 unfold macro_Parse.f at h
 by_cases hs : domL l0 = true
 ·rw [if_pos hs] at h
  have h := Option.some.inj h
  unfold domL at hs
  simp only [Bool.and_eq_true, List.all_eq_true, decide_eq_true_eq] at hs
  refine (Parse_c A0 c0 l0 w hT hs.1 hs.2 hr0 hc0 trivial).mono ?_
  rintro e w' hp
  unfold ParsePost at hp
  cases hm : parseP l0 with
  | none =>
   rw [hm] at hp h
   obtain ⟨rfl, hb⟩ := hp
   simp only [macP, Prod.mk.injEq] at h
   obtain ⟨rfl, rfl, rfl, rfl, rfl, rfl⟩ := h
   exact ⟨_, _, rfl, Kd.R_nil _ _ _ _ _, Kd.R_nil _ _ _ _ _, hb⟩
  | some m =>
   rw [hm] at hp h
   obtain ⟨⟨vp, vb, rfl, h1, h2⟩, hb⟩ := hp
   simp only [macP, Prod.mk.injEq] at h
   obtain ⟨rfl, rfl, rfl, rfl, rfl, rfl⟩ := h
   exact ⟨_, _, rfl, h1, h2, hb⟩
 ·rw [if_neg hs] at h; cases h
end Go.Proofs.YtcbfbefpbjmglaaGreatDoor.PA
