/- TokenSpells: the law's walk, and its plain side. -/
import Derived.Test.YtinfkbdhnbefmaaDoorPBx0
import Derived.Test.YtinfkbdhnbefmaaDoorPBx2
import Derived.Test.YtinfkbdhnbefmaaDoorPBx14
import Derived.Test.YtinfkbdhnbefmaaDoorSL
namespace Go.Proofs.YtinfkbdhnbefmaaDoor.PB
open Go.RowKit Go.Proofs.YtinfkbdhnbefmaaDoorT Go.Proofs.YtinfkbdhnbefmaaDoorW.PrintWords Go.Proofs.YtinfkbdhnbefmaaDoorW.PrintLast Go.Proofs.YtinfkbdhnbefmaaDoorW.PrintMore
attribute [local go_sem] max2_int min2_int max_two min_two max_three min_three max_four min_four   -- for this text's walks alone
set_option linter.unusedVariables false
set_option linter.unusedSimpArgs false
theorem info34 : (Tryd.prog.info? 34).map (fun i => (i.zero, i.size, i.bytes)) = some (some (.agg #[(.int .i64 0), (.string ⟨#[]⟩), (.string ⟨#[]⟩), (.int .i64 0), (.bool false), (.bool false)]), 6, 56) := by kernel_rfl
theorem shown_true : burinlaw02_shown.f = some true := by kernel_rfl
set_option maxHeartbeats 2000000 in
set_option maxRecDepth 100000 in
theorem spells_calls (k : Nat) (A0 : Option Addr) (c0 : Nat) (l0 : List S34) (w : World) (hr0 : Kd.C k34 w A0 l0.length l0) (hc0 : l0.length ≤ c0) (hT : Tab w) (y : List S34) (t : ByteArray)
    (hy : y = l0.take (min l0.length 5000)) (h1 : token_Spell.f y = some t) (h2 : burinref02_Spell.f k y = some t) :
    Calls Tryd.prog 7 #[.slice A0 l0.length c0] w fun e w' => e = .returned (.bool true) ∧ Below w.heap.size w w' := by
  have hyl : y.length = min l0.length 5000 := by rw [hy, List.length_take]; omega
  obtain ⟨ji3, hji3⟩ : ∃ j : Int, (y.length : Int) = j := ⟨_, rfl⟩
  have hji3_ : (if 5000 < (l0.length : Int) then 5000 else (l0.length : Int)) = ji3 := by split <;> omega
  have hj0 : 0 ≤ ji3 := by omega
  have hj1 : ji3 ≤ (l0.length : Int) := by omega
  have hjn : ji3.toNat = y.length := by omega
  obtain ⟨i0, hi0, _, hsz, _⟩ := info_parts info34
  have hcut := cut_to (P := Tryd.prog) 25 34 .i64 Tryd.underlying25 hi0 A0 l0.length c0 ji3 hj0 hj1 hc0
  have hr1 := Kd.C_take (m := min l0.length 5000) hr0 (by omega)
  rw [← hy] at hr1
  rw [hjn] at hcut
  have hyc : y.length ≤ c0 := by omega
  have hsh := burinlaw02_shown.calls true w hT shown_true
  have c0b := eq_true hj0
  have c1b := eq_true hj1
  have HS := Aside0.mk hsh
  have HC := Aside0.mk (And.intro hr1 hyc)
  have H1 := Aside0.mk h1
  have H2 := Aside0.mk h2
  clear hr0 hc0 hT hy h1 h2 hsh hr1 hyc hi0 hsz hyl hji3 hjn hj0 hj1
  go_enter Tryd.func7, Tryd.ntmps7
  go_wp2_with (first
    | (go_at_call 10; refine HS.out.mono ?_; rintro e w1 ⟨rfl, hb1⟩)
    | (go_at_call 18; refine (token_Spell.calls _ _ y t _ (Kd.C_below HC.out.1 hb1) HC.out.2 H1.out).mono ?_; rintro e w2 ⟨rfl, hb2⟩)
    | (go_at_call 19; refine (burinref02_Spell.calls k _ _ y t _ (Kd.C_below HC.out.1 (below_step hb1 hb2)) HC.out.2 H2.out).mono ?_; rintro e w3 ⟨rfl, hb3⟩))
  go_ret
  exact ⟨rfl, below_step (below_step hb1 hb2) hb3⟩
def spellD : Nat → List S34 → List UInt8
  | _, [] => []
  | i, x :: r => Sp.sepOf (i == 0) x ++ x.f1.data.toList ++ spellD (i + 1) r
theorem spell_items : ∀ (l : List S34) (i : Nat) (L : List S34), L.drop i = l → Sp.spellN ((List.range' i l.length).map fun j => (j, L.getD j z34)) = spellD i l
  | [], i, L, h => rfl
  | x :: r, i, L, h => by
    have hi : i < L.length := by
      rcases Nat.lt_or_ge i L.length with h' | h'
      · exact h'
      · rw [List.drop_eq_nil_of_le h'] at h; cases h
    have h2 := List.drop_eq_getElem_cons hi
    rw [h] at h2
    have hx : L.getD i z34 = x := by rw [List.getD_eq_getElem?_getD, List.getElem?_eq_getElem hi]; exact (List.cons.inj h2).1.symm
    rw [List.length_cons, List.range'_succ, List.map_cons, hx]
    show Sp.sepOf (i == 0) x ++ x.f1.data.toList ++ Sp.spellN _ = _
    rw [spell_items r (i + 1) L (List.cons.inj h2).2.symm]
    rfl
theorem spell_eq (l : List S34) : Sp.spellN (Sp.itemsOf l) = spellD 0 l := by
  rw [← spell_items l 0 l rfl]
  unfold Sp.itemsOf Sp.upto
  rw [List.range_eq_range']
def numsB (l : List UInt8) : List Int := l.map fun c => (c.toNat : Int)
theorem strOf_numsB (l : List UInt8) : strOfNums (numsB l) = ⟨l.toArray⟩ := by
  unfold strOfNums numsB
  rw [List.map_map, List.map_congr_left (g := id) (fun c _ => by simp), List.map_id]
theorem spell_loop (L : List S34) (hL : L.length ≤ 60000000) (hS : ∀ x ∈ L, x.f1.size ≤ 1048576) : ∀ (r : List S34) (i k : Nat) (acc : List UInt8), L.drop i = r → 2 * r.length < k → acc.length ≤ i * 1048577 →
    burinref02_Spell.l0 k L (numsB acc) (i : Int) = some ⟨(acc ++ spellD i r).toArray⟩
  | [], i, k, acc, h, hk, ha => by
    obtain ⟨k, rfl⟩ : ∃ k', k = k' + 1 := ⟨k - 1, by omega⟩
    have hi : L.length ≤ i := by
      rcases Nat.lt_or_ge i L.length with h' | h'
      · have := congrArg List.length h; rw [List.length_drop] at this; simp at this; omega
      · exact h'
    unfold burinref02_Spell.l0
    rw [if_neg (by omega), strOf_numsB]
    simp [spellD]
  | x :: r, i, k, acc, h, hk, ha => by
    rw [List.length_cons] at hk
    obtain ⟨k, rfl⟩ : ∃ k', k = k' + 1 + 1 := ⟨k - 2, by omega⟩
    have hi : i < L.length := by
      rcases Nat.lt_or_ge i L.length with h' | h'
      · exact h'
      · rw [List.drop_eq_nil_of_le h'] at h; cases h
    have h2 := List.drop_eq_getElem_cons hi
    rw [h] at h2
    have hx : rd_T34 L (i : Int) = x := by unfold rd_T34; rw [List.getD_eq_getElem?_getD, Int.toNat_natCast, List.getElem?_eq_getElem hi]; exact (List.cons.inj h2).1.symm
    have hxm : x.f1.size ≤ 1048576 := hS x (by rw [← (List.cons.inj h2).1.symm]; exact List.getElem_mem hi)
    have hw : wrap64 ((i : Int) + 1) = ((i + 1 : Nat) : Int) := by unfold wrap64; omega
    have hsz := Lib.size_eq x.f1
    have ih := fun (sep : List UInt8) (hs : sep.length ≤ 1) => spell_loop L hL hS r (i + 1) k (acc ++ sep ++ x.f1.data.toList) (List.cons.inj h2).2.symm (by omega) (by rw [List.length_append, List.length_append]; omega)
    have hn : ∀ (sep : List UInt8), numsB (acc ++ sep ++ x.f1.data.toList) = numsB acc ++ numsB sep ++ bytesOf x.f1 := fun sep => by simp [numsB, bytesOf]
    have hla : (numsB acc).length = acc.length := by simp [numsB]
    have h6 : i ≤ 60000000 := by omega
    have hda : acc.length ≤ 62914620000000 := by omega
    unfold burinref02_Spell.l0
    rw [if_pos (by omega), hx]
    by_cases h0 : i = 0
    · subst h0
      rw [if_neg (by omega)]
      unfold burinref02_Spell.j1
      rw [if_neg (by decide), if_neg (by omega), if_pos (by omega), if_pos (by omega), hx, if_pos (by rw [hla]; omega), hw]
      have := ih [] (by simp)
      rw [hn] at this
      simp only [numsB, List.map_nil, List.append_nil] at this ⊢
      rw [this]
      simp [spellD, Sp.sepOf]
    · rw [if_pos (by omega), if_pos (by omega)]
      have hib : (i == 0) = false := by simpa using h0
      unfold burinref02_Spell.j1
      cases h5 : x.f5 with
      | true =>
        rw [if_pos rfl, if_pos (by rw [hla]; omega), Option.bind_some, if_pos (by omega), if_pos (by omega), hx, if_pos (by rw [List.length_append, hla]; simp; omega), hw]
        have := ih [10] (by simp)
        rw [hn] at this
        rw [show numsB acc ++ [10] ++ bytesOf x.f1 = numsB acc ++ numsB [10] ++ bytesOf x.f1 from rfl, this]
        simp [spellD, Sp.sepOf, hib, h5]
      | false =>
        rw [if_neg (by decide), if_pos (by omega), if_pos (by omega), if_pos (by omega), hx]
        cases h4 : x.f4 with
        | true =>
          rw [if_pos rfl, if_pos (by rw [hla]; omega), Option.bind_some, if_pos (by rw [List.length_append, hla]; simp; omega), hw]
          have := ih [32] (by simp)
          rw [hn] at this
          rw [show numsB acc ++ [32] ++ bytesOf x.f1 = numsB acc ++ numsB [32] ++ bytesOf x.f1 from rfl, this]
          simp [spellD, Sp.sepOf, hib, h5, h4]
        | false =>
          rw [if_neg (by decide), if_pos (by rw [hla]; omega), hw]
          have := ih [] (by simp)
          rw [hn] at this
          simp only [numsB, List.map_nil, List.append_nil] at this ⊢
          rw [this]
          simp [spellD, Sp.sepOf, hib, h5, h4]
/-- The law's call. -/
theorem spells (A0 : Option Addr) (c0 : Nat) (l0 : List S34) (w : World) (hr0 : Kd.C k34 w A0 l0.length l0) (hc0 : l0.length ≤ c0) (hT : Tab w) (hs : ∀ x ∈ l0, x.f1.size ≤ 1048576) :
    Calls Tryd.prog 7 #[.slice A0 l0.length c0] w fun e w' => e = .returned (.bool true) ∧ Below w.heap.size w w' := by
  obtain ⟨y, hy⟩ : ∃ y, y = l0.take (min l0.length 5000) := ⟨_, rfl⟩
  have hyl : y.length ≤ 5000 := by rw [hy, List.length_take]; omega
  have hys : ∀ x ∈ y, x.f1.size ≤ 1048576 := fun x hx => hs x (by rw [hy] at hx; exact List.mem_of_mem_take hx)
  refine spells_calls 10001 A0 c0 l0 w hr0 hc0 hT y ⟨(Sp.spellN (Sp.itemsOf y)).toArray⟩ hy ?_ ?_
  · unfold token_Spell.f fitsT
    rw [if_pos (by
      rw [Bool.and_eq_true, List.all_eq_true, decide_eq_true_eq]
      exact ⟨fun x hx => decide_eq_true (hys x hx), by omega⟩)]
  · rw [spell_eq]
    exact spell_loop y (by omega) hys y 0 10001 [] rfl (by omega) (by simp)
end Go.Proofs.YtinfkbdhnbefmaaDoor.PB
