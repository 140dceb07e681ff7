/- Plain laws of joined lines: they come back. -/
import Derived.Test.YtgipfcdmhdljgaaPl
import Derived.Test.YtgipfcdmhdljgaaPj
import Derived.Test.YtgipfcdmhdljgaaPBx4
namespace Go.Proofs.Ytgipfcdmhdljgaa.PureB
open Go.RowKit Go.Proofs.Ytgipfcdmhdljgaa.PB Go.Proofs.YtgipfcdmhdljgaaW.PrintWords Go.Proofs.YtgipfcdmhdljgaaW.PrintLast Go.Proofs.YtgipfcdmhdljgaaT
set_option linter.unusedVariables false
set_option linter.unusedSimpArgs false

/-- The lines that a text has. -/
def linesOf (a : ByteArray) : List (Nat × List UInt8) := logical 1 (phys a.data.toList)
theorem text_Lines_eq (a : ByteArray) (h : a.size ≤ 65536) : text_Lines.f a = some ((linesOf a).map toS, 0) := by
  unfold text_Lines.f; rw [if_neg (by omega), lineFold_logical]; rfl
theorem text_Lines_big (a : ByteArray) (h : 65536 < a.size) : text_Lines.f a = some ([], 10) := by
  unfold text_Lines.f; rw [if_pos (by omega)]
theorem text_Physical_eq (a : ByteArray) (h : a.size < 4294967281) : text_Physical.f a = some ((phys a.data.toList).length : Int) := by
  unfold text_Physical.f; rw [if_pos h]
theorem wrap64_id {n : Int} (h0 : -9223372036854775808 ≤ n) (h1 : n ≤ 9223372036854775807) : wrap64 n = n := by unfold wrap64; omega
theorem Same_l0_ok (l : List S32) (hl : l.length ≤ 4611686018427387904) : ∀ (m k i : Nat), i + m = l.length → m < k → burinref01_Same.l0 k l l i = some true := by
  intro m
  induction m with
  | zero =>
    intro k i hi hk
    obtain ⟨k, rfl⟩ : ∃ k', k = k' + 1 := ⟨k - 1, by omega⟩
    rw [burinref01_Same.l0, if_neg (by omega)]
  | succ m ih =>
    intro k i hi hk
    obtain ⟨k, rfl⟩ : ∃ k', k = k' + 1 := ⟨k - 1, by omega⟩
    rw [burinref01_Same.l0, if_pos (by omega), if_pos (by omega), if_pos (by omega), if_neg (by simp), wrap64_id (by omega) (by omega)]
    exact ih k (i + 1) (by omega) (by omega)
theorem Same_ok (l : List S32) (hl : l.length ≤ 4611686018427387904) (k : Nat) (hk : l.length < k) : burinref01_Same.f k l l = some true := by
  unfold burinref01_Same.f
  rw [if_pos rfl]
  exact Same_l0_ok l hl l.length k 0 (by omega) hk
theorem shown_ok (k : Nat) (hk : 3 ≤ k) : burinlaw01_shown.f k = some true := by
  unfold burinlaw01_shown.f
  have e1 : (linesOf ⟨#[97, 92, 10, 98, 10, 99, 10]⟩).map toS = [⟨1, ⟨#[97, 98]⟩⟩, ⟨3, ⟨#[99]⟩⟩] := by
    have : linesOf ⟨#[97, 92, 10, 98, 10, 99, 10]⟩ = [(1, [97, 98]), (3, [99])] := by decide
    rw [this]; rfl
  have e2 : (phys (⟨#[97, 13, 10, 98, 13, 99]⟩ : ByteArray).data.toList).length = 3 := by decide
  rw [text_Lines_eq _ (by decide), text_Physical_eq _ (by decide), e1, e2]
  simp only [Option.bind_some]
  rw [Same_ok _ (by decide) k (by show 2 < k; omega)]
  rfl

/-! ### Bytes -/
def ints (l : List UInt8) : List Int := l.map fun b => (b.toNat : Int)
theorem strOfNums_ints (l : List UInt8) : strOfNums (ints l) = bstr l := by
  unfold strOfNums ints bstr
  congr 2
  rw [List.map_map]
  conv => rhs; rw [← List.map_id l]
  apply List.map_congr_left
  intro b _
  simp
theorem data_bstr (l : List UInt8) : (bstr l).data.toList = l := by simp [bstr]
theorem size_bstr (l : List UInt8) : (bstr l).size = l.length := by rw [Lib.size_eq, data_bstr]
theorem bstr_data (a : ByteArray) : bstr a.data.toList = a := by apply ByteArray.ext; apply Array.ext'; simp [bstr]
theorem bt_get {a : ByteArray} {i : Nat} {b : UInt8} {r : List UInt8} (h : a.data.toList.drop i = b :: r) : bt a (i : Int) = (b.toNat : Int) ∧ i < a.size ∧ a.data.toList.drop (i + 1) = r := by
  have hi : i < a.data.toList.length := by
    rcases Nat.lt_or_ge i a.data.toList.length with h1 | h1
    · exact h1
    · rw [List.drop_eq_nil_of_le h1] at h; cases h
  have hs : i < a.size := by rw [Lib.size_eq]; exact hi
  rw [List.drop_eq_getElem_cons hi] at h
  obtain ⟨h1, h2⟩ := List.cons.inj h
  refine ⟨?_, hs, h2⟩
  unfold bt
  rw [dif_pos (show ((i : Int)).toNat < a.size by simpa using hs)]
  have : a[((i : Int)).toNat]'(by simpa using hs) = b := by rw [← h1]; rfl
  rw [this]
theorem drop_nil {a : ByteArray} {i : Nat} (h : a.data.toList.drop i = []) : a.size ≤ i := by
  rw [Lib.size_eq]; exact List.drop_eq_nil_iff.1 h
theorem toNat_ne {b c : UInt8} (h : b ≠ c) : ¬ ((b.toNat : Int) = (c.toNat : Int)) := fun e => h (UInt8.toNat_inj.1 (by omega))

theorem linesOf_len (a : ByteArray) : (linesOf a).length ≤ a.size := by
  have h1 := (logical_bound (phys a.data.toList) 1).1
  have h2 := phys_len _ a.data.toList (Nat.le_refl _)
  rw [Lib.size_eq]; unfold linesOf; omega

/-! ### TextBack -/
def lineB (l : List S32) (j : Nat) : S32 := rd_T32 l (j : Int)
def okLine (l : List S32) (j : Nat) : Prop := clean (lineB l j).f1.data.toList ∧ (j = 0 → (lineB l j).f0 = 1) ∧ (0 < j → (lineB l (j - 1)).f0 < (lineB l j).f0 ∧ (lineB l j).f0 ≤ 1000000)
def need : List S32 → Nat
  | [] => 1
  | x :: r => x.f1.size + 4 + need r
theorem Plain_j2 (l : List S32) (hl : l.length ≤ 500) (i : Nat) (hi : i < l.length) (k : Nat) (P : Prop) (hrest : ∃ b, burinref01_Plain.l0 k l ((i + 1 : Nat) : Int) = some b ∧ (b = true → P)) :
    (burinref01_Plain.j2 (k + 1) l (i : Int) true = some false) ∧
    ∃ b, burinref01_Plain.j2 (k + 1) l (i : Int) false = some b ∧ (b = true → P ∧ (i = 0 → (lineB l i).f0 = 1) ∧ (0 < i → (lineB l (i - 1)).f0 < (lineB l i).f0 ∧ (lineB l i).f0 ≤ 1000000)) := by
  obtain ⟨b, hb, hP⟩ := hrest
  have hw : wrap64 ((i : Int) + 1) = ((i + 1 : Nat) : Int) := by rw [wrap64_id (by omega) (by omega)]; omega
  refine ⟨by rw [burinref01_Plain.j2, if_pos rfl], ?_⟩
  rw [burinref01_Plain.j2, if_neg (by decide), hw]
  by_cases h0 : i = 0
  · subst h0
    rw [if_pos (by rfl), if_pos (by omega), if_pos (by omega)]
    by_cases h1 : (rd_T32 l ((0 : Nat) : Int)).f0 = 1
    · rw [if_pos h1, if_neg (by omega), hb]
      exact ⟨b, rfl, fun e => ⟨hP e, fun _ => h1, fun h => absurd h (by omega)⟩⟩
    · rw [if_neg h1]; exact ⟨false, rfl, fun e => by cases e⟩
  · have hm : wrap64 ((i : Int) - 1) = ((i - 1 : Nat) : Int) := by rw [wrap64_id (by omega) (by omega)]; omega
    rw [if_neg (by omega), if_pos (by omega), if_pos (by omega), if_pos (by omega), hm, if_pos (by omega), if_pos (by omega)]
    by_cases h1 : (rd_T32 l (i : Int)).f0 ≤ (rd_T32 l ((i - 1 : Nat) : Int)).f0
    · rw [if_pos h1]; exact ⟨false, rfl, fun e => by cases e⟩
    · rw [if_neg h1]
      by_cases h2 : (rd_T32 l (i : Int)).f0 > 1000000
      · rw [if_pos h2]; exact ⟨false, rfl, fun e => by cases e⟩
      · rw [if_neg h2, hb]
        exact ⟨b, rfl, fun e => ⟨hP e, fun h => absurd h h0, fun _ => ⟨by show (rd_T32 l ((i - 1 : Nat) : Int)).f0 < (rd_T32 l (i : Int)).f0; omega, by show (rd_T32 l (i : Int)).f0 ≤ _; omega⟩⟩⟩
theorem Plain_l1 (l : List S32) (hl : l.length ≤ 500) (i : Nat) (hi : i < l.length) (s : ByteArray) (hs : s.size ≤ 9223372036854775807) (N : Nat) (P : Prop) (hrest : ∀ k, N ≤ k → ∃ b, burinref01_Plain.l0 k l ((i + 1 : Nat) : Int) = some b ∧ (b = true → P)) :
    ∀ (m k q : Nat) (r : List UInt8), s.data.toList.drop q = r → r.length = m → m + 2 + N ≤ k → (∀ b ∈ s.data.toList.take q, isEnd b = false) →
    ∃ b, burinref01_Plain.l1 k l (i : Int) s (q : Int) = some b ∧ (b = true → clean s.data.toList ∧ P ∧ (i = 0 → (lineB l i).f0 = 1) ∧ (0 < i → (lineB l (i - 1)).f0 < (lineB l i).f0 ∧ (lineB l i).f0 ≤ 1000000)) := by
  intro m
  induction m with
  | zero =>
    intro k q r hd hr hk ht
    obtain ⟨k, rfl⟩ : ∃ k', k = k' + 2 := ⟨k - 2, by omega⟩
    obtain rfl : r = [] := List.eq_nil_of_length_eq_zero hr
    have hq := drop_nil hd
    have hno : ∀ b ∈ s.data.toList, isEnd b = false := by
      rw [List.take_of_length_le (by rw [← Lib.size_eq]; exact hq)] at ht; exact ht
    obtain ⟨j1, b, j2, j3⟩ := Plain_j2 l hl i hi k P (hrest k (by omega))
    have hlen : s.data.toList.length = s.size := (Lib.size_eq s).symm
    rw [burinref01_Plain.l1, if_neg (by omega)]
    by_cases h0 : (s.size : Int) > 0
    · obtain ⟨z, hz⟩ : ∃ z, s.size = z + 1 := ⟨s.size - 1, by omega⟩
      have hm : wrap64 ((s.size : Int) - 1) = (z : Int) := by rw [wrap64_id (by omega) (by omega)]; omega
      have hzl : z < s.data.toList.length := by omega
      have hdz := List.drop_eq_getElem_cons hzl
      obtain ⟨g1, _, _⟩ := bt_get hdz
      have hsnoc : s.data.toList = s.data.toList.take z ++ [s.data.toList[z]] := by
        conv => lhs; rw [← List.take_append_drop z s.data.toList, hdz]
        rw [List.drop_eq_nil_of_le (by omega)]
      rw [if_pos h0, hm, if_pos (by omega), if_pos (by omega), g1]
      obtain ⟨c, hc⟩ : ∃ c, s.data.toList[z] = c := ⟨_, rfl⟩
      rw [hc] at hsnoc ⊢
      by_cases h92 : c = 92
      · rw [if_pos (by rw [h92]; rfl)]
        refine ⟨false, ?_, fun e => by cases e⟩
        split
        · rename_i he; rw [show ((i : Int) == wrap64 ((l.length : Int) - 1)) = true from beq_iff_eq.2 he]; exact j1
        · exact j1
      · rw [if_neg (show ¬ ((c.toNat : Int) = 92) from toNat_ne h92)]
        refine ⟨b, j2, fun e => ⟨⟨hno, ?_⟩, j3 e⟩⟩
        cases hsu : Lib.hasSuffix s.data.toList [92] with
        | false => rfl
        | true =>
          obtain ⟨y, hy⟩ := (hasSuffix_iff _).1 hsu
          rw [hy] at hsnoc
          obtain ⟨_, hcc⟩ := List.append_inj' hsnoc rfl
          exact absurd (by simpa using hcc.symm) h92
    · rw [if_neg h0]
      have he : s.data.toList = [] := List.eq_nil_of_length_eq_zero (by omega)
      exact ⟨b, j2, fun e => ⟨⟨hno, by rw [he]; rfl⟩, j3 e⟩⟩
  | succ m ih =>
    intro k q r hd hr hk ht
    obtain ⟨k, rfl⟩ : ∃ k', k = k' + 1 := ⟨k - 1, by omega⟩
    cases r with
    | nil => cases hr
    | cons c r =>
      obtain ⟨h1, h2, h3⟩ := bt_get hd
      have hr' : r.length = m := by simpa using hr
      rw [burinref01_Plain.l1, if_pos (by omega), if_pos (by omega), h1]
      by_cases h13 : c = 13
      · rw [if_pos (by rw [h13]; rfl)]; exact ⟨false, rfl, fun e => by cases e⟩
      rw [if_neg (show ¬ ((c.toNat : Int) = 13) from toNat_ne h13)]
      by_cases h10 : c = 10
      · rw [if_pos (by rw [h10]; rfl)]; exact ⟨false, rfl, fun e => by cases e⟩
      rw [if_neg (show ¬ ((c.toNat : Int) = 10) from toNat_ne h10), wrap64_id (by omega) (by omega), show (q : Int) + 1 = ((q + 1 : Nat) : Int) by omega]
      refine ih k (q + 1) r h3 hr' (by omega) ?_
      have hlt : q < s.data.toList.length := by rw [← Lib.size_eq]; exact h2
      have hcq : s.data.toList[q] = c := by
        rw [List.drop_eq_getElem_cons hlt] at hd; exact (List.cons.inj hd).1
      rw [List.take_add_one, List.getElem?_eq_getElem hlt, hcq]
      intro b hb
      rcases List.mem_append.1 hb with hb | hb
      · exact ht b hb
      · simp at hb; subst hb; simp [isEnd, h13, h10]
theorem lineB_get {l : List S32} {i : Nat} {x : S32} {r : List S32} (h : l.drop i = x :: r) : lineB l i = x ∧ i < l.length ∧ l.drop (i + 1) = r := by
  have hi : i < l.length := by
    rcases Nat.lt_or_ge i l.length with h1 | h1
    · exact h1
    · rw [List.drop_eq_nil_of_le h1] at h; cases h
  rw [List.drop_eq_getElem_cons hi] at h
  obtain ⟨h1, h2⟩ := List.cons.inj h
  refine ⟨?_, hi, h2⟩
  unfold lineB rd_T32
  rw [List.getD_eq_getElem?_getD]; simp [hi, h1]
theorem Plain_l0 (l : List S32) (hl : l.length ≤ 500) (hsz : ∀ x ∈ l, x.f1.size ≤ 9223372036854775807) : ∀ (r : List S32) (k i : Nat), l.drop i = r → need r ≤ k →
    ∃ b, burinref01_Plain.l0 k l (i : Int) = some b ∧ (b = true → ∀ j, i ≤ j → j < l.length → okLine l j) := by
  intro r
  induction r with
  | nil =>
    intro k i hd hk
    obtain ⟨k, rfl⟩ : ∃ k', k = k' + 1 := ⟨k - 1, by simp [need] at hk; omega⟩
    have hi := List.drop_eq_nil_iff.1 hd
    rw [burinref01_Plain.l0, if_neg (by omega)]
    exact ⟨true, rfl, fun _ j h1 h2 => by omega⟩
  | cons x r ih =>
    intro k i hd hk
    obtain ⟨k, rfl⟩ : ∃ k', k = k' + 1 := ⟨k - 1, by simp [need] at hk; omega⟩
    obtain ⟨h1, h2, h3⟩ := lineB_get hd
    simp only [need] at hk
    have hx : rd_T32 l (i : Int) = x := h1
    have hmem : x ∈ l := by
      have : x ∈ l.drop i := by rw [hd]; exact List.mem_cons_self
      exact List.mem_of_mem_drop this
    rw [burinref01_Plain.l0, if_pos (by omega), if_pos (by omega), hx]
    obtain ⟨b, hb, hb2⟩ := Plain_l1 l hl i h2 x.f1 (hsz x hmem) (need r) (∀ j, i + 1 ≤ j → j < l.length → okLine l j) (fun k hk => ih k (i + 1) h3 hk) x.f1.size k 0 x.f1.data.toList rfl (Lib.size_eq x.f1).symm (by omega) (by simp)
    refine ⟨b, hb, fun e j hij hj => ?_⟩
    obtain ⟨g1, g2, g3⟩ := hb2 e
    by_cases hji : j = i
    · subst hji; exact ⟨by rw [h1]; exact g1, g3⟩
    · exact g2 j (by omega) hj
theorem chain_of (l : List S32) (hok : ∀ j, j < l.length → okLine l j) (hgap : ∀ j, j < l.length → (lineB l j).f1.size ≤ 100 ∧ (0 < j → (lineB l j).f0 - (lineB l (j - 1)).f0 ≤ 3)) : ∀ (r : List S32) (i : Nat) (a : Int), l.drop i = r → (i < l.length → (lineB l i).f0 = a) → chain a (pairs r) := by
  intro r
  induction r with
  | nil => intro i a _ _; exact trivial
  | cons x r ih =>
    intro i a hd ha
    obtain ⟨h1, h2, h3⟩ := lineB_get hd
    have hxa : x.f0 = a := by rw [← h1]; exact ha h2
    obtain ⟨o1, o2, o3⟩ := hok i h2
    rw [h1] at o1
    have hnext : ∀ y, (pairs r).head? = some y → a < y.1 ∧ y.1 - a ≤ 3 ∧ i + 1 < l.length ∧ (lineB l (i + 1)).f0 = y.1 := fun y hy => by
      cases r with
      | nil => cases hy
      | cons z r =>
        obtain ⟨g1, g2, g3⟩ := lineB_get h3
        obtain rfl : (z.f0, z.f1) = y := by simpa [pairs] using hy
        obtain ⟨p1, p2, p3⟩ := hok (i + 1) g2
        have q3 := (hgap (i + 1) g2).2 (by omega)
        have p4 := (p3 (by omega)).1
        rw [Nat.add_sub_cancel, h1, g1, hxa] at q3 p4
        exact ⟨p4, q3, g2, by rw [g1]⟩
    refine ⟨hxa, o1, by have := (hgap i h2).1; rw [h1] at this; exact this, fun y hy => ⟨(hnext y hy).1, (hnext y hy).2.1⟩, ?_⟩
    refine ih (i + 1) _ h3 (fun hlt => ?_)
    cases r with
    | nil => rw [List.drop_eq_nil_iff] at h3; omega
    | cons z r =>
      obtain ⟨n1, n2, n3, n4⟩ := hnext (z.f0, z.f1) rfl
      rw [n4]
      show z.f0 = a + 1 + ((z.f0 - (a + 1)).toNat : Int)
      have n1' : a < z.f0 := n1
      omega
theorem chain_pos : ∀ (r : List (Int × ByteArray)) (a : Int), 0 ≤ a → chain a r → ∀ x ∈ r, 0 ≤ x.1
  | [], _, _, _, x, hx => by cases hx
  | y :: r, a, ha, ⟨h1, h2, h3, h4, h5⟩, x, hx => by
    rcases List.mem_cons.1 hx with rfl | hx
    · omega
    · exact chain_pos r _ (by omega) h5 x hx
theorem back_lines (l : List S32) (hc : chain 1 (pairs l)) : (linesOf ⟨(joinR 1 (pairs l)).toArray⟩).map toS = l := by
  have h := join_back (pairs l) 1 hc
  have hp := chain_pos _ _ (by decide) hc
  unfold linesOf
  have e : (⟨(joinR 1 (pairs l)).toArray⟩ : ByteArray).data.toList = joinR 1 (pairs l) := by simp
  rw [e]
  have h' : logical 1 (phys (joinR 1 (pairs l))) = (pairs l).map (fun x => (x.1.toNat, x.2.data.toList)) := h
  rw [h', pairs, List.map_map, List.map_map]
  conv => rhs; rw [← List.map_id l]
  apply List.map_congr_left
  intro x hx
  have h0 : 0 ≤ x.f0 := hp (x.f0, x.f1) (List.mem_map.2 ⟨x, hx, rfl⟩)
  show toS (x.f0.toNat, x.f1.data.toList) = x
  unfold toS
  rw [bstr_data, Int.toNat_of_nonneg h0]
theorem Back_l0 (l : List S32) (hl : l.length ≤ 500) (hok : ∀ j, j < l.length → okLine l j) : ∀ (m k i : Nat), i + m = l.length → m + 600 < k →
    (∀ j, j < i → (lineB l j).f1.size ≤ 100 ∧ (0 < j → (lineB l j).f0 - (lineB l (j - 1)).f0 ≤ 3)) → burinlaw01_TextBack.l0 k l true (i : Int) = some true := by
  intro m
  induction m with
  | zero =>
    intro k i hi hk hg
    obtain ⟨k, rfl⟩ : ∃ k', k = k' + 1 := ⟨k - 1, by omega⟩
    have hc : chain 1 (pairs l) := chain_of l hok (fun j hj => hg j (by omega)) l 0 1 rfl (fun h => (hok 0 h).2.1 rfl)
    have hlen := join_len _ _ hc
    have hpl : (pairs l).length = l.length := by simp [pairs]
    have hle : (joinR 1 (pairs l)).length ≤ 65536 := by omega
    obtain ⟨t, ht⟩ : ∃ t, t = (⟨(joinR 1 (pairs l)).toArray⟩ : ByteArray) := ⟨_, rfl⟩
    have hts : t.size ≤ 65536 := by rw [ht, Lib.size_eq]; simpa using hle
    have hJ : text_Join.f l = some t := by unfold text_Join.f; rw [if_pos hle, ht]
    have hB : (linesOf t).map toS = l := by rw [ht]; exact back_lines l hc
    rw [burinlaw01_TextBack.l0, if_neg (by omega), hJ, Option.bind_some, text_Lines_eq t hts, Option.bind_some, if_pos rfl, if_pos rfl, hB, Same_ok l (by omega) k (by omega), Option.bind_some]
  | succ m ih =>
    intro k i hi hk hg
    obtain ⟨k, rfl⟩ : ∃ k', k = k' + 1 := ⟨k - 1, by omega⟩
    have hw : wrap64 ((i : Int) + 1) = ((i + 1 : Nat) : Int) := by rw [wrap64_id (by omega) (by omega)]; omega
    rw [burinlaw01_TextBack.l0, if_pos (by omega), if_pos (by omega), hw]
    by_cases h1 : ((rd_T32 l (i : Int)).f1.size : Int) > 100
    · rw [if_pos h1]
    rw [if_neg h1]
    by_cases h0 : i = 0
    · subst h0
      rw [if_neg (by omega)]
      refine ih k 1 (by omega) (by omega) (fun j hj => ?_)
      obtain rfl : j = 0 := by omega
      refine ⟨?_, fun h => absurd h (by omega)⟩
      show (rd_T32 l ((0 : Nat) : Int)).f1.size ≤ 100
      omega
    · have hm : wrap64 ((i : Int) - 1) = ((i - 1 : Nat) : Int) := by rw [wrap64_id (by omega) (by omega)]; omega
      rw [if_pos (by omega), hm, if_pos (by omega), if_pos (by omega)]
      obtain ⟨o1, o2, o3⟩ := hok i (by omega)
      obtain ⟨p1, p2, p3⟩ := hok (i - 1) (by omega)
      obtain ⟨o4, o5⟩ := o3 (by omega)
      have hlow : 1 ≤ (lineB l (i - 1)).f0 := by
        have key : ∀ j, j < l.length → 1 ≤ (lineB l j).f0 := by
          intro j
          induction j with
          | zero => intro hj; have := (hok 0 hj).2.1 rfl; omega
          | succ j ihj => intro hj; have h1 := ihj (by omega); have := ((hok (j + 1) hj).2.2 (by omega)).1; rw [Nat.add_sub_cancel] at this; omega
        exact key (i - 1) (by omega)
      have e1 : rd_T32 l (i : Int) = lineB l i := rfl
      have e2 : rd_T32 l ((i - 1 : Nat) : Int) = lineB l (i - 1) := rfl
      rw [e1, e2, wrap64_id (by omega) (by omega)]
      by_cases h3 : (lineB l i).f0 - (lineB l (i - 1)).f0 > 3
      · rw [if_pos h3]
      · rw [if_neg h3]
        refine ih k (i + 1) (by omega) (by omega) (fun j hj => ?_)
        by_cases hji : j = i
        · subst hji; exact ⟨by show (rd_T32 l _).f1.size ≤ 100; omega, fun _ => by omega⟩
        · exact hg j (by omega)
theorem TextBack (l0 : List S32) (hlen : l0.length ≤ 9223372036854775807) (hsz : ∀ x ∈ l0, x.f1.size ≤ 9223372036854775807) : ∃ k, burinlaw01_TextBack.f k l0 = some true := by
  obtain ⟨l, hl⟩ : ∃ l, l0.take (mn (l0.length : Int) 500).toNat = l := ⟨_, rfl⟩
  have hmn : 0 ≤ mn (l0.length : Int) 500 ∧ mn (l0.length : Int) 500 ≤ (l0.length : Int) ∧ mn (l0.length : Int) 500 ≤ 500 := by unfold mn; split <;> omega
  have hll : l.length ≤ 500 := by rw [← hl, List.length_take]; omega
  have hls : ∀ x ∈ l, x.f1.size ≤ 9223372036854775807 := fun x hx => hsz x (by rw [← hl] at hx; exact List.mem_of_mem_take hx)
  refine ⟨need l + 2000, ?_⟩
  unfold burinlaw01_TextBack.f
  rw [shown_ok _ (by omega), Option.bind_some, if_pos hmn.1, if_pos hmn.2.1, hl, Option.bind_some]
  obtain ⟨b, hb, hb2⟩ := Plain_l0 l hll hls l (need l + 2000) 0 rfl (by omega)
  have hb' : burinref01_Plain.f (need l + 2000) l = some b := hb
  rw [hb', Option.bind_some]
  cases b with
  | false => rfl
  | true =>
    rw [if_pos rfl]
    exact Back_l0 l hll (fun j hj => hb2 rfl j (Nat.zero_le _) hj) l.length _ 0 (by omega) (by omega) (fun j hj => absurd hj (Nat.not_lt_zero j))
end Go.Proofs.Ytgipfcdmhdljgaa.PureB
