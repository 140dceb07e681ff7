/- Plain laws of lines: what the program's text.Lines and the reference's come to, and the statements' sentences over them. -/
import Derived.Test.YtgipfcdmhdljgaaPl
import Derived.Test.YtgipfcdmhdljgaaPAx4
import Derived.Test.YtgipfcdmhdljgaaPAx5
import Derived.Test.YtgipfcdmhdljgaaPAx6
namespace Go.Proofs.Ytgipfcdmhdljgaa.Pure
open Go.RowKit Go.Proofs.Ytgipfcdmhdljgaa.PA Go.Proofs.YtgipfcdmhdljgaaW.PrintWords Go.Proofs.YtgipfcdmhdljgaaW.PrintLast Go.Proofs.YtgipfcdmhdljgaaT
set_option linter.unusedVariables false
set_option linter.unusedSimpArgs false

/-- The lines that a text has. -/
def linesOf (a : ByteArray) : List (Nat × List UInt8) := logical 1 (phys a.data.toList)
theorem text_Lines_eq (a : ByteArray) (h : a.size ≤ 65536) : text_Lines.f a = some ((linesOf a).map toS, 0) := by
  unfold text_Lines.f; rw [if_neg (by omega), lineFold_logical]; rfl
theorem text_Lines_big (a : ByteArray) (h : 65536 < a.size) : text_Lines.f a = some ([], 10) := by
  unfold text_Lines.f; rw [if_pos (by omega)]
theorem text_Physical_eq (a : ByteArray) (h : a.size < 4294967281) : text_Physical.f a = some ((phys a.data.toList).length : Int) := by
  unfold text_Physical.f; rw [if_pos h]
theorem wrap64_id {n : Int} (h0 : -9223372036854775808 ≤ n) (h1 : n ≤ 9223372036854775807) : wrap64 n = n := by unfold wrap64; omega
theorem Same_l0_ok (l : List S32) (hl : l.length ≤ 4611686018427387904) : ∀ (m k i : Nat), i + m = l.length → m < k → burinref01_Same.l0 k l l i = some true := by
  intro m
  induction m with
  | zero =>
    intro k i hi hk
    obtain ⟨k, rfl⟩ : ∃ k', k = k' + 1 := ⟨k - 1, by omega⟩
    rw [burinref01_Same.l0, if_neg (by omega)]
  | succ m ih =>
    intro k i hi hk
    obtain ⟨k, rfl⟩ : ∃ k', k = k' + 1 := ⟨k - 1, by omega⟩
    rw [burinref01_Same.l0, if_pos (by omega), if_pos (by omega), if_pos (by omega), if_neg (by simp), wrap64_id (by omega) (by omega)]
    exact ih k (i + 1) (by omega) (by omega)
theorem Same_ok (l : List S32) (hl : l.length ≤ 4611686018427387904) (k : Nat) (hk : l.length < k) : burinref01_Same.f k l l = some true := by
  unfold burinref01_Same.f
  rw [if_pos rfl]
  exact Same_l0_ok l hl l.length k 0 (by omega) hk
theorem shown_ok (k : Nat) (hk : 3 ≤ k) : burinlaw01_shown.f k = some true := by
  unfold burinlaw01_shown.f
  have e1 : (linesOf ⟨#[97, 92, 10, 98, 10, 99, 10]⟩).map toS = [⟨1, ⟨#[97, 98]⟩⟩, ⟨3, ⟨#[99]⟩⟩] := by
    have : linesOf ⟨#[97, 92, 10, 98, 10, 99, 10]⟩ = [(1, [97, 98]), (3, [99])] := by decide
    rw [this]; rfl
  have e2 : (phys (⟨#[97, 13, 10, 98, 13, 99]⟩ : ByteArray).data.toList).length = 3 := by decide
  rw [text_Lines_eq _ (by decide), text_Physical_eq _ (by decide), e1, e2]
  simp only [Option.bind_some]
  rw [Same_ok _ (by decide) k (by show 2 < k; omega)]
  rfl

/-! ### Bytes -/
def ints (l : List UInt8) : List Int := l.map fun b => (b.toNat : Int)
theorem strOfNums_ints (l : List UInt8) : strOfNums (ints l) = bstr l := by
  unfold strOfNums ints bstr
  congr 2
  rw [List.map_map]
  conv => rhs; rw [← List.map_id l]
  apply List.map_congr_left
  intro b _
  simp
theorem data_bstr (l : List UInt8) : (bstr l).data.toList = l := by simp [bstr]
theorem size_bstr (l : List UInt8) : (bstr l).size = l.length := by rw [Lib.size_eq, data_bstr]
theorem bstr_data (a : ByteArray) : bstr a.data.toList = a := by apply ByteArray.ext; apply Array.ext'; simp [bstr]
theorem bt_get {a : ByteArray} {i : Nat} {b : UInt8} {r : List UInt8} (h : a.data.toList.drop i = b :: r) : bt a (i : Int) = (b.toNat : Int) ∧ i < a.size ∧ a.data.toList.drop (i + 1) = r := by
  have hi : i < a.data.toList.length := by
    rcases Nat.lt_or_ge i a.data.toList.length with h1 | h1
    · exact h1
    · rw [List.drop_eq_nil_of_le h1] at h; cases h
  have hs : i < a.size := by rw [Lib.size_eq]; exact hi
  rw [List.drop_eq_getElem_cons hi] at h
  obtain ⟨h1, h2⟩ := List.cons.inj h
  refine ⟨?_, hs, h2⟩
  unfold bt
  rw [dif_pos (show ((i : Int)).toNat < a.size by simpa using hs)]
  have : a[((i : Int)).toNat]'(by simpa using hs) = b := by rw [← h1]; rfl
  rw [this]
theorem drop_nil {a : ByteArray} {i : Nat} (h : a.data.toList.drop i = []) : a.size ≤ i := by
  rw [Lib.size_eq]; exact List.drop_eq_nil_iff.1 h
theorem toNat_ne {b c : UInt8} (h : b ≠ c) : ¬ ((b.toNat : Int) = (c.toNat : Int)) := fun e => h (UInt8.toNat_inj.1 (by omega))

/-! ### TextEnds -/
def endOf (kind : Int) (b : UInt8) : List UInt8 := if b = 10 then (if kind = 1 then [13, 10] else [13]) else [b]
def endsOf (kind : Int) (l : List UInt8) : List UInt8 := l.flatMap (endOf kind)
theorem ends_l0 (a : ByteArray) (kind : Int) (hs : a.size ≤ 30000) : ∀ (m k i : Nat) (acc : List UInt8) (r : List UInt8), a.data.toList.drop i = r → r.length = m → m < k → acc.length + 2 * m ≤ 140737488355000 →
    burinlaw01_ends.l0 k a kind (ints acc) (i : Int) = some (bstr (acc ++ endsOf kind r)) := by
  intro m
  induction m with
  | zero =>
    intro k i acc r hd hr hk hb
    obtain ⟨k, rfl⟩ : ∃ k', k = k' + 1 := ⟨k - 1, by omega⟩
    obtain rfl : r = [] := List.eq_nil_of_length_eq_zero hr
    have := drop_nil hd
    rw [burinlaw01_ends.l0, if_neg (by omega), strOfNums_ints]
    simp [endsOf]
  | succ m ih =>
    intro k i acc r hd hr hk hb
    obtain ⟨k, rfl⟩ : ∃ k', k = k' + 1 := ⟨k - 1, by omega⟩
    cases r with
    | nil => cases hr
    | cons b r =>
      obtain ⟨h1, h2, h3⟩ := bt_get hd
      have hr' : r.length = m := by simpa using hr
      have hil : (ints acc).length = acc.length := by simp [ints]
      rw [burinlaw01_ends.l0, if_pos (by omega), if_pos (by omega), h1, wrap64_id (by omega) (by omega)]
      have hi : (i : Int) + 1 = ((i + 1 : Nat) : Int) := by omega
      rw [hi]
      by_cases hb10 : b = 10
      · subst hb10
        rw [if_pos (by rfl), if_pos (by omega)]
        simp only [Option.bind_some]
        by_cases hk1 : kind = 1
        · rw [if_pos hk1, if_pos (by simp [ints]; omega)]
          have := ih k (i + 1) (acc ++ [13, 10]) r h3 hr' (by omega) (by simp; omega)
          rw [show ints acc ++ [13] ++ [10] = ints (acc ++ [13, 10]) by simp [ints], this]
          simp [endsOf, endOf, hk1]
        · rw [if_neg hk1]
          have := ih k (i + 1) (acc ++ [13]) r h3 hr' (by omega) (by simp; omega)
          rw [show ints acc ++ [13] = ints (acc ++ [13]) by simp [ints], this]
          simp [endsOf, endOf, hk1]
      · rw [if_neg (show ¬ ((b.toNat : Int) = 10) from toNat_ne hb10), if_pos (by omega)]
        have := ih k (i + 1) (acc ++ [b]) r h3 hr' (by omega) (by simp; omega)
        rw [show ints acc ++ [(b.toNat : Int)] = ints (acc ++ [b]) by simp [ints], this]
        simp [endsOf, endOf, hb10]
theorem ends_ok (a : ByteArray) (kind : Int) (hs : a.size ≤ 30000) (k : Nat) (hk : a.size < k) : burinlaw01_ends.f k a kind = some (bstr (endsOf kind a.data.toList)) := by
  have := ends_l0 a kind hs a.size k 0 [] a.data.toList rfl (Lib.size_eq a).symm hk (by simp; omega)
  simpa [burinlaw01_ends.f, ints] using this
theorem endsOf_len (kind : Int) (l : List UInt8) : (endsOf kind l).length ≤ 2 * l.length := by
  induction l with
  | nil => simp [endsOf]
  | cons b l ih =>
    have : (endOf kind b).length ≤ 2 := by unfold endOf; split <;> (try split) <;> simp
    simp only [endsOf, List.flatMap_cons, List.length_append, List.length_cons] at ih ⊢; omega
theorem endsOf_head (kind : Int) (l : List UInt8) : (endsOf kind l).head? ≠ some 10 := by
  cases l with
  | nil => simp [endsOf]
  | cons b l =>
    simp only [endsOf, List.flatMap_cons, endOf]
    split
    · split <;> simp
    · rename_i h; simpa using h
theorem phys_ends (kind : Int) : ∀ l : List UInt8, 13 ∉ l → phys (endsOf kind l) = phys l
  | [], _ => rfl
  | b :: l, h => by
    have ih := phys_ends kind l (fun e => h (List.mem_cons_of_mem _ e))
    have hb : b ≠ 13 := fun e => h (by rw [e]; exact List.mem_cons_self)
    have e : endsOf kind (b :: l) = endOf kind b ++ endsOf kind l := rfl
    rw [e]
    by_cases hb10 : b = 10
    · subst hb10
      rw [phys_ten]
      by_cases hk : kind = 1
      · rw [show endOf kind 10 ++ endsOf kind l = 13 :: 10 :: endsOf kind l by simp [endOf, hk], phys_crlf, ih]
      · rw [show endOf kind 10 ++ endsOf kind l = 13 :: endsOf kind l by simp [endOf, hk], phys_cr (endsOf_head kind l), ih]
    · have hp : isEnd b = false := by simp [isEnd, hb, hb10]
      rw [show endOf kind b ++ endsOf kind l = b :: endsOf kind l by simp [endOf, hb10], phys_plain _ hp, phys_plain _ hp, ih]
theorem linesOf_len (a : ByteArray) : (linesOf a).length ≤ a.size := by
  have h1 := (logical_bound (phys a.data.toList) 1).1
  have h2 := phys_len _ a.data.toList (Nat.le_refl _)
  rw [Lib.size_eq]; unfold linesOf; omega
theorem TextEnds_l0 (a : ByteArray) (hs : a.size ≤ 30000) : ∀ (m k i : Nat) (r : List UInt8), a.data.toList.drop i = r → r.length = m → m + 70000 < k → 13 ∉ a.data.toList.take i →
    burinlaw01_TextEnds.l0 k a true (i : Int) = some true := by
  intro m
  induction m with
  | zero =>
    intro k i r hd hr hk ht
    obtain ⟨k, rfl⟩ : ∃ k', k = k' + 1 := ⟨k - 1, by omega⟩
    obtain rfl : r = [] := List.eq_nil_of_length_eq_zero hr
    have hi := drop_nil hd
    have hno : 13 ∉ a.data.toList := by
      rw [List.take_of_length_le (by rw [← Lib.size_eq]; exact hi)] at ht; exact ht
    have hl : a.data.toList.length ≤ 30000 := by rw [← Lib.size_eq]; exact hs
    have hL : ∀ kind, linesOf (bstr (endsOf kind a.data.toList)) = linesOf a := fun kind => by
      unfold linesOf; rw [data_bstr, phys_ends kind _ hno]
    have hsz : ∀ kind, (bstr (endsOf kind a.data.toList)).size ≤ 65536 := fun kind => by
      rw [size_bstr]; have := endsOf_len kind a.data.toList; omega
    have hlen : ((linesOf a).map toS).length ≤ 30000 := by rw [List.length_map]; exact Nat.le_trans (linesOf_len a) hs
    rw [burinlaw01_TextEnds.l0, if_neg (by omega), text_Lines_eq a (by omega), ends_ok a 0 hs k (by omega), ends_ok a 1 hs k (by omega)]
    simp only [Option.bind_some]
    rw [text_Lines_eq _ (hsz 0), text_Lines_eq _ (hsz 1), hL, hL]
    simp only [Option.bind_some, if_true]
    rw [Same_ok _ (by omega) k (by omega)]
    rfl
  | succ m ih =>
    intro k i r hd hr hk ht
    obtain ⟨k, rfl⟩ : ∃ k', k = k' + 1 := ⟨k - 1, by omega⟩
    cases r with
    | nil => cases hr
    | cons b r =>
      obtain ⟨h1, h2, h3⟩ := bt_get hd
      have hr' : r.length = m := by simpa using hr
      rw [burinlaw01_TextEnds.l0, if_pos (by omega), if_pos (by omega), h1, wrap64_id (by omega) (by omega)]
      by_cases hb : b = 13
      · subst hb; rw [if_pos (by rfl)]
      · rw [if_neg (show ¬ ((b.toNat : Int) = 13) from toNat_ne hb), show (i : Int) + 1 = ((i + 1 : Nat) : Int) by omega]
        refine ih k (i + 1) r h3 hr' (by omega) ?_
        have hlt : i < a.data.toList.length := by rw [← Lib.size_eq]; exact h2
        have hbi : a.data.toList[i] = b := by
          rw [List.drop_eq_getElem_cons hlt] at hd; exact (List.cons.inj hd).1
        rw [List.take_add_one, List.getElem?_eq_getElem hlt, hbi]
        intro e
        rcases List.mem_append.1 e with e | e
        · exact ht e
        · simp at e; exact hb e.symm
theorem TextEnds : burinlaw01_TextEnds.Pure := by
  intro a _
  refine ⟨200000, ?_⟩
  unfold burinlaw01_TextEnds.f
  rw [shown_ok _ (by decide)]
  simp only [Option.bind_some]
  by_cases hs : (a.size : Int) > 30000
  · rw [if_pos hs]
  · rw [if_neg hs]
    refine TextEnds_l0 a (by omega) a.size _ 0 a.data.toList rfl (Lib.size_eq a).symm (by omega) (by simp)
end Go.Proofs.Ytgipfcdmhdljgaa.Pure

namespace Go.Proofs.Ytgipfcdmhdljgaa.Pure
open Go.RowKit Go.Proofs.Ytgipfcdmhdljgaa.PA Go.Proofs.YtgipfcdmhdljgaaW.PrintWords Go.Proofs.YtgipfcdmhdljgaaW.PrintLast Go.Proofs.YtgipfcdmhdljgaaT
set_option linter.unusedVariables false
set_option linter.unusedSimpArgs false
theorem near_len : ∀ {l m : List (Nat × List UInt8)}, near l m → l.length = m.length
  | [], [], _ => rfl
  | a :: l, b :: m, h => by rw [List.length_cons, List.length_cons, near_len h.2]
theorem near_get : ∀ {l m : List (Nat × List UInt8)} (h : near l m) (i : Nat) (x y : Nat × List UInt8), l[i]? = some x → m[i]? = some y → x.2 = y.2 ∧ (y.1 = x.1 ∨ y.1 = x.1 + 1)
  | a :: l, b :: m, h, 0, x, y, hx, hy => by
    simp at hx hy; subst hx hy; exact h.1
  | a :: l, b :: m, h, i + 1, x, y, hx, hy => near_get h.2 i x y (by simpa using hx) (by simpa using hy)
theorem rd_map {l : List (Nat × List UInt8)} {i : Nat} {x : Nat × List UInt8} (h : l[i]? = some x) : rd_T32 (l.map toS) (i : Int) = toS x := by
  unfold rd_T32
  rw [List.getD_eq_getElem?_getD]; simp [h]
theorem Splices_l0 (X Y : List (Nat × List UInt8)) (hn : near X Y) (hl : X.length ≤ 70000) (hb : ∀ x ∈ X, x.1 ≤ 70000) : ∀ (m k i : Nat), i + m = X.length → m < k → burinlaw01_TextSplices.l0 k true (X.map toS) (Y.map toS) (i : Int) = some true := by
  have hlen := near_len hn
  intro m
  induction m with
  | zero =>
    intro k i hi hk
    obtain ⟨k, rfl⟩ : ∃ k', k = k' + 1 := ⟨k - 1, by omega⟩
    rw [burinlaw01_TextSplices.l0, if_neg (by simp; omega)]
  | succ m ih =>
    intro k i hi hk
    obtain ⟨k, rfl⟩ : ∃ k', k = k' + 1 := ⟨k - 1, by omega⟩
    have hx : X[i]? = some (X[i]'(by omega)) := List.getElem?_eq_getElem _
    have hy : Y[i]? = some (Y[i]'(by omega)) := List.getElem?_eq_getElem _
    obtain ⟨h1, h2⟩ := near_get hn i _ _ hx hy
    have hbx := hb (X[i]'(by omega)) (List.getElem_mem _)
    rw [burinlaw01_TextSplices.l0, if_pos (by simp; omega), if_pos (by omega), if_pos (by simp; omega), rd_map hx, rd_map hy, if_pos (by show (bstr _).toList = (bstr _).toList; rw [h1]), wrap64_id (by omega) (by omega), show (i : Int) + 1 = ((i + 1 : Nat) : Int) by omega, ih k (i + 1) (by omega) (by omega)]
    rw [wrap64_id (by show _ ≤ ((X[i]'(by omega)).1 : Int) + 1; omega) (by show ((X[i]'(by omega)).1 : Int) + 1 ≤ _; omega)]
    by_cases h3 : (toS (Y[i]'(by omega))).f0 = (toS (X[i]'(by omega))).f0
    · rw [if_pos h3]
    · rw [if_neg h3, if_pos]
      have h4 : ¬ ((Y[i]'(by omega)).1 : Int) = ((X[i]'(by omega)).1 : Int) := h3
      show ((Y[i]'(by omega)).1 : Int) = ((X[i]'(by omega)).1 : Int) + 1
      omega
theorem linesOf_bound (a : ByteArray) : ∀ x ∈ linesOf a, x.1 ≤ a.size := by
  intro x hx
  have h1 := (logical_bound (phys a.data.toList) 1).2 x hx
  have h2 := phys_len _ a.data.toList (Nat.le_refl _)
  rw [Lib.size_eq]; omega
theorem extract_take (a : ByteArray) (n : Nat) (h : n ≤ a.size) : (a.extract 0 n).data.toList = a.data.toList.take n := by simp
theorem extract_drop (a : ByteArray) (n : Nat) : (a.extract n a.size).data.toList = a.data.toList.drop n := by
  have : a.data.toList.length = a.size := (Lib.size_eq a).symm
  simp
  exact List.take_of_length_le (by simp only [List.length_drop]; omega)
theorem bt_at' {a : ByteArray} {n : Nat} (h : n < a.size) : ∃ b, a.data.toList[n]? = some b ∧ bt a (n : Int) = (b.toNat : Int) := by
  have hl : n < a.data.toList.length := by rw [← Lib.size_eq]; exact h
  have hd := List.drop_eq_getElem_cons hl
  exact ⟨_, List.getElem?_eq_getElem hl, (bt_get hd).1⟩
theorem Splices_j0 (a : ByteArray) (n : Nat) (hs : a.size ≤ 60000) (hn : n < a.size)
    (h13 : n ≠ 0 → a.data.toList[n - 1]? ≠ some 13) (h92 : n ≠ 0 → (a.data.toList[n]? = some 10 ∨ a.data.toList[n]? = some 13) → a.data.toList[n - 1]? ≠ some 92) (k : Nat) (hk : 70002 < k) :
    burinlaw01_TextSplices.j0 k a (n : Int) true false = some true := by
  obtain ⟨k, rfl⟩ : ∃ k', k = k' + 2 := ⟨k - 2, by omega⟩
  have hl : n < a.data.toList.length := by rw [← Lib.size_eq]; exact hn
  obtain ⟨b, hb⟩ : ∃ b, b = ((a.extract 0 n) ++ (⟨#[92, 10]⟩ : ByteArray)) ++ (a.extract n a.size) := ⟨_, rfl⟩
  have hbd : b.data.toList = a.data.toList.take n ++ [92, 10] ++ a.data.toList.drop n := by
    rw [hb]
    have h1 := extract_take a n (by omega)
    have h2 := extract_drop a n
    rw [ByteArray.data_append, ByteArray.data_append, Array.toList_append, Array.toList_append, h1, h2]
  have hbs : b.size = a.size + 2 := by
    rw [Lib.size_eq, hbd, Lib.size_eq]; simp; omega
  have hsz1 : (a.extract 0 n).size + 2 ≤ 9223372036854775807 := by
    have := extract_take a n (by omega); rw [Lib.size_eq, this]; simp; omega
  have hsz2 : ((a.extract 0 n) ++ (⟨#[92, 10]⟩ : ByteArray)).size + (a.extract n a.size).size ≤ 9223372036854775807 := by
    have h1 := extract_take a n (by omega); have h2 := extract_drop a n
    rw [Lib.size_eq, Lib.size_eq, ByteArray.data_append, Array.toList_append, h1, h2]; simp; omega
  have hgl : ∀ c, (a.data.toList.take n).getLast? = some c → n ≠ 0 ∧ a.data.toList[n - 1]? = some c := fun c hc => by
    rw [List.getLast?_eq_getElem?] at hc
    have hlen : (a.data.toList.take n).length = n := by simp; omega
    rw [hlen] at hc
    by_cases h0 : n = 0
    · subst h0; simp at hc
    · refine ⟨h0, ?_⟩
      rw [List.getElem?_take] at hc
      split at hc
      · exact hc
      · cases hc
  have hnear : near (linesOf a) (linesOf b) := by
    unfold linesOf
    rw [hbd]
    have := splice_near (a.data.toList.take n) (a.data.toList.drop n) (by intro e; rw [List.drop_eq_nil_iff] at e; omega)
      (fun e => by obtain ⟨h0, h1⟩ := hgl _ e; exact h13 h0 h1)
      (fun c l e hc e2 => by
        obtain ⟨h0, h1⟩ := hgl _ e2
        rw [List.drop_eq_getElem_cons hl] at e
        have hc2 : a.data.toList[n]? = some c := by rw [List.getElem?_eq_getElem hl, (List.cons.inj e).1]
        refine h92 h0 ?_ h1
        rcases isEnd_cases hc with rfl | rfl
        · exact .inr hc2
        · exact .inl hc2) 1
    rwa [List.take_append_drop] at this
  have hlen := near_len hnear
  rw [burinlaw01_TextSplices.j0, if_neg (by decide), text_Lines_eq a (by omega)]
  simp only [Option.bind_some]
  rw [if_pos (by omega), if_pos (by omega)]
  simp only [Int.toNat_natCast]
  rw [if_pos hsz1, if_pos hsz2, ← hb, text_Lines_eq b (by omega)]
  simp only [Option.bind_some, if_true]
  rw [burinlaw01_TextSplices.j1, if_neg (by simp [hlen])]
  exact Splices_l0 _ _ hnear (by have := linesOf_len a; omega) (fun x hx => by have := linesOf_bound a x hx; omega) (linesOf a).length k 0 (by omega) (by have := linesOf_len a; omega)
theorem Splices_j0_true (k : Nat) (a : ByteArray) (i : Int) : burinlaw01_TextSplices.j0 (k + 1) a i true true = some true := by
  rw [burinlaw01_TextSplices.j0, if_pos rfl]
theorem TextSplices : burinlaw01_TextSplices.Pure := by
  intro a at_ _ hwf
  refine ⟨100000 + 1, ?_⟩
  unfold burinlaw01_TextSplices.f
  rw [shown_ok _ (by decide)]
  simp only [Option.bind_some]
  have jt := Splices_j0_true 100000 a at_
  by_cases c1 : (a.size : Int) > 60000
  · rw [if_pos c1]; exact jt
  rw [if_neg c1]
  by_cases c2 : at_ < 0
  · rw [if_pos c2]; exact jt
  rw [if_neg c2]
  by_cases c3 : at_ > (a.size : Int)
  · rw [if_pos c3]; exact jt
  rw [if_neg c3]
  obtain ⟨n, rfl⟩ : ∃ n : Nat, at_ = (n : Int) := ⟨at_.toNat, (Int.toNat_of_nonneg (by omega)).symm⟩
  by_cases c5 : n = a.size
  · -- at the end
    have e5 : (n : Int) = (a.size : Int) := by omega
    by_cases c4 : (n : Int) > 0
    · rw [if_pos c4, wrap64_id (by omega) (by omega), if_pos (by omega), if_pos (by omega)]
      split <;> first | exact jt | (rw [if_pos e5]; exact jt)
    · rw [if_neg c4, if_pos e5]; exact jt
  have hn : n < a.size := by omega
  have e5 : ¬ ((n : Int) = (a.size : Int)) := by omega
  obtain ⟨c, hc, hbc⟩ := bt_at' hn
  by_cases c4 : (n : Int) > 0
  · obtain ⟨m, rfl⟩ : ∃ m, n = m + 1 := ⟨n - 1, by omega⟩
    have hm : ((m + 1 : Nat) : Int) - 1 = (m : Int) := by omega
    obtain ⟨d, hd, hbd⟩ := bt_at' (a := a) (n := m) (by omega)
    rw [if_pos c4, wrap64_id (by omega) (by omega), hm, if_pos (by omega), if_pos (by omega), hbd]
    by_cases c6 : d = 13
    · subst c6; rw [if_pos (by rfl)]; exact jt
    rw [if_neg (show ¬ ((d.toNat : Int) = 13) from toNat_ne c6), if_neg e5, if_pos (by omega), if_pos (by omega), hbc]
    have main : (d ≠ 92 ∨ (c ≠ 10 ∧ c ≠ 13)) → burinlaw01_TextSplices.j0 (100000 + 1) a ((m + 1 : Nat) : Int) true false = some true := fun h =>
      Splices_j0 a (m + 1) (by omega) hn (fun _ e => by rw [Nat.add_sub_cancel, hd] at e; exact c6 (Option.some.inj e))
        (fun _ h1 e => by
          rw [Nat.add_sub_cancel, hd] at e
          rw [hc] at h1
          rcases h with h | h
          · exact h (Option.some.inj e)
          · rcases h1 with h1 | h1
            · exact h.1 (Option.some.inj h1)
            · exact h.2 (Option.some.inj h1)) _ (by decide)
    by_cases c7 : d = 92
    · subst c7
      rw [show (((92 : UInt8).toNat : Int) == 92) = true from rfl]
      by_cases c8 : c = 10
      · subst c8; rw [if_pos (by rfl)]; exact jt
      rw [if_neg (show ¬ ((c.toNat : Int) = 10) from toNat_ne c8)]
      by_cases c9 : c = 13
      · subst c9; rw [if_pos (by rfl)]; exact jt
      rw [if_neg (show ¬ ((c.toNat : Int) = 13) from toNat_ne c9)]
      exact main (.inr ⟨c8, c9⟩)
    · rw [show (((d.toNat : Int)) == 92) = false from beq_eq_false_iff_ne.2 (toNat_ne c7)]
      have hm' := main (.inl c7)
      split
      · exact hm'
      · split <;> exact hm'
  · obtain rfl : n = 0 := by omega
    rw [if_neg c4, if_neg e5, if_pos (by omega), if_pos (by omega)]
    have hm' := Splices_j0 a 0 (by omega) hn (fun h => absurd rfl h) (fun h => absurd rfl h) (100000 + 1) (by decide)
    split
    · exact hm'
    · split <;> exact hm'
end Go.Proofs.Ytgipfcdmhdljgaa.Pure

namespace Go.Proofs.Ytgipfcdmhdljgaa.Pure
open Go.RowKit Go.Proofs.Ytgipfcdmhdljgaa.PA Go.Proofs.YtgipfcdmhdljgaaW.PrintWords Go.Proofs.YtgipfcdmhdljgaaW.PrintLast Go.Proofs.YtgipfcdmhdljgaaT
set_option linter.unusedVariables false
set_option linter.unusedSimpArgs false
theorem parts_lines (a b : List UInt8) (h13 : a.getLast? ≠ some 13) (h92 : a.getLast? ≠ some 92) :
    phys (a ++ [10] ++ b) = phys (a ++ [10]) ++ phys b ∧ logical 1 (phys (a ++ [10] ++ b)) = logical 1 (phys (a ++ [10])) ++ shift (phys (a ++ [10])).length (logical 1 (phys b)) := by
  obtain ⟨P, x, p0, e1, e0, e2, e3⟩ := phys_parts b _ a (Nat.le_refl _) h13
  have e4 : phys (a ++ [10] ++ b) = phys (a ++ [10]) ++ phys b := by rw [e3, e2]
  refine ⟨e4, ?_⟩
  rw [e4, logical_append, logical_shift]
  intro y hy
  rw [e2] at hy
  simp at hy
  subst hy
  cases hx : Lib.hasSuffix x [92] with
  | false => rfl
  | true =>
    obtain ⟨z, rfl⟩ := (hasSuffix_iff x).1 hx
    exact absurd (by rw [e1]; simp) h92
theorem Parts_l0 (X Y : List (Nat × List UInt8)) (n : Nat) (hl : X.length + Y.length ≤ 70000) (hb : ∀ x ∈ Y, x.1 ≤ 70000) (hn : n ≤ 70000) : ∀ (m k i : Nat), i + m = Y.length → m + 70001 < k →
    burinlaw01_TextParts.l0 k true (X.map toS) (Y.map toS) ((X ++ shift n Y).map toS) (n : Int) (i : Int) = some true := by
  have hsl : (shift n Y).length = Y.length := by simp [shift]
  intro m
  induction m with
  | zero =>
    intro k i hi hk
    obtain ⟨k, rfl⟩ : ∃ k', k = k' + 1 := ⟨k - 1, by omega⟩
    rw [burinlaw01_TextParts.l0, if_neg (by simp; omega), if_pos rfl, if_pos (by omega), if_pos (by simp; omega)]
    simp only [Int.toNat_natCast]
    rw [show ((X ++ shift n Y).map toS).take (X.map toS).length = X.map toS by rw [List.map_append, List.take_left], Same_ok _ (by simp; omega) k (by simp; omega)]
    rfl
  | succ m ih =>
    intro k i hi hk
    obtain ⟨k, rfl⟩ : ∃ k', k = k' + 1 := ⟨k - 1, by omega⟩
    have hy : Y[i]? = some (Y[i]'(by omega)) := List.getElem?_eq_getElem _
    have hz : (X ++ shift n Y)[X.length + i]? = some ((Y[i]'(by omega)).1 + n, (Y[i]'(by omega)).2) := by
      rw [List.getElem?_append_right (by omega), Nat.add_sub_cancel_left]
      simp [shift, hy]
    have hbx := hb (Y[i]'(by omega)) (List.getElem_mem _)
    have hw : wrap64 (((X.map toS).length : Int) + (i : Int)) = ((X.length + i : Nat) : Int) := by
      rw [List.length_map, wrap64_id (by omega) (by omega)]; omega
    rw [burinlaw01_TextParts.l0, if_pos (by simp; omega), if_pos (by omega), hw, if_pos (by omega), if_pos (by simp; omega), rd_map hy, rd_map hz]
    have hw2 : wrap64 ((toS (Y[i]'(by omega))).f0 + (n : Int)) = (toS ((Y[i]'(by omega)).1 + n, (Y[i]'(by omega)).2)).f0 := by
      show wrap64 (((Y[i]'(by omega)).1 : Int) + (n : Int)) = (((Y[i]'(by omega)).1 + n : Nat) : Int)
      rw [wrap64_id (by omega) (by omega)]; omega
    rw [hw2, if_neg]
    · rw [wrap64_id (by omega) (by omega), show (i : Int) + 1 = ((i + 1 : Nat) : Int) by omega]
      exact ih k (i + 1) (by omega) (by omega)
    · show ¬ ((!((toS _).f0 == (toS _).f0) || !((bstr _).toList == (bstr _).toList)) = true)
      simp
theorem Parts_j0_true (k : Nat) (a b : ByteArray) : burinlaw01_TextParts.j0 (k + 1) a b true true = some true := by
  rw [burinlaw01_TextParts.j0, if_pos rfl]
theorem Parts_j0 (a b : ByteArray) (ha : a.size ≤ 30000) (hb : b.size ≤ 30000) (h13 : a.data.toList.getLast? ≠ some 13) (h92 : a.data.toList.getLast? ≠ some 92) (k : Nat) (hk : 200000 < k) :
    burinlaw01_TextParts.j0 k a b true false = some true := by
  obtain ⟨k, rfl⟩ : ∃ k', k = k' + 2 := ⟨k - 2, by omega⟩
  obtain ⟨c, hc⟩ : ∃ c, c = a ++ (⟨#[10]⟩ : ByteArray) := ⟨_, rfl⟩
  obtain ⟨d, hd⟩ : ∃ d, d = c ++ b := ⟨_, rfl⟩
  have hcd : c.data.toList = a.data.toList ++ [10] := by rw [hc, ByteArray.data_append, Array.toList_append]
  have hdd : d.data.toList = a.data.toList ++ [10] ++ b.data.toList := by rw [hd, ByteArray.data_append, Array.toList_append, hcd]
  have hcs : c.size = a.size + 1 := by rw [Lib.size_eq, hcd, Lib.size_eq]; simp
  have hds : d.size = a.size + 1 + b.size := by rw [Lib.size_eq, hdd, Lib.size_eq, Lib.size_eq]; simp; omega
  obtain ⟨e1, e2⟩ := parts_lines a.data.toList b.data.toList h13 h92
  have hL : linesOf d = linesOf c ++ shift (phys c.data.toList).length (linesOf b) := by unfold linesOf; rw [hdd, hcd, e2]
  have hP : (phys d.data.toList).length = (phys c.data.toList).length + (phys b.data.toList).length := by rw [hdd, hcd, e1, List.length_append]
  have hlc := linesOf_len c
  have hlb := linesOf_len b
  have hpc := phys_len _ c.data.toList (Nat.le_refl _)
  have hpb := phys_len _ b.data.toList (Nat.le_refl _)
  rw [← Lib.size_eq] at hpc hpb
  have hcL := text_Lines_eq c (by omega)
  have hbL := text_Lines_eq b (by omega)
  have hdL := text_Lines_eq d (by omega)
  have hle1 : a.size + 1 ≤ 9223372036854775807 := by omega
  have hle2 : c.size + b.size ≤ 9223372036854775807 := by omega
  have hw1 : (((linesOf d).map toS).length : Int) = wrap64 ((((linesOf c).map toS).length : Int) + (((linesOf b).map toS).length : Int)) := by
    rw [hL]; simp only [List.length_map, List.length_append, shift]; rw [wrap64_id (by omega) (by omega)]; omega
  have hw2 : ((((phys d.data.toList).length : Nat) : Int) != wrap64 (((phys c.data.toList).length : Int) + ((phys b.data.toList).length : Int))) = false := by
    rw [hP, wrap64_id (by omega) (by omega)]; simp
  rw [burinlaw01_TextParts.j0, if_neg (by decide), if_pos hle1, ← hc, hcL, Option.bind_some, hbL, Option.bind_some, if_pos hle2, ← hd, hdL, Option.bind_some, if_pos rfl, if_pos rfl, if_pos rfl, if_pos hw1, text_Physical_eq d (by omega), Option.bind_some, text_Physical_eq c (by omega), Option.bind_some, text_Physical_eq b (by omega), Option.bind_some, hw2,
    burinlaw01_TextParts.j1, if_neg (by decide), text_Physical_eq c (by omega), Option.bind_some, hL]
  exact Parts_l0 (linesOf c) (linesOf b) _ (by omega) (fun x hx => by have := linesOf_bound b x hx; omega) (by omega) (linesOf b).length k 0 (by omega) (by omega)
theorem TextParts : burinlaw01_TextParts.Pure := by
  intro a b _ _
  refine ⟨300000 + 1, ?_⟩
  unfold burinlaw01_TextParts.f
  rw [shown_ok _ (by decide)]
  simp only [Option.bind_some]
  have jt := Parts_j0_true 300000 a b
  by_cases c1 : (a.size : Int) > 30000
  · rw [if_pos c1]; exact jt
  rw [if_neg c1]
  by_cases c2 : (b.size : Int) > 30000
  · rw [if_pos c2]; exact jt
  rw [if_neg c2]
  have hla : a.data.toList.length = a.size := (Lib.size_eq a).symm
  by_cases c3 : (a.size : Int) > 0
  · obtain ⟨m, hm⟩ : ∃ m, a.size = m + 1 := ⟨a.size - 1, by omega⟩
    have hm' : (a.size : Int) - 1 = (m : Int) := by omega
    obtain ⟨d, hd, hbd⟩ := bt_at' (a := a) (n := m) (by omega)
    have hlast : a.data.toList.getLast? = some d := by rw [List.getLast?_eq_getElem?, hla, hm]; exact hd
    rw [if_pos c3, wrap64_id (by omega) (by omega), hm', if_pos (by omega), if_pos (by omega), hbd]
    by_cases c6 : d = 92
    · subst c6; rw [if_pos (by rfl)]; exact jt
    rw [if_neg (show ¬ ((d.toNat : Int) = 92) from toNat_ne c6)]
    by_cases c7 : d = 13
    · subst c7; exact jt
    · rw [show (((d.toNat : Int)) == 13) = false from beq_eq_false_iff_ne.2 (toNat_ne c7)]
      exact Parts_j0 a b (by omega) (by omega) (by rw [hlast]; exact fun e => c7 (Option.some.inj e)) (by rw [hlast]; exact fun e => c6 (Option.some.inj e)) _ (by decide)
  · rw [if_neg c3]
    have h0 : a.data.toList = [] := List.eq_nil_of_length_eq_zero (by omega)
    exact Parts_j0 a b (by omega) (by omega) (by rw [h0]; simp) (by rw [h0]; simp) _ (by decide)
end Go.Proofs.Ytgipfcdmhdljgaa.Pure

namespace Go.Proofs.Ytgipfcdmhdljgaa.Pure
open Go.RowKit Go.Proofs.Ytgipfcdmhdljgaa.PA Go.Proofs.YtgipfcdmhdljgaaW.PrintWords Go.Proofs.YtgipfcdmhdljgaaW.PrintLast Go.Proofs.YtgipfcdmhdljgaaT
set_option linter.unusedVariables false
set_option linter.unusedSimpArgs false
def pre (acc : List UInt8) : List (List UInt8) → List (List UInt8)
  | [] => if acc = [] then [] else [acc]
  | h :: t => (acc ++ h) :: t
theorem pre_nil (L : List (List UInt8)) : pre [] L = L := by cases L <;> rfl
theorem pre_attach (acc : List UInt8) (b : UInt8) (L : List (List UInt8)) : pre acc (attach b L) = pre (acc ++ [b]) L := by
  cases L with
  | nil => simp [pre, attach]
  | cons h t => simp [pre, attach]
theorem physical_l0 (a : ByteArray) (hs : a.size ≤ 1048576) : ∀ (m k i : Nat) (out : List (List UInt8)) (acc r : List UInt8) (o : Bool), a.data.toList.drop i = r → r.length ≤ m → 2 * r.length < k → out.length + r.length ≤ 4000000 → acc.length + r.length ≤ 4000000 → o = !acc.isEmpty →
    burinref01_physical.l0 k a (out.map bstr) (ints acc) o (i : Int) = some ((out ++ pre acc (phys r)).map bstr) := by
  intro m
  induction m with
  | zero =>
    intro k i out acc r o hd hr hk hb hb2 ho
    obtain ⟨k, rfl⟩ : ∃ k', k = k' + 1 := ⟨k - 1, by omega⟩
    obtain rfl : r = [] := List.eq_nil_of_length_eq_zero (by omega)
    have := drop_nil hd
    rw [burinref01_physical.l0, if_neg (by omega), phys_nil]
    cases acc with
    | nil => subst ho; simp [pre]
    | cons c acc => subst ho; rw [if_pos (by rfl), if_pos (by simp at hb ⊢; omega), strOfNums_ints]; simp [pre]
  | succ m ih =>
    intro k i out acc r o hd hr hk hb hb2 ho
    cases r with
    | nil => exact ih k i out acc [] o hd (by simp) hk hb hb2 ho
    | cons b r =>
      obtain ⟨k, rfl⟩ : ∃ k', k = k' + 2 := ⟨k - 2, by simp only [List.length_cons] at hk; omega⟩
      simp only [List.length_cons] at hr hk hb hb2
      obtain ⟨h1, h2, h3⟩ := bt_get hd
      have hi : wrap64 ((i : Int) + 1) = ((i + 1 : Nat) : Int) := by rw [wrap64_id (by omega) (by omega)]; omega
      have hil : (ints acc).length = acc.length := by simp [ints]
      have hol : (out.map bstr).length < 8796093022208 := by rw [List.length_map]; omega
      rw [burinref01_physical.l0, if_pos (by omega), if_pos (by omega), h1]
      have hacc : acc :: phys r = pre acc ([] :: phys r) := by simp [pre]
      have fin : ∀ (j : Nat) (r' : List UInt8), a.data.toList.drop j = r' → r'.length ≤ m → 2 * r'.length < k → r'.length ≤ r.length → burinref01_physical.l0 k a (out.map bstr ++ [strOfNums (ints acc)]) ([] : List Int) false (j : Int) = some ((out ++ pre acc ([] :: phys r')).map bstr) := fun j r' e1 e2 e3 e4 => by
        have := ih k j (out ++ [acc]) [] r' false e1 e2 e3 (by simp; omega) (by simp; omega) rfl
        rw [pre_nil] at this
        rw [strOfNums_ints, show out.map bstr ++ [bstr acc] = (out ++ [acc]).map bstr by simp, show ([] : List Int) = ints [] from rfl, this]
        simp [pre]
      cases hbe : isEnd b with
      | false =>
        have hb13 : b ≠ 13 := by rintro rfl; cases hbe
        have hb10 : b ≠ 10 := by rintro rfl; cases hbe
        rw [if_neg (show ¬ ((b.toNat : Int) = 13) from toNat_ne hb13), show (((b.toNat : Int)) != 10) = true from bne_iff_ne.2 (toNat_ne hb10),
          burinref01_physical.j1, if_pos rfl, if_pos (by omega), if_pos (by omega), if_pos (by omega), h1, hi, show ints acc ++ [(b.toNat : Int)] = ints (acc ++ [b]) by simp [ints]]
        rw [ih k (i + 1) out (acc ++ [b]) r true h3 (by omega) (by omega) (by omega) (by simp; omega) (by simp), phys_plain _ hbe, pre_attach]
      | true =>
        rcases isEnd_cases hbe with rfl | rfl
        · rw [if_pos (by rfl), burinref01_physical.j1, if_neg (by decide), if_pos (by omega), if_pos (by omega), h1, if_pos (by rfl), hi]
          by_cases hlast : ((i + 1 : Nat) : Int) < (a.size : Int)
          · rw [if_pos hlast, if_pos (by omega)]
            cases r with
            | nil => have := drop_nil h3; omega
            | cons c r =>
              obtain ⟨g1, g2, g3⟩ := bt_get h3
              simp only [List.length_cons] at hr hk hb hb2
              rw [g1]
              by_cases hc : c = 10
              · subst hc
                rw [if_pos (by rfl), if_pos hol, show wrap64 (((i + 1 : Nat) : Int) + 1) = ((i + 2 : Nat) : Int) by rw [wrap64_id (by omega) (by omega)]; omega, phys_crlf]
                exact fin (i + 2) r g3 (by omega) (by omega) (by simp)
              · rw [if_neg (show ¬ ((c.toNat : Int) = 10) from toNat_ne hc), if_pos hol, phys_cr (by simpa using hc)]
                exact fin (i + 1) (c :: r) h3 (by simp; omega) (by simp; omega) (by simp)
          · rw [if_neg hlast, if_pos hol]
            have hr0 : r = [] := by
              cases r with
              | nil => rfl
              | cons c r => obtain ⟨g1, g2, g3⟩ := bt_get h3; omega
            subst hr0
            rw [phys_cr (by simp)]
            exact fin (i + 1) [] h3 (by simp) (by simp; omega) (by simp)
        · rw [if_neg (by decide), show (((10 : UInt8).toNat : Int) != 10) = false from rfl, burinref01_physical.j1, if_neg (by decide), if_pos (by omega), if_pos (by omega), h1, if_neg (by decide), if_pos hol, hi, phys_ten]
          exact fin (i + 1) r h3 (by omega) (by omega) (by simp)
theorem physical_ok (a : ByteArray) (hs : a.size ≤ 1048576) (k : Nat) (hk : 2 * a.size < k) : burinref01_physical.f k a = some ((phys a.data.toList).map bstr) := by
  have hl := (Lib.size_eq a).symm
  have := physical_l0 a hs a.size k 0 [] [] a.data.toList false rfl (by omega) (by omega) (by simp; omega) (by simp; omega) rfl
  unfold burinref01_physical.f
  simpa [pre_nil, ints] using this
def tot (l : List (List UInt8)) : Nat := (l.map List.length).sum
theorem tot_numbered (l : List (List UInt8)) : ∀ j, total (numbered j l) = tot l := by
  induction l with
  | nil => intro j; rfl
  | cons x l ih => intro j; have := ih (j + 1); simp only [total, tot, numbered, List.map_cons, List.sum_cons] at this ⊢; rw [this]
theorem tot_phys (l : List UInt8) : tot (phys l) ≤ l.length := by rw [← tot_numbered _ 1]; exact total_phys _ l 1 (Nat.le_refl _)
theorem rdOf_map {l : List (List UInt8)} {i : Nat} {x : List UInt8} (h : l[i]? = some x) : rdOf ByteArray.empty (l.map bstr) (i : Int) = bstr x := by
  unfold rdOf
  rw [List.getD_eq_getElem?_getD]; simp [h]
theorem logical_cons (n : Nat) (x : List UInt8) (r : List (List UInt8)) : ∃ s t, logical n (x :: r) = (n, s) :: t := by
  rw [logical]; split
  · cases logical (n + 1) r with
    | nil => exact ⟨_, _, rfl⟩
    | cons y t => exact ⟨_, _, rfl⟩
  · exact ⟨_, _, rfl⟩
theorem extract_bstr (l : List UInt8) (n : Nat) : (bstr l).extract 0 n = bstr (l.take n) := by
  apply ByteArray.ext; apply Array.ext'; simp [bstr]
theorem app_bstr (a b : List UInt8) : bstr a ++ bstr b = bstr (a ++ b) := by
  apply ByteArray.ext; apply Array.ext'; simp [bstr]
theorem last_test (y : List UInt8) (h : y ≠ []) : bt (bstr y) (((y.length - 1 : Nat)) : Int) = 92 ↔ Lib.hasSuffix y [92] = true := by
  obtain ⟨z, b, rfl⟩ : ∃ z b, y = z ++ [b] := ⟨_, _, (List.dropLast_concat_getLast h).symm⟩
  have hd : (bstr (z ++ [b])).data.toList.drop z.length = b :: [] := by rw [data_bstr]; simp
  have hl : (z ++ [b]).length - 1 = z.length := by simp
  rw [hl, (bt_get hd).1, hasSuffix_iff]
  constructor
  · intro e
    refine ⟨z, ?_⟩
    have : b = 92 := UInt8.toNat_inj.1 (by rw [show (92 : UInt8).toNat = 92 from rfl]; omega)
    rw [this]
  · rintro ⟨y', hy'⟩
    obtain ⟨_, hb⟩ := List.append_inj' hy' rfl
    obtain rfl : b = 92 := by simpa using hb
    rfl
theorem tot_drop (L : List (List UInt8)) : ∀ i, tot (L.drop i) ≤ tot L := by
  induction L with
  | nil => intro i; simp [tot]
  | cons x L ih =>
    intro i
    cases i with
    | zero => exact Nat.le_refl _
    | succ i => have := ih i; simp only [List.drop_succ_cons, tot, List.map_cons, List.sum_cons] at this ⊢; omega
def renum (N : Nat) (p : List UInt8) : List (Nat × List UInt8) → List (Nat × List UInt8)
  | [] => []
  | (_, s) :: t => (N, p ++ s) :: t
theorem Lines_l (L : List (List UInt8)) (hL : L.length ≤ 70000) (hT : tot L ≤ 70000) : ∀ (m : Nat),
    (∀ (k i : Nat) (out : List (Nat × List UInt8)), i + m = L.length → 2 * m < k → out.length ≤ i →
      burinref01_Lines.l0 k (L.map bstr) (out.map toS) (i : Int) = some ((out ++ logical (i + 1) (L.drop i)).map toS, 0)) ∧
    (∀ (k i N : Nat) (out : List (Nat × List UInt8)) (p y : List UInt8) (r : List (List UInt8)), i + m + 1 = L.length → 2 * m + 1 < k → out.length ≤ i → L.drop i = y :: r → p.length + tot (y :: r) ≤ 4000000 →
      burinref01_Lines.l1 k (L.map bstr) (out.map toS) (i : Int) (N : Int) (bstr (p ++ y)) = some ((out ++ renum N p (logical (i + 1) (y :: r))).map toS, 0)) := by
  have hlm : (L.map bstr).length = L.length := List.length_map ..
  -- a line that is ended
  have emit : ∀ (k i N : Nat) (out : List (Nat × List UInt8)) (s : List UInt8) (t : List (Nat × List UInt8)),
      (∀ (out : List (Nat × List UInt8)), out.length ≤ i + 1 → burinref01_Lines.l0 k (L.map bstr) (out.map toS) ((i + 1 : Nat) : Int) = some ((out ++ t).map toS, 0)) → out.length ≤ i → i < L.length →
      (if (out.map toS).length < 5864062014805 then (burinref01_Lines.l0 k (L.map bstr) (out.map toS ++ [(⟨(N : Int), bstr s⟩ : S32)]) (wrap64 ((i : Int) + 1))) else none) = some ((out ++ (N, s) :: t).map toS, 0) := fun k i N out s t h0 ho hi => by
    rw [if_pos (by rw [List.length_map]; omega), wrap64_id (by omega) (by omega), show (i : Int) + 1 = ((i + 1 : Nat) : Int) by omega,
      show out.map toS ++ [(⟨(N : Int), bstr s⟩ : S32)] = (out ++ [(N, s)]).map toS by simp [toS], h0 (out ++ [(N, s)]) (by simp; omega)]
    simp
  intro m
  induction m with
  | zero =>
    have A0 : ∀ (k i : Nat) (out : List (Nat × List UInt8)), i + 0 = L.length → 2 * 0 < k → out.length ≤ i →
      burinref01_Lines.l0 k (L.map bstr) (out.map toS) (i : Int) = some ((out ++ logical (i + 1) (L.drop i)).map toS, 0) := by
      intro k i out hi hk ho
      obtain ⟨k, rfl⟩ : ∃ k', k = k' + 1 := ⟨k - 1, by omega⟩
      rw [burinref01_Lines.l0, if_neg (by omega), List.drop_eq_nil_of_le (by omega)]; simp [logical]
    refine ⟨A0, ?_⟩
    intro k i N out p y r hi hk ho hd hb
    obtain ⟨k, rfl⟩ : ∃ k', k = k' + 1 := ⟨k - 1, by omega⟩
    have hr : r = [] := by
      have := congrArg List.length hd
      simp only [List.length_drop, List.length_cons] at this
      exact List.eq_nil_of_length_eq_zero (by omega)
    subst hr
    have hlog : renum N p (logical (i + 1) [y]) = (N, p ++ y) :: [] := by
      rw [logical]; split <;> rfl
    rw [burinref01_Lines.l1, if_neg (by rw [wrap64_id (by omega) (by omega)]; omega), hlog]
    refine emit k i N out (p ++ y) [] (fun out' ho' => ?_) ho (by omega)
    have := A0 k (i + 1) out' (by omega) (by omega) ho'
    rw [this, List.drop_eq_nil_of_le (by omega)]; simp [logical]
  | succ m ih =>
    obtain ⟨ihA, ihB⟩ := ih
    have A1 : ∀ (k i : Nat) (out : List (Nat × List UInt8)), i + (m + 1) = L.length → 2 * (m + 1) < k → out.length ≤ i →
      burinref01_Lines.l0 k (L.map bstr) (out.map toS) (i : Int) = some ((out ++ logical (i + 1) (L.drop i)).map toS, 0) := by
      intro k i out hi hk ho
      obtain ⟨k, rfl⟩ : ∃ k', k = k' + 1 := ⟨k - 1, by omega⟩
      have hlt : i < L.length := by omega
      have hd := List.drop_eq_getElem_cons hlt
      have ht := tot_drop L i
      rw [burinref01_Lines.l0, if_pos (by omega), if_pos (by omega), rdOf_map (List.getElem?_eq_getElem hlt), wrap64_id (by omega) (by omega), show (i : Int) + 1 = ((i + 1 : Nat) : Int) by omega]
      have := ihB k i (i + 1) out [] (L[i]) (L.drop (i + 1)) (by omega) (by omega) ho hd (by rw [← hd]; simp; omega)
      rw [List.nil_append] at this
      rw [this, hd]
      obtain ⟨s, t, e⟩ := logical_cons (i + 1) (L[i]) (L.drop (i + 1))
      rw [e]; rfl
    refine ⟨A1, ?_⟩
    intro k i N out p y r hi hk ho hd hb
    obtain ⟨k, rfl⟩ : ∃ k', k = k' + 1 := ⟨k - 1, by omega⟩
    have hlt : i < L.length := by omega
    have hlt1 : i + 1 < L.length := by omega
    have hd1 := List.drop_eq_getElem_cons hlt
    rw [hd1] at hd
    obtain ⟨hy, hr⟩ := List.cons.inj hd
    have hyg : L[i]? = some y := by rw [List.getElem?_eq_getElem hlt, hy]
    have hr2 := List.drop_eq_getElem_cons hlt1
    obtain ⟨z, hz⟩ : ∃ z, z = L[i + 1] := ⟨_, rfl⟩
    obtain ⟨r', hr'⟩ : ∃ r', r' = L.drop (i + 1 + 1) := ⟨_, rfl⟩
    rw [← hz, ← hr'] at hr2
    have hrz : r = z :: r' := by rw [← hr, hr2]
    have hzg : L[i + 1]? = some z := by rw [List.getElem?_eq_getElem hlt1, hz]
    have hw : wrap64 ((i : Int) + 1) = ((i + 1 : Nat) : Int) := by rw [wrap64_id (by omega) (by omega)]; omega
    have hys : (bstr y).size = y.length := size_bstr y
    have hpys : (bstr (p ++ y)).size = p.length + y.length := by rw [size_bstr, List.length_append]
    have htot : tot (y :: r) = y.length + (z.length + tot r') := by rw [hrz]; simp [tot]
    have hl0 : Lib.hasSuffix y [92] = false → (if (out.map toS).length < 5864062014805 then (burinref01_Lines.l0 k (L.map bstr) (out.map toS ++ [(⟨(N : Int), bstr (p ++ y)⟩ : S32)]) (wrap64 ((i : Int) + 1))) else none) = some ((out ++ renum N p (logical (i + 1) (y :: r))).map toS, 0) := fun hs => by
      have hlog : renum N p (logical (i + 1) (y :: r)) = (N, p ++ y) :: logical (i + 1 + 1) (L.drop (i + 1)) := by
        rw [logical, hs, if_neg (by decide), hr]; rfl
      rw [hlog]
      exact emit k i N out (p ++ y) _ (fun out' ho' => A1 k (i + 1) out' (by omega) (by omega) ho') ho hlt
    rw [burinref01_Lines.l1, hw, if_pos (by omega), if_pos (by omega), if_pos (by omega), rdOf_map hyg, ← hw]
    by_cases hy0 : y = []
    · have h0 : ¬ (((bstr y).size : Int) > 0) := by rw [hys, hy0]; simp
      rw [if_neg h0]
      exact hl0 (by rw [hy0]; rfl)
    · have hyl := List.length_pos_iff.2 hy0
      have hwy : wrap64 (((bstr y).size : Int) - 1) = ((y.length - 1 : Nat) : Int) := by rw [hys, wrap64_id (by omega) (by omega)]; omega
      rw [if_pos (by omega), hwy, if_pos (by omega), if_pos (by omega)]
      cases hs : Lib.hasSuffix y [92] with
      | false =>
        rw [if_neg (by rw [last_test y hy0, hs]; decide)]
        exact hl0 hs
      | true =>
        have hwp : wrap64 (((bstr (p ++ y)).size : Int) - 1) = ((p.length + y.length - 1 : Nat) : Int) := by rw [hpys, wrap64_id (by omega) (by omega)]; omega
        have hex : (bstr (p ++ y)).extract 0 (((p.length + y.length - 1 : Nat) : Int)).toNat = bstr (p ++ y.dropLast) := by
          rw [extract_bstr, Int.toNat_natCast]
          congr 1
          rw [List.take_append, List.take_of_length_le (by omega), List.dropLast_eq_take]
          congr 2; omega
        rw [if_pos ((last_test y hy0).2 hs), hwp, if_pos (by omega), if_pos (by omega), hw, if_pos (by omega), hex, rdOf_map hzg, if_pos (by rw [size_bstr, size_bstr, List.length_append, List.length_dropLast]; omega), app_bstr]
        have := ihB k (i + 1) N out (p ++ y.dropLast) z r' (by omega) (by omega) (by omega) hr2 (by rw [List.length_append, List.length_dropLast]; simp only [tot, List.map_cons, List.sum_cons] at htot hb ⊢; omega)
        rw [this]
        congr 4
        rw [hrz, show logical (i + 1) (y :: z :: r') = glue (i + 1) y (logical (i + 1 + 1) (z :: r')) by rw [logical.eq_def]; simp only [hs, if_true]]
        obtain ⟨s, t, e⟩ := logical_cons (i + 1 + 1) z r'
        rw [e]
        show (N, p ++ y.dropLast ++ s) :: t = (N, p ++ (y.dropLast ++ s)) :: t
        rw [List.append_assoc]
theorem ref_Lines_eq (a : ByteArray) (h : a.size ≤ 65536) (k : Nat) (hk : 200000 < k) : burinref01_Lines.f k a = some ((linesOf a).map toS, 0) := by
  have hp := phys_len _ a.data.toList (Nat.le_refl _)
  rw [← Lib.size_eq] at hp
  unfold burinref01_Lines.f
  rw [if_neg (by omega), physical_ok a (by omega) k (by omega), Option.bind_some]
  have := (Lines_l (phys a.data.toList) (by omega) (by have := tot_phys a.data.toList; rw [← Lib.size_eq] at this; omega) (phys a.data.toList).length).1 k 0 [] (by omega) (by omega) (by simp)
  simpa [linesOf] using this
theorem ref_Lines_big (a : ByteArray) (h : 65536 < a.size) (k : Nat) : burinref01_Lines.f k a = some ([], 10) := by
  unfold burinref01_Lines.f; rw [if_pos (by omega)]
theorem TextLines : burinlaw01_TextLines.Pure := by
  intro a _
  refine ⟨300000, ?_⟩
  unfold burinlaw01_TextLines.f
  rw [shown_ok _ (by decide), Option.bind_some]
  by_cases h : a.size ≤ 65536
  · have hl : ((linesOf a).map toS).length ≤ 65536 := by rw [List.length_map]; exact Nat.le_trans (linesOf_len a) h
    rw [text_Lines_eq a h, Option.bind_some, ref_Lines_eq a h _ (by decide), Option.bind_some, if_pos rfl, Same_ok ((linesOf a).map toS) (by omega) _ (by omega), Option.bind_some, if_pos rfl]
    rfl
  · rw [text_Lines_big a (by omega), Option.bind_some, ref_Lines_big a (by omega), Option.bind_some, if_pos rfl, Same_ok _ (by decide) _ (by decide), Option.bind_some, if_pos rfl]
    rfl
theorem TextPhysical_upto (a : ByteArray) (h : a.size ≤ 1048576) : ∃ k, burinlaw01_TextPhysical.f k a = some true := by
  refine ⟨3000000, ?_⟩
  unfold burinlaw01_TextPhysical.f burinref01_Physical.f
  rw [shown_ok _ (by decide), Option.bind_some, if_pos rfl, text_Physical_eq a (by omega), Option.bind_some, physical_ok a h _ (by omega), Option.bind_some, Option.bind_some]
  simp
end Go.Proofs.Ytgipfcdmhdljgaa.Pure
