import Derived.Test.YtcbfbefpbjmglaaGreatDoorLQ0
set_option linter.unusedSimpArgs false
set_option linter.unusedVariables false
namespace Go.Proofs.YtcbfbefpbjmglaaGreatDoor.PureF
open Go.RowKit Go.Lib YtcbfbefpbjmglaaGreatDoorT PA YtcbfbefpbjmglaaGreatDoorW PrintWords PrintLast PrintMore
def segs (T : List UInt8) : Nat → Nat → Nat → List (List UInt8)
 | 0, _, _ => []
 | d + 1, a, i => if T.getD i 0 = 32 then ((T.drop a).take (i - a)) :: segs T d (i + 1) (i + 1) else segs T d a (i + 1)
theorem segs_eq : segs (sgs.flatMap fun x => x ++ [32]) 122 0 0 = sgs := by decide +kernel
theorem text_eq : (⟨#[46, 46, 46, 32, 60, 60, 61, 32, 62, 62, 61, 32, 45, 62, 32, 43, 43, 32, 45, 45, 32, 60, 60, 32, 62, 62, 32, 60, 61, 32, 62, 61, 32, 61, 61, 32, 33, 61, 32, 38, 38, 32, 124, 124, 32, 42, 61, 32, 47, 61, 32, 37, 61, 32, 43, 61, 32, 45, 61, 32, 38, 61, 32, 94, 61, 32, 124, 61, 32, 35, 35, 32, 91, 32, 93, 32, 40, 32, 41, 32, 123, 32, 125, 32, 46, 32, 38, 32, 42, 32, 43, 32, 45, 32, 126, 32, 33, 32, 47, 32, 37, 32, 60, 32, 62, 32, 94, 32, 124, 32, 63, 32, 58, 32, 59, 32, 61, 32, 44, 32, 35, 32]⟩ : ByteArray) = bstr (sgs.flatMap fun x => x ++ [32]) := by
 apply ByteArray.ext
 decide +kernel
theorem memS_cons (s x : List UInt8) (t : List (List UInt8)) : memS s (x :: t) = if x = s then true else memS s t := by
 unfold memS
 rw [List.any_cons]
 by_cases h : x = s
 ·rw [if_pos h, decide_eq_true h]; rfl
 ·rw [if_neg h, decide_eq_false h]; rfl
theorem punct_l0 (s : ByteArray) (e : Nat) : ∀ d a i : Nat, i + d = 122 → a ≤ i → burinref02_Punct.l0 (d + 1 + e) s (a : Int) (i : Int) = some (memS s.data.toList (segs (sgs.flatMap fun x => x ++ [32]) d a i)) := by
 intro d
 induction d with
 | zero =>
  intro a i h ha
  rw [show 0 + 1 + e = e + 1 by omega]
  unfold burinref02_Punct.l0
  rw [if_neg (by omega)]; rfl
 | succ d ih =>
  intro a i h ha
  rw [show d + 1 + 1 + e = (d + 1 + e) + 1 by omega, burinref02_Punct.l0, text_eq, if_pos (by omega), if_pos (by omega)]
  obtain ⟨T, hT⟩ : ∃ T, (sgs.flatMap fun x => x ++ [32]) = T := ⟨_, rfl⟩
  have hTl : T.length = 122 := by rw [← hT]; decide +kernel
  rw [hT] at ih ⊢
  have hb : bt (bstr T) (i : Int) = ((T.getD i 0).toNat : Int) := bt_eq (bstr T) i (by rw [bstr_size]; omega)
  have hw : wrap64 ((i : Int) + 1) = ((i + 1 : Nat) : Int) := wrap_succ i (by omega)
  rw [hb, hw, segs]
  by_cases h1 : T.getD i 0 = 32
  ·rw [if_pos (by rw [h1]; rfl), if_pos h1, if_pos (by omega), if_pos (by omega), if_pos (by omega), memS_cons]
   have hx : ((bstr T).extract (a : Int).toNat (i : Int).toNat).toList = (T.drop a).take (i - a) := by
    rw [Lib.toList_data]
    simp [bstr]
   rw [hx, Lib.toList_data]
   by_cases h2 : (T.drop a).take (i - a) = s.data.toList
   ·rw [if_pos h2, if_pos h2]
   ·rw [if_neg h2, if_neg h2]
    exact ih (i + 1) (i + 1) (by omega) (by omega)
  ·have e1 : ¬ (((T.getD i 0).toNat : Int) = 32) := fun hh => h1 ((byte_eq (T.getD i 0) 32 (by omega)).1 hh)
   rw [if_neg e1, if_neg h1]
   exact ih a (i + 1) (by omega) (by omega)
theorem punct_eq (s : ByteArray) (e : Nat) : burinref02_Punct.f (123 + e) s = some (memS s.data.toList sgs) := by
 unfold burinref02_Punct.f
 have := punct_l0 s e 122 0 0 (by omega) (by omega)
 rw [segs_eq] at this
 exact this
def sg3 : List (List UInt8) := sgs.take 3
def sg2 : List (List UInt8) := (sgs.drop 3).take 20
def sg1 : List (List UInt8) := sgs.drop 23
theorem sgs_parts : sgs = sg3 ++ (sg2 ++ sg1) := by decide +kernel
theorem find_len (l : List UInt8) (n : Nat) : ∀ t : List (List UInt8), (∀ x ∈ t, x.length = n) → t.find? (fun x => Lib.hasPrefix l x) = if l.take n ∈ t then some (l.take n) else none := by
 intro t
 induction t with
 | nil => intro _; simp
 | cons a t ih =>
  intro h
  have ha := h a (by simp)
  rw [List.find?_cons, ih (fun x hx => h x (by simp [hx]))]
  by_cases hp : Lib.hasPrefix l a = true
  ·rw [hp]
   have := List.prefix_iff_eq_take.1 ((hasPrefix_iff l a).1 hp)
   rw [ha] at this
   show some a = _
   rw [← this, if_pos (by simp)]
  ·have hp' : Lib.hasPrefix l a = false := by simpa using hp
   rw [hp']
   have hne : l.take n ≠ a := by
    intro hh
    apply hp
    rw [hasPrefix_iff, ← hh]
    exact List.take_prefix n l
   simp only [List.mem_cons, hne, false_or]
theorem sg_len : (∀ x ∈ sg3, x.length = 3) ∧ (∀ x ∈ sg2, x.length = 2) ∧ (∀ x ∈ sg1, x.length = 1) := by decide +kernel
theorem mem_len (p : List UInt8) : (p ∈ sgs ∧ p.length = 3 ↔ p ∈ sg3) ∧ (p ∈ sgs ∧ p.length = 2 ↔ p ∈ sg2) ∧ (p ∈ sgs ∧ p.length = 1 ↔ p ∈ sg1) := by
 obtain ⟨h3, h2, h1⟩ := sg_len
 rw [sgs_parts]
 simp only [List.mem_append]
 refine ⟨⟨?_, fun h => ⟨.inl h, h3 p h⟩⟩, ⟨?_, fun h => ⟨.inr (.inl h), h2 p h⟩⟩, ⟨?_, fun h => ⟨.inr (.inr h), h1 p h⟩⟩⟩
 ·rintro ⟨h | h | h, hl⟩
  ·exact h
  ·have := h2 p h; omega
  ·have := h1 p h; omega
 ·rintro ⟨h | h | h, hl⟩
  ·have := h3 p h; omega
  ·exact h
  ·have := h1 p h; omega
 ·rintro ⟨h | h | h, hl⟩
  ·have := h3 p h; omega
  ·have := h2 p h; omega
  ·exact h
theorem sgn_eq (l : List UInt8) : sgn l sgs = if l.take 3 ∈ sg3 then (5, 3) else if l.take 2 ∈ sg2 then (5, 2) else if l.take 1 ∈ sg1 then (5, 1) else (6, 1) := by
 obtain ⟨h3, h2, h1⟩ := sg_len
 have hf : sgs.find? (fun x => Lib.hasPrefix l x) = if l.take 3 ∈ sg3 then some (l.take 3) else if l.take 2 ∈ sg2 then some (l.take 2) else if l.take 1 ∈ sg1 then some (l.take 1) else none := by
  rw [sgs_parts, List.find?_append, List.find?_append, find_len l 3 sg3 h3, find_len l 2 sg2 h2, find_len l 1 sg1 h1]
  by_cases a3 : l.take 3 ∈ sg3
  ·rw [if_pos a3, if_pos a3]; rfl
  ·rw [if_neg a3, if_neg a3]
   by_cases a2 : l.take 2 ∈ sg2
   ·rw [if_pos a2, if_pos a2]; rfl
   ·rw [if_neg a2, if_neg a2]; rfl
 unfold sgn
 rw [hf]
 by_cases a3 : l.take 3 ∈ sg3
 ·rw [if_pos a3, if_pos a3]
  show (5, (l.take 3).length) = _
  rw [h3 _ a3]
 ·rw [if_neg a3, if_neg a3]
  by_cases a2 : l.take 2 ∈ sg2
  ·rw [if_pos a2, if_pos a2]
   show (5, (l.take 2).length) = _
   rw [h2 _ a2]
  ·rw [if_neg a2, if_neg a2]
   by_cases a1 : l.take 1 ∈ sg1
   ·rw [if_pos a1, if_pos a1]
    show (5, (l.take 1).length) = _
    rw [h1 _ a1]
   ·rw [if_neg a1, if_neg a1]
def signN (l : List UInt8) : Nat := if l.take 3 ∈ sg3 then 3 else if l.take 2 ∈ sg2 then 2 else if l.take 1 ∈ sg1 then 1 else 0
theorem sign_step (l : List UInt8) (n : Nat) (e : Nat) (h1 : 0 < n) (h3 : n ≤ 3) (h2 : n ≤ l.length) : burinref02_sign.l0 (123 + e + 1) (bstr l) (n : Int) = if memS (l.take n) sgs then some (n : Int) else burinref02_sign.l0 (123 + e) (bstr l) ((n - 1 : Nat) : Int) := by
 have hw : wrap64 ((n : Int) - 1) = ((n - 1 : Nat) : Int) := by unfold wrap64; omega
 rw [burinref02_sign.l0, if_pos (by omega), if_pos (by omega), if_pos (by rw [bstr_size]; omega), punct_eq, Option.bind_some, hw]
 have : ((bstr l).extract 0 (n : Int).toNat).data.toList = l.take n := by simp [bstr]
 rw [this]
theorem sign_zero (l : List UInt8) (e : Nat) : burinref02_sign.l0 (e + 1) (bstr l) 0 = some 0 := by
 rw [burinref02_sign.l0, if_neg (by decide)]
theorem memS_take (l : List UInt8) (n : Nat) : memS (l.take n) sgs = decide (l.take n ∈ sgs) := by
 rw [Bool.eq_iff_iff, memS_iff, decide_eq_true_eq]
theorem take_len_mem {l : List UInt8} {n : Nat} {t : List (List UInt8)} (ht : ∀ x ∈ t, x.length = n) (h : l.take n ∈ t) : n ≤ l.length := by
 have := ht _ h
 rw [List.length_take] at this
 omega
theorem sign_eq (l : List UInt8) (hl : 0 < l.length) (hs : l.length < 9223372036854775800) (e : Nat) : burinref02_sign.f (127 + e) (bstr l) = some ((signN l : Nat) : Int) := by
 obtain ⟨l3, l2, l1⟩ := sg_len
 have hm : ∀ n, n ≤ l.length → (l.take n).length = n := fun n h => by rw [List.length_take]; omega
 have s1 : burinref02_sign.l0 (125 + e) (bstr l) ((1 : Nat) : Int) = some (((if l.take 1 ∈ sg1 then 1 else 0 : Nat)) : Int) := by
  rw [show 125 + e = 123 + (e + 1) + 1 by omega, sign_step l 1 (e + 1) (by omega) (by omega) (by omega), memS_take, show 123 + (e + 1) = (123 + e) + 1 by omega]
  have hi := (mem_len (l.take 1)).2.2
  by_cases h : l.take 1 ∈ sg1
  ·rw [if_pos (decide_eq_true (hi.2 h).1), if_pos h]
  ·rw [if_neg (by rw [decide_eq_true_eq]; exact fun hh => h (hi.1 ⟨hh, hm 1 (by omega)⟩)), if_neg h]
   exact sign_zero l _
 have s2 : 2 ≤ l.length → burinref02_sign.l0 (126 + e) (bstr l) ((2 : Nat) : Int) = some (((if l.take 2 ∈ sg2 then 2 else if l.take 1 ∈ sg1 then 1 else 0 : Nat)) : Int) := fun h2 => by
  rw [show 126 + e = 123 + (e + 2) + 1 by omega, sign_step l 2 (e + 2) (by omega) (by omega) h2, memS_take]
  have hi := (mem_len (l.take 2)).2.1
  by_cases h : l.take 2 ∈ sg2
  ·rw [if_pos (decide_eq_true (hi.2 h).1), if_pos h]
  ·rw [if_neg (by rw [decide_eq_true_eq]; exact fun hh => h (hi.1 ⟨hh, hm 2 h2⟩)), if_neg h, show 123 + (e + 2) = 125 + e by omega]
   exact s1
 unfold burinref02_sign.f signN
 by_cases h3 : 3 ≤ l.length
 ·have hmn : mn 3 ((bstr l).size : Int) = ((3 : Nat) : Int) := by unfold mn; rw [bstr_size, if_neg (by omega)]; rfl
  rw [hmn, show 127 + e = 123 + (e + 3) + 1 by omega, sign_step l 3 (e + 3) (by omega) (by omega) h3, memS_take]
  have hi := (mem_len (l.take 3)).1
  by_cases h : l.take 3 ∈ sg3
  ·rw [if_pos (decide_eq_true (hi.2 h).1), if_pos h]
  ·rw [if_neg (by rw [decide_eq_true_eq]; exact fun hh => h (hi.1 ⟨hh, hm 3 h3⟩)), if_neg h, show 123 + (e + 3) = 126 + e by omega]
   exact s2 (by omega)
 ·have n3 : ¬ l.take 3 ∈ sg3 := fun h => h3 (take_len_mem l3 h)
  rw [if_neg n3]
  by_cases h2 : 2 ≤ l.length
  ·have hmn : mn 3 ((bstr l).size : Int) = ((2 : Nat) : Int) := by unfold mn; rw [bstr_size, if_pos (by omega)]; omega
   rw [hmn, show 127 + e = 126 + (e + 1) by omega]
   have := s2 h2
   rw [show 126 + (e + 1) = 123 + (e + 3) + 1 by omega, sign_step l 2 (e + 3) (by omega) (by omega) h2]
   rw [show 126 + e = 123 + (e + 2) + 1 by omega, sign_step l 2 (e + 2) (by omega) (by omega) h2] at this
   by_cases hc : memS (l.take 2) sgs = true
   ·rw [if_pos hc] at this ⊢; exact this
   ·rw [if_neg hc] at this ⊢
    rw [show ((2 - 1 : Nat) : Int) = ((1 : Nat) : Int) from rfl] at this ⊢
    rw [show 123 + (e + 2) = 125 + e by omega] at this
    have s1' : burinref02_sign.l0 (125 + (e + 1)) (bstr l) ((1 : Nat) : Int) = some (((if l.take 1 ∈ sg1 then 1 else 0 : Nat)) : Int) := by
     rw [show 125 + (e + 1) = 123 + (e + 2) + 1 by omega, sign_step l 1 (e + 2) (by omega) (by omega) (by omega), memS_take, show 123 + (e + 2) = (123 + (e + 1)) + 1 by omega]
     have hi := (mem_len (l.take 1)).2.2
     by_cases h : l.take 1 ∈ sg1
     ·rw [if_pos (decide_eq_true (hi.2 h).1), if_pos h]
     ·rw [if_neg (by rw [decide_eq_true_eq]; exact fun hh => h (hi.1 ⟨hh, hm 1 (by omega)⟩)), if_neg h]
      exact sign_zero l _
    rw [show 123 + (e + 3) = 125 + (e + 1) by omega, s1', ← s1]
    exact this
  ·have n2 : ¬ l.take 2 ∈ sg2 := fun h => h2 (take_len_mem l2 h)
   have hmn : mn 3 ((bstr l).size : Int) = ((1 : Nat) : Int) := by unfold mn; rw [bstr_size, if_pos (by omega)]; omega
   rw [if_neg n2, hmn, show 127 + e = 123 + (e + 3) + 1 by omega, sign_step l 1 (e + 3) (by omega) (by omega) (by omega), memS_take, show 123 + (e + 3) = (123 + (e + 2)) + 1 by omega]
   have hi := (mem_len (l.take 1)).2.2
   by_cases h : l.take 1 ∈ sg1
   ·rw [if_pos (decide_eq_true (hi.2 h).1), if_pos h]
   ·rw [if_neg (by rw [decide_eq_true_eq]; exact fun hh => h (hi.1 ⟨hh, hm 1 (by omega)⟩)), if_neg h]
    exact sign_zero l _
theorem first_eq (l : List UInt8) (hl : l ≠ []) (hs : l.length < 9223372036854775800) : burinref02_first.f (3 * l.length + 200) (bstr l) = some (((nextP (bstr l)).1 : Int), ((nextP (bstr l)).2 : Int)) := by
 have hpos : 0 < l.length := List.length_pos_iff.2 hl
 have hsz := bstr_size l
 unfold burinref02_first.f
 have en := name_eq (bstr l) (by omega) (by omega) (2 * l.length + 199)
 rw [hsz, show l.length + 1 + (2 * l.length + 199) = 3 * l.length + 200 by omega] at en
 rw [en, Option.bind_some]
 unfold nextP
 rw [hsz]
 by_cases h1 : isL (at_ (bstr l) 0) = true
 ·have hp := upto_pos (fun i => isW (at_ (bstr l) i)) l.length 0 hpos (by unfold isW; rw [h1]; rfl)
  rw [if_pos h1, if_pos h1, if_pos (by omega)]
  rfl
 ·rw [if_neg h1, if_neg h1, if_neg (by decide)]
  have eu := number_eq (bstr l) (by omega) (by omega) 193
  rw [hsz, show 3 * l.length + 7 + 193 = 3 * l.length + 200 by omega] at eu
  rw [eu, Option.bind_some]
  by_cases h2 : isNum (bstr l) = true
  ·have h2' : (isD (at_ (bstr l) 0) || (at_ (bstr l) 0 == 46 && (decide (1 < l.length) && isD (at_ (bstr l) 1)))) = true := by
    have := h2
    unfold isNum at this
    rw [hsz] at this
    exact this
   have ho : onN (bstr l) 0 = true := by
    unfold onN
    rw [Bool.or_eq_true] at h2'
    rcases h2' with h | h
    ·unfold isW; rw [h]; simp
    ·rw [Bool.and_eq_true] at h
     rw [h.1]; simp
   have hp := upto_pos (onN (bstr l)) l.length 0 hpos ho
   rw [if_pos h2, if_pos h2', if_pos (by omega)]
   rfl
  ·have h2' : ¬ (isD (at_ (bstr l) 0) || (at_ (bstr l) 0 == 46 && (decide (1 < l.length) && isD (at_ (bstr l) 1)))) = true := by
    have := h2
    unfold isNum at this
    rw [hsz] at this
    exact this
   rw [if_neg h2, if_neg h2', if_neg (by decide), if_pos (by omega), show bt (bstr l) 0 = bt (bstr l) ((0 : Nat) : Int) from rfl, bt_eq (bstr l) 0 (by omega)]
   have eq := quote_eq (bstr l) (by omega) (by omega) (2 * l.length + 198)
   rw [hsz, show l.length + 1 + (2 * l.length + 198) = 3 * l.length + 199 by omega] at eq
   have es := sign_eq l hpos hs (3 * l.length + 72)
   rw [show 127 + (3 * l.length + 72) = 3 * l.length + 199 by omega] at es
   obtain ⟨c, hc⟩ : ∃ c, at_ (bstr l) 0 = c := ⟨_, rfl⟩
   rw [hc]
   have j : ∀ b : Bool, burinref02_first.j0 (3 * l.length + 200) (bstr l) b = if b = true then (if c = 34 then some (4, ((quo (bstr l) l.length 1 : Nat) : Int)) else (if ((quo (bstr l) l.length 1 : Nat) : Int) = 2 then some (3, 0) else some (3, ((quo (bstr l) l.length 1 : Nat) : Int)))) else (if ((signN l : Nat) : Int) > 0 then some (5, ((signN l : Nat) : Int)) else some (6, 1)) := fun b => by
    rw [show 3 * l.length + 200 = (3 * l.length + 199) + 1 by omega, burinref02_first.j0, eq, Option.bind_some, es, Option.bind_some, if_pos (show (0 : Int) < ((bstr l).size : Int) by omega), show bt (bstr l) 0 = bt (bstr l) ((0 : Nat) : Int) from rfl, bt_eq (bstr l) 0 (by omega), hc]
    by_cases h34 : c = 34
    ·rw [if_pos (show ((c.toNat : Int)) = 34 by rw [h34]; rfl), if_pos h34]
    ·have e34 : ¬ ((c.toNat : Int) = 34) := fun hh => h34 ((byte_eq c 34 (by omega)).1 hh)
     rw [if_neg e34, if_neg h34]
   by_cases h34 : c = 34
   ·rw [if_neg (show ¬ ((c.toNat : Int) = 39) by rw [h34]; decide), j, show ((c.toNat : Int) == 34) = true by rw [h34]; rfl, if_pos rfl, if_pos h34, if_pos h34]
    rfl
   ·rw [if_neg h34]
    by_cases h39 : c = 39
    ·rw [if_pos (show (c.toNat : Int) = 39 by rw [h39]; rfl), j, if_pos rfl, if_neg h34, if_pos h39]
     by_cases hq : quo (bstr l) l.length 1 = 2
     ·rw [if_pos (show ((quo (bstr l) l.length 1 : Nat) : Int) = 2 by rw [hq]; rfl), if_pos hq]
      rfl
     ·rw [if_neg (show ¬ ((quo (bstr l) l.length 1 : Nat) : Int) = 2 by omega), if_neg hq]
      rfl
    ·have e39 : ¬ ((c.toNat : Int) = 39) := fun hh => h39 ((byte_eq c 39 (by omega)).1 hh)
     have e34 : ¬ ((c.toNat : Int) = 34) := fun hh => h34 ((byte_eq c 34 (by omega)).1 hh)
     rw [if_neg e39, if_neg h39, j, show ((c.toNat : Int) == 34) = false from beq_eq_false_iff_ne.2 e34, if_neg (by decide)]
     show _ = some (((sgn l sgs).1 : Int), ((sgn l sgs).2 : Int))
     rw [sgn_eq]
     unfold signN
     by_cases a3 : l.take 3 ∈ sg3
     ·rw [if_pos a3, if_pos a3]; rfl
     ·rw [if_neg a3, if_neg a3]
      by_cases a2 : l.take 2 ∈ sg2
      ·rw [if_pos a2, if_pos a2]; rfl
      ·rw [if_neg a2, if_neg a2]
       by_cases a1 : l.take 1 ∈ sg1
       ·rw [if_pos a1, if_pos a1]; rfl
       ·rw [if_neg a1, if_neg a1]; rfl
end Go.Proofs.YtcbfbefpbjmglaaGreatDoor.PureF
