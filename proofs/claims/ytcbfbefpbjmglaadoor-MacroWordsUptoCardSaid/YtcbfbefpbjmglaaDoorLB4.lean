import Derived.Test.YtcbfbefpbjmglaaDoorSHh
import Derived.Test.YtcbfbefpbjmglaaDoorPRc
namespace Go.Proofs.YtcbfbefpbjmglaaDoor.Mac
open Go.RowKit Go.Lib Go.Proofs.YtcbfbefpbjmglaaDoor.PA Go.Proofs.YtcbfbefpbjmglaaDoorT Go.Proofs.YtcbfbefpbjmglaaDoorW.PrintWords Go.Proofs.YtcbfbefpbjmglaaDoorW.PrintLast Go.Proofs.YtcbfbefpbjmglaaDoorW.PrintMore
set_option linter.unusedVariables false
set_option linter.unusedSimpArgs false
theorem app_nil (a : ByteArray) : a ++ (⟨#[]⟩ : ByteArray) = a := by
 apply ByteArray.ext; simp
theorem domM_true {nm : ByteArray} {ps : List ByteArray} {body : List S48} (h : DomM nm ps body) : domM nm ps body = true := by
 unfold domM
 simp only [Bool.and_eq_true, List.all_eq_true, decide_eq_true_eq]
 exact ⟨h.1, h.2.1, h.2.2.1, h.2.2.2.1, h.2.2.2.2⟩
theorem right_f' {nm : ByteArray} {fn more : Bool} {ps : List ByteArray} {body : List S48} (h : DomM nm ps body) : macro_Right.f nm fn ps more body = some (rightP nm fn ps more body) := by
 unfold macro_Right.f; rw [if_pos (domM_true h)]
theorem spellB_le (body : List S48) (h2 : ∀ x ∈ body, x.f1.size ≤ 1048576) : (spellB body).size ≤ body.length * 1048577 := by
 have : (spellB body).size = (Sp.spellN (Sp.itemsOf body)).length := rfl
 rw [this]
 have hi : ∀ x ∈ Sp.itemsOf body, x.2.f1.size ≤ 1048576 := by
  intro x hx
  obtain ⟨j, hj, rfl⟩ := List.mem_map.1 hx
  show (body.getD j z48).f1.size ≤ _
  rw [List.getD_eq_getElem?_getD]
  by_cases hjl : j < body.length
  ·rw [List.getElem?_eq_getElem hjl]; exact h2 _ (List.getElem_mem hjl)
  ·rw [List.getElem?_eq_none (by omega)]; show (0 : Nat) ≤ _; omega
 have := Sp.spellN_len 1048576 (Sp.itemsOf body) hi
 have hl : (Sp.itemsOf body).length = body.length := by simp [Sp.itemsOf, Sp.upto]
 rw [hl] at this
 exact this
theorem joinB_le (l : List ByteArray) (s : ByteArray) (h : ∀ x ∈ l, x.size ≤ 1048576) (hs : s.size ≤ 1048576) : (joinB l s).size ≤ l.length * 2097152 := by
 have := join_len s.data.toList (by rwa [Lib.size_eq] at hs) (l.map (·.data.toList)) (fun x hx => by
  obtain ⟨y, hy, rfl⟩ := List.mem_map.1 hx
  have := h y hy
  rwa [Lib.size_eq] at this)
 rw [List.length_map] at this
 exact this
theorem joinS_f (l : List ByteArray) (h : ∀ x ∈ l, x.size ≤ 1048576) (hl : l.length ≤ 20) : strings_Join.f l (⟨#[44, 32]⟩ : ByteArray) = some (joinB l (⟨#[44, 32]⟩ : ByteArray)) := by
 unfold strings_Join.f
 rw [if_pos]
 unfold fitsJ
 simp only [Bool.and_eq_true, List.all_eq_true, decide_eq_true_eq]
 exact ⟨h, by omega, by show (2 : Nat) ≤ 1048576; omega⟩
theorem spellT_f (body : List S48) (h1 : body.length ≤ 500) (h2 : ∀ x ∈ body, x.f1.size ≤ 1048576) : token_Spell.f body = some (spellB body) := by
 unfold token_Spell.f
 rw [if_pos]
 ·rfl
 ·unfold fitsT
  simp only [Bool.and_eq_true, List.all_eq_true, decide_eq_true_eq]
  exact ⟨h2, by omega⟩
def itemsB (more : Bool) (ps : List ByteArray) : List ByteArray := ps ++ (if more then [dotsA] else [])
theorem itemsB_ok {more : Bool} {ps : List ByteArray} (h : ∀ x ∈ ps, x.size ≤ 1048576) (hl : ps.length ≤ 16) : (∀ x ∈ itemsB more ps, x.size ≤ 1048576) ∧ (itemsB more ps).length ≤ 17 := by
 unfold itemsB
 refine ⟨fun x hx => ?_, ?_⟩
 ·rcases List.mem_append.1 hx with hx | hx
  ·exact h x hx
  ·cases more with
   | false => cases hx
   | true => rw [List.mem_singleton.1 hx]; show (3 : Nat) ≤ _; omega
 ·rw [List.length_append]
  cases more <;> simp <;> omega
theorem show_f (k : Nat) (nm : ByteArray) (fn more : Bool) (ps : List ByteArray) (body : List S48) (hd : DomM nm ps body) :
  macro_Show.f (k + 1) nm fn ps more body = some (if rightP nm fn ps more body then (showP nm fn ps more body, 0) else (⟨#[]⟩, 2)) := by
 unfold macro_Show.f
 rw [right_f' hd, Option.bind_some]
 cases hr : rightP nm fn ps more body with
 | false => rfl
 | true =>
  obtain ⟨hn, h16, hfn, hg, h500, hsp⟩ := rightP_parts hr
  obtain ⟨hnz, _, _, hpz, hbz⟩ := hd
  have hsb := spellB_le body hbz
  have hsb2 : (spellB body).size ≤ 600000000 := by omega
  rw [if_pos rfl, if_pos rfl]
  cases fn with
  | false =>
   rw [if_neg (by decide)]
   unfold showP
   by_cases h0 : 0 < body.length
   ·rw [if_pos (by omega), spellT_f body h500 hbz, Option.bind_some, if_pos (by omega), if_pos (by rw [ByteArray.size_append]; have : (⟨#[32]⟩ : ByteArray).size = 1 := rfl; omega), if_pos h0]
    rfl
   ·rw [if_neg (by omega), if_neg h0, app_nil]
    rfl
  | true =>
   obtain ⟨ok1, ok2⟩ := itemsB_ok (more := more) hpz h16
   have hj := joinB_le (itemsB more ps) (⟨#[44, 32]⟩ : ByteArray) ok1 (by show (2 : Nat) ≤ _; omega)
   have key : macro_Show.j0 (k + 1) nm (itemsB more ps) nm true ps more body = some (showP nm true ps more body, 0) := by
    simp only [macro_Show.j0]
    rw [joinS_f _ ok1 (by omega), Option.bind_some]
    have e40 : (⟨#[40]⟩ : ByteArray).size = 1 := rfl
    have e41 : (⟨#[41]⟩ : ByteArray).size = 1 := rfl
    have e32 : (⟨#[32]⟩ : ByteArray).size = 1 := rfl
    rw [if_pos (by omega), if_pos (by rw [ByteArray.size_append]; omega), if_pos (by rw [ByteArray.size_append, ByteArray.size_append]; omega)]
    unfold showP
    by_cases h0 : 0 < body.length
    ·rw [if_pos (by omega), spellT_f body h500 hbz, Option.bind_some, if_pos (by omega), if_pos (by rw [ByteArray.size_append, ByteArray.size_append, ByteArray.size_append, ByteArray.size_append]; omega), if_pos h0]
     rfl
    ·rw [if_neg (by omega), if_neg h0, app_nil]
     rfl
   rw [if_pos rfl]
   unfold slices_Clone_string_string.f
   rw [if_pos (by omega), Option.bind_some]
   cases more with
   | true =>
    rw [if_pos rfl, if_pos (by omega)]
    exact key
   | false =>
    rw [if_neg (by decide)]
    have e : itemsB false ps = ps := List.append_nil ps
    rw [e] at key
    exact key
end Go.Proofs.YtcbfbefpbjmglaaDoor.Mac
namespace Go.Proofs.YtcbfbefpbjmglaaDoor.Mac
open Go.RowKit Go.Proofs.MapFun Go.Proofs.YtcbfbefpbjmglaaDoor.PA Go.Proofs.YtcbfbefpbjmglaaDoorT Go.Proofs.YtcbfbefpbjmglaaDoorW.PrintWords Go.Proofs.YtcbfbefpbjmglaaDoorW.PrintLast Go.Proofs.YtcbfbefpbjmglaaDoorW.PrintMore
set_option linter.unusedVariables false
set_option linter.unusedSimpArgs false
def cs2 : ByteArray := ⟨#[44, 32]⟩
theorem joinB_one (x : ByteArray) : joinB [x] cs2 = x := by
 apply ByteArray.ext
 show (Lib.join [x.data.toList] [44, 32]).toArray = x.data
 rw [Lib.join_one]
theorem joinB_cons (x y : ByteArray) (r : List ByteArray) : joinB (x :: y :: r) cs2 = x ++ (cs2 ++ joinB (y :: r) cs2) := by
 apply ByteArray.ext
 show (Lib.join (x.data.toList :: y.data.toList :: r.map (·.data.toList)) [44, 32]).toArray = _
 rw [join_two]
 simp [joinB, cs2]
def restJ : Bool → List ByteArray → ByteArray
 | f, [] => ⟨#[]⟩
 | f, x :: r => (if f then x else cs2 ++ x) ++ restJ false r
theorem restJ_join : ∀ (l : List ByteArray), restJ true l = joinB l cs2
 | [] => rfl
 | [x] => by rw [restJ, if_pos rfl, joinB_one]; exact app_nil x
 | x :: y :: r => by
  rw [restJ, if_pos rfl, joinB_cons, ← restJ_join (y :: r)]
  show x ++ ((cs2 ++ y) ++ restJ false r) = x ++ (cs2 ++ (y ++ restJ false r))
  rw [ByteArray.append_assoc]
theorem restJ_app : ∀ (l : List ByteArray) (f : Bool) (y : ByteArray), restJ f (l ++ [y]) = restJ f l ++ (if (f && l.isEmpty) = true then y else cs2 ++ y)
 | [], f, y => by
  cases f with
  | true => show y ++ (⟨#[]⟩ : ByteArray) = (⟨#[]⟩ : ByteArray) ++ y; apply ByteArray.ext; simp
  | false => show (cs2 ++ y) ++ (⟨#[]⟩ : ByteArray) = (⟨#[]⟩ : ByteArray) ++ (cs2 ++ y); apply ByteArray.ext; simp
 | x :: r, f, y => by
  rw [List.cons_append, restJ, restJ, restJ_app r false y, ← ByteArray.append_assoc]
  simp
attribute [local go_sem] Oper.semAt_some
def headB (nm : ByteArray) (fn : Bool) (ps : List ByteArray) (more : Bool) : ByteArray := if fn then nm ++ (((⟨#[40]⟩ : ByteArray) ++ joinB (ps ++ (if more then [dotsA] else [])) (⟨#[44, 32]⟩ : ByteArray)) ++ (⟨#[41]⟩ : ByteArray)) else nm
def showR (nm : ByteArray) (fn : Bool) (ps : List ByteArray) (more : Bool) (body : List S48) : ByteArray × Int := if rightP nm fn ps more body then (showP nm fn ps more body, 0) else (⟨#[]⟩, 2)
set_option maxRecDepth 100000 in
set_option maxHeartbeats 2000000 in
theorem rshow_c (nm : ByteArray) (fn more : Bool) (Ap Ab : Option Addr) (cp cb : Nat) (ps : List ByteArray) (body : List S48) (w : World) (hd : DomM nm ps body)
  (hP : Kd.C Kd.string w Ap ps.length ps) (hpc : ps.length ≤ cp) (hB : Kd.C k48 w Ab body.length body) (hbc : body.length ≤ cb) :
  Calls Tryd.prog 15 #[.agg #[.string nm, .bool fn, .slice Ap ps.length cp, .bool more, .slice Ab body.length cb]] w fun e w' => e = .returned (.tuple #[.string (showR nm fn ps more body).1, .int .i64 (showR nm fn ps more body).2]) ∧ Below w.heap.size w w' := by
 obtain ⟨B, hBw⟩ : ∃ B, w.heap.size = B := ⟨_, rfl⟩
 go_enter Tryd.func15, Tryd.ntmps15
 refine wp_seq_k fun K1 hK1 => ?_
 have HK1 := Lib.hid hK1
 clear hK1
 go_wp2
 refine HK1.out _ _ ?_
 clear HK1
 obtain ⟨W0, hW0⟩ : ∃ W0, w.alloc (.cells #[.string nm, .bool fn, .slice Ap ps.length cp, .bool more, .slice Ab body.length cb] 32) = W0 := ⟨_, rfl⟩
 have hb0 : Below w.heap.size w W0 := by rw [← hW0]; exact (Below.refl _ w).alloc (Nat.le_refl _) _
 have qA : W0.heap[B]? = some (.cells #[.string nm, .bool fn, .slice Ap ps.length cp, .bool more, .slice Ab body.length cb] 32 (0, 0)) := by rw [← hW0, ← hBw]; exact blk_new w _
 rw [hW0]
 try rw [hBw]
 have FA : ∀ W, Below W0.heap.size W0 W → W.heap[B]? = some (.cells #[.string nm, .bool fn, .slice Ap ps.length cp, .bool more, .slice Ab body.length cb] 32 (0, 0)) := fun W hb => (hb.block _ (blk_lt qA)).trans qA
 have HFA := Lib.hid FA
 have HP0 := Kd.C_below hP hb0
 have HB0 := Kd.C_below hB hb0
 have hbr : Below W0.heap.size W0 W0 := Below.refl _ _
 have c0 := blk_cell (FA W0 hbr) 0
 have c1 := blk_cell (FA W0 hbr) 1
 have c2 := blk_cell (FA W0 hbr) 2
 have c3 := blk_cell (FA W0 hbr) 3
 have c4 := blk_cell (FA W0 hbr) 4
 have hrc := rright_c nm fn more Ap Ab cp cb ps body W0 hd HP0 hpc HB0 hbc
 obtain ⟨r, hr⟩ : ∃ r, rightP nm fn ps more body = r := ⟨_, rfl⟩
 rw [hr] at hrc
 cases r with
 | false =>
  have hsr : showR nm fn ps more body = (⟨#[]⟩, 2) := by unfold showR; rw [hr]; rfl
  rw [hsr]
  have HX := Lib.hid (And.intro hrc hb0)
  clear hrc hb0 hr hP hB hd hW0 qA FA hbr HP0 HB0 hsr
  go_wp2_with (go_at_call 17; refine HX.out.1.mono ?_; rintro e W1 ⟨rfl, hb1⟩; have H1 := Lib.hid (HX.out.2.trans (hb1.mono HX.out.2.size)); clear hb1)
  go_ret2
  exact ⟨rfl, hBw ▸ H1.out⟩
 | true =>
  have hsr : showR nm fn ps more body = (showP nm fn ps more body, 0) := by unfold showR; rw [hr]; rfl
  rw [hsr]
  obtain ⟨hn, h16, hfn, hg, h500, hsp⟩ := rightP_parts hr
  obtain ⟨hnz, _, _, hpz, hbz⟩ := hd
  have hsb := spellB_le body hbz
  have hspf : burinref02_Spell.f 30000 body = some (spellB body) := spell_f 30000 body (by omega) hbz (by omega)
  have HX := Lib.hid (And.intro hrc (And.intro hb0 (And.intro HP0 (And.intro HB0 (And.intro hspf (And.intro hpz hfn))))))
  clear hrc hb0 hr hP hB hW0 qA FA HP0 HB0 hsr hspf hpz hfn hbr
  refine wp_seq_k fun K2 hK2 => ?_
  have HK2 := Lib.hid hK2
  clear hK2
  go_wp2_with (go_at_call 17; refine HX.out.1.mono ?_; rintro e W1 ⟨rfl, hb1⟩; clear c0 c1 c2 c3 c4; have c0 := blk_cell (HFA.out W1 hb1) 0; have c1 := blk_cell (HFA.out W1 hb1) 1; have c2 := blk_cell (HFA.out W1 hb1) 2; have c3 := blk_cell (HFA.out W1 hb1) 3; have c4 := blk_cell (HFA.out W1 hb1) 4; have H1 := Lib.hid hb1; clear hb1)
  refine HK2.out _ _ ?_
  clear HK2
  refine wp_seq_k fun K3 hK3 => ?_
  have HK3 := Lib.hid hK3
  clear hK3
  go_wp2
  refine HK3.out _ _ ?_
  clear HK3
  refine wp_seq_k fun K4 hK4 => ?_
  have HK4 := Lib.hid hK4
  clear hK4
  go_wp2
  refine HK4.out _ _ ?_
  clear HK4
  refine wp_seq_k fun K5 hK5 => ?_
  have HD := Lib.hid (And.intro h16 (And.intro h500 (And.intro hnz hsb)))
  have T5 : ∀ x : ByteArray, x = headB nm fn ps more → x.size ≤ 100000000 → ∀ (nn : Nat) u6 u7 u8 u9 u10 u11 u12 u13 u14 u15 u16 u17 u18 u19 u20 u21 u22 u23 u24 u25 u26 u27 u28 u29 u30 u31 u32 u33 u34 u35 u36 u37 u38 u39 u40 u41 u42 u43 u44 u45 u46 u47 u48 u49 u50, K5 { tmps := #[.agg #[.string nm, .bool fn, .slice Ap ps.length cp, .bool more, .slice Ab body.length cb], .pointer (some ⟨B, 0, none⟩), .string ⟨#[]⟩, .int .i64 0, .bool true, .string x, u6, u7, u8, u9, u10, u11, u12, u13, u14, u15, u16, u17, u18, u19, u20, u21, u22, u23, u24, u25, u26, u27, u28, u29, u30, u31, u32, u33, u34, u35, u36, u37, u38, u39, u40, u41, u42, u43, u44, u45, u46, u47, u48, u49, u50, undef, undef, undef, undef, undef, undef, undef, undef, undef, undef, undef], defers := [] } (W1.drewN nn) := by
   intro x hxe hxs nn u6 u7 u8 u9 u10 u11 u12 u13 u14 u15 u16 u17 u18 u19 u20 u21 u22 u23 u24 u25 u26 u27 u28 u29 u30 u31 u32 u33 u34 u35 u36 u37 u38 u39 u40 u41 u42 u43 u44 u45 u46 u47 u48 u49 u50
   refine hK5 _ _ ?_
   have hbn := bl_drewN H1.out nn
   clear c0 c1 c2 c3 c4
   have c4 := blk_cell (HFA.out _ hbn) 4
   have HN := Lib.hid hbn
   have hsp : showP nm fn ps more body = x ++ (if 0 < body.length then (⟨#[32]⟩ : ByteArray) ++ spellB body else ⟨#[]⟩) := by rw [hxe]; rfl
   clear hbn hK5 hxe
   by_cases h0 : 0 < body.length
   ·rw [if_pos h0, ← ByteArray.append_assoc] at hsp
    have HSP := Lib.hid hsp
    clear hsp
    have z1 : (9223372036854775807 < x.size + 1) = False := eq_false (by omega)
    have z2 : (9223372036854775807 < x.size + 1 + (spellB body).size) = False := eq_false (by omega)
    go_wp2_with (go_at_call 36; refine (burinref02_Spell.calls 30000 Ab cb body _ _ (Kd.C_below HX.out.2.2.2.1 HN.out) hbc HX.out.2.2.2.2.1).mono ?_; rintro e W2 ⟨rfl, hb2⟩; have H2 := Lib.hid (HN.out.trans (hb2.mono HN.out.size)); clear hb2)
    go_ret2
    exact ⟨by rw [HSP.out]; rfl, hBw ▸ HX.out.2.1.trans (H2.out.mono HX.out.2.1.size)⟩
   ·rw [if_neg h0, app_nil] at hsp
    have HSP := Lib.hid hsp
    clear hsp
    go_wp2
    go_ret2
    exact ⟨by rw [HSP.out]; rfl, hBw ▸ HX.out.2.1.trans (HN.out.mono HX.out.2.1.size)⟩
  have HT5 := Lib.hid T5
  clear T5 hK5
  cases fn with
  | false =>
   have hx : nm = headB nm false ps more := rfl
   have HXN := Lib.hid hx
   clear hx
   go_wp2
   exact HT5.out nm HXN.out (by omega) 0 _ _ _ _ _ _ _ _ _ _ _ _ _ _ _ _ _ _ _ _ _ _ _ _ _ _ _ _ _ _ _ _ _ _ _ _ _ _ _ _ _ _ _ _ _
  | true =>
   have HB1 := Lib.hid H1.out
   have HP1 := Lib.hid (Kd.C_below HX.out.2.2.1 H1.out)
   have hz1 : (9223372036854775807 < nm.size + 1) = False := eq_false (by omega)
   go_wp2
   go_loopw [5, 6] (fun v i W => ∃ (k n : Nat) (x : ByteArray), k ≤ ps.length ∧ i = .int .i64 (k : Int) ∧ v = .string x ∧ W = W1.drewN n ∧ Hid (x = (nm ++ (⟨#[40]⟩ : ByteArray)) ++ restJ true (ps.take k)) ∧ x.size ≤ 2000000 + k * 1048578) (fun v i _ => ps.length + 2 - (intOf i).toNat)
   case atStart => exact ⟨0, 0, nm ++ (⟨#[40]⟩ : ByteArray), Nat.zero_le _, rfl, rfl, rfl, Lib.hid (by rw [List.take_zero]; exact (app_nil _).symm), by rw [ByteArray.size_append]; have : (⟨#[40]⟩ : ByteArray).size = 1 := rfl; omega⟩
   case round =>
    obtain ⟨k, n, x, hk, rfl, rfl, rfl, hx, hxs⟩ := hrel
    have hbn := bl_drewN H1.out n
    clear c0 c1 c2 c3 c4
    have c2 := blk_cell (HFA.out _ hbn) 2
    have c3 := blk_cell (HFA.out _ hbn) 3
    clear hbn
    by_cases hlt : k < ps.length
    ·obtain ⟨ad, had, a0⟩ := str_at (Kd.C_drewN HP1.out n) hlt
     subst had
     have hpz := HX.out.2.2.2.2.2.1 _ (List.getElem_mem hlt)
     have htk : ps.take (k + 1) = ps.take k ++ [ps[k]] := List.take_succ_eq_append_getElem hlt
     have hra := restJ_app (ps.take k) true ps[k]
     rw [← htk] at hra
     obtain ⟨p, hp⟩ : ∃ p, ps[k] = p := ⟨_, rfl⟩
     rw [hp] at a0 hpz hra
     have HRA := Lib.hid (And.intro hra hpz)
     clear hra htk hp
     have d1 : (k : Int) < (ps.length : Int) := by omega
     by_cases h0 : 0 < k
     ·have z1 : (9223372036854775807 < x.size + 2) = False := eq_false (by omega)
      have z2 : (9223372036854775807 < x.size + 2 + p.size) = False := eq_false (by omega)
      have d2 : (0 : Int) < (k : Int) := by omega
      go_wp2
      go_roundw
      case rel =>
       refine ⟨k + 1, n, (x ++ cs2) ++ p, by omega, by go_num, rfl, rfl, Lib.hid ?_, by rw [ByteArray.size_append, ByteArray.size_append]; have : cs2.size = 2 := rfl; have := HRA.out.2; omega⟩
       rw [HRA.out.1, hx.out, if_neg (by cases ps with | nil => simp at hlt | cons a b => cases k with | zero => omega | succ k => simp)]
       simp only [ByteArray.append_assoc]
      case measure => simp [intOf]; omega
     ·have z2 : (9223372036854775807 < x.size + p.size) = False := eq_false (by omega)
      have d2 : ¬ ((0 : Int) < (k : Int)) := by omega
      go_wp2
      go_roundw
      case rel =>
       refine ⟨k + 1, n, x ++ p, by omega, by go_num, rfl, rfl, Lib.hid ?_, by rw [ByteArray.size_append]; have := HRA.out.2; omega⟩
       have hk0 : k = 0 := by omega
       rw [HRA.out.1, hx.out, if_pos (by rw [hk0]; simp)]
       simp only [ByteArray.append_assoc]
      case measure => simp [intOf]; omega
    ·have d1 : ¬ ((k : Int) < (ps.length : Int)) := by omega
     have hall : ps.take k = ps := List.take_of_length_le (by omega)
     have hxx := hx.out
     rw [hall] at hxx
     have HXX := Lib.hid hxx
     have e3 : (⟨#[46, 46, 46]⟩ : ByteArray).size = 3 := rfl
     have e41 : (⟨#[41]⟩ : ByteArray).size = 1 := rfl
     have e2 : (⟨#[44, 32]⟩ : ByteArray).size = 2 := rfl
     clear hall hxx hx
     cases more with
     | false =>
      have z1 : (9223372036854775807 < x.size + 1) = False := eq_false (by omega)
      go_wp2
      refine HT5.out (x ++ (⟨#[41]⟩ : ByteArray)) ?_ (by rw [ByteArray.size_append]; omega) n _ _ _ _ _ _ _ _ _ _ _ _ _ _ _ _ _ _ _ _ _ _ _ _ _ _ _ _ _ _ _ _ _ _ _ _ _ _ _ _ _ _ _ _ _
      show _ = nm ++ (((⟨#[40]⟩ : ByteArray) ++ joinB (ps ++ []) cs2) ++ (⟨#[41]⟩ : ByteArray))
      rw [HXX.out, List.append_nil, ← restJ_join, ByteArray.append_assoc, ByteArray.append_assoc, ByteArray.append_assoc]
     | true =>
      by_cases h0 : 0 < ps.length
      ·have z1 : (9223372036854775807 < x.size + 2) = False := eq_false (by omega)
       have z2 : (9223372036854775807 < x.size + 2 + 3) = False := eq_false (by omega)
       have z3 : (9223372036854775807 < x.size + 2 + 3 + 1) = False := eq_false (by omega)
       have d2 : decide ((ps.length : Int) > 0) = true := decide_eq_true (by omega)
       have d3 : (0 : Int) < (ps.length : Int) := by omega
       go_wp2
       refine HT5.out (((x ++ cs2) ++ dotsA) ++ (⟨#[41]⟩ : ByteArray)) ?_ (by rw [ByteArray.size_append, ByteArray.size_append, ByteArray.size_append]; have : cs2.size = 2 := rfl; have : dotsA.size = 3 := rfl; omega) n _ _ _ _ _ _ _ _ _ _ _ _ _ _ _ _ _ _ _ _ _ _ _ _ _ _ _ _ _ _ _ _ _ _ _ _ _ _ _ _ _ _ _ _ _
       show _ = nm ++ (((⟨#[40]⟩ : ByteArray) ++ joinB (ps ++ [dotsA]) cs2) ++ (⟨#[41]⟩ : ByteArray))
       rw [HXX.out, ← restJ_join, restJ_app, if_neg (by cases ps with | nil => simp at h0 | cons a b => simp)]
       simp only [ByteArray.append_assoc]
      ·have z2 : (9223372036854775807 < x.size + 3) = False := eq_false (by omega)
       have z3 : (9223372036854775807 < x.size + 3 + 1) = False := eq_false (by omega)
       have d2 : decide ((ps.length : Int) > 0) = false := decide_eq_false (by omega)
       have d3 : ¬ ((0 : Int) < (ps.length : Int)) := by omega
       have hnil : ps.isEmpty = true := by cases ps with | nil => rfl | cons a b => simp at h0
       have HNIL := Lib.hid hnil
       clear hnil
       go_wp2
       refine HT5.out ((x ++ dotsA) ++ (⟨#[41]⟩ : ByteArray)) ?_ (by rw [ByteArray.size_append, ByteArray.size_append]; have : dotsA.size = 3 := rfl; omega) n _ _ _ _ _ _ _ _ _ _ _ _ _ _ _ _ _ _ _ _ _ _ _ _ _ _ _ _ _ _ _ _ _ _ _ _ _ _ _ _ _ _ _ _ _
       show _ = nm ++ (((⟨#[40]⟩ : ByteArray) ++ joinB (ps ++ [dotsA]) cs2) ++ (⟨#[41]⟩ : ByteArray))
       rw [HXX.out, ← restJ_join, restJ_app, if_pos (by rw [HNIL.out]; rfl)]
       simp only [ByteArray.append_assoc]
end Go.Proofs.YtcbfbefpbjmglaaDoor.Mac
