import Derived.Test.YtgipfcdmhdljgaaH
import Derived.Test.YtgipfcdmhdljgaaShelf
namespace Go.Proofs
set_option linter.unusedVariables false
set_option linter.unusedSimpArgs false
open Go.Shelf
def Try.lays240_ren : Go.Shelf.Ren := ⟨fun | 240 => 30 | 276 => 36 | n => n, fun | 70 => 45 | 72 => 47 | 164 => 64 | 37 => 44 | 75 => 49 | 80 => 53 | 127 => 56 | n => n, fun | n => n⟩
theorem Try.lays240 : Go.Proofs.Lays.n240 Try.prog Try.lays240_ren := {
  mixed := by kernel_rfl
  f240 := Try.func30.trans (congrArg some (by kernel_rfl))
  f276 := Try.func36.trans (congrArg some (by kernel_rfl))
  t0 := Try.underlying0
  a0 := Try.isAgg0
  z0 := Try.sizeOf0
  v0 := Try.zeroValue0
  t4 := Try.underlying4
  a4 := Try.isAgg4
  z4 := Try.sizeOf4
  v4 := Try.zeroValue4
  t9 := Try.underlying9
  a9 := Try.isAgg9
  z9 := Try.sizeOf9
  v9 := Try.zeroValue9
  t20 := Try.underlying20
  a20 := Try.isAgg20
  z20 := Try.sizeOf20
  v20 := Try.zeroValue20
  t70 := Try.underlying45
  a70 := Try.isAgg45
  z70 := Try.sizeOf45
  v70 := Try.zeroValue45
  t72 := Try.underlying47
  a72 := Try.isAgg47
  z72 := Try.sizeOf47
  v72 := Try.zeroValue47
  t164 := Try.underlying64
  a164 := Try.isAgg64
  z164 := Try.sizeOf64
  v164 := Try.zeroValue64 }
def Try.lays166_ren : Go.Shelf.Ren := ⟨fun | 166 => 22 | 240 => 30 | 276 => 36 | n => n, fun | 70 => 45 | 72 => 47 | 164 => 64 | 37 => 44 | 75 => 49 | 80 => 53 | 127 => 56 | n => n, fun | n => n⟩
theorem Try.lays166 : Go.Proofs.Lays.n166 Try.prog Try.lays166_ren := {
  mixed := by kernel_rfl
  f166 := Try.func22.trans (congrArg some (by kernel_rfl))
  f240 := Try.func30.trans (congrArg some (by kernel_rfl))
  f276 := Try.func36.trans (congrArg some (by kernel_rfl))
  t0 := Try.underlying0
  a0 := Try.isAgg0
  z0 := Try.sizeOf0
  v0 := Try.zeroValue0
  t3 := Try.underlying3
  a3 := Try.isAgg3
  z3 := Try.sizeOf3
  v3 := Try.zeroValue3
  t4 := Try.underlying4
  a4 := Try.isAgg4
  z4 := Try.sizeOf4
  v4 := Try.zeroValue4
  t9 := Try.underlying9
  a9 := Try.isAgg9
  z9 := Try.sizeOf9
  v9 := Try.zeroValue9
  t20 := Try.underlying20
  a20 := Try.isAgg20
  z20 := Try.sizeOf20
  v20 := Try.zeroValue20
  t37 := Try.underlying44
  a37 := Try.isAgg44
  z37 := Try.sizeOf44
  v37 := Try.zeroValue44
  t70 := Try.underlying45
  a70 := Try.isAgg45
  z70 := Try.sizeOf45
  v70 := Try.zeroValue45
  t72 := Try.underlying47
  a72 := Try.isAgg47
  z72 := Try.sizeOf47
  v72 := Try.zeroValue47
  t75 := Try.underlying49
  a75 := Try.isAgg49
  z75 := Try.sizeOf49
  v75 := Try.zeroValue49
  t164 := Try.underlying64
  a164 := Try.isAgg64
  z164 := Try.sizeOf64
  v164 := Try.zeroValue64 }
theorem Try.Builder_X72_240 : Builder.X72 Try.prog Try.lays240_ren := {
  sizeBuilder := by kernel_rfl
  liesBuilder := by kernel_rfl }
theorem Try.Builder_Extra_166 : Builder.Extra Try.prog Try.lays166_ren := {
  sizeBuilder := by kernel_rfl
  liesBuilder := by kernel_rfl
  t5 := Try.underlying5
  a5 := Try.isAgg5
  z5 := Try.sizeOf5
  v5 := Try.zeroValue5
  infoByte := by kernel_rfl
  cellsByte := by kernel_rfl
  sizeByte := by kernel_rfl
  neB5 := by decide }
open Go.RowKit in
theorem Try.Builder_WriteString (B b : Nat) (bs : List Value) (s : ByteArray) (w : World) (h : Lib.IsBuilder 47 5 B b bs w) (hlen : bs.length + s.size ≤ 140737488355328) (hBw : B ≤ w.heap.size) :
    Calls Try.prog 22 #[.pointer (some ⟨b, 0, none⟩), .string s] w fun e w' => e = .returned (.tuple #[.int .i64 s.size, .nilIface]) ∧ (Lib.BuilderAt 47 5 B b (.pointer (some ⟨b, 0, none⟩)) (bs ++ Lib.strCells s) w' ∧ Below B w w') := Any.Builder_WriteString Try.lays166 Try.Builder_Extra_166 B b bs s w h hlen hBw
end Go.Proofs

namespace Go.Proofs.YtgipfcdmhdljgaaT
set_option linter.unusedVariables false
set_option linter.unusedSimpArgs false
open Go.Shelf Go.RowKit Go.Lib
def spl : Nat → List UInt8
  | 0 => []
  | n + 1 => spl n ++ [92, 10]
def gap (at_ : Int) : List (Int × ByteArray) → Nat
  | [] => 0
  | y :: _ => (y.1 - (at_ + 1)).toNat
/-- What Join makes of lines, from the number at_ on. -/
def joinR : Int → List (Int × ByteArray) → List UInt8
  | _, [] => []
  | at_, x :: r => x.2.data.toList ++ spl (gap at_ r) ++ [10] ++ joinR (at_ + 1 + gap at_ r) r
theorem spl_len : ∀ n, (spl n).length = 2 * n
  | 0 => rfl
  | n + 1 => by rw [spl, List.length_append, spl_len n]; simp; omega
theorem isB_alloc {T e : TypeId} {B b : Nat} {bs : List Value} {w : World} (h : Lib.IsBuilder T e B b bs w) (o : Obj) : Lib.IsBuilder T e B b bs (w.alloc o) := by
  have key : ∀ {p}, Lib.BuilderAt T e B b p bs w → Lib.BuilderAt T e B b p bs (w.alloc o) := fun {p} ⟨h1, v, h2, h3, h4⟩ =>
    ⟨h1, v, (Below.heap_alloc w o b (Array.getElem?_eq_some_iff.1 h2).1).trans h2, h3.alloc o, h4⟩
  exact h.imp key key
theorem joinR_len : ∀ (l : List (Int × ByteArray)) (a : Int), l.length ≤ (joinR a l).length
  | [], _ => Nat.zero_le _
  | x :: r, a => by have := joinR_len r (a + 1 + gap a r); simp only [joinR, List.length_append, List.length_cons, List.length_nil]; omega
theorem cell_in {w : World} {p : Addr} {v : Value} (h : w.cell? p = some v) : p.block < w.heap.size := by
  rcases Nat.lt_or_ge p.block w.heap.size with h1 | h1
  · exact h1
  · unfold World.cell? at h; rw [Array.getElem?_eq_none h1] at h; cases h
theorem strCells_app (bs : List UInt8) (s : ByteArray) : Lib.byteCells bs ++ Lib.strCells s = Lib.byteCells (bs ++ s.data.toList) := by
  simp [Lib.byteCells, Lib.strCells]
theorem byteCells_len (bs : List UInt8) : (Lib.byteCells bs).length = bs.length := by simp [Lib.byteCells]
set_option maxRecDepth 100000 in
set_option maxHeartbeats 4000000 in
theorem text_Join_calls (A : Option Addr) (c : Nat) (l : List (Int × ByteArray)) (w : World) (hfull : (joinR 1 l).length ≤ 65536)
    (hA : 0 < l.length → ∃ ad, A = some ad ∧ ∀ i x, l[i]? = some x → w.cell? (ad.add (i * 2)) = some (.int .i64 x.1) ∧ w.cell? ⟨(ad.add (i * 2)).block, (ad.add (i * 2)).off + 1, none⟩ = some (.string x.2)) :
    Calls Try.prog 17 #[.slice A l.length c] w fun e w' => e = .returned (.string ⟨(joinR 1 l).toArray⟩) ∧ Below w.heap.size w w' := by
  go_enter Try.func17, Try.ntmps17
  go_wp2
  go_loopg [4, 9] l.length (fun g v4 v9 w' => ∃ (i at_ : Nat) (bs : List UInt8), i + g = l.length ∧ v9 = .int .i64 (i : Int) ∧ v4 = .int .i64 (at_ : Int) ∧ Lib.IsBuilder 47 5 w.heap.size w.heap.size (Lib.byteCells bs) w' ∧ Below w.heap.size w w' ∧ at_ ≤ bs.length + 1 ∧ joinR 1 l = bs ++ joinR (at_ : Int) (l.drop i))
  case atStart =>
    exact ⟨0, 1, [], by omega, rfl, rfl, Lib.fresh_isBuilder _ _ _, (Below.refl _ w).alloc (Nat.le_refl _) _, by simp, rfl⟩
  case round =>
    obtain ⟨i, at_, bs, hi, rfl, rfl, hB, hb, hat, hj⟩ := hrel
    cases gk with
    | zero =>
      have hdr : l.drop i = [] := List.drop_eq_nil_of_le (by omega)
      rw [hdr, joinR, List.append_nil] at hj
      have HS : ∀ W : World, Lib.IsBuilder 47 5 w.heap.size w.heap.size (Lib.byteCells bs) W → w.heap.size ≤ W.heap.size → Calls Try.prog 24 #[.pointer (some ⟨w.heap.size, 0, none⟩)] W fun e w' => e = .returned (.string ⟨(joinR 1 l).toArray⟩) ∧ Below w.heap.size W w' := fun W h1 h2 => by rw [hj]; exact Try.Builder_String_any _ _ bs W h1 h2
      have HS := Lib.hid HS
      have HI := Lib.hid hi
      clear hj
      have hie : ¬ ((i : Int) < (l.length : Int)) := by omega
      have hsz := hb.size
      go_wp2_with (go_at_call 24; refine (HS.out _ hB hsz).mono ?_; rintro e w1 ⟨rfl, hb1⟩)
      go_ret
      exact ⟨rfl, hb.trans hb1⟩
    | succ gk =>
      have hlt : i < l.length := by omega
      obtain ⟨x, hx⟩ : ∃ x, l[i]? = some x := ⟨_, List.getElem?_eq_getElem hlt⟩
      obtain ⟨ad, rfl, hcells⟩ := hA (by omega)
      obtain ⟨hx0, hx1⟩ := hcells i x hx
      have hy0 := (hb.cell (cell_in hx0)).trans hx0
      have hy1 := (hb.cell (cell_in hx1)).trans hx1
      have hile : (i : Int) < (l.length : Int) := by omega
      have hsz := hb.size
      have HW : ∀ (bs : List UInt8) (s : ByteArray) (W : World), Lib.IsBuilder 47 5 w.heap.size w.heap.size (Lib.byteCells bs) W → bs.length + s.size ≤ 140737488355328 → w.heap.size ≤ W.heap.size →
          Calls Try.prog 22 #[.pointer (some ⟨w.heap.size, 0, none⟩), .string s] W fun e w' => e = .returned (.tuple #[.int .i64 s.size, .nilIface]) ∧ Lib.IsBuilder 47 5 w.heap.size w.heap.size (Lib.byteCells (bs ++ s.data.toList)) w' ∧ Below w.heap.size W w' := fun bs s W h1 h2 h3 => by
        refine (Try.Builder_WriteString _ _ _ s W h1 (by rw [byteCells_len]; exact h2) h3).mono ?_
        rintro e w' ⟨rfl, h4, h5⟩
        rw [strCells_app] at h4
        exact ⟨rfl, .inr h4, h5⟩
      have HW := Lib.hid HW
      have hd := List.drop_eq_getElem_cons hlt
      have hxe : l[i] = x := by rw [List.getElem?_eq_getElem hlt] at hx; exact Option.some.inj hx
      rw [hxe] at hd
      obtain ⟨r, hr⟩ : ∃ r, l.drop (i + 1) = r := ⟨_, rfl⟩
      rw [hd, hr, joinR] at hj
      obtain ⟨cnt, hcnt⟩ : ∃ cnt, gap (at_ : Int) r = cnt := ⟨_, rfl⟩
      rw [hcnt] at hj
      have hjl := congrArg List.length hj
      simp only [List.length_append, List.length_singleton, spl_len] at hjl
      have hll := joinR_len l 1
      have hxs : x.2.data.toList.length = x.2.size := (Lib.size_eq x.2).symm
      have hsz1 : bs.length + x.2.size + 2 * cnt + 1 ≤ 65536 := by omega
      have hll2 : l.length ≤ 65536 := by omega
      have HJ := Lib.hid hj
      have HC := Lib.hid (And.intro hr hcnt)
      have HAT := Lib.hid hat
      clear hj hjl hcnt hr hd hxe hll hxs hat
      have hat2 : (at_ : Int) ≤ 65537 := by have := HAT.out; omega
      go_wp2_with (go_at_call 22; refine (HW.out bs x.2 _ (isB_alloc hB _) (by omega) (by simp; omega)).mono ?_; rintro e w1 ⟨rfl, hB1, hb1⟩)
      go_loopg [4] cnt (fun g v4 w' => ∃ (j : Nat), j + g = cnt ∧ v4 = .int .i64 ((at_ : Int) + 1 + (j : Int)) ∧ Lib.IsBuilder 47 5 w.heap.size w.heap.size (Lib.byteCells (bs ++ x.2.data.toList ++ spl j)) w' ∧ Below w.heap.size w w')
      case atStart =>
        exact ⟨0, by omega, by simp, by simpa [spl] using hB1, hb.trans (((Below.refl _ wr).alloc hsz _).trans hb1)⟩
      case round =>
        obtain ⟨j, hjc, rfl, hBj, hbj⟩ := hrel
        have hszj := hbj.size
        have HLn : ∀ W : World, Lib.IsBuilder 47 5 w.heap.size w.heap.size (Lib.byteCells (bs ++ x.2.data.toList ++ spl j)) W → Calls Try.prog 23 #[.pointer (some ⟨w.heap.size, 0, none⟩)] W fun e w' => e = .returned (.int .i64 ((bs.length + x.2.size + 2 * j : Nat) : Int)) ∧ w' = W := fun W h1 => by
          refine (Try.Builder_Len _ _ _ W h1).mono ?_
          rintro e w' ⟨rfl, rfl⟩
          refine ⟨?_, rfl⟩
          rw [byteCells_len, List.length_append, List.length_append, spl_len, ← Lib.size_eq]
        have HLn := Lib.hid HLn
        have hL2 : ((bs.length + x.2.size + 2 * j : Nat) : Int) ≤ 65536 := by omega
        have hq1 : (bs ++ x.2.data.toList ++ spl j).length + (⟨#[10]⟩ : ByteArray).size ≤ 140737488355328 := by
          rw [List.length_append, List.length_append, spl_len, ← Lib.size_eq]; show _ + 1 ≤ _; omega
        have hq2 : (bs ++ x.2.data.toList ++ spl j).length + (⟨#[92, 10]⟩ : ByteArray).size ≤ 140737488355328 := by
          rw [List.length_append, List.length_append, spl_len, ← Lib.size_eq]; show _ + 2 ≤ _; omega
        have hq1 := Lib.hid hq1
        have hq2 := Lib.hid hq2
        by_cases hlast : i + 1 < l.length
        · obtain ⟨y, hy⟩ : ∃ y, l[i + 1]? = some y := ⟨_, List.getElem?_eq_getElem hlast⟩
          obtain ⟨hz0, hz1⟩ := hcells (i + 1) y hy
          have hz2 := (hbj.cell (cell_in hz0)).trans hz0
          have hla : (i : Int) + 1 < (l.length : Int) := by omega
          have hgap : cnt = (y.1 - ((at_ : Int) + 1)).toNat := by
            rw [← HC.out.2, ← HC.out.1, List.drop_eq_getElem_cons hlast]
            have : l[i + 1] = y := by rw [List.getElem?_eq_getElem hlast] at hy; exact Option.some.inj hy
            rw [this]; rfl
          cases gk with
          | zero =>
            have hge : y.1 ≤ (at_ : Int) + 1 + (j : Int) := by omega
            have hge2 : ¬ ((at_ : Int) + 1 + (j : Int) < y.1) := by omega
            have hjcnt : cnt = j := by omega
            go_wp2_with (go_at_call 22; refine (HW.out (bs ++ x.2.data.toList ++ spl j) ⟨#[10]⟩ _ hBj hq1.out hszj).mono ?_; rintro e w3 ⟨rfl, hB3, hb3⟩)
            go_roundg gk
            case measure => omega
            case rel =>
              refine ⟨i + 1, at_ + 1 + j, bs ++ x.2.data.toList ++ spl j ++ [10], by omega, ?_, ?_, hB3, hbj.trans hb3, ?_, ?_⟩
              · congr 1
              · congr 1
              · simp only [List.length_append, List.length_singleton, spl_len]; have := HAT.out; omega
              · rw [HC.out.1, HJ.out, hjcnt]; simp
          | succ gk2 =>
            have hlt2 : (at_ : Int) + 1 + (j : Int) < y.1 := by omega
            go_wp2_with (first | (go_at_call 23; refine (HLn.out _ hBj).mono ?_; rintro e w2 ⟨rfl, rfl⟩) | (go_at_call 22; refine (HW.out (bs ++ x.2.data.toList ++ spl j) ⟨#[92, 10]⟩ _ hBj hq2.out hszj).mono ?_; rintro e w3 ⟨rfl, hB3, hb3⟩))
            go_roundg gk2
            case measure => omega
            case rel =>
              refine ⟨j + 1, by omega, ?_, by simpa [spl] using hB3, hbj.trans hb3⟩
              congr 1
        · have hla : ¬ ((i : Int) + 1 < (l.length : Int)) := by omega
          have hc0 : cnt = 0 := by rw [← HC.out.2, ← HC.out.1, List.drop_eq_nil_of_le (by omega)]; rfl
          have hjcnt : cnt = j := by omega
          go_wp2_with (go_at_call 22; refine (HW.out (bs ++ x.2.data.toList ++ spl j) ⟨#[10]⟩ _ hBj hq1.out hszj).mono ?_; rintro e w3 ⟨rfl, hB3, hb3⟩)
          go_roundg gk
          case measure => omega
          case rel =>
            refine ⟨i + 1, at_ + 1 + j, bs ++ x.2.data.toList ++ spl j ++ [10], by omega, ?_, ?_, hB3, hbj.trans hb3, ?_, ?_⟩
            · congr 1
            · congr 1
            · simp only [List.length_append, List.length_singleton, spl_len]; have := HAT.out; omega
            · rw [HC.out.1, HJ.out, hjcnt]; simp
end Go.Proofs.YtgipfcdmhdljgaaT
