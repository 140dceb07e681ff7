import Derived.Test.YtcbfbefpbjmglaaGreatDoorMC
set_option maxRecDepth 100000
set_option linter.unusedSimpArgs false
set_option linter.unusedVariables false
namespace Go.Proofs.YtcbfbefpbjmglaaGreatDoor.Mac
open Go.RowKit MapFun PA YtcbfbefpbjmglaaGreatDoorT YtcbfbefpbjmglaaGreatDoorW PrintWords PrintLast PrintMore
attribute [local go_sem] Oper.semAt_some
theorem bareFrom_take : ∀ (l : List S55) (i k : Nat) (h : k < l.length), bareFrom i (l.take (k + 1)) = bareFrom i (l.take k) ++ [bareTok (i + k) l[k]]
 | a :: l, i, 0, h => by simp [bareFrom]
 | a :: l, i, k + 1, h => by
  rw [List.take_succ_cons, List.take_succ_cons, bareFrom, bareFrom, bareFrom_take l (i + 1) k (by simpa using h), List.cons_append, List.getElem_cons_succ]
  congr 4
  omega
set_option maxHeartbeats 400000 in
theorem rbare_c (A : Option Addr) (c : Nat) (l : List S55) (w : World) (hl : l.length ≤ 1000000) (hB : Kd.C k55 w A l.length l) (hc : l.length ≤ c) :
  Calls Tryz.prog 78 #[.slice A l.length c] w fun e w' => ∃ v, e = .returned v ∧ Kd.R k55 55 w' w.heap.size (fun _ => True) v (bareP l) ∧ Below w.heap.size w w' := by
 go_enter Tryz.func78, Tryz.ntmps78
 have HH := Lib.hid hB
 clear hB
 go_wp2
 go_loopw [3, 4] (fun v i W => ∃ k : Nat, k ≤ l.length ∧ i = .int .i64 (k : Int) ∧ Kd.R k55 55 W w.heap.size (fun _ => True) v (bareFrom 0 (l.take k)) ∧ Below w.heap.size w W) (fun v i _ => l.length + 2 - (intOf i).toNat)
 case atStart => exact ⟨0, Nat.zero_le _, rfl, by rw [List.take_zero]; exact Kd.R_nil _ _ _ _ _, Below.refl _ _⟩
 case round =>
  obtain ⟨k, hk, rfl, hR, hb⟩ := hrel
  by_cases hlt : k < l.length
  ·have hC := Kd.C_below HH.out hb
   obtain ⟨ad, had, a0, a1, a2, a3, a4, a5⟩ := at_T55 hC (k : Int) (by omega) (by omega)
   subst had
   have hrd := rd_at hlt
   rw [hrd] at a0 a1 a2 a3 a4 a5
   have htk := bareFrom_take l 0 k hlt
   rw [Nat.zero_add] at htk
   obtain ⟨⟨f0, f1, f2, f3, f4, f5⟩, ht⟩ : ∃ t, l[k] = t := ⟨_, rfl⟩
   rw [ht] at a0 a1 a2 a3 a4 a5 htk
   rw [Int.toNat_natCast] at a0 a1 a2 a3 a4 a5
   have HR := Lib.hid (And.intro hR (And.intro hb htk))
   have d1 : (k : Int) < (l.length : Int) := by omega
   clear hC hR hb htk ht hrd
   go_upto_region 10 with (fail)
   ·rename_i hf
    subst hf
    have hRw := HR.out.1
    have hwsz := HR.out.2.1.size
    have HM := Lib.hid (show k55.M wr w.heap.size (fun _ => False) (⟨f0, f1, ⟨#[]⟩, 0, decide (0 < k), false⟩ : S55) [.int .i64 f0, .string f1, .string ⟨#[]⟩, .int .i64 0, .bool (decide (0 < k)), .bool false] from k55_mkM _ _ _ (⟨f0, f1, ⟨#[]⟩, 0, decide (0 < k), false⟩ : S55))
    have hlk : (bareFrom 0 (l.take k)).length = k := by rw [bareFrom_len, List.length_take]; omega
    obtain ⟨W9, hW9⟩ : ∃ W9, wr.alloc (.cells #[.int .i64 f0, .string f1, .string ⟨#[]⟩, .int .i64 0, .bool (decide (0 < k)), .bool false] 55) = W9 := ⟨_, rfl⟩
    have hb9 : Below wr.heap.size wr W9 := by rw [← hW9]; exact (Below.refl _ _).alloc (Nat.le_refl _) _
    have q9 : W9.heap[wr.heap.size]? = some (.cells #[.int .i64 f0, .string f1, .string ⟨#[]⟩, .int .i64 0, .bool (decide (0 < k)), .bool false] 55 (0, 0)) := by rw [← hW9]; exact blk_new wr _
    have HO9 := Lib.hid (And.intro (Kd.R_below hRw hb9) (And.intro (HR.out.2.1.trans (hb9.mono hwsz)) (And.intro hwsz (And.intro hb9.size hlk))))
    rw [hW9]
    have c0 := bC q9 0
    have c1 := bC q9 1
    have c2 := bC q9 2
    have c3 := bC q9 3
    have c4 := bC q9 4
    have c5 := bC q9 5
    clear hRw hwsz hW9 hb9 q9 hlk
    go_wp2_with ((with_reducible refine gate_builtin (b := .append) (xs := #[.tmp 26, .tmp 28]) rfl ?_); at_builtin; refine Kd.R_append k55 (w0 := w) w.heap.size rfl (.tmp 26) (.tmp 28) 31 55 (.agg #[(.int .i64 0), (.string ⟨#[]⟩), (.string ⟨#[]⟩), (.int .i64 0), (.bool false), (.bool false)]) 56 rfl Tryz.underlying31 info55 rfl (by decide) (by decide) u3 (bareFrom 0 (l.take k)) (⟨f0, f1, ⟨#[]⟩, 0, decide (0 < k), false⟩ : S55) [.int .i64 f0, .string f1, .string ⟨#[]⟩, .int .i64 0, .bool (decide (0 < k)), .bool false] (fun _ => True) (fun _ => False) rfl (by first | (go_simp; done) | (go_simp; rfl)) ?aP (fun _ hk => hk.elim) (fun _ _ => trivial) ?aO ?aB ?aS ?aL ?_; (case aP => exact HM.out); (case aO => first | exact HO9.out.1 | exact Kd.R_drew HO9.out.1); (case aB => first | exact HO9.out.2.1 | exact HO9.out.2.1.trans (below_drew (Below.refl _ _))); (case aS => exact Nat.le_trans HO9.out.2.2.1 HO9.out.2.2.2.1); (case aL => rw [HO9.out.2.2.2.2]; omega); intro v1 w1 hR1 hb1 hg1 hat1; have H1 := Lib.hid (And.intro hR1 hb1); clear hR1 hb1 hg1 hat1)
    go_roundw
    case rel =>
     refine ⟨k + 1, by omega, by go_num, ?_, H1.out.2⟩
     rw [HR.out.2.2]
     have := H1.out.1
     simpa [bareTok] using this
    case measure => simp [intOf]; omega
   ·rename_i hf
    rw [Bool.not_eq_true] at hf
    subst hf
    have hRw := HR.out.1
    have hwsz := HR.out.2.1.size
    have HM := Lib.hid (show k55.M wr w.heap.size (fun _ => False) (⟨f0, f1, ⟨#[]⟩, 0, false, false⟩ : S55) [.int .i64 f0, .string f1, .string ⟨#[]⟩, .int .i64 0, .bool (false), .bool false] from k55_mkM _ _ _ (⟨f0, f1, ⟨#[]⟩, 0, false, false⟩ : S55))
    have hlk : (bareFrom 0 (l.take k)).length = k := by rw [bareFrom_len, List.length_take]; omega
    obtain ⟨W9, hW9⟩ : ∃ W9, wr.alloc (.cells #[.int .i64 f0, .string f1, .string ⟨#[]⟩, .int .i64 0, .bool (false), .bool false] 55) = W9 := ⟨_, rfl⟩
    have hb9 : Below wr.heap.size wr W9 := by rw [← hW9]; exact (Below.refl _ _).alloc (Nat.le_refl _) _
    have q9 : W9.heap[wr.heap.size]? = some (.cells #[.int .i64 f0, .string f1, .string ⟨#[]⟩, .int .i64 0, .bool (false), .bool false] 55 (0, 0)) := by rw [← hW9]; exact blk_new wr _
    have HO9 := Lib.hid (And.intro (Kd.R_below hRw hb9) (And.intro (HR.out.2.1.trans (hb9.mono hwsz)) (And.intro hwsz (And.intro hb9.size hlk))))
    rw [hW9]
    have c0 := bC q9 0
    have c1 := bC q9 1
    have c2 := bC q9 2
    have c3 := bC q9 3
    have c4 := bC q9 4
    have c5 := bC q9 5
    clear hRw hwsz hW9 hb9 q9 hlk
    go_wp2_with ((with_reducible refine gate_builtin (b := .append) (xs := #[.tmp 26, .tmp 28]) rfl ?_); at_builtin; refine Kd.R_append k55 (w0 := w) w.heap.size rfl (.tmp 26) (.tmp 28) 31 55 (.agg #[(.int .i64 0), (.string ⟨#[]⟩), (.string ⟨#[]⟩), (.int .i64 0), (.bool false), (.bool false)]) 56 rfl Tryz.underlying31 info55 rfl (by decide) (by decide) u3 (bareFrom 0 (l.take k)) (⟨f0, f1, ⟨#[]⟩, 0, false, false⟩ : S55) [.int .i64 f0, .string f1, .string ⟨#[]⟩, .int .i64 0, .bool (false), .bool false] (fun _ => True) (fun _ => False) rfl (by first | (go_simp; done) | (go_simp; rfl)) ?aP (fun _ hk => hk.elim) (fun _ _ => trivial) ?aO ?aB ?aS ?aL ?_; (case aP => exact HM.out); (case aO => first | exact HO9.out.1 | exact Kd.R_drew HO9.out.1); (case aB => first | exact HO9.out.2.1 | exact HO9.out.2.1.trans (below_drew (Below.refl _ _))); (case aS => exact Nat.le_trans HO9.out.2.2.1 HO9.out.2.2.2.1); (case aL => rw [HO9.out.2.2.2.2]; omega); intro v1 w1 hR1 hb1 hg1 hat1; have H1 := Lib.hid (And.intro hR1 hb1); clear hR1 hb1 hg1 hat1)
    go_roundw
    case rel =>
     refine ⟨k + 1, by omega, by go_num, ?_, H1.out.2⟩
     rw [HR.out.2.2]
     have := H1.out.1
     simpa [bareTok] using this
    case measure => simp [intOf]; omega
  ·have HR := Lib.hid (And.intro hR hb)
   have d1 : ¬ ((k : Int) < (l.length : Int)) := by omega
   have hall : l.take k = l := List.take_of_length_le (by omega)
   rw [hall] at hR
   have HR := Lib.hid (And.intro hR hb)
   clear hR hb hall
   go_wp2
   go_ret
   exact ⟨_, rfl, HR.out.1, HR.out.2⟩
end Go.Proofs.YtcbfbefpbjmglaaGreatDoor.Mac
namespace Go.Proofs.YtcbfbefpbjmglaaGreatDoor.PA
open Go.RowKit Mac YtcbfbefpbjmglaaGreatDoorW PrintWords PrintLast PrintMore
def burinref03_Bare.f (k : Nat) (l0 : List S55) : Option (List S55) := if l0.length ≤ 1000000 then some (bareP l0) else none
theorem burinref03_Bare.calls (k : Nat) (A0 : Option Addr) (c0 : Nat) (l0 : List (S55)) (r : List (S55)) (w : World) (hr0 : Kd.C k55 w A0 l0.length l0) (hc0 : l0.length ≤ c0) (h : burinref03_Bare.f k l0 = some r) :
  Calls Tryz.prog 78 #[.slice A0 l0.length c0] w fun e w' => ∃ v, e = .returned v ∧ Kd.R k55 55 w' w.heap.size (fun _ => True) v r ∧ Below w.heap.size w w' := by
 unfold burinref03_Bare.f at h
 by_cases hl : l0.length ≤ 1000000
 ·rw [if_pos hl] at h
  obtain rfl := Option.some.inj h
  exact rbare_c A0 c0 l0 w hl hr0 hc0
 ·rw [if_neg hl] at h; cases h
end Go.Proofs.YtcbfbefpbjmglaaGreatDoor.PA
