/- What the law function of TokenParts answers, over the contracts of token.Lex and of the reference's Same. -/
import Derived.Test.YtinfkbdhnbefmaaDoorPBx11
import Derived.Test.YtinfkbdhnbefmaaDoorPBx2
namespace Go.Proofs.YtinfkbdhnbefmaaDoor.PB
open Go.RowKit Go.Lib Go.Proofs.YtinfkbdhnbefmaaDoorT
open Go.Proofs.YtinfkbdhnbefmaaDoorW.PrintWords Go.Proofs.YtinfkbdhnbefmaaDoorW.PrintLast Go.Proofs.YtinfkbdhnbefmaaDoorW.PrintMore
set_option linter.unusedVariables false
set_option linter.unusedSimpArgs false
theorem shown_eq : burinlaw02_shown.f = some true := by kernel_rfl
theorem below_of_drawn {w w' : World} (h : Drawn0 w w') : Below w.heap.size w w' := by
  obtain ⟨n, rfl⟩ := h
  exact Go.Proofs.YtinfkbdhnbefmaaDoorT.bl_drewN (Below.refl _ _) n
set_option maxHeartbeats 1000000 in
set_option maxRecDepth 100000 in
theorem parts_calls (k : Nat) (A0 : Option Addr) (c0 : Nat) (l0 : List S31) (A1 : Option Addr) (c1 : Nat) (l1 : List S31) (w : World) (hT : Tab w) (hr0 : Kd.C k31 w A0 l0.length l0) (hc0 : l0.length ≤ c0) (hr1 : Kd.C k31 w A1 l1.length l1) (hc1 : l1.length ≤ c1)
    (a b : List S34) (e n f m : Int) (ha : token_Lex.f l0 = some (a, e, n)) (hb : token_Lex.f l1 = some (b, f, m)) (hl : l0.length + l1.length ≤ 1048576) (hal : a.length ≤ 20000) (hbl : b.length ≤ 20000)
    (hok : e = 0 → f = 0 → a.length + b.length ≤ 20000 → ∃ c q, token_Lex.f (l0 ++ l1) = some (c, 0, q) ∧ burinref02_Same.f k c (a ++ b) = some true) :
    Calls Tryd.prog 5 #[.slice A0 l0.length c0, .slice A1 l1.length c1] w fun e w' => e = .returned (.bool true) ∧ Below w.heap.size w w' := by
  have hsh := burinlaw02_shown.calls true w hT shown_eq
  have HOK := hid hok
  have HH := hid (And.intro hr0 (And.intro hr1 (And.intro ha (And.intro hb hT))))
  clear hok hr0 hr1 ha hb hT
  go_enter Tryd.func5, Tryd.ntmps5
  go_wp2_with (fail)
  refine hsh.mono ?_
  rintro e1 w1 ⟨rfl, hB1⟩
  clear hsh
  have HB1 := hid hB1
  clear hB1
  go_wp2_with (fail)
  refine (token_Lex.calls A0 c0 l0 a e n w1 (Kd.C_below HH.out.1 HB1.out) hc0 (HH.out.2.2.2.2.grow HB1.out) HH.out.2.2.1).mono ?_
  rintro e2 w2 ⟨va, rfl, hRa, hB2⟩
  obtain ⟨Aa, ca, rfl⟩ := Kd.R_slice hRa
  have HB2 := hid (HB1.out.trans (hB2.mono HB1.out.size))
  have HRa := hid hRa
  clear hB2 hRa
  go_wp2_with (fail)
  refine (token_Lex.calls A1 c1 l1 b f m w2 (Kd.C_below HH.out.2.1 HB2.out) hc1 (HH.out.2.2.2.2.grow HB2.out) HH.out.2.2.2.1).mono ?_
  rintro e3 w3 ⟨vb, rfl, hRb, hB3⟩
  obtain ⟨Ab, cb, rfl⟩ := Kd.R_slice hRb
  have HRa3 := hid (Kd.R_below HRa.out hB3)
  have HB3 := hid (HB2.out.trans (hB3.mono HB2.out.size))
  have HRb := hid hRb
  clear hB3 hRb HRa
  by_cases he : e = 0
  · by_cases hf : f = 0
    · by_cases hs : (a.length : Int) + b.length > 20000
      · subst he hf
        have hw : wrap64 ((a.length : Int) + b.length) = (a.length : Int) + b.length := by unfold wrap64; omega
        go_wp2
        go_ret
        exact ⟨rfl, HB3.out⟩
      · obtain ⟨cc, q, hc, hsame⟩ := HOK.out he hf (by omega)
        have HC := hid (And.intro hc hsame)
        clear hc hsame
        subst he hf
        have hw : wrap64 ((a.length : Int) + b.length) = (a.length : Int) + b.length := by unfold wrap64; omega
        have hw2 : wrap64 ((l0.length : Int) + l1.length) = (l0.length : Int) + l1.length := by unfold wrap64; omega
        have info31 : (Tryd.prog.info? 31).map (fun i => (i.zero, i.size, i.bytes)) = some (some (.agg #[(.int .i64 0), (.string ⟨#[]⟩)]), 2, 24) := by kernel_rfl
        obtain ⟨i0, hi0, hz0, hz1, hz2⟩ := info_parts info31
        have info34 : (Tryd.prog.info? 34).map (fun i => (i.zero, i.size, i.bytes)) = some (some (.agg #[.int .i64 0, .string ⟨#[]⟩, .string ⟨#[]⟩, .int .i64 0, .bool false, .bool false]), 6, 56) := by kernel_rfl
        obtain ⟨j0, hj0, hy0, hy1, hy2⟩ := info_parts info34
        have hKM31 : ∀ (W W' : World) (base : Nat) (x : S31) (cs : List Value), k31.K W x cs → k31.M W' base (fun _ => False) x cs := fun W W' base x cs h => by
          rw [k31_open h]; exact k31_mkM W' base _ x
        have hKM34 : ∀ (W W' : World) (base : Nat) (x : S34) (cs : List Value), k34.K W x cs → k34.M W' base (fun _ => False) x cs := fun W W' base x cs h => by
          rw [k34_open h]; exact k34_mkM W' base _ x
        have HKM := hid (And.intro hKM31 hKM34)
        clear hKM31 hKM34
        have HZ1 := hid (And.intro hz0 (And.intro hz1 hz2))
        have HI := hid (And.intro info31 info34)
        have HMK := hid (And.intro (And.intro hi0 (And.intro hz0 (And.intro hz1 hz2))) (And.intro hj0 (And.intro hy0 (And.intro hy1 hy2))))
        clear info31 info34 hi0 hz0 hz1 hz2 hj0 hy0 hy1 hy2 HZ1
        have h5 : ∀ w4 : World, w4.ownsRow w3.heap.size 31 2 (.slice (some ⟨w3.heap.size, 0, none⟩) 0 (l0.length + l1.length)) 0 [] → w3.grownBy w4 none → Kd.R k31 31 w4 w3.heap.size (fun _ => True) (.slice (some ⟨w3.heap.size, 0, none⟩) 0 (l0.length + l1.length)) [] ∧ Below w3.heap.size w3 w4 ∧ Kd.C k31 w4 A0 l0.length l0 := fun w4 ho hg => by
          have hb : Below w3.heap.size w3 w4 := (Below.refl _ _).grown hg (Nat.le_refl _) (fun k e => by cases e)
          exact ⟨⟨fun _ _ => trivial, [], ho, ⟨rfl, fun j p hj => by simp at hj⟩⟩, hb, Kd.C_below HH.out.1 (HB3.out.trans (hb.mono HB3.out.size))⟩
        have h6 : ∀ w5 : World, Below w3.heap.size w3 w5 → Kd.C k31 w5 A1 l1.length l1 := fun w5 hb => Kd.C_below HH.out.2.1 (HB3.out.trans (hb.mono HB3.out.size))
        have H5 := hid h5
        have H6 := hid h6
        clear h5 h6
        go_wp2_with (first
          | (at_make; refine wpList_make_own _ rfl _ _ 22 rfl w3.heap.size 31 i0 _ 2 Tryd.underlying22 HMK.out.1.1 HMK.out.1.2.1 HMK.out.1.2.2.1 .i64 .i64 _ (l0.length + l1.length) rfl rfl (by simp) (by rw [HMK.out.1.2.2.2]; omega) (by simp [maxLen]; omega) (Nat.le_refl _) ?_; intro w4 hown4 hg4; have HF4 := hid (H5.out w4 hown4 hg4); clear hown4 hg4)
          | (at_builtin; (refine Kd.R_append_rows k31 (w0 := w3) w3.heap.size rfl (.tmp 50) (.tmp 51) 22 31 _ 24 rfl Tryd.underlying22 HI.out.1 rfl (by decide) (by decide) _ [] l0 A0 l0.length c0 (fun _ => True) (fun _ => False) rfl rfl HF4.out.1 HF4.out.2.2 (HKM.out.1 _ _ _) (fun k h => h.elim) (fun _ _ => trivial) HF4.out.2.1 HF4.out.2.1.size (by simp; omega) ?_); intro v5 w5 hR5 hb5 _ _; have HF5 := hid (And.intro hR5 hb5); clear hR5 hb5)
          | (at_builtin; (refine Kd.R_append_rows k31 (w0 := w3) w3.heap.size rfl (.tmp 52) (.tmp 53) 22 31 _ 24 rfl Tryd.underlying22 HI.out.1 rfl (by decide) (by decide) _ _ l1 A1 l1.length c1 (fun _ => True) (fun _ => False) rfl rfl HF5.out.1 (H6.out w5 HF5.out.2) (HKM.out.1 _ _ _) (fun k h => h.elim) (fun _ _ => trivial) HF5.out.2 HF5.out.2.size (by simp; omega) ?_); intro v6 w6 hR6 hb6 _ _; have HF6 := hid (And.intro hR6 hb6); clear hR6 hb6)
          | (go_at_call 12; obtain ⟨A6, c6, rfl⟩ := Kd.R_slice HF6.out.1; refine (token_Lex.calls A6 c6 (([] ++ l0) ++ l1) cc 0 q w6 (Kd.R_reads' HF6.out.1).2.2 (Kd.R_reads' HF6.out.1).2.1 (HH.out.2.2.2.2.grow (HB3.out.trans (HF6.out.2.mono HB3.out.size))) (by rw [List.nil_append]; exact HC.out.1)).mono ?_; rintro e7 w7 ⟨vc, rfl, hRc, hB7⟩; have HF7 := hid (And.intro hRc (HF6.out.2.trans (hB7.mono HF6.out.2.size))); clear hRc hB7;
                (
                 obtain ⟨Ac, d8, rfl⟩ := Kd.R_slice HF7.out.1
                 clear HF4 HF5 HF6 H5 H6
                 have hs7 : Below w3.heap.size w3 w7 := HF7.out.2
                 have h8 : ∀ w8 : World, Below w7.heap.size w7 w8 → Kd.C k34 w8 Aa a.length a ∧ Kd.C k34 w8 Ab b.length b ∧ Kd.C k34 w8 Ac cc.length cc := fun w8 hb => by
                   have hb3 : Below w3.heap.size w3 w8 := hs7.trans (hb.mono hs7.size)
                   exact ⟨(Kd.R_reads' (Kd.R_below HRa3.out hb3)).2.2, (Kd.R_reads' (Kd.R_below HRb.out hb3)).2.2, (Kd.R_reads' (Kd.R_below HF7.out.1 hb)).2.2⟩
                 have h9 : a.length ≤ ca ∧ b.length ≤ cb ∧ cc.length ≤ d8 := ⟨(Kd.R_reads' HRa3.out).2.1, (Kd.R_reads' HRb.out).2.1, (Kd.R_reads' HF7.out.1).2.1⟩
                 have h10 : ∀ w8 : World, w8.ownsRow w7.heap.size 34 6 (.slice (some ⟨w7.heap.size, 0, none⟩) 0 (a.length + b.length)) 0 [] → w7.grownBy w8 none → Kd.R k34 34 w8 w7.heap.size (fun _ => True) (.slice (some ⟨w7.heap.size, 0, none⟩) 0 (a.length + b.length)) [] ∧ Below w7.heap.size w7 w8 := fun w8 ho hg => by
                   have hb : Below w7.heap.size w7 w8 := (Below.refl _ _).grown hg (Nat.le_refl _) (fun k e => by cases e)
                   exact ⟨⟨fun _ _ => trivial, [], ho, ⟨rfl, fun j p hj => by simp at hj⟩⟩, hb⟩
                 have HB7 := hid (HB3.out.trans (hs7.mono HB3.out.size))
                 have H8 := hid h8
                 have H9 := hid h9
                 have H10 := hid h10
                 clear h8 h9 h10 hs7 HF7 HRa3 HRb))
          | (at_make; refine wpList_make_own _ rfl _ _ 25 rfl w7.heap.size 34 j0 _ 6 Tryd.underlying25 HMK.out.2.1 HMK.out.2.2.1 HMK.out.2.2.2.1 .i64 .i64 _ (a.length + b.length) rfl rfl (by simp) (by rw [HMK.out.2.2.2.2]; omega) (by simp [maxLen]; omega) (Nat.le_refl _) ?_; intro w8 hown8 hg8; have HF8 := hid (H10.out w8 hown8 hg8); clear hown8 hg8)
          | (at_builtin; (refine Kd.R_append_rows k34 (w0 := w7) w7.heap.size rfl (.tmp 64) (.tmp 65) 25 34 _ 56 rfl Tryd.underlying25 HI.out.2 rfl (by decide) (by decide) _ [] a Aa a.length ca (fun _ => True) (fun _ => False) rfl rfl HF8.out.1 (H8.out w8 HF8.out.2).1 (HKM.out.2 _ _ _) (fun k h => h.elim) (fun _ _ => trivial) HF8.out.2 HF8.out.2.size (by simp; omega) ?_); intro v9 w9 hR9 hb9 _ _; have HF9 := hid (And.intro hR9 hb9); clear hR9 hb9)
          | (at_builtin; (refine Kd.R_append_rows k34 (w0 := w7) w7.heap.size rfl (.tmp 66) (.tmp 67) 25 34 _ 56 rfl Tryd.underlying25 HI.out.2 rfl (by decide) (by decide) _ _ b Ab b.length cb (fun _ => True) (fun _ => False) rfl rfl HF9.out.1 (H8.out w9 HF9.out.2).2.1 (HKM.out.2 _ _ _) (fun k h => h.elim) (fun _ _ => trivial) HF9.out.2 HF9.out.2.size (by simp; omega) ?_); intro v10 w10 hR10 hb10 _ _; obtain ⟨A10, c10, rfl⟩ := Kd.R_slice hR10; have HF10 := hid (And.intro hR10 hb10); clear hR10 hb10; (have hS := burinref02_Same.calls k Ac d8 cc A10 c10 (([] ++ a) ++ b) true w10 (H8.out w10 HF10.out.2).2.2 H9.out.2.2 (Kd.R_reads' HF10.out.1).2.2 (Kd.R_reads' HF10.out.1).2.1 (by rw [List.nil_append]; exact HC.out.2)); (have hS2 := hS; rw [show (([] ++ a ++ b : List S34)).length = a.length + b.length by simp] at hS2))
          | (go_at_call 14; (first | with_reducible refine hS2.mono ?_ | with_reducible refine hS.mono ?_); rintro e11 w11 ⟨rfl, hD⟩; have HF11 := hid (HB7.out.trans ((HF10.out.2.trans ((below_of_drawn hD).mono HF10.out.2.size)).mono HB7.out.size)); clear hD))
        go_ret
        exact ⟨rfl, HF11.out⟩
    · subst he
      go_wp2
      go_ret
      exact ⟨rfl, HB3.out⟩
  · go_wp2
    go_ret
    exact ⟨rfl, HB3.out⟩
end Go.Proofs.YtinfkbdhnbefmaaDoor.PB
