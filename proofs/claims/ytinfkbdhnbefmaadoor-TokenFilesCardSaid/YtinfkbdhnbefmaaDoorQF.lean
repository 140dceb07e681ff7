/- The plain side of TokenFiles. -/
import Derived.Test.YtinfkbdhnbefmaaDoorPBx13
import Derived.Test.YtinfkbdhnbefmaaDoorQL
namespace Go.Proofs.YtinfkbdhnbefmaaDoor.PureL
open Go.RowKit Go.Proofs.YtinfkbdhnbefmaaDoorT Go.Proofs.YtinfkbdhnbefmaaDoor.PB Go.Proofs.YtinfkbdhnbefmaaDoorW.PrintWords Go.Proofs.YtinfkbdhnbefmaaDoorW.PrintLast Go.Proofs.YtinfkbdhnbefmaaDoorW.PrintMore
set_option linter.unusedVariables false
set_option linter.unusedSimpArgs false
open Go.Proofs.YtinfkbdhnbefmaaDoorU in
/-- A file's lines are few, and short. -/
theorem lines_bound (a : ByteArray) (h : ¬ 65536 < (a.size : Int)) : ((lineFold (numbered 1 (phys a.data.toList))).1.map toS).length ≤ 65536 ∧ ∀ x ∈ (lineFold (numbered 1 (phys a.data.toList))).1.map toS, x.f1.size ≤ 65536 := by
  have hs := Lib.size_eq a
  have h1 := phys_len a.data.toList.length a.data.toList (Nat.le_refl _)
  have h2 := numbered_len (phys a.data.toList) 1
  have h3 := total_phys a.data.toList.length a.data.toList 1 (Nat.le_refl _)
  obtain ⟨_, h5, h6⟩ := lineFold_ok (numbered 1 (phys a.data.toList)) (numbered 1 (phys a.data.toList)).length (Nat.le_refl _)
  rw [List.length_map]
  refine ⟨by omega, fun x hx => ?_⟩
  obtain ⟨y, hy, rfl⟩ := List.mem_map.1 hx
  have := h6 y hy
  have hb : (toS y).f1.size = y.2.length := by
    show (Go.Proofs.YtinfkbdhnbefmaaDoorU.bstr y.2).size = _
    rw [Lib.size_eq]
    simp [Go.Proofs.YtinfkbdhnbefmaaDoorU.bstr]
  rw [hb]
  omega
theorem files_eq (a : ByteArray) : ∃ k, burinlaw02_TokenFiles.f k a = some true := by
  by_cases h : 65536 < (a.size : Int)
  · refine ⟨0, ?_⟩
    unfold burinlaw02_TokenFiles.f text_Lines.f
    rw [shown_eq, Option.bind_some, if_pos h, Option.bind_some, if_neg (by decide)]
  · obtain ⟨b1, b2⟩ := lines_bound a h
    obtain ⟨L, hL⟩ : ∃ L, (Go.Proofs.YtinfkbdhnbefmaaDoorU.lineFold (Go.Proofs.YtinfkbdhnbefmaaDoorU.numbered 1 (Go.Proofs.YtinfkbdhnbefmaaDoorU.phys a.data.toList))).1.map toS = L := ⟨_, rfl⟩
    rw [hL] at b1 b2
    have hf := lex_eq L (by omega) (fun x hx => by have := b2 x hx; omega)
    have hlen := lexP_len (toL L)
    refine ⟨20001, ?_⟩
    unfold burinlaw02_TokenFiles.f text_Lines.f
    rw [shown_eq, Option.bind_some, if_neg h, Option.bind_some, if_pos rfl]
    unfold token_Lex.f burinref02_Lex.f
    simp only [hL]
    rw [if_pos hf, Option.bind_some, Option.bind_some, if_pos rfl]
    simp only
    rw [same_refl _ (by rw [List.length_map]; omega) _ (by rw [List.length_map]; omega), Option.bind_some, if_pos rfl, if_pos trivial, beq_self_eq_true]
/-- The law's call. -/
theorem files (a : ByteArray) (w : World) (hT : Tab w) :
    Calls Tryd.prog 8 #[.string a] w fun e w' => e = .returned (.bool true) ∧ Below w.heap.size w w' := by
  obtain ⟨k, hk⟩ := files_eq a
  exact burinlaw02_TokenFiles.calls k a true w hT hk
end Go.Proofs.YtinfkbdhnbefmaaDoor.PureL
