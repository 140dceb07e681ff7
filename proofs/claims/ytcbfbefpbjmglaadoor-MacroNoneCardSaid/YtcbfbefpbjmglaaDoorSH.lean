import Derived.Test.YtcbfbefpbjmglaaDoorPSh
import Derived.Lib.LaidTab
import Derived.Test.YtcbfbefpbjmglaaDoorH
import Derived.Test.YtcbfbefpbjmglaaDoorShelf
import Derived.Test.YtcbfbefpbjmglaaDoorRows
namespace Go.Proofs.YtcbfbefpbjmglaaDoor.Mac
open Go.RowKit Go.Proofs.YtcbfbefpbjmglaaDoor.PA
theorem shown_eq : burinlaw03_shown.f 40 = some true := by kernel_rfl
end Go.Proofs.YtcbfbefpbjmglaaDoor.Mac
namespace Go.Proofs.YtcbfbefpbjmglaaDoor.Mac
open Go.RowKit Go.Proofs.MapFun Go.Proofs.YtcbfbefpbjmglaaDoor.PA Go.Proofs.YtcbfbefpbjmglaaDoorT Go.Proofs.YtcbfbefpbjmglaaDoorW.PrintWords Go.Proofs.YtcbfbefpbjmglaaDoorW.PrintLast Go.Proofs.YtcbfbefpbjmglaaDoorW.PrintMore
set_option linter.unusedVariables false
set_option linter.unusedSimpArgs false
theorem shown_c (w : World) (hT : Tab w) : Calls Tryd.prog 9 #[] w fun e w' => e = .returned (.bool true) ∧ Below w.heap.size w w' := burinlaw03_shown.calls 40 true w hT shown_eq
set_option maxHeartbeats 400000 in
theorem get_nil (nm : ByteArray) (w : World) : Calls Tryd.prog 23 #[.pointer none, .string nm] w fun e w' => e = .returned (.tuple #[.agg #[.string ⟨#[]⟩, .bool false, .slice none 0 0, .bool false, .slice none 0 0], .bool false]) ∧ Below w.heap.size w w' := by
  go_enter Tryd.func23, Tryd.ntmps23
  go_wp2
  refine bodyPost_ret (results_ct rfl _ _ w.heap.size 32 _ (0, 0) _ (by simp) (blk_new w _) Tryd.underlying32 rfl (by kernel_rfl)) rfl ?_
  exact ⟨by simp, (Below.refl _ _).alloc (Nat.le_refl _) _⟩
set_option maxHeartbeats 400000 in
theorem define_nil (m : Array Value) (w : World) : Calls Tryd.prog 22 #[.pointer none, .agg m] w fun e w' => e = .returned (.int .i64 1) ∧ Below w.heap.size w w' := by
  go_enter Tryd.func22, Tryd.ntmps22
  go_wp2
  go_ret
  exact ⟨rfl, (Below.refl _ _).alloc (Nat.le_refl _) _⟩
set_option maxHeartbeats 400000 in
theorem undef_nil (nm : ByteArray) (w : World) : Calls Tryd.prog 26 #[.pointer none, .string nm] w fun e w' => e = .returned (.int .i64 1) ∧ w' = w := by
  go_enter Tryd.func26, Tryd.ntmps26
  go_wp2
  go_ret
  exact ⟨rfl, rfl⟩
set_option maxHeartbeats 400000 in
theorem names_nil (w : World) : Calls Tryd.prog 24 #[.pointer none] w fun e w' => e = .returned (.slice none 0 0) ∧ w' = w := by
  go_enter Tryd.func24, Tryd.ntmps24
  go_wp2
  go_ret
  exact ⟨rfl, rfl⟩
set_option maxHeartbeats 1000000 in
theorem none_c (nm : ByteArray) (w : World) (hT : Tab w) : Calls Tryd.prog 8 #[.string nm] w fun e w' => e = .returned (.bool true) ∧ Below w.heap.size w w' := by
  have HT := Lib.hid hT
  have hb0 : Below w.heap.size w w := Below.refl _ _
  clear hT
  go_enter Tryd.func8, Tryd.ntmps8
  go_wp2_with (first
    | (go_at_call 9; refine (shown_c _ HT.out).mono ?_; rintro e w1 ⟨rfl, hb1⟩; have H1 := Lib.hid hb1; clear hb1)
    | (go_at_call 23; refine (get_nil _ _).mono ?_; rintro e w2 ⟨rfl, hb2⟩; have H2 := Lib.hid (H1.out.trans (hb2.mono H1.out.size)); clear hb2)
    | (go_at_call 22; refine (define_nil _ _).mono ?_; rintro e w3 ⟨rfl, hb3⟩; have H3 := Lib.hid (((H2.out.alloc H2.out.size _)).trans (hb3.mono (by have := H2.out.size; simp; omega))); clear hb3)
    | (go_at_call 26; refine (undef_nil _ _).mono ?_; rintro e w4 ⟨rfl, rfl⟩)
    | (go_at_call 24; refine (names_nil _).mono ?_; rintro e w4 ⟨rfl, rfl⟩))
  trace_state
  go_ret
  exact ⟨rfl, H3.out⟩
end Go.Proofs.YtcbfbefpbjmglaaDoor.Mac
namespace Go.Proofs.LaidStrs
open Go.Lib
def strData {H : Type} (ss : List (List UInt8)) : DataW H := .agg (ss.map fun s => .lit (.string s))
def StrsIs (P : Program) (w : World) (name : String) (ss : List (List UInt8)) : Prop := w.var? P name = some (ss.map fun s => Value.string ⟨s.toArray⟩).toArray
theorem cells_of_strs {H : Type} {enc : TypeId × Value → H} {P : Program} {w : World} {base : Nat} {sp : Nat → Bool} {held : Bool} {fuel : Nat} {t e : TypeId} {n : Nat} {cs : List Value} {ss : List (List UInt8)} {p : List MemPlace}
    (ht : P.underlying t = some (.array n e)) (he : P.underlying e = some .string) (hce : P.cellsOf e = 1) (hct : P.cellsOf t = n)
    (h : DataW.trod enc P w base sp held fuel t cs = some (strData ss, p)) : cs = ss.map fun s => Value.string ⟨s.toArray⟩ := by
  cases fuel with
  | zero => simp [DataW.trod] at h
  | succ fuel =>
    simp only [DataW.trod, ht, hce, hct, Nat.mul_one] at h
    split at h
    · rename_i hl
      obtain ⟨xs, hm, hx⟩ := Option.map_eq_some_iff.1 h
      have hxs : xs.map (·.1) = ss.map fun s => (DataW.lit (.string s) : DataW H) := by
        have := congrArg Prod.fst hx
        simpa [strData] using this
      have hxl : xs.length = n := by simpa using mapM_length hm
      have hzl : ss.length = n := by
        have := congrArg List.length hxs
        simp at this
        omega
      apply List.ext_getElem?
      intro i
      by_cases hi : i < n
      · obtain ⟨b, hb, hf⟩ := mapM_at hm i i (by simp [hi])
        obtain ⟨s, hc, rfl, _⟩ := DataW.trod_string he hf
        have h1 : cs[i]? = some (.string s) := by
          have := congrArg (·[0]?) hc
          simpa [List.getElem?_take, List.getElem?_drop] using this
        have h2 : (xs.map (·.1))[i]? = some (DataW.lit (.string s.data.toList) : DataW H) := by simp [hb]
        rw [hxs] at h2
        simp only [List.getElem?_map, Option.map_eq_some_iff, DataW.lit.injEq, Lit.string.injEq] at h2
        obtain ⟨s', hs', hs2⟩ := h2
        rw [h1, List.getElem?_map, hs', hs2]
        simp
      · rw [List.getElem?_eq_none (by omega), List.getElem?_eq_none (by simp; omega)]
    · cases h
theorem strsIs_of_head {P : Program} {W : World} {name : String} {ss : List (List UInt8)} {rest : List (String × DataW Unit)} {g : Nat} {t e : TypeId} {n : Nat}
    (hg : P.globalNamed name = some g) (hty : (P.globals[g]?).map (·.type) = some t) (ht : P.underlying t = some (.array n e)) (he : P.underlying e = some .string) (hce : P.cellsOf e = 1) (hct : P.cellsOf t = n)
    (h : laidMet P ((name, strData ss) :: rest) W) : StrsIs P W name ss := by
  obtain ⟨ps, ⟨g', t', cs, fuel, p, q, hg', ht', hvar, hd, _, _⟩, _⟩ := h
  obtain rfl := Option.some.inj (hg.symm.trans hg')
  obtain rfl := Option.some.inj (hty.symm.trans ht')
  unfold StrsIs
  rw [hvar, ← cells_of_strs ht he hce hct hd]
theorem StrsIs.cell {P : Program} {W : World} {name : String} {ss : List (List UInt8)} {g : Nat} (h : StrsIs P W name ss) (hg : P.globalNamed name = some g) (i : Nat) (hi : i < ss.length) :
    W.cell? ⟨g, i, none⟩ = some (.string ⟨(ss.getD i []).toArray⟩) := by
  have := World.var?_cell hg h i
  simpa [List.getD, hi] using this
end Go.Proofs.LaidStrs
namespace Go.Proofs.YtcbfbefpbjmglaaDoorT
open Go.Lib Go.Proofs.LaidStrs Go.Proofs.YtcbfbefpbjmglaaDoor
theorem gTab : Tryd.prog.globalNamed "burin/token.signs" = some 0 := by kernel_rfl
theorem gTabType : (Tryd.prog.globals[0]?).map (·.type) = some 110 := by kernel_rfl
theorem cells54 : Tryd.prog.cellsOf 110 = 48 := by kernel_rfl
theorem cells9 : Tryd.prog.cellsOf 9 = 1 := by kernel_rfl
theorem heap_of_var {P : Program} {w : World} {name : String} {g : Nat} {cs : Array Value} (hg : P.globalNamed name = some g) (h : w.var? P name = some cs) : ∃ t fr, w.heap[g]? = some (.cells cs t fr) := by
  unfold World.var? at h
  rw [hg] at h
  rw [Option.bind_some] at h
  split at h
  · rename_i c t fr hc
    obtain rfl := Option.some.inj h
    exact ⟨t, fr, hc⟩
  · cases h
noncomputable def laidWorld (os : Os) : World :=
  { World.holding Tryd.prog os ⟨#[], #[], []⟩ with heap := (World.holding Tryd.prog os ⟨#[], #[], []⟩).heap.modify 0 fun
      | .cells _ t frozen => .cells sgv t frozen
      | o => o }
end Go.Proofs.YtcbfbefpbjmglaaDoorT
