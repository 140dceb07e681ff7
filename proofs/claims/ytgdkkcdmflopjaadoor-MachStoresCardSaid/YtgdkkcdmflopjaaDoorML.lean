import Derived.Lib.LaidTab
import Derived.Test.YtgdkkcdmflopjaaDoorRows
import Derived.Test.YtgdkkcdmflopjaaDoorMF2
import Derived.Test.YtgdkkcdmflopjaaDoorLP1
namespace Go.Proofs.LaidStrs
open Go.Lib
def strData {H : Type} (ss : List (List UInt8)) : DataW H := .agg (ss.map fun s => .lit (.string s))
def StrsIs (P : Program) (w : World) (name : String) (ss : List (List UInt8)) : Prop := w.var? P name = some (ss.map fun s => Value.string ⟨s.toArray⟩).toArray
theorem cells_of_strs {H : Type} {enc : TypeId × Value → H} {P : Program} {w : World} {base : Nat} {sp : Nat → Bool} {held : Bool} {fuel : Nat} {t e : TypeId} {n : Nat} {cs : List Value} {ss : List (List UInt8)} {p : List MemPlace}
    (ht : P.underlying t = some (.array n e)) (he : P.underlying e = some .string) (hce : P.cellsOf e = 1) (hct : P.cellsOf t = n)
    (h : DataW.trod enc P w base sp held fuel t cs = some (strData ss, p)) : cs = ss.map fun s => Value.string ⟨s.toArray⟩ := by
  cases fuel with
  | zero => simp [DataW.trod] at h
  | succ fuel =>
    simp only [DataW.trod, ht, hce, hct, Nat.mul_one] at h
    split at h
    · rename_i hl
      obtain ⟨xs, hm, hx⟩ := Option.map_eq_some_iff.1 h
      have hxs : xs.map (·.1) = ss.map fun s => (DataW.lit (.string s) : DataW H) := by
        have := congrArg Prod.fst hx
        simpa [strData] using this
      have hxl : xs.length = n := by simpa using mapM_length hm
      have hzl : ss.length = n := by
        have := congrArg List.length hxs
        simp at this
        omega
      apply List.ext_getElem?
      intro i
      by_cases hi : i < n
      · obtain ⟨b, hb, hf⟩ := mapM_at hm i i (by simp [hi])
        obtain ⟨s, hc, rfl, _⟩ := DataW.trod_string he hf
        have h1 : cs[i]? = some (.string s) := by
          have := congrArg (·[0]?) hc
          simpa [List.getElem?_take, List.getElem?_drop] using this
        have h2 : (xs.map (·.1))[i]? = some (DataW.lit (.string s.data.toList) : DataW H) := by simp [hb]
        rw [hxs] at h2
        simp only [List.getElem?_map, Option.map_eq_some_iff, DataW.lit.injEq, Lit.string.injEq] at h2
        obtain ⟨s', hs', hs2⟩ := h2
        rw [h1, List.getElem?_map, hs', hs2]
        simp
      · rw [List.getElem?_eq_none (by omega), List.getElem?_eq_none (by simp; omega)]
    · cases h
theorem strsIs_of_vars {P : Program} {W : World} {name : String} {ss : List (List UInt8)} {rest : List (String × DataW Unit)} {g : Nat} {t e : TypeId} {n : Nat} {ps : List MemPlace}
    (hg : P.globalNamed name = some g) (hty : (P.globals[g]?).map (·.type) = some t) (ht : P.underlying t = some (.array n e)) (he : P.underlying e = some .string) (hce : P.cellsOf e = 1) (hct : P.cellsOf t = n)
    (h : DataW.LaidVars P W ((name, strData ss) :: rest) ps) : StrsIs P W name ss ∧ ∃ q, DataW.LaidVars P W rest q := by
  obtain ⟨g', t', cs, fuel, p, q, hg', ht', hvar, hd, hr, _⟩ := h
  obtain rfl := Option.some.inj (hg.symm.trans hg')
  obtain rfl := Option.some.inj (hty.symm.trans ht')
  refine ⟨?_, q, hr⟩
  unfold StrsIs
  rw [hvar, ← cells_of_strs ht he hce hct hd]
theorem tabIs_of_vars {P : Program} {W : World} {name : String} {k : IntKind} {zs : List Int} {rest : List (String × DataW Unit)} {g : Nat} {t e : TypeId} {n : Nat} {ps : List MemPlace}
    (hg : P.globalNamed name = some g) (hty : (P.globals[g]?).map (·.type) = some t) (ht : P.underlying t = some (.array n e)) (he : P.underlying e = some (.int k)) (hce : P.cellsOf e = 1) (hct : P.cellsOf t = n)
    (h : DataW.LaidVars P W ((name, tabData k zs) :: rest) ps) : TabIs P W name k zs ∧ ∃ q, DataW.LaidVars P W rest q := by
  obtain ⟨g', t', cs, fuel, p, q, hg', ht', hvar, hd, hr, _⟩ := h
  obtain rfl := Option.some.inj (hg.symm.trans hg')
  obtain rfl := Option.some.inj (hty.symm.trans ht')
  refine ⟨?_, q, hr⟩
  unfold TabIs
  rw [hvar, ← cells_of_tab ht he hce hct hd]
theorem StrsIs.cell {P : Program} {W : World} {name : String} {ss : List (List UInt8)} {g : Nat} (h : StrsIs P W name ss) (hg : P.globalNamed name = some g) (i : Nat) (hi : i < ss.length) :
    W.cell? ⟨g, i, none⟩ = some (.string ⟨(ss.getD i []).toArray⟩) := by
  have := World.var?_cell hg h i
  simpa [List.getD, hi] using this
end Go.Proofs.LaidStrs
namespace Go.Proofs.YtgdkkcdmflopjaaDoor.Mc
open Go.Lib Go.Proofs.LaidStrs Go.Proofs.YtgdkkcdmflopjaaDoor
theorem gK : Tryd.prog.globalNamed "burin/mach.kept" = some 0 := by kernel_rfl
theorem gG : Tryd.prog.globalNamed "burin/mach.given" = some 1 := by kernel_rfl
theorem gN : Tryd.prog.globalNamed "burin/kind.names" = some 2 := by kernel_rfl
theorem gL : Tryd.prog.globalNamed "burin/mach.lost" = some 3 := by kernel_rfl
theorem tK : (Tryd.prog.globals[0]?).map (·.type) = some 85 := by kernel_rfl
theorem tG : (Tryd.prog.globals[1]?).map (·.type) = some 85 := by kernel_rfl
theorem tN : (Tryd.prog.globals[2]?).map (·.type) = some 111 := by kernel_rfl
theorem tL : (Tryd.prog.globals[3]?).map (·.type) = some 120 := by kernel_rfl
def laidL : List (String × DataW Unit) := [("burin/kind.names", strData nms), ("burin/mach.given", tabData .i64 givenL), ("burin/mach.kept", tabData .i64 keptL), ("burin/mach.lost", tabData .i64 lostL)]
theorem table {W : World} (h : laidMetH Tryd.prog laidL W) : Tab W := by
  have h0 : laidMet Tryd.prog laidL W := h
  obtain ⟨ps, hv, _⟩ := h0
  obtain ⟨hN, q1, h1⟩ := strsIs_of_vars gN tN Tryd.underlying111 Tryd.underlying9 (by kernel_rfl) (by kernel_rfl) hv
  obtain ⟨hG, q2, h2⟩ := tabIs_of_vars gG tG Tryd.underlying85 Tryd.underlying3 (by kernel_rfl) (by kernel_rfl) h1
  obtain ⟨hK, q3, h3⟩ := tabIs_of_vars gK tK Tryd.underlying85 Tryd.underlying3 (by kernel_rfl) (by kernel_rfl) h2
  obtain ⟨hL, q4, h4⟩ := tabIs_of_vars gL tL Tryd.underlying120 Tryd.underlying3 (by kernel_rfl) (by kernel_rfl) h3
  exact ⟨fun i hi => hK.cell gK i hi, fun i hi => hG.cell gG i hi, fun i hi => hN.cell gN i hi, fun i hi => hL.cell gL i hi⟩
def layB (cs : Array Value) : Obj → Obj
  | .cells _ t frozen => .cells cs t frozen
  | o => o
noncomputable def laidWorld (os : Os) : World :=
  { World.holding Tryd.prog os ⟨#[], #[], []⟩ with heap := ((((World.holding Tryd.prog os ⟨#[], #[], []⟩).heap.modify 0 (layB (keptL.map fun z => Value.int .i64 z).toArray)).modify 1 (layB (givenL.map fun z => Value.int .i64 z).toArray)).modify 2 (layB (nms.map fun s => Value.string ⟨s.toArray⟩).toArray)).modify 3 (layB (lostL.map fun z => Value.int .i64 z).toArray) }
end Go.Proofs.YtgdkkcdmflopjaaDoor.Mc
namespace Go.Proofs.YtgdkkcdmflopjaaDoor.Mc
open Go.RowKit Go.Proofs.YtgdkkcdmflopjaaDoor.PA Go.Proofs.YtgdkkcdmflopjaaDoor.Pure
theorem machStores_calls (a b i k : Int) (ha : (Lit.int .i64 a).wf = true) (hb : (Lit.int .i64 b).wf = true) (w : World) (hT : Tab w) :
    Calls Tryd.prog 5 #[.int .i64 a, .int .i64 b, .int .i64 i, .int .i64 k] w fun e w' => e = .returned (.bool true) ∧ Below w.heap.size w w' := by
  by_cases h : 0 ≤ i ∧ i ≤ 15 ∧ 0 ≤ k ∧ k ≤ 15
  · obtain ⟨n, rfl⟩ : ∃ n : Nat, i = n := ⟨i.toNat, by omega⟩
    obtain ⟨m, rfl⟩ : ∃ n : Nat, k = n := ⟨k.toNat, by omega⟩
    exact stores_in a b n m (wf_i64 ha) (wf_i64 hb) (by omega) (by omega) w hT
  · exact stores_out a b i k w hT h
end Go.Proofs.YtgdkkcdmflopjaaDoor.Mc
