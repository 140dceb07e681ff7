import Derived.Test.YtgdkkcdmflopjaaDoorMR4
import Derived.Test.YtgdkkcdmflopjaaDoorLQ
import Derived.Lib.LaidTab
import Derived.Test.YtgdkkcdmflopjaaDoorRows
import Derived.Test.YtgdkkcdmflopjaaDoorMF2
namespace Go.Proofs.YtgdkkcdmflopjaaDoor.Mc
open Go.RowKit Go.Proofs.YtgdkkcdmflopjaaDoor.PA Go.Proofs.YtgdkkcdmflopjaaDoor.Pure Go.Proofs.MapFun Go.Proofs.YtgdkkcdmflopjaaDoorW.PrintWords Go.Proofs.YtgdkkcdmflopjaaDoorW.PrintLast Go.Proofs.YtgdkkcdmflopjaaDoorW.PrintMore
set_option linter.unusedVariables false
set_option linter.unusedSimpArgs false
theorem rd_nat (l : List Int) (i : Nat) (hi : i < l.length) : rd l (i : Int) = l[i] := by
  unfold rd
  simp [List.getD_eq_getElem?_getD, List.getElem?_eq_getElem hi]
noncomputable def finP (k : Nat) (x0 : List Int) (x3 : Bool) (y326 : List S35) (x6 : Int) : Option Bool := (burinlaw19_longs.f k (⟨#[102]⟩ : ByteArray) 0).bind fun bt329 => ((mach_Run.f y326 (([(⟨bt329.1, bt329.2.1, bt329.2.2.1, bt329.2.2.2.1, bt329.2.2.2.2.1, bt329.2.2.2.2.2⟩ : S40)] : List (S40))) (⟨#[102]⟩ : ByteArray) ([] : List Int) ([] : List Int) 1000 512).bind fun bt342 => ((burinlaw19_longs.f k (⟨#[102]⟩ : ByteArray) 0).bind fun bt348 => ((mach_Run.f y326 (([(⟨bt348.1, bt348.2.1, bt348.2.2.1, bt348.2.2.2.1, bt348.2.2.2.2.1, bt348.2.2.2.2.2⟩ : S40)] : List (S40))) (⟨#[102]⟩ : ByteArray) ([] : List Int) ([] : List Int) 1000 16).bind fun bt361 => (if x3 = true then (if bt342.1 = 0 then (if bt342.2.1 = x6 then (some ((bt361.1 == 191) == (decide ((x0.length : Int) > 1)))) else (some false)) else (some false)) else (some false)))))
theorem l0_eq (lt : List Int) (hlt : lt.length ≤ 60) (k : Nat) : ∀ (d i : Nat) (x4 : List S35), i + d = lt.length → x4.length + 2 * d ≤ 1000 →
    burinlaw19_MachPushes.l0 (k + d + 1) lt true x4 (i : Int) = burinlaw19_MachPushes.l1 k lt true (x4 ++ (pushesL (lt.drop i) ++ [iImm 0 0])) 0 0
  | 0, i, x4, hi, hx => by
    rw [Nat.add_zero, burinlaw19_MachPushes.l0, if_neg (by omega), if_pos (by omega), List.drop_of_length_le (by omega)]
    rfl
  | d + 1, i, x4, hi, hx => by
    have hlt' : i < lt.length := by omega
    rw [show k + (d + 1) + 1 = (k + d + 1) + 1 by omega, burinlaw19_MachPushes.l0, if_pos (by omega), if_pos (by omega), Option.bind_some, if_pos (by simp; omega), rd_nat lt i hlt', w64_id (by omega)]
    rw [show ((i : Int) + 1) = ((i + 1 : Nat) : Int) by push_cast; rfl, l0_eq lt hlt k d (i + 1) _ (by omega) (by simp; omega)]
    rw [List.drop_eq_getElem_cons hlt', pushesL, List.append_assoc]
    rfl
theorem l1_eq (lt : List Int) (hlt : lt.length ≤ 60) (k : Nat) : ∀ (d j : Nat) (x4 : List S35) (acc : Int), j + d = lt.length → x4.length + 3 * d ≤ 1000 →
    burinlaw19_MachPushes.l1 (k + d + 1) lt true x4 acc (j : Int) = finP k lt true (x4 ++ (popsL d ++ [iRet])) (wantF acc (lt.reverse.drop j))
  | 0, j, x4, acc, hj, hx => by
    rw [Nat.add_zero, burinlaw19_MachPushes.l1, if_neg (by omega), if_pos (by omega), List.drop_of_length_le (by rw [List.length_reverse]; omega)]
    rfl
  | d + 1, j, x4, acc, hj, hx => by
    have hlt' : j < lt.length := by omega
    have hr : j < lt.reverse.length := by rw [List.length_reverse]; exact hlt'
    have e : wrap64 (wrap64 ((lt.length : Int) - 1) - (j : Int)) = ((lt.length - 1 - j : Nat) : Int) := by
      rw [w64_id (x := (lt.length : Int) - 1) (by omega), w64_id (by omega)]; omega
    rw [show k + (d + 1) + 1 = (k + d + 1) + 1 by omega, burinlaw19_MachPushes.l1, if_pos (by omega), e, if_pos (by omega), if_pos (by omega), Option.bind_some, if_pos (by simp; omega), rd_nat lt _ (by omega), w64_id (x := (j : Int) + 1) (by omega)]
    rw [show ((j : Int) + 1) = ((j + 1 : Nat) : Int) by push_cast; rfl, l1_eq lt hlt k d (j + 1) _ _ (by omega) (by simp; omega)]
    rw [List.drop_eq_getElem_cons hr, wantF, List.getElem_reverse, popsL, List.append_assoc]
    rfl
theorem longs0 : burinlaw19_longs.f 5 (⟨#[102]⟩ : ByteArray) 0 = some ((⟨#[102]⟩ : ByteArray), 7, [], false, 0, []) := by kernel_rfl
theorem fin_eq (lt : List Int) (hlt : lt.length ≤ 60) (hv : ∀ v ∈ lt, In64 v) : finP 5 lt true (codeL lt) (wantF 0 lt.reverse) = some true := by
  obtain ⟨ev, h1⟩ := code_good lt hv hlt 64 (by omega) (by omega) 512 (by decide) pi64 (by decide) (by decide) (by decide)
  have h2 : ∃ c v ev, mach_Run.f (codeL lt) [hd0] ⟨#[102]⟩ [] [] 1000 16 = some (c, v, ev) ∧ ((c == 191) == (decide ((lt.length : Int) > 1))) = true := by
    match lt, hv, hlt with
    | [], hv, hlt =>
      obtain ⟨ev, h⟩ := code_good [] hv hlt 2 (by omega) (by simp) 16 (by decide) pi2 (by decide) (by decide) (by decide)
      exact ⟨_, _, _, h, by decide⟩
    | [a], hv, hlt =>
      obtain ⟨ev, h⟩ := code_good [a] hv hlt 2 (by omega) (by simp) 16 (by decide) pi2 (by decide) (by decide) (by decide)
      exact ⟨_, _, _, h, by simp⟩
    | a :: b :: t, hv, hlt =>
      obtain ⟨ev, h⟩ := code_bad a b t hv hlt
      refine ⟨_, _, _, h, ?_⟩
      have : decide (((a :: b :: t).length : Int) > 1) = true := decide_eq_true (by simp; omega)
      rw [this]; rfl
  obtain ⟨c, v, ev2, h2, h3⟩ := h2
  unfold finP
  rw [longs0, Option.bind_some]
  show (mach_Run.f (codeL lt) [hd0] ⟨#[102]⟩ [] [] 1000 512).bind _ = _
  rw [h1, Option.bind_some, Option.bind_some]
  show (mach_Run.f (codeL lt) [hd0] ⟨#[102]⟩ [] [] 1000 16).bind _ = _
  rw [h2, Option.bind_some, if_pos rfl, if_pos rfl, if_pos rfl, h3]
theorem machPushes_pure : burinlaw19_MachPushes.Pure := by
  intro l0 _ _ hw
  obtain ⟨lt, hlt⟩ : ∃ y, y = l0.take (mn (l0.length : Int) 60).toNat := ⟨_, rfl⟩
  have hmn : (mn (l0.length : Int) 60) ≤ 60 ∧ 0 ≤ (mn (l0.length : Int) 60) ∧ (mn (l0.length : Int) 60) ≤ (l0.length : Int) := by
    unfold mn; split <;> omega
  have hl : lt.length ≤ 60 := by rw [hlt, List.length_take]; omega
  have hv : ∀ v ∈ lt, In64 v := fun v h => by
    have := wf_i64 (hw v (List.mem_of_mem_take (hlt ▸ h)))
    exact this
  refine ⟨5 + lt.length + 1 + lt.length + 1, ?_⟩
  unfold burinlaw19_MachPushes.f
  rw [show burinlaw19_shown.f = some true from rfl, Option.bind_some, if_pos hmn.2.1, if_pos hmn.2.2, ← hlt]
  rw [show burinlaw19_label.f (⟨#[102]⟩ : ByteArray) = some (15, 0, 0, 0, 0, false, 0, ⟨#[102]⟩) from rfl, Option.bind_some]
  refine (l0_eq lt hl (5 + lt.length + 1) lt.length 0 [iLab, iMov 2 4] (by omega) (by simp; omega)).trans ?_
  refine (l1_eq lt hl 5 lt.length 0 _ 0 (by omega) (by simp [pushes_len]; omega)).trans ?_
  rw [List.drop_zero, List.drop_zero]
  have e : [iLab, iMov 2 4] ++ (pushesL lt ++ [iImm 0 0]) ++ (popsL lt.length ++ [iRet]) = codeL lt := by simp [codeL]
  rw [e]
  exact fin_eq lt hl hv
theorem machPushes_calls (a0 : Option Addr) (len0 cap0 : Nat) (z0 : List Int) (w : World) (hT : Tab w) (w0 : (a0 = none ∧ len0 = 0 ∧ cap0 = 0 ∧ z0 = []) ∨ ∃ x, a0 = some x ∧ len0 ≤ cap0 ∧ cap0 ≤ maxLen ∧ z0.length = cap0 ∧ (∀ i, i < z0.length → w.cell? (x.add i) = some (.int .i64 (z0.getD i 0))) ∧ ∀ n ∈ z0, (Lit.int .i64 n).wf = true) (y0 : len0 * 8 ≤ 140737488351232) :
    Calls Tryd.prog 4 #[.slice a0 len0 cap0] w fun e w' => e = .returned (.bool true) ∧ Below w.heap.size w w' :=
  burinlaw19_MachPushes.walk machPushes_pure a0 len0 cap0 z0 w hT w0 y0
end Go.Proofs.YtgdkkcdmflopjaaDoor.Mc
namespace Go.Proofs.LaidStrs
open Go.Lib
def strData {H : Type} (ss : List (List UInt8)) : DataW H := .agg (ss.map fun s => .lit (.string s))
def StrsIs (P : Program) (w : World) (name : String) (ss : List (List UInt8)) : Prop := w.var? P name = some (ss.map fun s => Value.string ⟨s.toArray⟩).toArray
theorem cells_of_strs {H : Type} {enc : TypeId × Value → H} {P : Program} {w : World} {base : Nat} {sp : Nat → Bool} {held : Bool} {fuel : Nat} {t e : TypeId} {n : Nat} {cs : List Value} {ss : List (List UInt8)} {p : List MemPlace}
    (ht : P.underlying t = some (.array n e)) (he : P.underlying e = some .string) (hce : P.cellsOf e = 1) (hct : P.cellsOf t = n)
    (h : DataW.trod enc P w base sp held fuel t cs = some (strData ss, p)) : cs = ss.map fun s => Value.string ⟨s.toArray⟩ := by
  cases fuel with
  | zero => simp [DataW.trod] at h
  | succ fuel =>
    simp only [DataW.trod, ht, hce, hct, Nat.mul_one] at h
    split at h
    · rename_i hl
      obtain ⟨xs, hm, hx⟩ := Option.map_eq_some_iff.1 h
      have hxs : xs.map (·.1) = ss.map fun s => (DataW.lit (.string s) : DataW H) := by
        have := congrArg Prod.fst hx
        simpa [strData] using this
      have hxl : xs.length = n := by simpa using mapM_length hm
      have hzl : ss.length = n := by
        have := congrArg List.length hxs
        simp at this
        omega
      apply List.ext_getElem?
      intro i
      by_cases hi : i < n
      · obtain ⟨b, hb, hf⟩ := mapM_at hm i i (by simp [hi])
        obtain ⟨s, hc, rfl, _⟩ := DataW.trod_string he hf
        have h1 : cs[i]? = some (.string s) := by
          have := congrArg (·[0]?) hc
          simpa [List.getElem?_take, List.getElem?_drop] using this
        have h2 : (xs.map (·.1))[i]? = some (DataW.lit (.string s.data.toList) : DataW H) := by simp [hb]
        rw [hxs] at h2
        simp only [List.getElem?_map, Option.map_eq_some_iff, DataW.lit.injEq, Lit.string.injEq] at h2
        obtain ⟨s', hs', hs2⟩ := h2
        rw [h1, List.getElem?_map, hs', hs2]
        simp
      · rw [List.getElem?_eq_none (by omega), List.getElem?_eq_none (by simp; omega)]
    · cases h
theorem strsIs_of_vars {P : Program} {W : World} {name : String} {ss : List (List UInt8)} {rest : List (String × DataW Unit)} {g : Nat} {t e : TypeId} {n : Nat} {ps : List MemPlace}
    (hg : P.globalNamed name = some g) (hty : (P.globals[g]?).map (·.type) = some t) (ht : P.underlying t = some (.array n e)) (he : P.underlying e = some .string) (hce : P.cellsOf e = 1) (hct : P.cellsOf t = n)
    (h : DataW.LaidVars P W ((name, strData ss) :: rest) ps) : StrsIs P W name ss ∧ ∃ q, DataW.LaidVars P W rest q := by
  obtain ⟨g', t', cs, fuel, p, q, hg', ht', hvar, hd, hr, _⟩ := h
  obtain rfl := Option.some.inj (hg.symm.trans hg')
  obtain rfl := Option.some.inj (hty.symm.trans ht')
  refine ⟨?_, q, hr⟩
  unfold StrsIs
  rw [hvar, ← cells_of_strs ht he hce hct hd]
theorem tabIs_of_vars {P : Program} {W : World} {name : String} {k : IntKind} {zs : List Int} {rest : List (String × DataW Unit)} {g : Nat} {t e : TypeId} {n : Nat} {ps : List MemPlace}
    (hg : P.globalNamed name = some g) (hty : (P.globals[g]?).map (·.type) = some t) (ht : P.underlying t = some (.array n e)) (he : P.underlying e = some (.int k)) (hce : P.cellsOf e = 1) (hct : P.cellsOf t = n)
    (h : DataW.LaidVars P W ((name, tabData k zs) :: rest) ps) : TabIs P W name k zs ∧ ∃ q, DataW.LaidVars P W rest q := by
  obtain ⟨g', t', cs, fuel, p, q, hg', ht', hvar, hd, hr, _⟩ := h
  obtain rfl := Option.some.inj (hg.symm.trans hg')
  obtain rfl := Option.some.inj (hty.symm.trans ht')
  refine ⟨?_, q, hr⟩
  unfold TabIs
  rw [hvar, ← cells_of_tab ht he hce hct hd]
theorem StrsIs.cell {P : Program} {W : World} {name : String} {ss : List (List UInt8)} {g : Nat} (h : StrsIs P W name ss) (hg : P.globalNamed name = some g) (i : Nat) (hi : i < ss.length) :
    W.cell? ⟨g, i, none⟩ = some (.string ⟨(ss.getD i []).toArray⟩) := by
  have := World.var?_cell hg h i
  simpa [List.getD, hi] using this
end Go.Proofs.LaidStrs
namespace Go.Proofs.YtgdkkcdmflopjaaDoor.Mc
open Go.Lib Go.Proofs.LaidStrs Go.Proofs.YtgdkkcdmflopjaaDoor
theorem gK : Tryd.prog.globalNamed "burin/mach.kept" = some 0 := by kernel_rfl
theorem gG : Tryd.prog.globalNamed "burin/mach.given" = some 1 := by kernel_rfl
theorem gN : Tryd.prog.globalNamed "burin/kind.names" = some 2 := by kernel_rfl
theorem gL : Tryd.prog.globalNamed "burin/mach.lost" = some 3 := by kernel_rfl
theorem tK : (Tryd.prog.globals[0]?).map (·.type) = some 85 := by kernel_rfl
theorem tG : (Tryd.prog.globals[1]?).map (·.type) = some 85 := by kernel_rfl
theorem tN : (Tryd.prog.globals[2]?).map (·.type) = some 111 := by kernel_rfl
theorem tL : (Tryd.prog.globals[3]?).map (·.type) = some 120 := by kernel_rfl
def laidL : List (String × DataW Unit) := [("burin/kind.names", strData nms), ("burin/mach.given", tabData .i64 givenL), ("burin/mach.kept", tabData .i64 keptL), ("burin/mach.lost", tabData .i64 lostL)]
theorem table {W : World} (h : laidMetH Tryd.prog laidL W) : Tab W := by
  have h0 : laidMet Tryd.prog laidL W := h
  obtain ⟨ps, hv, _⟩ := h0
  obtain ⟨hN, q1, h1⟩ := strsIs_of_vars gN tN Tryd.underlying111 Tryd.underlying9 (by kernel_rfl) (by kernel_rfl) hv
  obtain ⟨hG, q2, h2⟩ := tabIs_of_vars gG tG Tryd.underlying85 Tryd.underlying3 (by kernel_rfl) (by kernel_rfl) h1
  obtain ⟨hK, q3, h3⟩ := tabIs_of_vars gK tK Tryd.underlying85 Tryd.underlying3 (by kernel_rfl) (by kernel_rfl) h2
  obtain ⟨hL, q4, h4⟩ := tabIs_of_vars gL tL Tryd.underlying120 Tryd.underlying3 (by kernel_rfl) (by kernel_rfl) h3
  exact ⟨fun i hi => hK.cell gK i hi, fun i hi => hG.cell gG i hi, fun i hi => hN.cell gN i hi, fun i hi => hL.cell gL i hi⟩
def layB (cs : Array Value) : Obj → Obj
  | .cells _ t frozen => .cells cs t frozen
  | o => o
noncomputable def laidWorld (os : Os) : World :=
  { World.holding Tryd.prog os ⟨#[], #[], []⟩ with heap := ((((World.holding Tryd.prog os ⟨#[], #[], []⟩).heap.modify 0 (layB (keptL.map fun z => Value.int .i64 z).toArray)).modify 1 (layB (givenL.map fun z => Value.int .i64 z).toArray)).modify 2 (layB (nms.map fun s => Value.string ⟨s.toArray⟩).toArray)).modify 3 (layB (lostL.map fun z => Value.int .i64 z).toArray) }
end Go.Proofs.YtgdkkcdmflopjaaDoor.Mc
