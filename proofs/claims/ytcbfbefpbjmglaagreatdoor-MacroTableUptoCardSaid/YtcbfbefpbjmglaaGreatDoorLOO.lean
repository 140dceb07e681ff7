import Derived.Test.YtcbfbefpbjmglaaGreatDoorZ
import Derived.Test.YtcbfbefpbjmglaaGreatDoorMF
import Derived.Test.YtcbfbefpbjmglaaGreatDoorTW
set_option linter.unusedSimpArgs false
set_option linter.unusedVariables false
namespace Go.Proofs.YtcbfbefpbjmglaaGreatDoor.Mac
open Go.RowKit Go.ChangeShapes Go.WideShapes Go.ChangeAt PA YtcbfbefpbjmglaaGreatDoorT YtcbfbefpbjmglaaGreatDoorW.PrintWords
theorem RowAt.of_C {α : Type} {K : Kd α} {W : World} {A : Option Addr} {e n : Nat} {l : List α} (h : K.C W A n l) (hs : 0 < K.sz) : RowAt W.heap.size W A e n := fun hn ad ha => by
 obtain ⟨ad', ha', hr⟩ := h.2.2 hn
 rw [ha] at ha'
 cases ha'
 have h0 : 0 < l.length := by rw [h.1]; exact hn
 obtain ⟨c, h1, _, h3⟩ := hr 0 _ (List.getElem?_eq_getElem h0)
 have h4 := h3 0 _ (List.getElem?_eq_getElem (by omega))
 have h5 := cl W _ h4
 rw [add_block] at h5
 exact Or.inl h5
instance : Inhabited (MacP × ORow) := ⟨(⟨⟨#[]⟩, false, [], false, []⟩, ⟨0, ⟨#[]⟩, ⟨⟨#[]⟩, false, none, 0, 0, false, none, 0, 0⟩⟩)⟩
set_option maxRecDepth 20000 in
theorem openedO {H : Type} {enc : TypeId × Value → H} {W : World} {a : Option Addr} {len cap : Nat} {x : DataW H × List MemPlace} (hbk : Rows.uptoBulk x.1 ≤ 1048576)
  (h : ∃ n, DataW.trod enc Tryz.prog W 0 (fun _ => true) true n 22 (Value.slice a len cap).cells.toList = some x) :
  ∃ l : List (MacP × ORow), l.length = len ∧ len ≤ cap ∧ Kd.C kO W a len (l.map Prod.snd) ∧ (∀ r ∈ l, r.2.s.size ≤ 1048576 ∧ DomM r.1.nm r.1.params r.1.body ∧ MacX W.heap.size W r.1 r.2.x) ∧ l.length ≤ 1048576 := by
 obtain ⟨fuel, hf⟩ := h
 have ce : Tryz.prog.cellsOf 35 = 7 := by kernel_rfl
 have c33 : Tryz.prog.cellsOf 33 = 5 := by kernel_rfl
 have c3 : Tryz.prog.cellsOf 3 = 1 := by kernel_rfl
 have c9 : Tryz.prog.cellsOf 9 = 1 := by kernel_rfl
 have c4 : Tryz.prog.cellsOf 4 = 1 := by kernel_rfl
 have c30 : Tryz.prog.cellsOf 30 = 1 := by kernel_rfl
 have c31 : Tryz.prog.cellsOf 31 = 1 := by kernel_rfl
 rcases Deep.open_slice Tryz.underlying22 hf with ⟨hcs, _⟩ | ⟨ad, l, c, m, n, D, Pl, hcs, _, hl, hm, hmm, hxe, hx⟩
 ·simp [Value.cells] at hcs
  obtain ⟨rfl, rfl, rfl⟩ := hcs
  exact ⟨[], rfl, Nat.le_refl _, ⟨rfl, by omega, fun h => absurd h (by omega)⟩, (fun y hy => by cases hy), Nat.zero_le _⟩
 ·simp [Value.cells] at hcs
  obtain ⟨rfl, rfl, rfl⟩ := hcs
  have hml : len ≤ m := by rw [hmm]; split <;> omega
  have hmax : cap ≤ 9223372036854775807 := hm
  have hbulk : Rows.uptoBulk x.1 = Rows.uptoBulkAll ((List.range len).map D) + Rows.uptoBulkAll ((List.range (m - len)).map fun j => D (len + j)) + 1 := by
   rw [hxe]; rfl
  have each : ∀ i, i < len → ∃ r : MacP × ORow, (∀ j u, (r.2.cells)[j]? = some u → W.cell? (ad.add (i * 7 + j)) = some u) ∧ (r.2.s.size ≤ 1048576 ∧ DomM r.1.nm r.1.params r.1.body ∧ MacX W.heap.size W r.1 r.2.x) ∧ 1 ≤ Rows.uptoBulk (D i) := fun i hi => by
   obtain ⟨cs', h1, h2⟩ := hx i (by omega)
   rw [ce] at h1
   obtain ⟨_, hlen, hcell⟩ := World.cells?_some h1
   have hmem : D i ∈ (List.range len).map D := List.mem_map.2 ⟨i, List.mem_range.2 hi, rfl⟩
   have hb := bulk_mem hmem
   obtain ⟨xs, k, hk, hxy, _, hxl, hff⟩ := DataW.trod_struct Tryz.underlying35 h2
   have hxl : xs.length = 3 := hxl
   match xs, hxl, cs', hlen with
   | [y0, y1, y2], _, [v0, v1, v2, v3, v4, v5, v6], _ =>
    have g0 := hff 0 _ rfl
    have g1 := hff 1 _ rfl
    have g2 := hff 2 _ rfl
    simp [c3, c9, c33] at g0 g1 g2
    obtain ⟨n0, e0, _, _⟩ := DataW.trod_int Tryz.underlying3 g0
    obtain ⟨s1, e1, e1', _⟩ := DataW.trod_string Tryz.underlying9 g1
    have e0 : v0 = .int .i64 n0 := by simpa using e0
    have e1 : v1 = .string s1 := by simpa using e1
    obtain ⟨zs, k2, hk2, hzy, _, hzl, hgg⟩ := DataW.trod_struct Tryz.underlying33 g2
    have hzl : zs.length = 5 := hzl
    match zs, hzl with
    | [z0, z1, z2, z3, z4], _ =>
     have f0 := hgg 0 _ rfl
     have f1 := hgg 1 _ rfl
     have f2 := hgg 2 _ rfl
     have f3 := hgg 3 _ rfl
     have f4 := hgg 4 _ rfl
     simp [c9, c4, c30, c31] at f0 f1 f2 f3 f4
     obtain ⟨s2, d0, d0', _⟩ := DataW.trod_string Tryz.underlying9 f0
     obtain ⟨b3, d1, _⟩ := DataW.trod_bool Tryz.underlying4 f1
     obtain ⟨b5, d3, _⟩ := DataW.trod_bool Tryz.underlying4 f3
     have d0 : v2 = .string s2 := by simpa using d0
     have d1 : v3 = .bool b3 := by simpa using d1
     have d3 : v5 = .bool b5 := by simpa using d3
     have d2 : ∃ a n c, v4 = .slice a n c := by
      rcases Deep.open_slice Tryz.underlying30 f2 with ⟨hcs, _⟩ | ⟨ad, l, c, m, n, D, Pl, hcs, _⟩
      ·exact ⟨_, _, _, by simpa using hcs⟩
      ·exact ⟨_, _, _, by simpa using hcs⟩
     have d4 : ∃ a n c, v6 = .slice a n c := by
      rcases Deep.open_slice Tryz.underlying31 f4 with ⟨hcs, _⟩ | ⟨ad, l, c, m, n, D, Pl, hcs, _⟩
      ·exact ⟨_, _, _, by simpa using hcs⟩
      ·exact ⟨_, _, _, by simpa using hcs⟩
     obtain ⟨Ap, np, cp, d2⟩ := d2
     obtain ⟨Ab, nb, cb, d4⟩ := d4
     subst e0 e1 d0 d1 d2 d3 d4
     obtain ⟨ps, hl2, hc2, hC2, hs2, hn2⟩ := openedS (x := z2) ⟨k2, f2⟩
     obtain ⟨body, hl4, hc4, hC4, hs4, hn4⟩ := openedT (x := z4) ⟨k2, f4⟩
     subst hl2 hl4
     have hD : D i = .agg [y0.1, y1.1, y2.1] := by simpa using congrArg Prod.fst hxy
     have hD2 : y2.1 = .agg [z0.1, z1.1, z2.1, z3.1, z4.1] := by simpa using congrArg Prod.fst hzy
     have hb2 : Rows.uptoBulk (D i) = Rows.uptoBulk y0.1 + (Rows.uptoBulk y1.1 + (Rows.uptoBulk y2.1 + 0)) + 1 := by rw [hD]; rfl
     have hb3 : Rows.uptoBulk y2.1 = Rows.uptoBulk z0.1 + (Rows.uptoBulk z1.1 + (Rows.uptoBulk z2.1 + (Rows.uptoBulk z3.1 + (Rows.uptoBulk z4.1 + 0)))) + 1 := by rw [hD2]; rfl
     have hb7 : Rows.uptoBulk y1.1 = s1.data.toList.length + 1 := by rw [e1']; rfl
     have hb8 : Rows.uptoBulk z0.1 = s2.data.toList.length + 1 := by rw [d0']; rfl
     have hz1 := Lib.size_eq s1
     have hz2 := Lib.size_eq s2
     refine ⟨(⟨s2, b3, ps, b5, body⟩, ⟨n0, s1, ⟨s2, b3, Ap, ps.length, cp, b5, Ab, body.length, cb⟩⟩), fun j u hu => ?_, ⟨by show s1.size ≤ _; omega, ⟨by show s2.size ≤ _; omega, by show ps.length ≤ _; omega, by show body.length ≤ _; omega, fun x hx => ?_, fun x hx => ?_⟩, ⟨rfl, rfl, rfl, rfl, rfl, hC2, hc2, hC4, hc4, RowAt.of_C hC2 (by decide), RowAt.of_C hC4 (by decide)⟩⟩, by omega⟩
     ·have hj : j < 7 := by have := (List.getElem?_eq_some_iff.1 hu).1; simpa [ORow.cells] using this
      have ec := hcell j hj
      rw [Deep.add_add] at ec
      rw [ec]
      exact hu
     ·have := hs2 x hx; omega
     ·have := hs4 x hx; omega
  obtain ⟨f, hf'⟩ := Deep.choose_lt each
  refine ⟨(List.range len).map f, by simp, hl, ⟨by simp, by omega, fun hp => ⟨ad, rfl, fun j p hj => ?_⟩⟩, fun y hy => ?_, ?_⟩
  ·rw [List.map_map] at hj
   have hj' : j < len := by
    have := (List.getElem?_eq_some_iff.1 hj).1
    simpa using this
   have hp' : (f j).2 = p := by simpa [hj'] using hj
   obtain ⟨g0, _⟩ := hf' j hj'
   rw [hp'] at g0
   exact ⟨p.cells, rfl, rfl, fun i u hu => g0 i u hu⟩
  ·obtain ⟨j, hj, rfl⟩ := List.mem_map.1 hy
   exact (hf' j (List.mem_range.1 hj)).2.1
  ·have := bulk_len (H := H) (l := (List.range len).map D) (fun d hd => by
    obtain ⟨i, hi, rfl⟩ := List.mem_map.1 hd
    exact (hf' i (List.mem_range.1 hi)).2.2)
   rw [List.length_map, List.length_range] at this ⊢
   omega
end Go.Proofs.YtcbfbefpbjmglaaGreatDoor.Mac
