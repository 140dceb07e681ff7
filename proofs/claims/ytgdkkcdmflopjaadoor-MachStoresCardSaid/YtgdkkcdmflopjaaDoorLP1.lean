import Derived.Test.YtgdkkcdmflopjaaDoorMR4
import Derived.Test.YtgdkkcdmflopjaaDoorLR
import Derived.Test.YtgdkkcdmflopjaaDoorLXt
namespace Go.Proofs.YtgdkkcdmflopjaaDoor.Mc
open Go.RowKit Go.Proofs.YtgdkkcdmflopjaaDoor.PA Go.Proofs.YtgdkkcdmflopjaaDoor.Pure Go.Proofs.MapFun Go.Proofs.YtgdkkcdmflopjaaDoorW.PrintWords Go.Proofs.YtgdkkcdmflopjaaDoorW.PrintLast Go.Proofs.YtgdkkcdmflopjaaDoorW.PrintMore
set_option linter.unusedVariables false
set_option linter.unusedSimpArgs false
def obs (s : St) : List Int := if s.e = 0 then [0, s.reg 0, s.reg 3, s.reg 5, s.reg 12, s.reg 13, s.reg 14, s.reg 15, s.reg 4] else [s.e]
theorem obs_ok {s : St} {v q : Int} (h : obs s = [0, v, 1, 2, 3, 4, 5, 6, q]) : s.e = 0 ∧ s.reg 0 = v ∧ keptOk s ∧ s.reg 4 = q := by
  unfold obs at h
  split at h
  · simp only [List.cons.injEq, true_and, and_true] at h
    obtain ⟨h0, h1, h2, h3, h4, h5, h6, h7⟩ := h
    exact ⟨by assumption, h0, ⟨h1, h2, h3, h4, h5, h6⟩, h7⟩
  · simp at h
theorem obs_err {s : St} {n : Int} (h : obs s = [n]) : s.e = n ∧ s.e ≠ 0 := by
  unfold obs at h
  split at h
  · cases h
  · simp only [List.cons.injEq, and_true] at h
    exact ⟨h, by assumption⟩
def plainQ (x : S35) : Bool := decide (0 ≤ x.f1 ∧ x.f1 < 16 ∧ 0 ≤ x.f2 ∧ x.f2 < 16 ∧ -9223372036854775808 ≤ x.f3 ∧ x.f3 ≤ 9223372036854775807 ∧ x.f0 ≠ 13 ∧ x.f0 ≠ 14 ∧ x.f0 ≠ 16 ∧ x.f7.size ≤ 140737488351232)
theorem ok2 {l : List S35} {a b steps stack : Int} (hr : rightP l [hd2] = true) (hp : l.all plainQ = true) (hk : ∀ x ∈ l, kindU x) (hl : l.length ≤ 40000) (hlab : labAt l l.length nmF.data.toList = some 0) (ha : In64 a) (hb : In64 b) (h0 : 0 ≤ steps) (h1 : steps ≤ 1000000) (g0 : 16 ≤ stack) (g1 : stack ≤ 65536) (g2 : stack % 16 = 0)
    (hbeg : (beginsP (st0 stack ((0 : Nat) : Int)) [a, b] stack).e = 0)
    (hkept : (endP l [a, b] steps stack ((0 : Nat) : Int)).e = 0 → keptOk (endP l [a, b] steps stack ((0 : Nat) : Int)) ∧ (endP l [a, b] steps stack ((0 : Nat) : Int)).reg 4 = wrap64 ((beginsP (st0 stack ((0 : Nat) : Int)) [a, b] stack).reg 4 + 8)) :
    RunOk l [hd2] ⟨#[102]⟩ [a, b] [] steps stack 0 where
  right := hr
  plain := regB_all hp
  kindsU := hk
  len := hl
  names := by intro c hc; obtain rfl := List.mem_singleton.1 hc; decide
  one := rfl
  find := t3
  lab := hlab
  nsize := by decide
  few := .inr rfl
  kinds := rfl
  ain := in_two a b ha hb
  ret := rfl
  noscr := rfl
  steps0 := h0
  steps1 := h1
  stack0 := g0
  stack1 := g1
  stack16 := g2
  beg := hbeg
  kept := hkept
theorem toP7 {v : Int} (h : In64 v) : toP v 7 = v := by
  unfold In64 at h
  show conv 7 v = v
  show (v + 9223372036854775808) % 18446744073709551616 - 9223372036854775808 = v
  omega
def iStore (d s n : Int) : S35 := ⟨4, d, s, n, 0, false, 0, ⟨#[]⟩⟩
def iLoad (d s n : Int) : S35 := ⟨3, d, s, n, 0, false, 0, ⟨#[]⟩⟩
def iAddI (d n : Int) : S35 := ⟨20, d, 0, n, 0, false, 0, ⟨#[]⟩⟩
def sOut (i k : Nat) : List S35 := [iLab, iStore 4 7 (-8 * ((i : Int) + 1)), iStore 4 6 (-8 * ((k : Int) + 1)), iLoad 0 4 (-8 * ((i : Int) + 1)), iRet]
def sWide (i k : Nat) : List S35 := [iLab, iAddI 4 (-256), iStore 4 7 (8 * (i : Int)), iStore 4 6 (8 * (k : Int)), iLoad 0 4 (8 * (i : Int)), iAddI 4 256, iRet]
def goodL (l : List S35) : Bool := rightP l [hd2] && l.all plainQ && l.all (fun x => decide (kindU x)) && decide (l.length ≤ 40000) && (labAt l l.length nmF.data.toList == some 0)
theorem sOut_good : ∀ i < 16, ∀ k < 16, goodL (sOut i k) = true := by decide +kernel
theorem sWide_good : ∀ i < 16, ∀ k < 16, goodL (sWide i k) = true := by decide +kernel
def grid (f : Nat → Nat → List Int) : List (List (List Int)) := (List.range 16).map fun i => (List.range 16).map fun k => f i k
theorem grid_at {f g : Nat → Nat → List Int} (h : grid f = grid g) {i k : Nat} (hi : i < 16) (hk : k < 16) : f i k = g i k := by
  have h1 := congrArg (fun t => (t[i]?).bind (fun r => r[k]?)) h
  simpa [grid, hi, hk] using h1
theorem sOut_obs (a b : Int) : grid (fun i k => obs (endP (sOut i k) [a, b] 20 64 ((0 : Nat) : Int))) = grid (fun i k => if i ≤ 6 ∧ k ≤ 6 then [0, if i = k then b else a, 1, 2, 3, 4, 5, 6, 64] else [191]) := by kernel_rfl
theorem sWide_obs0 (a b : Int) : ∀ k, k < 16 → obs (endP (sWide 0 k) [a, b] 20 512 ((0 : Nat) : Int)) = [0, if 0 = k then b else a, 1, 2, 3, 4, 5, 6, 512]
  | 0, _ => by kernel_rfl
  | 1, _ => by kernel_rfl
  | 2, _ => by kernel_rfl
  | 3, _ => by kernel_rfl
  | 4, _ => by kernel_rfl
  | 5, _ => by kernel_rfl
  | 6, _ => by kernel_rfl
  | 7, _ => by kernel_rfl
  | 8, _ => by kernel_rfl
  | 9, _ => by kernel_rfl
  | 10, _ => by kernel_rfl
  | 11, _ => by kernel_rfl
  | 12, _ => by kernel_rfl
  | 13, _ => by kernel_rfl
  | 14, _ => by kernel_rfl
  | 15, _ => by kernel_rfl
  | n + 16, h => absurd h (by omega)
theorem sWide_obs1 (a b : Int) : ∀ k, k < 16 → obs (endP (sWide 1 k) [a, b] 20 512 ((0 : Nat) : Int)) = [0, if 1 = k then b else a, 1, 2, 3, 4, 5, 6, 512]
  | 0, _ => by kernel_rfl
  | 1, _ => by kernel_rfl
  | 2, _ => by kernel_rfl
  | 3, _ => by kernel_rfl
  | 4, _ => by kernel_rfl
  | 5, _ => by kernel_rfl
  | 6, _ => by kernel_rfl
  | 7, _ => by kernel_rfl
  | 8, _ => by kernel_rfl
  | 9, _ => by kernel_rfl
  | 10, _ => by kernel_rfl
  | 11, _ => by kernel_rfl
  | 12, _ => by kernel_rfl
  | 13, _ => by kernel_rfl
  | 14, _ => by kernel_rfl
  | 15, _ => by kernel_rfl
  | n + 16, h => absurd h (by omega)
theorem sWide_obs2 (a b : Int) : ∀ k, k < 16 → obs (endP (sWide 2 k) [a, b] 20 512 ((0 : Nat) : Int)) = [0, if 2 = k then b else a, 1, 2, 3, 4, 5, 6, 512]
  | 0, _ => by kernel_rfl
  | 1, _ => by kernel_rfl
  | 2, _ => by kernel_rfl
  | 3, _ => by kernel_rfl
  | 4, _ => by kernel_rfl
  | 5, _ => by kernel_rfl
  | 6, _ => by kernel_rfl
  | 7, _ => by kernel_rfl
  | 8, _ => by kernel_rfl
  | 9, _ => by kernel_rfl
  | 10, _ => by kernel_rfl
  | 11, _ => by kernel_rfl
  | 12, _ => by kernel_rfl
  | 13, _ => by kernel_rfl
  | 14, _ => by kernel_rfl
  | 15, _ => by kernel_rfl
  | n + 16, h => absurd h (by omega)
theorem sWide_obs3 (a b : Int) : ∀ k, k < 16 → obs (endP (sWide 3 k) [a, b] 20 512 ((0 : Nat) : Int)) = [0, if 3 = k then b else a, 1, 2, 3, 4, 5, 6, 512]
  | 0, _ => by kernel_rfl
  | 1, _ => by kernel_rfl
  | 2, _ => by kernel_rfl
  | 3, _ => by kernel_rfl
  | 4, _ => by kernel_rfl
  | 5, _ => by kernel_rfl
  | 6, _ => by kernel_rfl
  | 7, _ => by kernel_rfl
  | 8, _ => by kernel_rfl
  | 9, _ => by kernel_rfl
  | 10, _ => by kernel_rfl
  | 11, _ => by kernel_rfl
  | 12, _ => by kernel_rfl
  | 13, _ => by kernel_rfl
  | 14, _ => by kernel_rfl
  | 15, _ => by kernel_rfl
  | n + 16, h => absurd h (by omega)
theorem sWide_obs4 (a b : Int) : ∀ k, k < 16 → obs (endP (sWide 4 k) [a, b] 20 512 ((0 : Nat) : Int)) = [0, if 4 = k then b else a, 1, 2, 3, 4, 5, 6, 512]
  | 0, _ => by kernel_rfl
  | 1, _ => by kernel_rfl
  | 2, _ => by kernel_rfl
  | 3, _ => by kernel_rfl
  | 4, _ => by kernel_rfl
  | 5, _ => by kernel_rfl
  | 6, _ => by kernel_rfl
  | 7, _ => by kernel_rfl
  | 8, _ => by kernel_rfl
  | 9, _ => by kernel_rfl
  | 10, _ => by kernel_rfl
  | 11, _ => by kernel_rfl
  | 12, _ => by kernel_rfl
  | 13, _ => by kernel_rfl
  | 14, _ => by kernel_rfl
  | 15, _ => by kernel_rfl
  | n + 16, h => absurd h (by omega)
theorem sWide_obs5 (a b : Int) : ∀ k, k < 16 → obs (endP (sWide 5 k) [a, b] 20 512 ((0 : Nat) : Int)) = [0, if 5 = k then b else a, 1, 2, 3, 4, 5, 6, 512]
  | 0, _ => by kernel_rfl
  | 1, _ => by kernel_rfl
  | 2, _ => by kernel_rfl
  | 3, _ => by kernel_rfl
  | 4, _ => by kernel_rfl
  | 5, _ => by kernel_rfl
  | 6, _ => by kernel_rfl
  | 7, _ => by kernel_rfl
  | 8, _ => by kernel_rfl
  | 9, _ => by kernel_rfl
  | 10, _ => by kernel_rfl
  | 11, _ => by kernel_rfl
  | 12, _ => by kernel_rfl
  | 13, _ => by kernel_rfl
  | 14, _ => by kernel_rfl
  | 15, _ => by kernel_rfl
  | n + 16, h => absurd h (by omega)
theorem sWide_obs6 (a b : Int) : ∀ k, k < 16 → obs (endP (sWide 6 k) [a, b] 20 512 ((0 : Nat) : Int)) = [0, if 6 = k then b else a, 1, 2, 3, 4, 5, 6, 512]
  | 0, _ => by kernel_rfl
  | 1, _ => by kernel_rfl
  | 2, _ => by kernel_rfl
  | 3, _ => by kernel_rfl
  | 4, _ => by kernel_rfl
  | 5, _ => by kernel_rfl
  | 6, _ => by kernel_rfl
  | 7, _ => by kernel_rfl
  | 8, _ => by kernel_rfl
  | 9, _ => by kernel_rfl
  | 10, _ => by kernel_rfl
  | 11, _ => by kernel_rfl
  | 12, _ => by kernel_rfl
  | 13, _ => by kernel_rfl
  | 14, _ => by kernel_rfl
  | 15, _ => by kernel_rfl
  | n + 16, h => absurd h (by omega)
theorem sWide_obs7 (a b : Int) : ∀ k, k < 16 → obs (endP (sWide 7 k) [a, b] 20 512 ((0 : Nat) : Int)) = [0, if 7 = k then b else a, 1, 2, 3, 4, 5, 6, 512]
  | 0, _ => by kernel_rfl
  | 1, _ => by kernel_rfl
  | 2, _ => by kernel_rfl
  | 3, _ => by kernel_rfl
  | 4, _ => by kernel_rfl
  | 5, _ => by kernel_rfl
  | 6, _ => by kernel_rfl
  | 7, _ => by kernel_rfl
  | 8, _ => by kernel_rfl
  | 9, _ => by kernel_rfl
  | 10, _ => by kernel_rfl
  | 11, _ => by kernel_rfl
  | 12, _ => by kernel_rfl
  | 13, _ => by kernel_rfl
  | 14, _ => by kernel_rfl
  | 15, _ => by kernel_rfl
  | n + 16, h => absurd h (by omega)
theorem sWide_obs8 (a b : Int) : ∀ k, k < 16 → obs (endP (sWide 8 k) [a, b] 20 512 ((0 : Nat) : Int)) = [0, if 8 = k then b else a, 1, 2, 3, 4, 5, 6, 512]
  | 0, _ => by kernel_rfl
  | 1, _ => by kernel_rfl
  | 2, _ => by kernel_rfl
  | 3, _ => by kernel_rfl
  | 4, _ => by kernel_rfl
  | 5, _ => by kernel_rfl
  | 6, _ => by kernel_rfl
  | 7, _ => by kernel_rfl
  | 8, _ => by kernel_rfl
  | 9, _ => by kernel_rfl
  | 10, _ => by kernel_rfl
  | 11, _ => by kernel_rfl
  | 12, _ => by kernel_rfl
  | 13, _ => by kernel_rfl
  | 14, _ => by kernel_rfl
  | 15, _ => by kernel_rfl
  | n + 16, h => absurd h (by omega)
theorem sWide_obs9 (a b : Int) : ∀ k, k < 16 → obs (endP (sWide 9 k) [a, b] 20 512 ((0 : Nat) : Int)) = [0, if 9 = k then b else a, 1, 2, 3, 4, 5, 6, 512]
  | 0, _ => by kernel_rfl
  | 1, _ => by kernel_rfl
  | 2, _ => by kernel_rfl
  | 3, _ => by kernel_rfl
  | 4, _ => by kernel_rfl
  | 5, _ => by kernel_rfl
  | 6, _ => by kernel_rfl
  | 7, _ => by kernel_rfl
  | 8, _ => by kernel_rfl
  | 9, _ => by kernel_rfl
  | 10, _ => by kernel_rfl
  | 11, _ => by kernel_rfl
  | 12, _ => by kernel_rfl
  | 13, _ => by kernel_rfl
  | 14, _ => by kernel_rfl
  | 15, _ => by kernel_rfl
  | n + 16, h => absurd h (by omega)
theorem sWide_obs10 (a b : Int) : ∀ k, k < 16 → obs (endP (sWide 10 k) [a, b] 20 512 ((0 : Nat) : Int)) = [0, if 10 = k then b else a, 1, 2, 3, 4, 5, 6, 512]
  | 0, _ => by kernel_rfl
  | 1, _ => by kernel_rfl
  | 2, _ => by kernel_rfl
  | 3, _ => by kernel_rfl
  | 4, _ => by kernel_rfl
  | 5, _ => by kernel_rfl
  | 6, _ => by kernel_rfl
  | 7, _ => by kernel_rfl
  | 8, _ => by kernel_rfl
  | 9, _ => by kernel_rfl
  | 10, _ => by kernel_rfl
  | 11, _ => by kernel_rfl
  | 12, _ => by kernel_rfl
  | 13, _ => by kernel_rfl
  | 14, _ => by kernel_rfl
  | 15, _ => by kernel_rfl
  | n + 16, h => absurd h (by omega)
theorem sWide_obs11 (a b : Int) : ∀ k, k < 16 → obs (endP (sWide 11 k) [a, b] 20 512 ((0 : Nat) : Int)) = [0, if 11 = k then b else a, 1, 2, 3, 4, 5, 6, 512]
  | 0, _ => by kernel_rfl
  | 1, _ => by kernel_rfl
  | 2, _ => by kernel_rfl
  | 3, _ => by kernel_rfl
  | 4, _ => by kernel_rfl
  | 5, _ => by kernel_rfl
  | 6, _ => by kernel_rfl
  | 7, _ => by kernel_rfl
  | 8, _ => by kernel_rfl
  | 9, _ => by kernel_rfl
  | 10, _ => by kernel_rfl
  | 11, _ => by kernel_rfl
  | 12, _ => by kernel_rfl
  | 13, _ => by kernel_rfl
  | 14, _ => by kernel_rfl
  | 15, _ => by kernel_rfl
  | n + 16, h => absurd h (by omega)
theorem sWide_obs12 (a b : Int) : ∀ k, k < 16 → obs (endP (sWide 12 k) [a, b] 20 512 ((0 : Nat) : Int)) = [0, if 12 = k then b else a, 1, 2, 3, 4, 5, 6, 512]
  | 0, _ => by kernel_rfl
  | 1, _ => by kernel_rfl
  | 2, _ => by kernel_rfl
  | 3, _ => by kernel_rfl
  | 4, _ => by kernel_rfl
  | 5, _ => by kernel_rfl
  | 6, _ => by kernel_rfl
  | 7, _ => by kernel_rfl
  | 8, _ => by kernel_rfl
  | 9, _ => by kernel_rfl
  | 10, _ => by kernel_rfl
  | 11, _ => by kernel_rfl
  | 12, _ => by kernel_rfl
  | 13, _ => by kernel_rfl
  | 14, _ => by kernel_rfl
  | 15, _ => by kernel_rfl
  | n + 16, h => absurd h (by omega)
theorem sWide_obs13 (a b : Int) : ∀ k, k < 16 → obs (endP (sWide 13 k) [a, b] 20 512 ((0 : Nat) : Int)) = [0, if 13 = k then b else a, 1, 2, 3, 4, 5, 6, 512]
  | 0, _ => by kernel_rfl
  | 1, _ => by kernel_rfl
  | 2, _ => by kernel_rfl
  | 3, _ => by kernel_rfl
  | 4, _ => by kernel_rfl
  | 5, _ => by kernel_rfl
  | 6, _ => by kernel_rfl
  | 7, _ => by kernel_rfl
  | 8, _ => by kernel_rfl
  | 9, _ => by kernel_rfl
  | 10, _ => by kernel_rfl
  | 11, _ => by kernel_rfl
  | 12, _ => by kernel_rfl
  | 13, _ => by kernel_rfl
  | 14, _ => by kernel_rfl
  | 15, _ => by kernel_rfl
  | n + 16, h => absurd h (by omega)
theorem sWide_obs14 (a b : Int) : ∀ k, k < 16 → obs (endP (sWide 14 k) [a, b] 20 512 ((0 : Nat) : Int)) = [0, if 14 = k then b else a, 1, 2, 3, 4, 5, 6, 512]
  | 0, _ => by kernel_rfl
  | 1, _ => by kernel_rfl
  | 2, _ => by kernel_rfl
  | 3, _ => by kernel_rfl
  | 4, _ => by kernel_rfl
  | 5, _ => by kernel_rfl
  | 6, _ => by kernel_rfl
  | 7, _ => by kernel_rfl
  | 8, _ => by kernel_rfl
  | 9, _ => by kernel_rfl
  | 10, _ => by kernel_rfl
  | 11, _ => by kernel_rfl
  | 12, _ => by kernel_rfl
  | 13, _ => by kernel_rfl
  | 14, _ => by kernel_rfl
  | 15, _ => by kernel_rfl
  | n + 16, h => absurd h (by omega)
theorem sWide_obs15 (a b : Int) : ∀ k, k < 16 → obs (endP (sWide 15 k) [a, b] 20 512 ((0 : Nat) : Int)) = [0, if 15 = k then b else a, 1, 2, 3, 4, 5, 6, 512]
  | 0, _ => by kernel_rfl
  | 1, _ => by kernel_rfl
  | 2, _ => by kernel_rfl
  | 3, _ => by kernel_rfl
  | 4, _ => by kernel_rfl
  | 5, _ => by kernel_rfl
  | 6, _ => by kernel_rfl
  | 7, _ => by kernel_rfl
  | 8, _ => by kernel_rfl
  | 9, _ => by kernel_rfl
  | 10, _ => by kernel_rfl
  | 11, _ => by kernel_rfl
  | 12, _ => by kernel_rfl
  | 13, _ => by kernel_rfl
  | 14, _ => by kernel_rfl
  | 15, _ => by kernel_rfl
  | n + 16, h => absurd h (by omega)
theorem sWide_obs (a b : Int) : ∀ i k, i < 16 → k < 16 → obs (endP (sWide i k) [a, b] 20 512 ((0 : Nat) : Int)) = [0, if i = k then b else a, 1, 2, 3, 4, 5, 6, 512]
  | 0, k, _, hk => sWide_obs0 a b k hk
  | 1, k, _, hk => sWide_obs1 a b k hk
  | 2, k, _, hk => sWide_obs2 a b k hk
  | 3, k, _, hk => sWide_obs3 a b k hk
  | 4, k, _, hk => sWide_obs4 a b k hk
  | 5, k, _, hk => sWide_obs5 a b k hk
  | 6, k, _, hk => sWide_obs6 a b k hk
  | 7, k, _, hk => sWide_obs7 a b k hk
  | 8, k, _, hk => sWide_obs8 a b k hk
  | 9, k, _, hk => sWide_obs9 a b k hk
  | 10, k, _, hk => sWide_obs10 a b k hk
  | 11, k, _, hk => sWide_obs11 a b k hk
  | 12, k, _, hk => sWide_obs12 a b k hk
  | 13, k, _, hk => sWide_obs13 a b k hk
  | 14, k, _, hk => sWide_obs14 a b k hk
  | 15, k, _, hk => sWide_obs15 a b k hk
  | n + 16, _, h, _ => absurd h (by omega)
theorem beg64 (a b : Int) : (beginsP (st0 64 ((0 : Nat) : Int)) [a, b] 64).e = 0 ∧ (beginsP (st0 64 ((0 : Nat) : Int)) [a, b] 64).reg 4 = 56 := ⟨by kernel_rfl, by kernel_rfl⟩
theorem beg512 (a b : Int) : (beginsP (st0 512 ((0 : Nat) : Int)) [a, b] 512).e = 0 ∧ (beginsP (st0 512 ((0 : Nat) : Int)) [a, b] 512).reg 4 = 504 := ⟨by kernel_rfl, by kernel_rfl⟩
theorem run_v {l : List S35} {a b steps stack v : Int} (q : Int) (hg : goodL l = true) (ha : In64 a) (hb : In64 b) (h0 : 0 ≤ steps) (h1 : steps ≤ 1000000) (g0 : 16 ≤ stack) (g1 : stack ≤ 65536) (g2 : stack % 16 = 0)
    (hbeg : (beginsP (st0 stack ((0 : Nat) : Int)) [a, b] stack).e = 0 ∧ (beginsP (st0 stack ((0 : Nat) : Int)) [a, b] stack).reg 4 = q) (ho : obs (endP l [a, b] steps stack ((0 : Nat) : Int)) = [0, v, 1, 2, 3, 4, 5, 6, stack]) (hq : wrap64 (q + 8) = stack) (hv : In64 v) :
    ∃ ev, mach_Run.f l [hd2] ⟨#[102]⟩ [a, b] [] steps stack = some (0, v, ev) := by
  simp only [goodL, Bool.and_eq_true, decide_eq_true_eq, beq_iff_eq, List.all_eq_true (p := fun x => decide (kindU x))] at hg
  obtain ⟨⟨⟨⟨e1, e2⟩, e3⟩, e4⟩, e5⟩ := hg
  obtain ⟨o1, o2, o3, o4⟩ := obs_ok ho
  have hR := ok2 e1 e2 e3 e4 e5 ha hb h0 h1 g0 g1 g2 hbeg.1 (fun _ => ⟨o3, by rw [o4, hbeg.2, hq]⟩)
  refine ⟨(endP l [a, b] steps stack ((0 : Nat) : Int)).ev, ?_⟩
  rw [mach_Run.eq hR, o1, if_pos rfl, o2, toP7 hv]
theorem run_e {l : List S35} {a b steps stack n : Int} (hg : goodL l = true) (ha : In64 a) (hb : In64 b) (h0 : 0 ≤ steps) (h1 : steps ≤ 1000000) (g0 : 16 ≤ stack) (g1 : stack ≤ 65536) (g2 : stack % 16 = 0)
    (hbeg : (beginsP (st0 stack ((0 : Nat) : Int)) [a, b] stack).e = 0) (ho : obs (endP l [a, b] steps stack ((0 : Nat) : Int)) = [n]) :
    ∃ ev, mach_Run.f l [hd2] ⟨#[102]⟩ [a, b] [] steps stack = some (n, 0, ev) := by
  simp only [goodL, Bool.and_eq_true, decide_eq_true_eq, beq_iff_eq, List.all_eq_true (p := fun x => decide (kindU x))] at hg
  obtain ⟨⟨⟨⟨e1, e2⟩, e3⟩, e4⟩, e5⟩ := hg
  obtain ⟨o1, o2⟩ := obs_err ho
  have hR := ok2 e1 e2 e3 e4 e5 ha hb h0 h1 g0 g1 g2 hbeg (fun h => absurd h o2)
  refine ⟨(endP l [a, b] steps stack ((0 : Nat) : Int)).ev, ?_⟩
  rw [mach_Run.eq hR, if_neg o2, o1]
theorem sOut_run (a b : Int) (ha : In64 a) (hb : In64 b) (i k : Nat) (hi : i < 16) (hk : k < 16) :
    ∃ ev, mach_Run.f (sOut i k) [hd2] ⟨#[102]⟩ [a, b] [] 20 64 = some (if i ≤ 6 ∧ k ≤ 6 then 0 else 191, if i ≤ 6 ∧ k ≤ 6 then (if i = k then b else a) else 0, ev) := by
  have ho := grid_at (sOut_obs a b) hi hk
  by_cases h : i ≤ 6 ∧ k ≤ 6
  · simp only [if_pos h] at ho ⊢
    exact run_v 56 (sOut_good i hi k hk) ha hb (by decide) (by decide) (by decide) (by decide) (by decide) (beg64 a b) ho (by decide +kernel) (by split <;> assumption)
  · simp only [if_neg h] at ho ⊢
    exact run_e (sOut_good i hi k hk) ha hb (by decide) (by decide) (by decide) (by decide) (by decide) (beg64 a b).1 ho
theorem sWide_run (a b : Int) (ha : In64 a) (hb : In64 b) (i k : Nat) (hi : i < 16) (hk : k < 16) :
    ∃ ev, mach_Run.f (sWide i k) [hd2] ⟨#[102]⟩ [a, b] [] 20 512 = some (0, if i = k then b else a, ev) :=
  run_v 504 (sWide_good i hi k hk) ha hb (by decide) (by decide) (by decide) (by decide) (by decide) (beg512 a b) (sWide_obs a b i k hi hk) (by decide +kernel) (by split <;> assumption)
end Go.Proofs.YtgdkkcdmflopjaaDoor.Mc
namespace Go.Proofs.YtgdkkcdmflopjaaDoor.Mc
open Go.RowKit Go.Proofs.YtgdkkcdmflopjaaDoor.PA Go.Proofs.YtgdkkcdmflopjaaDoor.Pure Go.Proofs.MapFun Go.Proofs.YtgdkkcdmflopjaaDoorW.PrintWords Go.Proofs.YtgdkkcdmflopjaaDoorW.PrintLast Go.Proofs.YtgdkkcdmflopjaaDoorW.PrintMore
attribute [local go_sem] max2_int min2_int max_two min_two
set_option linter.unusedVariables false
set_option linter.unusedSimpArgs false
theorem stores_out (a b i k : Int) (w : World) (hT : Tab w) (h : ¬ (0 ≤ i ∧ i ≤ 15 ∧ 0 ≤ k ∧ k ≤ 15)) :
    Calls Tryd.prog 5 #[.int .i64 a, .int .i64 b, .int .i64 i, .int .i64 k] w fun e w' => e = .returned (.bool true) ∧ Below w.heap.size w w' := by
  have HT := Lib.hid hT
  clear hT
  by_cases h1 : i < 0
  · clear h
    go_enter Tryd.func5, Tryd.ntmps5
    go_wp2_with (go_at_call 8; refine (shown_calls _ HT.out).mono ?_; rintro e w1 ⟨rfl, hb1⟩)
    go_ret
    exact ⟨rfl, hb1⟩
  by_cases h2 : 15 < i
  · clear h
    go_enter Tryd.func5, Tryd.ntmps5
    go_wp2_with (go_at_call 8; refine (shown_calls _ HT.out).mono ?_; rintro e w1 ⟨rfl, hb1⟩)
    go_ret
    exact ⟨rfl, hb1⟩
  by_cases h3 : k < 0
  · clear h
    go_enter Tryd.func5, Tryd.ntmps5
    go_wp2_with (go_at_call 8; refine (shown_calls _ HT.out).mono ?_; rintro e w1 ⟨rfl, hb1⟩)
    go_ret
    exact ⟨rfl, hb1⟩
  have h4 : 15 < k := by omega
  clear h
  go_enter Tryd.func5, Tryd.ntmps5
  go_wp2_with (go_at_call 8; refine (shown_calls _ HT.out).mono ?_; rintro e w1 ⟨rfl, hb1⟩)
  go_ret
  exact ⟨rfl, hb1⟩
theorem ran_c (l : List S35) (a b r1 r2 : Int) (r3 : List S69) (Al : Option Addr) (cl : Nat) (w : World) (hl : Kd.C k35 w Al l.length l) (hcl : l.length ≤ cl) (hlen : l.length ≤ 1000)
    (h : mach_Run.f (iLab :: (l ++ [iRet])) [hd2] ⟨#[102]⟩ [a, b] [] 20 64 = some (r1, r2, r3)) (hT : Tab w) :
    Calls Tryd.prog 14 #[.slice Al l.length cl, .int .i64 a, .int .i64 b] w fun e w' => ∃ Av cv nv, e = .returned (.agg #[.int .i64 r1, .int .i64 r2, .slice Av nv cv]) ∧ Below w.heap.size w w' := by
  have hf : burinlaw19_ran.f 5 l a b = some (r1, r2, r3) := by
    unfold burinlaw19_ran.f
    rw [show burinlaw19_label.f (⟨#[102]⟩ : ByteArray) = some (15, 0, 0, 0, 0, false, 0, ⟨#[102]⟩) from rfl, Option.bind_some, Option.bind_some, if_pos (by simp; omega), Option.bind_some, if_pos (by simp; omega)]
    rw [show burinlaw19_longs.f 5 (⟨#[102]⟩ : ByteArray) 2 = some ((⟨#[102]⟩ : ByteArray), 7, [7, 7], false, 0, []) by kernel_rfl, Option.bind_some]
    show (mach_Run.f (iLab :: (l ++ [iRet])) [hd2] ⟨#[102]⟩ [a, b] [] 20 64).bind _ = _
    rw [h]
    rfl
  refine (burinlaw19_ran.calls 5 Al cl l a b r1 r2 r3 w hl hcl hf hT).mono ?_
  rintro e w' ⟨v, rfl, hN, hb⟩
  obtain ⟨Av, cv, rfl, _, _⟩ := Kd.N_reads hN
  exact ⟨Av, cv, _, rfl, hb⟩
set_option maxRecDepth 100000 in
set_option maxHeartbeats 4000000 in
theorem stores_in (a b : Int) (i k : Nat) (ha : In64 a) (hb : In64 b) (hi : i < 16) (hk : k < 16) (w : World) (hT : Tab w) :
    Calls Tryd.prog 5 #[.int .i64 a, .int .i64 b, .int .i64 i, .int .i64 k] w fun e w' => e = .returned (.bool true) ∧ Below w.heap.size w w' := by
  have HT := Lib.hid hT
  clear hT
  have c1 : ((i : Int) < 0) = False := eq_false (by omega)
  have c2 : (15 < (i : Int)) = False := eq_false (by omega)
  have c3 : ((k : Int) < 0) = False := eq_false (by omega)
  have c4 : (15 < (k : Int)) = False := eq_false (by omega)
  obtain ⟨ev1, hr1⟩ := sOut_run a b ha hb i k hi hk
  obtain ⟨ev2, hr2⟩ := sWide_run a b ha hb i k hi hk
  have HR1 := Lib.hid hr1
  have HR2 := Lib.hid hr2
  clear hr1 hr2 ha hb
  rcases (show (i = k ∧ k ≤ 6) ∨ (i < k ∧ k ≤ 6) ∨ (k < i ∧ i ≤ 6) ∨ (i = k ∧ 6 < k) ∨ (i < k ∧ 6 < k) ∨ (k < i ∧ 6 < i) by omega) with ⟨h1, h2⟩ | ⟨h1, h2⟩ | ⟨h1, h2⟩ | ⟨h1, h2⟩ | ⟨h1, h2⟩ | ⟨h1, h2⟩
  case inl =>
    rw [if_pos (by omega), if_pos (by omega), if_pos (by omega)] at HR1
    rw [if_pos (by omega)] at HR2
    subst h1
    go_enter Tryd.func5, Tryd.ntmps5
    go_wp2_with (first
      | (go_at_call 8; refine (shown_calls _ HT.out).mono ?_; rintro e w1 ⟨rfl, hb1⟩; have HB1 := Lib.hid hb1; clear hb1)
      | (go_at_call 14; refine (ran_c [iStore 4 7 (-8 * ((i : Int) + 1)), iStore 4 6 (-8 * ((i : Int) + 1)), iLoad 0 4 (-8 * ((i : Int) + 1))] a b 0 b ev1 _ 3 _ (lit35 w1 _ (by show 3 ≤ maxLen; decide) _ rfl) (Nat.le_refl _) (by show 3 ≤ 1000; decide) HR1.out (HT.out.below (below_alloc HB1.out _))).mono ?_; rintro e w2 ⟨Av, cv, nv, rfl, hb2⟩; have HB2 := Lib.hid ((below_alloc HB1.out _).trans (hb2.mono (below_size (below_alloc HB1.out _)))); clear hb2)
      | (go_at_call 12; refine (label_c _).mono ?_; rintro e w3 ⟨rfl, hb3⟩; have HX := Lib.hid (cell_new (W := w2) (t := 29) (fz := (0, 0)) (i := 0) rfl rfl : (w2.alloc (.cells #[.int .i64 0, .int .i64 b, .slice Av nv cv] 29)).cell? ⟨w2.heap.size, 0, none⟩ = some (.int .i64 0)); have x0 := (hb3.cell (World.block_lt_of_cell? _ _ HX.out)).trans HX.out; have HY := Lib.hid (cell_new (W := w2) (t := 29) (fz := (0, 0)) (i := 1) rfl rfl : (w2.alloc (.cells #[.int .i64 0, .int .i64 b, .slice Av nv cv] 29)).cell? ⟨w2.heap.size, 1, none⟩ = some (.int .i64 b)); have x1 := (hb3.cell (World.block_lt_of_cell? _ _ HY.out)).trans HY.out; have hs3 := hb3.size; (try simp at hs3); have HB3 := Lib.hid ((below_alloc HB2.out _).trans (hb3.mono (below_size (below_alloc HB2.out _)))); clear hb3)
      | (go_at_call 13; refine (longs2_c _).mono ?_; rintro e w4 ⟨A2, c2, A5, c5, rfl, hK, hb4⟩; have y0 := (hb4.cell (World.block_lt_of_cell? _ _ (cell_alloc x0 _))).trans (cell_alloc x0 _); have y1 := (hb4.cell (World.block_lt_of_cell? _ _ (cell_alloc x1 _))).trans (cell_alloc x1 _); have HL := Lib.hid (Kd.C_below (lit35 w3 (sWide i i) (by show 7 ≤ maxLen; decide) _ rfl) hb4); have HK := Lib.hid hK; have hs4 := hb4.size; (try simp at hs4); have HB4 := Lib.hid ((below_alloc HB3.out _).trans (hb4.mono (below_size (below_alloc HB3.out _)))); clear hK hb4 x0 x1)
      | (go_at_call 9; refine (run_c (sWide i i) [a, b] _ 7 ⟨#[102]⟩ 20 512 0 b ev2 _ _ _ (Kd.C_alloc (Kd.C_alloc HL.out _) _) (by show 7 ≤ 7; decide) (Kd.C_alloc (lit40 w4 hd2 _ rfl (k40.K_below (below_alloc (Below.refl _ _) _) HK.out)) _) (two_ints _ a b _ (cell_new (by simp) rfl) (cell_new (by simp) rfl)) HR2.out (HT.out.below (below_alloc (below_alloc HB4.out _) _))).mono ?_; rintro e w5 ⟨Aw, cw, nw, rfl, hb5⟩; have z0 := cell_alloc ((hb5.cell (World.block_lt_of_cell? _ _ (cell_alloc (cell_alloc y0 _) _))).trans (cell_alloc (cell_alloc y0 _) _)) (.cells #[.int .i64 0, .int .i64 b, .slice Aw nw cw] 29); have z1 := cell_alloc ((hb5.cell (World.block_lt_of_cell? _ _ (cell_alloc (cell_alloc y1 _) _))).trans (cell_alloc (cell_alloc y1 _) _)) (.cells #[.int .i64 0, .int .i64 b, .slice Aw nw cw] 29); have z2 : (w5.alloc (.cells #[.int .i64 0, .int .i64 b, .slice Aw nw cw] 29)).cell? ⟨w5.heap.size, 0, none⟩ = some (.int .i64 0) := cell_new rfl rfl; have z3 : (w5.alloc (.cells #[.int .i64 0, .int .i64 b, .slice Aw nw cw] 29)).cell? ⟨w5.heap.size, 1, none⟩ = some (.int .i64 b) := cell_new rfl rfl; have HB5 := Lib.hid ((below_alloc (below_alloc HB4.out _) _).trans (hb5.mono (below_size (below_alloc (below_alloc HB4.out _) _)))); clear hb5 y0 y1))
    go_ret
    exact ⟨rfl, below_alloc HB5.out _⟩
  case inr.inl =>
    rw [if_pos (by omega), if_pos (by omega), if_neg (by omega)] at HR1
    rw [if_neg (by omega)] at HR2
    go_enter Tryd.func5, Tryd.ntmps5
    go_wp2_with (first
      | (go_at_call 8; refine (shown_calls _ HT.out).mono ?_; rintro e w1 ⟨rfl, hb1⟩; have HB1 := Lib.hid hb1; clear hb1)
      | (go_at_call 14; refine (ran_c [iStore 4 7 (-8 * ((i : Int) + 1)), iStore 4 6 (-8 * ((k : Int) + 1)), iLoad 0 4 (-8 * ((i : Int) + 1))] a b 0 a ev1 _ 3 _ (lit35 w1 _ (by show 3 ≤ maxLen; decide) _ rfl) (Nat.le_refl _) (by show 3 ≤ 1000; decide) HR1.out (HT.out.below (below_alloc HB1.out _))).mono ?_; rintro e w2 ⟨Av, cv, nv, rfl, hb2⟩; have HB2 := Lib.hid ((below_alloc HB1.out _).trans (hb2.mono (below_size (below_alloc HB1.out _)))); clear hb2)
      | (go_at_call 12; refine (label_c _).mono ?_; rintro e w3 ⟨rfl, hb3⟩; have HX := Lib.hid (cell_new (W := w2) (t := 29) (fz := (0, 0)) (i := 0) rfl rfl : (w2.alloc (.cells #[.int .i64 0, .int .i64 a, .slice Av nv cv] 29)).cell? ⟨w2.heap.size, 0, none⟩ = some (.int .i64 0)); have x0 := (hb3.cell (World.block_lt_of_cell? _ _ HX.out)).trans HX.out; have HY := Lib.hid (cell_new (W := w2) (t := 29) (fz := (0, 0)) (i := 1) rfl rfl : (w2.alloc (.cells #[.int .i64 0, .int .i64 a, .slice Av nv cv] 29)).cell? ⟨w2.heap.size, 1, none⟩ = some (.int .i64 a)); have x1 := (hb3.cell (World.block_lt_of_cell? _ _ HY.out)).trans HY.out; have hs3 := hb3.size; (try simp at hs3); have HB3 := Lib.hid ((below_alloc HB2.out _).trans (hb3.mono (below_size (below_alloc HB2.out _)))); clear hb3)
      | (go_at_call 13; refine (longs2_c _).mono ?_; rintro e w4 ⟨A2, c2, A5, c5, rfl, hK, hb4⟩; have y0 := (hb4.cell (World.block_lt_of_cell? _ _ (cell_alloc x0 _))).trans (cell_alloc x0 _); have y1 := (hb4.cell (World.block_lt_of_cell? _ _ (cell_alloc x1 _))).trans (cell_alloc x1 _); have HL := Lib.hid (Kd.C_below (lit35 w3 (sWide i k) (by show 7 ≤ maxLen; decide) _ rfl) hb4); have HK := Lib.hid hK; have hs4 := hb4.size; (try simp at hs4); have HB4 := Lib.hid ((below_alloc HB3.out _).trans (hb4.mono (below_size (below_alloc HB3.out _)))); clear hK hb4 x0 x1)
      | (go_at_call 9; refine (run_c (sWide i k) [a, b] _ 7 ⟨#[102]⟩ 20 512 0 a ev2 _ _ _ (Kd.C_alloc (Kd.C_alloc HL.out _) _) (by show 7 ≤ 7; decide) (Kd.C_alloc (lit40 w4 hd2 _ rfl (k40.K_below (below_alloc (Below.refl _ _) _) HK.out)) _) (two_ints _ a b _ (cell_new (by simp) rfl) (cell_new (by simp) rfl)) HR2.out (HT.out.below (below_alloc (below_alloc HB4.out _) _))).mono ?_; rintro e w5 ⟨Aw, cw, nw, rfl, hb5⟩; have z0 := cell_alloc ((hb5.cell (World.block_lt_of_cell? _ _ (cell_alloc (cell_alloc y0 _) _))).trans (cell_alloc (cell_alloc y0 _) _)) (.cells #[.int .i64 0, .int .i64 a, .slice Aw nw cw] 29); have z1 := cell_alloc ((hb5.cell (World.block_lt_of_cell? _ _ (cell_alloc (cell_alloc y1 _) _))).trans (cell_alloc (cell_alloc y1 _) _)) (.cells #[.int .i64 0, .int .i64 a, .slice Aw nw cw] 29); have z2 : (w5.alloc (.cells #[.int .i64 0, .int .i64 a, .slice Aw nw cw] 29)).cell? ⟨w5.heap.size, 0, none⟩ = some (.int .i64 0) := cell_new rfl rfl; have z3 : (w5.alloc (.cells #[.int .i64 0, .int .i64 a, .slice Aw nw cw] 29)).cell? ⟨w5.heap.size, 1, none⟩ = some (.int .i64 a) := cell_new rfl rfl; have HB5 := Lib.hid ((below_alloc (below_alloc HB4.out _) _).trans (hb5.mono (below_size (below_alloc (below_alloc HB4.out _) _)))); clear hb5 y0 y1))
    go_ret
    exact ⟨rfl, below_alloc HB5.out _⟩
  case inr.inr.inl =>
    rw [if_pos (by omega), if_pos (by omega), if_neg (by omega)] at HR1
    rw [if_neg (by omega)] at HR2
    go_enter Tryd.func5, Tryd.ntmps5
    go_wp2_with (first
      | (go_at_call 8; refine (shown_calls _ HT.out).mono ?_; rintro e w1 ⟨rfl, hb1⟩; have HB1 := Lib.hid hb1; clear hb1)
      | (go_at_call 14; refine (ran_c [iStore 4 7 (-8 * ((i : Int) + 1)), iStore 4 6 (-8 * ((k : Int) + 1)), iLoad 0 4 (-8 * ((i : Int) + 1))] a b 0 a ev1 _ 3 _ (lit35 w1 _ (by show 3 ≤ maxLen; decide) _ rfl) (Nat.le_refl _) (by show 3 ≤ 1000; decide) HR1.out (HT.out.below (below_alloc HB1.out _))).mono ?_; rintro e w2 ⟨Av, cv, nv, rfl, hb2⟩; have HB2 := Lib.hid ((below_alloc HB1.out _).trans (hb2.mono (below_size (below_alloc HB1.out _)))); clear hb2)
      | (go_at_call 12; refine (label_c _).mono ?_; rintro e w3 ⟨rfl, hb3⟩; have HX := Lib.hid (cell_new (W := w2) (t := 29) (fz := (0, 0)) (i := 0) rfl rfl : (w2.alloc (.cells #[.int .i64 0, .int .i64 a, .slice Av nv cv] 29)).cell? ⟨w2.heap.size, 0, none⟩ = some (.int .i64 0)); have x0 := (hb3.cell (World.block_lt_of_cell? _ _ HX.out)).trans HX.out; have HY := Lib.hid (cell_new (W := w2) (t := 29) (fz := (0, 0)) (i := 1) rfl rfl : (w2.alloc (.cells #[.int .i64 0, .int .i64 a, .slice Av nv cv] 29)).cell? ⟨w2.heap.size, 1, none⟩ = some (.int .i64 a)); have x1 := (hb3.cell (World.block_lt_of_cell? _ _ HY.out)).trans HY.out; have hs3 := hb3.size; (try simp at hs3); have HB3 := Lib.hid ((below_alloc HB2.out _).trans (hb3.mono (below_size (below_alloc HB2.out _)))); clear hb3)
      | (go_at_call 13; refine (longs2_c _).mono ?_; rintro e w4 ⟨A2, c2, A5, c5, rfl, hK, hb4⟩; have y0 := (hb4.cell (World.block_lt_of_cell? _ _ (cell_alloc x0 _))).trans (cell_alloc x0 _); have y1 := (hb4.cell (World.block_lt_of_cell? _ _ (cell_alloc x1 _))).trans (cell_alloc x1 _); have HL := Lib.hid (Kd.C_below (lit35 w3 (sWide i k) (by show 7 ≤ maxLen; decide) _ rfl) hb4); have HK := Lib.hid hK; have hs4 := hb4.size; (try simp at hs4); have HB4 := Lib.hid ((below_alloc HB3.out _).trans (hb4.mono (below_size (below_alloc HB3.out _)))); clear hK hb4 x0 x1)
      | (go_at_call 9; refine (run_c (sWide i k) [a, b] _ 7 ⟨#[102]⟩ 20 512 0 a ev2 _ _ _ (Kd.C_alloc (Kd.C_alloc HL.out _) _) (by show 7 ≤ 7; decide) (Kd.C_alloc (lit40 w4 hd2 _ rfl (k40.K_below (below_alloc (Below.refl _ _) _) HK.out)) _) (two_ints _ a b _ (cell_new (by simp) rfl) (cell_new (by simp) rfl)) HR2.out (HT.out.below (below_alloc (below_alloc HB4.out _) _))).mono ?_; rintro e w5 ⟨Aw, cw, nw, rfl, hb5⟩; have z0 := cell_alloc ((hb5.cell (World.block_lt_of_cell? _ _ (cell_alloc (cell_alloc y0 _) _))).trans (cell_alloc (cell_alloc y0 _) _)) (.cells #[.int .i64 0, .int .i64 a, .slice Aw nw cw] 29); have z1 := cell_alloc ((hb5.cell (World.block_lt_of_cell? _ _ (cell_alloc (cell_alloc y1 _) _))).trans (cell_alloc (cell_alloc y1 _) _)) (.cells #[.int .i64 0, .int .i64 a, .slice Aw nw cw] 29); have z2 : (w5.alloc (.cells #[.int .i64 0, .int .i64 a, .slice Aw nw cw] 29)).cell? ⟨w5.heap.size, 0, none⟩ = some (.int .i64 0) := cell_new rfl rfl; have z3 : (w5.alloc (.cells #[.int .i64 0, .int .i64 a, .slice Aw nw cw] 29)).cell? ⟨w5.heap.size, 1, none⟩ = some (.int .i64 a) := cell_new rfl rfl; have HB5 := Lib.hid ((below_alloc (below_alloc HB4.out _) _).trans (hb5.mono (below_size (below_alloc (below_alloc HB4.out _) _)))); clear hb5 y0 y1))
    go_ret
    exact ⟨rfl, below_alloc HB5.out _⟩
  case inr.inr.inr.inl =>
    rw [if_neg (by omega), if_neg (by omega)] at HR1
    rw [if_pos (by omega)] at HR2
    subst h1
    go_enter Tryd.func5, Tryd.ntmps5
    go_wp2_with (first
      | (go_at_call 8; refine (shown_calls _ HT.out).mono ?_; rintro e w1 ⟨rfl, hb1⟩; have HB1 := Lib.hid hb1; clear hb1)
      | (go_at_call 14; refine (ran_c [iStore 4 7 (-8 * ((i : Int) + 1)), iStore 4 6 (-8 * ((i : Int) + 1)), iLoad 0 4 (-8 * ((i : Int) + 1))] a b 191 0 ev1 _ 3 _ (lit35 w1 _ (by show 3 ≤ maxLen; decide) _ rfl) (Nat.le_refl _) (by show 3 ≤ 1000; decide) HR1.out (HT.out.below (below_alloc HB1.out _))).mono ?_; rintro e w2 ⟨Av, cv, nv, rfl, hb2⟩; have HB2 := Lib.hid ((below_alloc HB1.out _).trans (hb2.mono (below_size (below_alloc HB1.out _)))); clear hb2)
      | (go_at_call 12; refine (label_c _).mono ?_; rintro e w3 ⟨rfl, hb3⟩; have HX := Lib.hid (cell_new (W := w2) (t := 29) (fz := (0, 0)) (i := 0) rfl rfl : (w2.alloc (.cells #[.int .i64 191, .int .i64 0, .slice Av nv cv] 29)).cell? ⟨w2.heap.size, 0, none⟩ = some (.int .i64 191)); have x0 := (hb3.cell (World.block_lt_of_cell? _ _ HX.out)).trans HX.out; have HY := Lib.hid (cell_new (W := w2) (t := 29) (fz := (0, 0)) (i := 1) rfl rfl : (w2.alloc (.cells #[.int .i64 191, .int .i64 0, .slice Av nv cv] 29)).cell? ⟨w2.heap.size, 1, none⟩ = some (.int .i64 0)); have x1 := (hb3.cell (World.block_lt_of_cell? _ _ HY.out)).trans HY.out; have hs3 := hb3.size; (try simp at hs3); have HB3 := Lib.hid ((below_alloc HB2.out _).trans (hb3.mono (below_size (below_alloc HB2.out _)))); clear hb3)
      | (go_at_call 13; refine (longs2_c _).mono ?_; rintro e w4 ⟨A2, c2, A5, c5, rfl, hK, hb4⟩; have y0 := (hb4.cell (World.block_lt_of_cell? _ _ (cell_alloc x0 _))).trans (cell_alloc x0 _); have y1 := (hb4.cell (World.block_lt_of_cell? _ _ (cell_alloc x1 _))).trans (cell_alloc x1 _); have HL := Lib.hid (Kd.C_below (lit35 w3 (sWide i i) (by show 7 ≤ maxLen; decide) _ rfl) hb4); have HK := Lib.hid hK; have hs4 := hb4.size; (try simp at hs4); have HB4 := Lib.hid ((below_alloc HB3.out _).trans (hb4.mono (below_size (below_alloc HB3.out _)))); clear hK hb4 x0 x1)
      | (go_at_call 9; refine (run_c (sWide i i) [a, b] _ 7 ⟨#[102]⟩ 20 512 0 b ev2 _ _ _ (Kd.C_alloc (Kd.C_alloc HL.out _) _) (by show 7 ≤ 7; decide) (Kd.C_alloc (lit40 w4 hd2 _ rfl (k40.K_below (below_alloc (Below.refl _ _) _) HK.out)) _) (two_ints _ a b _ (cell_new (by simp) rfl) (cell_new (by simp) rfl)) HR2.out (HT.out.below (below_alloc (below_alloc HB4.out _) _))).mono ?_; rintro e w5 ⟨Aw, cw, nw, rfl, hb5⟩; have z0 := cell_alloc ((hb5.cell (World.block_lt_of_cell? _ _ (cell_alloc (cell_alloc y0 _) _))).trans (cell_alloc (cell_alloc y0 _) _)) (.cells #[.int .i64 0, .int .i64 b, .slice Aw nw cw] 29); have z1 := cell_alloc ((hb5.cell (World.block_lt_of_cell? _ _ (cell_alloc (cell_alloc y1 _) _))).trans (cell_alloc (cell_alloc y1 _) _)) (.cells #[.int .i64 0, .int .i64 b, .slice Aw nw cw] 29); have z2 : (w5.alloc (.cells #[.int .i64 0, .int .i64 b, .slice Aw nw cw] 29)).cell? ⟨w5.heap.size, 0, none⟩ = some (.int .i64 0) := cell_new rfl rfl; have z3 : (w5.alloc (.cells #[.int .i64 0, .int .i64 b, .slice Aw nw cw] 29)).cell? ⟨w5.heap.size, 1, none⟩ = some (.int .i64 b) := cell_new rfl rfl; have HB5 := Lib.hid ((below_alloc (below_alloc HB4.out _) _).trans (hb5.mono (below_size (below_alloc (below_alloc HB4.out _) _)))); clear hb5 y0 y1))
    go_ret
    exact ⟨rfl, below_alloc HB5.out _⟩
  case inr.inr.inr.inr.inl =>
    rw [if_neg (by omega), if_neg (by omega)] at HR1
    rw [if_neg (by omega)] at HR2
    go_enter Tryd.func5, Tryd.ntmps5
    go_wp2_with (first
      | (go_at_call 8; refine (shown_calls _ HT.out).mono ?_; rintro e w1 ⟨rfl, hb1⟩; have HB1 := Lib.hid hb1; clear hb1)
      | (go_at_call 14; refine (ran_c [iStore 4 7 (-8 * ((i : Int) + 1)), iStore 4 6 (-8 * ((k : Int) + 1)), iLoad 0 4 (-8 * ((i : Int) + 1))] a b 191 0 ev1 _ 3 _ (lit35 w1 _ (by show 3 ≤ maxLen; decide) _ rfl) (Nat.le_refl _) (by show 3 ≤ 1000; decide) HR1.out (HT.out.below (below_alloc HB1.out _))).mono ?_; rintro e w2 ⟨Av, cv, nv, rfl, hb2⟩; have HB2 := Lib.hid ((below_alloc HB1.out _).trans (hb2.mono (below_size (below_alloc HB1.out _)))); clear hb2)
      | (go_at_call 12; refine (label_c _).mono ?_; rintro e w3 ⟨rfl, hb3⟩; have HX := Lib.hid (cell_new (W := w2) (t := 29) (fz := (0, 0)) (i := 0) rfl rfl : (w2.alloc (.cells #[.int .i64 191, .int .i64 0, .slice Av nv cv] 29)).cell? ⟨w2.heap.size, 0, none⟩ = some (.int .i64 191)); have x0 := (hb3.cell (World.block_lt_of_cell? _ _ HX.out)).trans HX.out; have HY := Lib.hid (cell_new (W := w2) (t := 29) (fz := (0, 0)) (i := 1) rfl rfl : (w2.alloc (.cells #[.int .i64 191, .int .i64 0, .slice Av nv cv] 29)).cell? ⟨w2.heap.size, 1, none⟩ = some (.int .i64 0)); have x1 := (hb3.cell (World.block_lt_of_cell? _ _ HY.out)).trans HY.out; have hs3 := hb3.size; (try simp at hs3); have HB3 := Lib.hid ((below_alloc HB2.out _).trans (hb3.mono (below_size (below_alloc HB2.out _)))); clear hb3)
      | (go_at_call 13; refine (longs2_c _).mono ?_; rintro e w4 ⟨A2, c2, A5, c5, rfl, hK, hb4⟩; have y0 := (hb4.cell (World.block_lt_of_cell? _ _ (cell_alloc x0 _))).trans (cell_alloc x0 _); have y1 := (hb4.cell (World.block_lt_of_cell? _ _ (cell_alloc x1 _))).trans (cell_alloc x1 _); have HL := Lib.hid (Kd.C_below (lit35 w3 (sWide i k) (by show 7 ≤ maxLen; decide) _ rfl) hb4); have HK := Lib.hid hK; have hs4 := hb4.size; (try simp at hs4); have HB4 := Lib.hid ((below_alloc HB3.out _).trans (hb4.mono (below_size (below_alloc HB3.out _)))); clear hK hb4 x0 x1)
      | (go_at_call 9; refine (run_c (sWide i k) [a, b] _ 7 ⟨#[102]⟩ 20 512 0 a ev2 _ _ _ (Kd.C_alloc (Kd.C_alloc HL.out _) _) (by show 7 ≤ 7; decide) (Kd.C_alloc (lit40 w4 hd2 _ rfl (k40.K_below (below_alloc (Below.refl _ _) _) HK.out)) _) (two_ints _ a b _ (cell_new (by simp) rfl) (cell_new (by simp) rfl)) HR2.out (HT.out.below (below_alloc (below_alloc HB4.out _) _))).mono ?_; rintro e w5 ⟨Aw, cw, nw, rfl, hb5⟩; have z0 := cell_alloc ((hb5.cell (World.block_lt_of_cell? _ _ (cell_alloc (cell_alloc y0 _) _))).trans (cell_alloc (cell_alloc y0 _) _)) (.cells #[.int .i64 0, .int .i64 a, .slice Aw nw cw] 29); have z1 := cell_alloc ((hb5.cell (World.block_lt_of_cell? _ _ (cell_alloc (cell_alloc y1 _) _))).trans (cell_alloc (cell_alloc y1 _) _)) (.cells #[.int .i64 0, .int .i64 a, .slice Aw nw cw] 29); have z2 : (w5.alloc (.cells #[.int .i64 0, .int .i64 a, .slice Aw nw cw] 29)).cell? ⟨w5.heap.size, 0, none⟩ = some (.int .i64 0) := cell_new rfl rfl; have z3 : (w5.alloc (.cells #[.int .i64 0, .int .i64 a, .slice Aw nw cw] 29)).cell? ⟨w5.heap.size, 1, none⟩ = some (.int .i64 a) := cell_new rfl rfl; have HB5 := Lib.hid ((below_alloc (below_alloc HB4.out _) _).trans (hb5.mono (below_size (below_alloc (below_alloc HB4.out _) _)))); clear hb5 y0 y1))
    go_ret
    exact ⟨rfl, below_alloc HB5.out _⟩
  case inr.inr.inr.inr.inr =>
    rw [if_neg (by omega), if_neg (by omega)] at HR1
    rw [if_neg (by omega)] at HR2
    go_enter Tryd.func5, Tryd.ntmps5
    go_wp2_with (first
      | (go_at_call 8; refine (shown_calls _ HT.out).mono ?_; rintro e w1 ⟨rfl, hb1⟩; have HB1 := Lib.hid hb1; clear hb1)
      | (go_at_call 14; refine (ran_c [iStore 4 7 (-8 * ((i : Int) + 1)), iStore 4 6 (-8 * ((k : Int) + 1)), iLoad 0 4 (-8 * ((i : Int) + 1))] a b 191 0 ev1 _ 3 _ (lit35 w1 _ (by show 3 ≤ maxLen; decide) _ rfl) (Nat.le_refl _) (by show 3 ≤ 1000; decide) HR1.out (HT.out.below (below_alloc HB1.out _))).mono ?_; rintro e w2 ⟨Av, cv, nv, rfl, hb2⟩; have HB2 := Lib.hid ((below_alloc HB1.out _).trans (hb2.mono (below_size (below_alloc HB1.out _)))); clear hb2)
      | (go_at_call 12; refine (label_c _).mono ?_; rintro e w3 ⟨rfl, hb3⟩; have HX := Lib.hid (cell_new (W := w2) (t := 29) (fz := (0, 0)) (i := 0) rfl rfl : (w2.alloc (.cells #[.int .i64 191, .int .i64 0, .slice Av nv cv] 29)).cell? ⟨w2.heap.size, 0, none⟩ = some (.int .i64 191)); have x0 := (hb3.cell (World.block_lt_of_cell? _ _ HX.out)).trans HX.out; have HY := Lib.hid (cell_new (W := w2) (t := 29) (fz := (0, 0)) (i := 1) rfl rfl : (w2.alloc (.cells #[.int .i64 191, .int .i64 0, .slice Av nv cv] 29)).cell? ⟨w2.heap.size, 1, none⟩ = some (.int .i64 0)); have x1 := (hb3.cell (World.block_lt_of_cell? _ _ HY.out)).trans HY.out; have hs3 := hb3.size; (try simp at hs3); have HB3 := Lib.hid ((below_alloc HB2.out _).trans (hb3.mono (below_size (below_alloc HB2.out _)))); clear hb3)
      | (go_at_call 13; refine (longs2_c _).mono ?_; rintro e w4 ⟨A2, c2, A5, c5, rfl, hK, hb4⟩; have y0 := (hb4.cell (World.block_lt_of_cell? _ _ (cell_alloc x0 _))).trans (cell_alloc x0 _); have y1 := (hb4.cell (World.block_lt_of_cell? _ _ (cell_alloc x1 _))).trans (cell_alloc x1 _); have HL := Lib.hid (Kd.C_below (lit35 w3 (sWide i k) (by show 7 ≤ maxLen; decide) _ rfl) hb4); have HK := Lib.hid hK; have hs4 := hb4.size; (try simp at hs4); have HB4 := Lib.hid ((below_alloc HB3.out _).trans (hb4.mono (below_size (below_alloc HB3.out _)))); clear hK hb4 x0 x1)
      | (go_at_call 9; refine (run_c (sWide i k) [a, b] _ 7 ⟨#[102]⟩ 20 512 0 a ev2 _ _ _ (Kd.C_alloc (Kd.C_alloc HL.out _) _) (by show 7 ≤ 7; decide) (Kd.C_alloc (lit40 w4 hd2 _ rfl (k40.K_below (below_alloc (Below.refl _ _) _) HK.out)) _) (two_ints _ a b _ (cell_new (by simp) rfl) (cell_new (by simp) rfl)) HR2.out (HT.out.below (below_alloc (below_alloc HB4.out _) _))).mono ?_; rintro e w5 ⟨Aw, cw, nw, rfl, hb5⟩; have z0 := cell_alloc ((hb5.cell (World.block_lt_of_cell? _ _ (cell_alloc (cell_alloc y0 _) _))).trans (cell_alloc (cell_alloc y0 _) _)) (.cells #[.int .i64 0, .int .i64 a, .slice Aw nw cw] 29); have z1 := cell_alloc ((hb5.cell (World.block_lt_of_cell? _ _ (cell_alloc (cell_alloc y1 _) _))).trans (cell_alloc (cell_alloc y1 _) _)) (.cells #[.int .i64 0, .int .i64 a, .slice Aw nw cw] 29); have z2 : (w5.alloc (.cells #[.int .i64 0, .int .i64 a, .slice Aw nw cw] 29)).cell? ⟨w5.heap.size, 0, none⟩ = some (.int .i64 0) := cell_new rfl rfl; have z3 : (w5.alloc (.cells #[.int .i64 0, .int .i64 a, .slice Aw nw cw] 29)).cell? ⟨w5.heap.size, 1, none⟩ = some (.int .i64 a) := cell_new rfl rfl; have HB5 := Lib.hid ((below_alloc (below_alloc HB4.out _) _).trans (hb5.mono (below_size (below_alloc (below_alloc HB4.out _) _)))); clear hb5 y0 y1))
    go_ret
    exact ⟨rfl, below_alloc HB5.out _⟩
end Go.Proofs.YtgdkkcdmflopjaaDoor.Mc
