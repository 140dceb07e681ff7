/- What arith.Sign answers where the table lies as the program's text lays it. -/
import Derived.Test.YtbbepiechehojaaDoorProg
import Derived.Test.YtbbepiechehojaaDoorL
import Derived.WalkKit
import Derived.Below
namespace Go.Proofs.YtbbepiechehojaaDoorX
open Go.RowKit
/-- The operators' signs. -/
def sgs : List (List UInt8) := [[], [43], [45], [42], [47], [37], [60, 60], [62, 62], [38], [94], [124], [60], [60, 61], [61, 61], [33, 61], [45], [126], [33]]
def sg (i : Nat) : ByteArray := ⟨(sgs.getD i []).toArray⟩
/-- The table's cells. -/
def Tab (w : World) : Prop := ∀ i, i < 18 → w.cell? ⟨0, i, none⟩ = some (.string (sg i))
theorem cell_in {w : World} {p : Addr} {v : Value} (h : w.cell? p = some v) : p.block < w.heap.size := by
  rcases Nat.lt_or_ge p.block w.heap.size with h1 | h1
  · exact h1
  · unfold World.cell? at h; rw [Array.getElem?_eq_none h1] at h; cases h
theorem Tab.below {w w' : World} (h : Tab w) (hb : Below w.heap.size w w') : Tab w' := fun i hi => (hb.cell (cell_in (h i hi))).trans (h i hi)
set_option maxHeartbeats 1000000 in
theorem sign_walk (a : Int) (w : World) (hT : Tab w) :
    Calls Tryd.prog 9 #[.int .i64 a] w fun e w' => e = .returned (.string (if 1 ≤ a ∧ a ≤ 17 then sg a.toNat else ⟨#[]⟩)) ∧ Below w.heap.size w w' := by
  by_cases h1 : 1 ≤ a
  · by_cases h2 : a ≤ 17
    · obtain ⟨n, rfl⟩ : ∃ n : Nat, a = (n : Int) := ⟨a.toNat, (Int.toNat_of_nonneg (by omega)).symm⟩
      have hc := hT n (by omega)
      have hn : n < 18 := by omega
      rw [if_pos ⟨h1, h2⟩]
      obtain ⟨s, hs⟩ : ∃ s, sg n = s := ⟨_, rfl⟩
      rw [hs] at hc
      rw [Int.toNat_natCast, hs]
      go_enter Tryd.func9, Tryd.ntmps9
      go_wp2
      go_ret
      exact ⟨rfl, Below.refl _ _⟩
    · rw [if_neg (fun h => h2 h.2)]
      go_enter Tryd.func9, Tryd.ntmps9
      go_wp2
      go_ret
      exact ⟨rfl, Below.refl _ _⟩
  · rw [if_neg (fun h => h1 h.1)]
    go_enter Tryd.func9, Tryd.ntmps9
    go_wp2
    go_ret
    exact ⟨rfl, Below.refl _ _⟩
end Go.Proofs.YtbbepiechehojaaDoorX
