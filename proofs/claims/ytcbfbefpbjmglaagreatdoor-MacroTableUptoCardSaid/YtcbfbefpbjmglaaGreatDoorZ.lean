import Derived.Test.YtcbfbefpbjmglaaGreatDoorV
set_option linter.unusedVariables false
namespace Go.Proofs.YtcbfbefpbjmglaaGreatDoor
open Go.RowKit YtcbfbefpbjmglaaGreatDoorW.PrintWords YtcbfbefpbjmglaaGreatDoorW.PrintLast
abbrev fl (a b : Nat) : Array Bool := (List.replicate a true ++ List.replicate b false).toArray
theorem od {p : Prop} [inst : Decidable p] (h : decide p = true) : p := of_decide_eq_true h
theorem cl (w : World) (a : Addr) {v : Value} (h : w.cell? a = some v) : a.block < w.heap.size := World.block_lt_of_cell? w a h
section
variable {P : Program} {ops : Array Oper} {Q : Exit → Act → World → Prop} {md : Region.Mode} {S : World → Prop} {ds : List Nat}
theorem sT {α} {as : List α} {i : Nat} {a : α} : as.toArray.setIfInBounds i a = (as.set i a).toArray := List.setIfInBounds_toArray ..
theorem sZ {α} {x y : α} {xs : List α} : (x :: xs).set 0 y = y :: xs := rfl
theorem sS {α} {x y : α} {n : Nat} {xs : List α} : (x :: xs).set (n + 1) y = x :: xs.set n y := rfl
theorem pu {oi : Oper} {v : Value} {fuel : Nat} {l : Array Bool} {a a' : Act} {w : World} (i n : Nat) (l' : Array Bool) (h : wpAnyLast P md ops Q S ds fuel l' a' w)
    (hi : ops[i]? = some oi := by exact rfl) (hN : oi.dst = some n := by exact rfl) (hc : anyB md ops l l' i = true := by kernel_rfl)
    (hQ : ∀ c a w, Q (.panic c) (a.put oi.dst v) w → Q (.panic c) a w := by exact fun _ _ _ h => h)
    (hb : Region.wanted oi (yielded ops a.tmps) = true := by rfl) (hv : ∀ w, (execOp a.eval oi).run P w = .ok (.value v) w := by intro w'; go_simp; with_reducible rfl)
    (ha : a.put (some n) v = a' := by (simp only [Act.put, sT, sZ, sS, i64_w, i32_w]; rfl)) : wpAnyLast P md ops Q S ds (fuel + 1) l a w :=
  pure_ l' hi hN hc hQ (Or.inl ⟨hb, hv⟩) ha h
theorem pd {oi : Oper} {fuel : Nat} {l : Array Bool} {a a' : Act} {w : World} (i n : Nat) (l' : Array Bool) (h : wpAnyLast P md ops Q S ds fuel l' a' w)
    (hi : ops[i]? = some oi := by exact rfl) (hN : oi.dst = some n := by exact rfl) (hc : anyB md ops l l' i = true := by kernel_rfl)
    (hQ : ∀ c a w, Q (.panic c) (a.put oi.dst undef) w → Q (.panic c) a w := by exact fun _ _ _ h => h)
    (hb : Region.wanted oi (yielded ops a.tmps) = false := by rfl)
    (ha : a.put (some n) undef = a' := by (simp only [Act.put, sT, sZ, sS, i64_w, i32_w]; rfl)) : wpAnyLast P md ops Q S ds (fuel + 1) l a w :=
  pure_ l' hi hN hc hQ (Or.inr ⟨hb, rfl⟩) ha h
theorem tk {oi : Oper} {v : Value} {fuel : Nat} {l : Array Bool} {a a' : Act} {w : World} (i n : Nat) (l' : Array Bool) (hi : ops[i]? = some oi) (hN : oi.dst = some n) (hS : S w) (hv : ∀ w, S w → (execOp a.eval oi).run P w = .ok (.value v) w)
    (h : wpAnyLast P md ops Q S ds fuel l' a' w)
    (hc : takeB md ops ds l l' i = true := by kernel_rfl)
    (hQ : ∀ c a w, Q (.panic c) (a.put oi.dst v) w → Q (.panic c) a w := by exact fun _ _ _ h => h)
    (hb : Region.wanted oi (yielded ops a.tmps) = true := by rfl)
    (ha : a.put (some n) v = a' := by (simp only [Act.put, sT, sZ, sS, i64_w, i32_w]; rfl)) : wpAnyLast P md ops Q S ds (fuel + 1) l a w :=
  take_ l' hi hN hc hQ (Or.inl ⟨hb, hv⟩) hS ha h
theorem puT {oi : Oper} {v : Value} {fuel : Nat} {l : Array Bool} {a a' : Act} {w : World} {T : Bool × List (List Nat × List Nat)} (hT : rtab md ops = T) (i n : Nat) (l' : Array Bool) (h : wpAnyLast P md ops Q S ds fuel l' a' w)
    (hi : ops[i]? = some oi := by exact rfl) (hN : oi.dst = some n := by exact rfl) (hc : anyT T l.toList l'.toList i = true := by kernel_rfl)
    (hQ : ∀ c a w, Q (.panic c) (a.put oi.dst v) w → Q (.panic c) a w := by exact fun _ _ _ h => h)
    (hb : Region.wanted oi (yielded ops a.tmps) = true := by rfl) (hv : ∀ w, (execOp a.eval oi).run P w = .ok (.value v) w := by intro w'; go_simp; with_reducible rfl)
    (ha : a.put (some n) v = a' := by (simp only [Act.put, sT, sZ, sS, i64_w, i32_w]; rfl)) : wpAnyLast P md ops Q S ds (fuel + 1) l a w :=
  pure_ l' hi hN (any_of hT hc) hQ (Or.inl ⟨hb, hv⟩) ha h
theorem pdT {oi : Oper} {fuel : Nat} {l : Array Bool} {a a' : Act} {w : World} {T : Bool × List (List Nat × List Nat)} (hT : rtab md ops = T) (i n : Nat) (l' : Array Bool) (h : wpAnyLast P md ops Q S ds fuel l' a' w)
    (hi : ops[i]? = some oi := by exact rfl) (hN : oi.dst = some n := by exact rfl) (hc : anyT T l.toList l'.toList i = true := by kernel_rfl)
    (hQ : ∀ c a w, Q (.panic c) (a.put oi.dst undef) w → Q (.panic c) a w := by exact fun _ _ _ h => h)
    (hb : Region.wanted oi (yielded ops a.tmps) = false := by rfl)
    (ha : a.put (some n) undef = a' := by (simp only [Act.put, sT, sZ, sS, i64_w, i32_w]; rfl)) : wpAnyLast P md ops Q S ds (fuel + 1) l a w :=
  pure_ l' hi hN (any_of hT hc) hQ (Or.inr ⟨hb, rfl⟩) ha h
theorem tkT {oi : Oper} {v : Value} {fuel : Nat} {l : Array Bool} {a a' : Act} {w : World} {T : Bool × List (List Nat × List Nat)} {B : List Nat} (hT : rtab md ops = T) (hB : waitsOk T.2 B = true) (i n : Nat) (l' : Array Bool) (hi : ops[i]? = some oi) (hN : oi.dst = some n) (hS : S w) (hv : ∀ w, S w → (execOp a.eval oi).run P w = .ok (.value v) w)
    (h : wpAnyLast P md ops Q S ds fuel l' a' w)
    (hc : takeW T B ds l.toList l'.toList i = true := by kernel_rfl)
    (hQ : ∀ c a w, Q (.panic c) (a.put oi.dst v) w → Q (.panic c) a w := by exact fun _ _ _ h => h)
    (hb : Region.wanted oi (yielded ops a.tmps) = true := by rfl)
    (ha : a.put (some n) v = a' := by (simp only [Act.put, sT, sZ, sS, i64_w, i32_w]; rfl)) : wpAnyLast P md ops Q S ds (fuel + 1) l a w :=
  take_ l' hi hN (take_ofW hT hB hc) hQ (Or.inl ⟨hb, hv⟩) hS ha h
end
end Go.Proofs.YtcbfbefpbjmglaaGreatDoor
