import Derived.Test.YtgdkkcdmflopjaaDoorMR4
import Derived.Test.YtgdkkcdmflopjaaDoorA0
import Derived.Test.YtgdkkcdmflopjaaDoorA2
import Derived.Test.YtgdkkcdmflopjaaDoorA7
import Derived.Test.YtgdkkcdmflopjaaDoorA10
import Derived.Test.YtgdkkcdmflopjaaDoorA3
namespace Go.Proofs.YtgdkkcdmflopjaaDoor.Mc
open Go.RowKit Go.Proofs.YtgdkkcdmflopjaaDoor.PA Go.Proofs.YtgdkkcdmflopjaaDoor.Pure Go.Proofs.MapFun Go.Proofs.YtgdkkcdmflopjaaDoorW.PrintWords Go.Proofs.YtgdkkcdmflopjaaDoorW.PrintLast Go.Proofs.YtgdkkcdmflopjaaDoorW.PrintMore
set_option linter.unusedVariables false
set_option linter.unusedSimpArgs false
def iImm (d n : Int) : S35 := ⟨1, d, 0, n, 0, false, 0, ⟨#[]⟩⟩
theorem goes_step {l P S : List S35} {x : S35} {n : Nat} {s s' : St} (hl : l = P ++ x :: S) (hp : s.pc = (P.length : Int)) (hs : s.stp l.length x = (false, s')) (he : s'.e = 0) : goesP l (n + 1) s = goesP l n s' := by
  have hg : l.getD s.pc.toNat z35 = x := by
    rw [hl, hp, Int.toNat_natCast, List.getD_eq_getElem?_getD, List.getElem?_append_right (Nat.le_refl _), Nat.sub_self]
    rfl
  have hlen : s.pc < (l.length : Int) := by rw [hl, hp]; simp; omega
  rw [goesP_succ, if_neg (by omega), hg, hs]
  simp [he]
theorem goes_last {l P S : List S35} {x : S35} {n : Nat} {s s' : St} (hl : l = P ++ x :: S) (hp : s.pc = (P.length : Int)) (hs : s.stp l.length x = (true, s')) : goesP l (n + 1) s = s' := by
  have hg : l.getD s.pc.toNat z35 = x := by
    rw [hl, hp, Int.toNat_natCast, List.getD_eq_getElem?_getD, List.getElem?_append_right (Nat.le_refl _), Nat.sub_self]
    rfl
  have hlen : s.pc < (l.length : Int) := by rw [hl, hp]; simp; omega
  rw [goesP_succ, if_neg (by omega), hg, hs]
  simp
theorem goes_err {l P S : List S35} {x : S35} {n : Nat} {s s' : St} (hl : l = P ++ x :: S) (hp : s.pc = (P.length : Int)) (hs : s.stp l.length x = (false, s')) (he : s'.e ≠ 0) : goesP l (n + 1) s = s' := by
  have hg : l.getD s.pc.toNat z35 = x := by
    rw [hl, hp, Int.toNat_natCast, List.getD_eq_getElem?_getD, List.getElem?_append_right (Nat.le_refl _), Nat.sub_self]
    rfl
  have hlen : s.pc < (l.length : Int) := by rw [hl, hp]; simp; omega
  rw [goesP_succ, if_neg (by omega), hg, hs]
  simp [he]
theorem reg_setR (s : St) (i k : Nat) (v : Int) (hi : i < s.r.length) : (s.setR i v).reg k = if i = k then v else s.reg k := by
  simp only [St.reg, St.setR, List.getD_eq_getElem?_getD, List.getElem?_set]
  by_cases h : i = k
  · subst h; simp [hi]
  · simp [h]
theorem stp_imm (L : Int) (s : St) (d n : Int) : s.stp L (iImm d n) = (false, St.setR { s with pc := s.pc + 1 } d.toNat n) := rfl
theorem stp_mov (L : Int) (s : St) (d n : Int) : s.stp L (iMov d n) = (false, St.setR { s with pc := s.pc + 1 } d.toNat (s.reg n.toNat)) := rfl
theorem stp_lab (L : Int) (s : St) : s.stp L iLab = (false, { s with pc := s.pc + 1 }) := rfl
theorem stp_ret (L : Int) (s : St) : s.stp L iRet = St.returns L { s with pc := s.pc + 1, fl := none } := rfl
theorem lies8 {a : Int} (h : In64 a) : lies a 8 = true := by
  unfold In64 at h
  simp [lies, conv]
  omega
structure PI (W : Nat) (m : List Int) (q : Nat) (s : St) : Prop where
  e : s.e = 0
  pc : s.pc = (q : Int)
  rl : s.r.length = 16
  k : keptOk s
  ml : s.mem.length = W
  r4 : s.reg 4 = 8 * ((W : Int) - 1 - m.length)
  bot : s.mem.getD (W - 1) 0 = -1
  st : ∀ i, i < m.length → s.mem.getD (W - 1 - m.length + i) 0 = m.getD i 0
theorem w64_id {x : Int} (h : -9223372036854775808 ≤ x ∧ x ≤ 9223372036854775807) : wrap64 x = x := by unfold wrap64; omega
theorem PI.step {W : Nat} {m : List Int} {q : Nat} {s : St} (h : PI W m q s) (fl : Option (Int × Int)) : PI W m (q + 1) { s with pc := s.pc + 1, fl := fl } :=
  ⟨h.e, by show s.pc + 1 = _; rw [h.pc]; push_cast; rfl, h.rl, h.k, h.ml, h.r4, h.bot, h.st⟩
theorem PI.setR {W : Nat} {m : List Int} {q : Nat} {s : St} (h : PI W m q s) (d : Nat) (v : Int) (hd : d < 3) : PI W m q (s.setR d v) := by
  have hr : ∀ k, 3 ≤ k → (s.setR d v).reg k = s.reg k := fun k hk => by
    rw [reg_setR s d k v (by rw [h.rl]; omega), if_neg (by omega)]
  refine ⟨h.e, h.pc, by simp [St.setR, h.rl], ?_, h.ml, by rw [hr 4 (by omega)]; exact h.r4, h.bot, h.st⟩
  obtain ⟨k1, k2, k3, k4, k5, k6⟩ := h.k
  exact ⟨by rw [hr _ (by omega)]; exact k1, by rw [hr _ (by omega)]; exact k2, by rw [hr _ (by omega)]; exact k3, by rw [hr _ (by omega)]; exact k4, by rw [hr _ (by omega)]; exact k5, by rw [hr _ (by omega)]; exact k6⟩
theorem PI.get {W : Nat} {m : List Int} {q : Nat} {s : St} (h : PI W m q s) (d k : Nat) (v : Int) (hd : d < 3) : (s.setR d v).reg k = if d = k then v else s.reg k :=
  reg_setR s d k v (by rw [h.rl]; omega)
theorem PI.push {W : Nat} {m : List Int} {q : Nat} {s : St} (h : PI W m q s) (hW : m.length + 2 ≤ W) (hW' : W ≤ 8192) (v : Int) : PI W (v :: m) (q + 1) (St.push { s with pc := s.pc + 1, fl := none } v) ∧ (St.push { s with pc := s.pc + 1, fl := none } v).reg 0 = s.reg 0 := by
  have e4 : wrap64 (St.reg { s with pc := s.pc + 1, fl := none } 4 - 8) = 8 * ((W : Int) - 1 - ((m.length + 1 : Nat) : Int)) := by
    show wrap64 (s.reg 4 - 8) = _
    rw [h.r4, w64_id (by omega)]; omega
  have hok : wordOk (St.setR { s with pc := s.pc + 1, fl := none } 4 (8 * ((W : Int) - 1 - ((m.length + 1 : Nat) : Int)))) (8 * ((W : Int) - 1 - ((m.length + 1 : Nat) : Int))) = true := by
    refine wordOk_iff.2 ⟨by omega, by omega, ?_⟩
    show _ < ((s.mem.length : Nat) : Int)
    rw [h.ml]; omega
  have hj : (8 * ((W : Int) - 1 - ((m.length + 1 : Nat) : Int)) / 8).toNat = W - 1 - (m.length + 1) := by omega
  have hr : ∀ k, (St.push { s with pc := s.pc + 1, fl := none } v).reg k = if 4 = k then 8 * ((W : Int) - 1 - ((m.length + 1 : Nat) : Int)) else s.reg k := fun k => by
    unfold St.push St.store
    rw [e4, if_pos hok]
    exact reg_setR { s with pc := s.pc + 1, fl := none } 4 k _ (show 4 < s.r.length by rw [h.rl]; omega)
  have hm : (St.push { s with pc := s.pc + 1, fl := none } v).mem = s.mem.set (W - 1 - (m.length + 1)) v := by
    unfold St.push St.store
    rw [e4, if_pos hok, hj]; rfl
  refine ⟨⟨?_, ?_, ?_, ?_, ?_, ?_, ?_, ?_⟩, by rw [hr, if_neg (by decide)]⟩
  · unfold St.push St.store; rw [e4, if_pos hok]; exact h.e
  · unfold St.push St.store; rw [e4, if_pos hok]; show s.pc + 1 = _; rw [h.pc]; push_cast; rfl
  · unfold St.push St.store; rw [e4, if_pos hok]; show (s.r.set _ _).length = _; rw [List.length_set, h.rl]
  · obtain ⟨k1, k2, k3, k4, k5, k6⟩ := h.k
    exact ⟨by rw [hr, if_neg (by decide)]; exact k1, by rw [hr, if_neg (by decide)]; exact k2, by rw [hr, if_neg (by decide)]; exact k3, by rw [hr, if_neg (by decide)]; exact k4, by rw [hr, if_neg (by decide)]; exact k5, by rw [hr, if_neg (by decide)]; exact k6⟩
  · rw [hm, List.length_set, h.ml]
  · rw [hr, if_pos rfl, List.length_cons]
  · rw [hm, List.getD_eq_getElem?_getD, List.getElem?_set, if_neg (by omega), ← List.getD_eq_getElem?_getD]; exact h.bot
  · intro i hi
    rw [hm, List.getD_eq_getElem?_getD, List.getElem?_set]
    rw [List.length_cons] at hi ⊢
    cases i with
    | zero => rw [if_pos (by omega), if_pos (by rw [h.ml]; omega)]; rfl
    | succ i =>
      rw [if_neg (by omega), ← List.getD_eq_getElem?_getD, show W - 1 - (m.length + 1) + (i + 1) = W - 1 - m.length + i by omega]
      exact h.st i (by omega)
theorem PI.pop {W : Nat} {m : List Int} {v : Int} {q : Nat} {s : St} (h : PI W (v :: m) q s) (hW : m.length + 2 ≤ W) (hW' : W ≤ 8192) : (St.pop { s with pc := s.pc + 1, fl := none }).1 = v ∧ PI W m (q + 1) (St.pop { s with pc := s.pc + 1, fl := none }).2 ∧ (St.pop { s with pc := s.pc + 1, fl := none }).2.reg 0 = s.reg 0 := by
  have h4 : St.reg { s with pc := s.pc + 1, fl := none } 4 = 8 * ((W : Int) - 1 - ((m.length + 1 : Nat) : Int)) := h.r4
  have hok : wordOk { s with pc := s.pc + 1, fl := none } (8 * ((W : Int) - 1 - ((m.length + 1 : Nat) : Int))) = true := by
    refine wordOk_iff.2 ⟨by omega, by omega, ?_⟩
    show _ < ((s.mem.length : Nat) : Int)
    rw [h.ml]; omega
  have hl : St.load { s with pc := s.pc + 1, fl := none } (8 * ((W : Int) - 1 - ((m.length + 1 : Nat) : Int))) = (v, { s with pc := s.pc + 1, fl := none }) := by
    unfold St.load
    rw [if_pos hok]
    congr 1
    have := h.st 0 (by simp)
    rw [show (8 * ((W : Int) - 1 - ((m.length + 1 : Nat) : Int)) / 8).toNat = W - 1 - (v :: m).length + 0 by rw [List.length_cons]; omega]
    exact this
  have e8 : wrap64 (8 * ((W : Int) - 1 - ((m.length + 1 : Nat) : Int)) + 8) = 8 * ((W : Int) - 1 - m.length) := by rw [w64_id (by omega)]; omega
  have hp : St.pop { s with pc := s.pc + 1, fl := none } = (v, St.setR { s with pc := s.pc + 1, fl := none } 4 (8 * ((W : Int) - 1 - m.length))) := by
    unfold St.pop
    rw [h4, hl, e8]
  rw [hp]
  have hr : ∀ k, (St.setR { s with pc := s.pc + 1, fl := none } 4 (8 * ((W : Int) - 1 - m.length))).reg k = if 4 = k then 8 * ((W : Int) - 1 - m.length) else s.reg k := fun k =>
    reg_setR { s with pc := s.pc + 1, fl := none } 4 k _ (show 4 < s.r.length by rw [h.rl]; omega)
  refine ⟨rfl, ⟨h.e, ?_, ?_, ?_, h.ml, by rw [hr, if_pos rfl], h.bot, ?_⟩, by rw [hr, if_neg (by decide)]⟩
  · show s.pc + 1 = _; rw [h.pc]; push_cast; rfl
  · show (s.r.set _ _).length = _; rw [List.length_set, h.rl]
  · obtain ⟨k1, k2, k3, k4, k5, k6⟩ := h.k
    exact ⟨by rw [hr, if_neg (by decide)]; exact k1, by rw [hr, if_neg (by decide)]; exact k2, by rw [hr, if_neg (by decide)]; exact k3, by rw [hr, if_neg (by decide)]; exact k4, by rw [hr, if_neg (by decide)]; exact k5, by rw [hr, if_neg (by decide)]; exact k6⟩
  · intro i hi
    have := h.st (i + 1) (by rw [List.length_cons]; omega)
    rw [List.length_cons, show W - 1 - (m.length + 1) + (i + 1) = W - 1 - m.length + i by omega] at this
    exact this
end Go.Proofs.YtgdkkcdmflopjaaDoor.Mc
namespace Go.Proofs.YtgdkkcdmflopjaaDoor.PA
open Go.RowKit Go.Proofs.YtgdkkcdmflopjaaDoorX Go.Proofs.YtgdkkcdmflopjaaDoorW.PrintWords Go.Proofs.YtgdkkcdmflopjaaDoorW.PrintLast Go.Proofs.YtgdkkcdmflopjaaDoorW.PrintMore
attribute [local go_sem] max2_int min2_int max_two min_two max_three min_three max_four min_four   -- for this text's walks alone
set_option linter.unusedVariables false
set_option linter.unusedSimpArgs false
def arith_Binary.f (a0 : Int) : Option (Bool) := if a0 ≥ 1 then (some (decide (a0 ≤ 14))) else (some false)
set_option maxHeartbeats 8000000 in
set_option maxRecDepth 100000 in
theorem arith_Binary.calls (a0 : Int) (r : Bool) (w : World) (h : arith_Binary.f a0 = some r) :
  Calls Tryd.prog 16 #[.int .i64 a0] w fun e w' => e = .returned (.bool r) ∧ Drawn0 w w' := by
 have H : (if a0 ≥ 1 then (some (decide (a0 ≤ 14))) else (some false)) = some r := h
 clear h
 by_cases c2 : a0 ≥ 1
 ·rw [if_pos c2] at H
  have c2b0 : decide (1 ≤ a0) = true := decide_eq_true c2
  clear c2
  obtain rfl := Option.some.inj H
  go_enter Tryd.func16, Tryd.ntmps16
  go_wp2
  go_ret
  exact ⟨by first | rfl | (simp; done) | (simp [*]; done), by repeat (first | exact Drawn0.refl _ | apply Drawn0.step)⟩
 ·rw [if_neg c2] at H
  have c2b0 : decide (1 ≤ a0) = false := decide_eq_false c2
  clear c2
  obtain rfl := Option.some.inj H
  go_enter Tryd.func16, Tryd.ntmps16
  go_wp2
  go_ret
  exact ⟨by first | rfl | (simp; done) | (simp [*]; done), by repeat (first | exact Drawn0.refl _ | apply Drawn0.step)⟩
def kind_Promoted.f (a0 : Int) : Option (Int × Int) := (kind_is.f a0).bind fun t409 => (if t409 = true then (if a0 < 5 then (some (5, 0)) else (some (a0, 0))) else (some (0, 80)))
set_option maxHeartbeats 8000000 in
set_option maxRecDepth 100000 in
theorem kind_Promoted.calls (a0 : Int) (r1 : Int) (r2 : Int) (w : World) (h : kind_Promoted.f a0 = some (r1, r2)) :
  Calls Tryd.prog 51 #[.int .i64 a0] w fun e w' => e = .returned (.tuple #[.int .i64 r1, .int .i64 r2]) ∧ Drawn0 w w' := by
 have H : ((kind_is.f a0).bind fun t409 => (if t409 = true then (if a0 < 5 then (some (5, 0)) else (some (a0, 0))) else (some (0, 80)))) = some (r1, r2) := h
 clear h
 replace H := Option.bind_eq_some_iff.mp H
 obtain ⟨t409, A20, H⟩ := H
 replace H : (if t409 = true then (if a0 < 5 then (some (5, 0)) else (some (a0, 0))) else (some (0, 80))) = some (r1, r2) := H
 have A2 := Aside0.mk A20
 clear A20
 by_cases c3 : t409 = true
 ·subst c3
  have H1 : (if a0 < 5 then (some (5, 0)) else (some (a0, 0))) = some (r1, r2) := by rw [if_pos rfl] at H; exact H
  clear H
  have H := H1
  clear H1
  by_cases c4 : a0 < 5
  ·rw [if_pos c4] at H
   have c4b0 : decide (a0 < 5) = true := decide_eq_true c4
   clear c4
   simp only [Option.some.injEq, Prod.mk.injEq] at H
   obtain ⟨rfl, rfl⟩ := H
   go_enter Tryd.func51, Tryd.ntmps51
   go_wp2_with (first | ((with_reducible refine gate_callee (f := 44) rfl ?_); refine goesL_ (some 5) rfl rfl Tryd.func44 (by kernel_rfl) rfl #[.int .i64 a0] rfl (by (try simp only [List.map_toArray, List.map_cons, List.map_nil]); first | done | rfl | (simp only [List.length_drop, List.length_take]; rfl)) ?_; (with_reducible refine (kind_is.calls a0 true _ A2.out).mono ?_); rintro e w' ⟨rfl, ⟨nd, rfl⟩⟩; refine ⟨_, rfl, ?_⟩))
   go_ret2
   exact ⟨by first | rfl | (simp; done) | (simp [*]; done), by repeat (first | exact Drawn0.refl _ | apply Drawn0.step)⟩
  ·rw [if_neg c4] at H
   have c4b0 : decide (a0 < 5) = false := decide_eq_false c4
   clear c4
   simp only [Option.some.injEq, Prod.mk.injEq] at H
   obtain ⟨rfl, rfl⟩ := H
   go_enter Tryd.func51, Tryd.ntmps51
   go_wp2_with (first | ((with_reducible refine gate_callee (f := 44) rfl ?_); refine goesL_ (some 5) rfl rfl Tryd.func44 (by kernel_rfl) rfl #[.int .i64 a0] rfl (by (try simp only [List.map_toArray, List.map_cons, List.map_nil]); first | done | rfl | (simp only [List.length_drop, List.length_take]; rfl)) ?_; (with_reducible refine (kind_is.calls a0 true _ A2.out).mono ?_); rintro e w' ⟨rfl, ⟨nd, rfl⟩⟩; refine ⟨_, rfl, ?_⟩))
   go_ret2
   exact ⟨by first | rfl | (simp; done) | (simp [*]; done), by repeat (first | exact Drawn0.refl _ | apply Drawn0.step)⟩
 ·replace c3 := Bool.eq_false_iff.mpr c3
  subst c3
  have H1 : (some (0, 80)) = some (r1, r2) := by rw [if_neg (show ¬ (false = true) by decide)] at H; exact H
  clear H
  have H := H1
  clear H1
  simp only [Option.some.injEq, Prod.mk.injEq] at H
  obtain ⟨rfl, rfl⟩ := H
  go_enter Tryd.func51, Tryd.ntmps51
  go_wp2_with (first | ((with_reducible refine gate_callee (f := 44) rfl ?_); refine goesL_ (some 5) rfl rfl Tryd.func44 (by kernel_rfl) rfl #[.int .i64 a0] rfl (by (try simp only [List.map_toArray, List.map_cons, List.map_nil]); first | done | rfl | (simp only [List.length_drop, List.length_take]; rfl)) ?_; (with_reducible refine (kind_is.calls a0 false _ A2.out).mono ?_); rintro e w' ⟨rfl, ⟨nd, rfl⟩⟩; refine ⟨_, rfl, ?_⟩))
  go_ret2
  exact ⟨by first | rfl | (simp; done) | (simp [*]; done), by repeat (first | exact Drawn0.refl _ | apply Drawn0.step)⟩
def kind_Usual.f (a0 : Int) (a1 : Int) : Option (Int × Int) := (kind_Promoted.f a0).bind fun bt410 => ((kind_Promoted.f a1).bind fun bt412 => (if bt410.2 = 0 then (if bt412.2 = 0 then (some (mx bt410.1 bt412.1, 0)) else (some (0, 80))) else (some (0, 80))))
set_option maxHeartbeats 8000000 in
set_option maxRecDepth 100000 in
theorem kind_Usual.calls (a0 : Int) (a1 : Int) (r1 : Int) (r2 : Int) (w : World) (h : kind_Usual.f a0 a1 = some (r1, r2)) :
  Calls Tryd.prog 52 #[.int .i64 a0, .int .i64 a1] w fun e w' => e = .returned (.tuple #[.int .i64 r1, .int .i64 r2]) ∧ Below w.heap.size w w' := by
 have HB := Aside0.mk (Below.refl w.heap.size w)
 have H : ((kind_Promoted.f a0).bind fun bt410 => ((kind_Promoted.f a1).bind fun bt412 => (if bt410.2 = 0 then (if bt412.2 = 0 then (some (mx bt410.1 bt412.1, 0)) else (some (0, 80))) else (some (0, 80))))) = some (r1, r2) := h
 clear h
 replace H := Option.bind_eq_some_iff.mp H
 obtain ⟨⟨t410, t411⟩, A30, H⟩ := H
 replace H : ((kind_Promoted.f a1).bind fun bt412 => (if t411 = 0 then (if bt412.2 = 0 then (some (mx t410 bt412.1, 0)) else (some (0, 80))) else (some (0, 80)))) = some (r1, r2) := H
 have A3 := Aside0.mk A30
 clear A30
 replace H := Option.bind_eq_some_iff.mp H
 obtain ⟨⟨t412, t413⟩, A40, H⟩ := H
 replace H : (if t411 = 0 then (if t413 = 0 then (some (mx t410 t412, 0)) else (some (0, 80))) else (some (0, 80))) = some (r1, r2) := H
 have A4 := Aside0.mk A40
 clear A40
 by_cases c5 : t411 = 0
 ·rw [if_pos c5] at H
  have c5b0 : (t411 == 0) = true := beq_iff_eq.mpr c5
  have c5b1 : (t411 != 0) = false := bne_eq_false_iff_eq.mpr c5
  clear c5
  by_cases c6 : t413 = 0
  ·rw [if_pos c6] at H
   have c6b0 : (t413 == 0) = true := beq_iff_eq.mpr c6
   have c6b1 : (t413 != 0) = false := bne_eq_false_iff_eq.mpr c6
   clear c6
   obtain ⟨ji7, hji7⟩ : ∃ j_ : Int, (mx t410 t412) = j_ := ⟨_, rfl⟩
   replace H : (some (ji7, 0)) = some (r1, r2) := by first | (rw [hji7] at H; exact H) | (simp only [hji7] at H ⊢; exact H)
   (try rw [hji7] at A3)
   (try rw [hji7] at A4)
   have hji7_ : (if t410 < t412 then t412 else t410) = ji7 := hji7
   simp only [Option.some.injEq, Prod.mk.injEq] at H
   obtain ⟨rfl, rfl⟩ := H
   go_enter Tryd.func52, Tryd.ntmps52
   go_wp2_with (first | ((with_reducible refine gate_callee (f := 51) rfl ?_); refine goesL_ (some 12) rfl rfl Tryd.func51 (by kernel_rfl) rfl #[.int .i64 a0] rfl (by (try simp only [List.map_toArray, List.map_cons, List.map_nil]); first | done | rfl | (simp only [List.length_drop, List.length_take]; rfl)) ?_; (with_reducible refine (kind_Promoted.calls a0 t410 t411 _ A3.out).mono ?_); rintro e w' ⟨rfl, ⟨nd, rfl⟩⟩; refine ⟨_, rfl, ?_⟩) | ((with_reducible refine gate_callee (f := 51) rfl ?_); refine goesL_ (some 17) rfl rfl Tryd.func51 (by kernel_rfl) rfl #[.int .i64 a1] rfl (by (try simp only [List.map_toArray, List.map_cons, List.map_nil]); first | done | rfl | (simp only [List.length_drop, List.length_take]; rfl)) ?_; (with_reducible refine (kind_Promoted.calls a1 t412 t413 _ A4.out).mono ?_); rintro e w' ⟨rfl, ⟨nd, rfl⟩⟩; refine ⟨_, rfl, ?_⟩))
   go_ret2
   exact ⟨by first | rfl | (simp [errW_none, errW_some] <;> rfl) | (simp only [← hji7]; first | rfl | (simp [errW_none, errW_some] <;> rfl)) | (simp [*, errW_none, errW_some] <;> rfl), by repeat (with_reducible first | exact HB.out | apply below_alloc | apply pw_below_drewN | apply below_drew1)⟩
  ·rw [if_neg c6] at H
   have c6b0 : (t413 == 0) = false := beq_eq_false_iff_ne.mpr c6
   have c6b1 : (t413 != 0) = true := bne_iff_ne.mpr c6
   simp only [Option.some.injEq, Prod.mk.injEq] at H
   obtain ⟨rfl, rfl⟩ := H
   go_enter Tryd.func52, Tryd.ntmps52
   go_wp2_with (first | ((with_reducible refine gate_callee (f := 51) rfl ?_); refine goesL_ (some 12) rfl rfl Tryd.func51 (by kernel_rfl) rfl #[.int .i64 a0] rfl (by (try simp only [List.map_toArray, List.map_cons, List.map_nil]); first | done | rfl | (simp only [List.length_drop, List.length_take]; rfl)) ?_; (with_reducible refine (kind_Promoted.calls a0 t410 t411 _ A3.out).mono ?_); rintro e w' ⟨rfl, ⟨nd, rfl⟩⟩; refine ⟨_, rfl, ?_⟩) | ((with_reducible refine gate_callee (f := 51) rfl ?_); refine goesL_ (some 17) rfl rfl Tryd.func51 (by kernel_rfl) rfl #[.int .i64 a1] rfl (by (try simp only [List.map_toArray, List.map_cons, List.map_nil]); first | done | rfl | (simp only [List.length_drop, List.length_take]; rfl)) ?_; (with_reducible refine (kind_Promoted.calls a1 t412 t413 _ A4.out).mono ?_); rintro e w' ⟨rfl, ⟨nd, rfl⟩⟩; refine ⟨_, rfl, ?_⟩))
   go_ret2
   exact ⟨by first | rfl | (simp [errW_none, errW_some] <;> rfl) | (simp [*, errW_none, errW_some] <;> rfl), by repeat (with_reducible first | exact HB.out | apply below_alloc | apply pw_below_drewN | apply below_drew1)⟩
 ·rw [if_neg c5] at H
  have c5b0 : (t411 == 0) = false := beq_eq_false_iff_ne.mpr c5
  have c5b1 : (t411 != 0) = true := bne_iff_ne.mpr c5
  simp only [Option.some.injEq, Prod.mk.injEq] at H
  obtain ⟨rfl, rfl⟩ := H
  go_enter Tryd.func52, Tryd.ntmps52
  go_wp2_with (first | ((with_reducible refine gate_callee (f := 51) rfl ?_); refine goesL_ (some 12) rfl rfl Tryd.func51 (by kernel_rfl) rfl #[.int .i64 a0] rfl (by (try simp only [List.map_toArray, List.map_cons, List.map_nil]); first | done | rfl | (simp only [List.length_drop, List.length_take]; rfl)) ?_; (with_reducible refine (kind_Promoted.calls a0 t410 t411 _ A3.out).mono ?_); rintro e w' ⟨rfl, ⟨nd, rfl⟩⟩; refine ⟨_, rfl, ?_⟩) | ((with_reducible refine gate_callee (f := 51) rfl ?_); refine goesL_ (some 17) rfl rfl Tryd.func51 (by kernel_rfl) rfl #[.int .i64 a1] rfl (by (try simp only [List.map_toArray, List.map_cons, List.map_nil]); first | done | rfl | (simp only [List.length_drop, List.length_take]; rfl)) ?_; (with_reducible refine (kind_Promoted.calls a1 t412 t413 _ A4.out).mono ?_); rintro e w' ⟨rfl, ⟨nd, rfl⟩⟩; refine ⟨_, rfl, ?_⟩))
  go_ret2
  exact ⟨by first | rfl | (simp [errW_none, errW_some] <;> rfl) | (simp [*, errW_none, errW_some] <;> rfl), by repeat (with_reducible first | exact HB.out | apply below_alloc | apply pw_below_drewN | apply below_drew1)⟩
def arith_in.f (a0 : Int) (a1 : Int) (a2 : Int) : Option (Int × Int) := (arith_Binary.f a0).bind fun t414 => (if t414 = true then ((kind_Usual.f a1 a2).bind fun bt417 => (if bt417.2 = 0 then ((arith_isShift.f a0).bind fun t419 => (if t419 = true then ((kind_Promoted.f a1).bind fun bt420 => (some (bt420.1, bt420.2))) else (some (bt417.1, bt417.2)))) else (some (bt417.1, bt417.2)))) else ((kind_Promoted.f a1).bind fun bt415 => (some (bt415.1, bt415.2))))
set_option maxHeartbeats 8000000 in
set_option maxRecDepth 100000 in
theorem arith_in.calls (a0 : Int) (a1 : Int) (a2 : Int) (r1 : Int) (r2 : Int) (w : World) (h : arith_in.f a0 a1 a2 = some (r1, r2)) :
  Calls Tryd.prog 32 #[.int .i64 a0, .int .i64 a1, .int .i64 a2] w fun e w' => e = .returned (.tuple #[.int .i64 r1, .int .i64 r2]) ∧ Below w.heap.size w w' := by
 have HB := Aside0.mk (Below.refl w.heap.size w)
 have H : ((arith_Binary.f a0).bind fun t414 => (if t414 = true then ((kind_Usual.f a1 a2).bind fun bt417 => (if bt417.2 = 0 then ((arith_isShift.f a0).bind fun t419 => (if t419 = true then ((kind_Promoted.f a1).bind fun bt420 => (some (bt420.1, bt420.2))) else (some (bt417.1, bt417.2)))) else (some (bt417.1, bt417.2)))) else ((kind_Promoted.f a1).bind fun bt415 => (some (bt415.1, bt415.2))))) = some (r1, r2) := h
 clear h
 replace H := Option.bind_eq_some_iff.mp H
 obtain ⟨t414, A40, H⟩ := H
 replace H : (if t414 = true then ((kind_Usual.f a1 a2).bind fun bt417 => (if bt417.2 = 0 then ((arith_isShift.f a0).bind fun t419 => (if t419 = true then ((kind_Promoted.f a1).bind fun bt420 => (some (bt420.1, bt420.2))) else (some (bt417.1, bt417.2)))) else (some (bt417.1, bt417.2)))) else ((kind_Promoted.f a1).bind fun bt415 => (some (bt415.1, bt415.2)))) = some (r1, r2) := H
 have A4 := Aside0.mk A40
 clear A40
 by_cases c5 : t414 = true
 ·subst c5
  have H1 : ((kind_Usual.f a1 a2).bind fun bt417 => (if bt417.2 = 0 then ((arith_isShift.f a0).bind fun t419 => (if t419 = true then ((kind_Promoted.f a1).bind fun bt420 => (some (bt420.1, bt420.2))) else (some (bt417.1, bt417.2)))) else (some (bt417.1, bt417.2)))) = some (r1, r2) := by rw [if_pos rfl] at H; exact H
  clear H
  have H := H1
  clear H1
  replace H := Option.bind_eq_some_iff.mp H
  obtain ⟨⟨t417, t418⟩, A60, H⟩ := H
  replace H : (if t418 = 0 then ((arith_isShift.f a0).bind fun t419 => (if t419 = true then ((kind_Promoted.f a1).bind fun bt420 => (some (bt420.1, bt420.2))) else (some (t417, t418)))) else (some (t417, t418))) = some (r1, r2) := H
  have A6 := Aside0.mk A60
  clear A60
  by_cases c7 : t418 = 0
  ·rw [if_pos c7] at H
   have c7b0 : (t418 == 0) = true := beq_iff_eq.mpr c7
   have c7b1 : (t418 != 0) = false := bne_eq_false_iff_eq.mpr c7
   clear c7
   replace H := Option.bind_eq_some_iff.mp H
   obtain ⟨t419, A80, H⟩ := H
   replace H : (if t419 = true then ((kind_Promoted.f a1).bind fun bt420 => (some (bt420.1, bt420.2))) else (some (t417, t418))) = some (r1, r2) := H
   have A8 := Aside0.mk A80
   clear A80
   by_cases c9 : t419 = true
   ·subst c9
    have H1 : ((kind_Promoted.f a1).bind fun bt420 => (some (bt420.1, bt420.2))) = some (r1, r2) := by rw [if_pos rfl] at H; exact H
    clear H
    have H := H1
    clear H1
    replace H := Option.bind_eq_some_iff.mp H
    obtain ⟨⟨t420, t421⟩, A100, H⟩ := H
    replace H : (some (t420, t421)) = some (r1, r2) := H
    have A10 := Aside0.mk A100
    clear A100
    simp only [Option.some.injEq, Prod.mk.injEq] at H
    obtain ⟨rfl, rfl⟩ := H
    go_enter Tryd.func32, Tryd.ntmps32
    go_wp2_with (first | ((with_reducible refine gate_callee (f := 16) rfl ?_); refine goesL_ (some 11) rfl rfl Tryd.func16 (by kernel_rfl) rfl #[.int .i64 a0] rfl (by (try simp only [List.map_toArray, List.map_cons, List.map_nil]); first | done | rfl | (simp only [List.length_drop, List.length_take]; rfl)) ?_; (with_reducible refine (arith_Binary.calls a0 true _ A4.out).mono ?_); rintro e w' ⟨rfl, ⟨nd, rfl⟩⟩; refine ⟨_, rfl, ?_⟩) | ((with_reducible refine gate_callee (f := 52) rfl ?_); refine goesL_ (some 20) rfl rfl Tryd.func52 (by kernel_rfl) rfl #[.int .i64 a1, .int .i64 a2] rfl (by (try simp only [List.map_toArray, List.map_cons, List.map_nil]); first | done | rfl | (simp only [List.length_drop, List.length_take]; rfl)) ?_; (with_reducible refine (kind_Usual.calls a1 a2 t417 t418 _ A6.out).mono ?_); rintro e w11 ⟨rfl, hb⟩; refine ⟨_, rfl, ?_⟩; have n0_ := Aside0.mk (below_step (by repeat (with_reducible first | exact HB.out | apply below_alloc | apply pw_below_drewN | apply below_drew1)) hb); clear HB; have HB := n0_; clear n0_; (try clear hb); (try clear hb2); (try clear hk); (try clear hi)) | (go_at_call 29; (with_reducible refine (arith_isShift.calls a0 true _ A8.out).mono ?_); rintro e w' ⟨rfl, ⟨nd, rfl⟩⟩) | ((with_reducible refine gate_callee (f := 51) rfl ?_); refine goesL_ (some 30) rfl rfl Tryd.func51 (by kernel_rfl) rfl #[.int .i64 a1] rfl (by (try simp only [List.map_toArray, List.map_cons, List.map_nil]); first | done | rfl | (simp only [List.length_drop, List.length_take]; rfl)) ?_; (with_reducible refine (kind_Promoted.calls a1 t420 t421 _ A10.out).mono ?_); rintro e w' ⟨rfl, ⟨nd, rfl⟩⟩; refine ⟨_, rfl, ?_⟩))
    go_ret2
    exact ⟨by first | rfl | (simp [errW_none, errW_some] <;> rfl) | (simp [*, errW_none, errW_some] <;> rfl), by repeat (with_reducible first | exact HB.out | apply below_alloc | apply pw_below_drewN | apply below_drew1)⟩
   ·replace c9 := Bool.eq_false_iff.mpr c9
    subst c9
    have H1 : (some (t417, t418)) = some (r1, r2) := by rw [if_neg (show ¬ (false = true) by decide)] at H; exact H
    clear H
    have H := H1
    clear H1
    simp only [Option.some.injEq, Prod.mk.injEq] at H
    obtain ⟨rfl, rfl⟩ := H
    go_enter Tryd.func32, Tryd.ntmps32
    go_wp2_with (first | ((with_reducible refine gate_callee (f := 16) rfl ?_); refine goesL_ (some 11) rfl rfl Tryd.func16 (by kernel_rfl) rfl #[.int .i64 a0] rfl (by (try simp only [List.map_toArray, List.map_cons, List.map_nil]); first | done | rfl | (simp only [List.length_drop, List.length_take]; rfl)) ?_; (with_reducible refine (arith_Binary.calls a0 true _ A4.out).mono ?_); rintro e w' ⟨rfl, ⟨nd, rfl⟩⟩; refine ⟨_, rfl, ?_⟩) | ((with_reducible refine gate_callee (f := 52) rfl ?_); refine goesL_ (some 20) rfl rfl Tryd.func52 (by kernel_rfl) rfl #[.int .i64 a1, .int .i64 a2] rfl (by (try simp only [List.map_toArray, List.map_cons, List.map_nil]); first | done | rfl | (simp only [List.length_drop, List.length_take]; rfl)) ?_; (with_reducible refine (kind_Usual.calls a1 a2 t417 t418 _ A6.out).mono ?_); rintro e w12 ⟨rfl, hb⟩; refine ⟨_, rfl, ?_⟩; have n0_ := Aside0.mk (below_step (by repeat (with_reducible first | exact HB.out | apply below_alloc | apply pw_below_drewN | apply below_drew1)) hb); clear HB; have HB := n0_; clear n0_; (try clear hb); (try clear hb2); (try clear hk); (try clear hi)) | (go_at_call 29; (with_reducible refine (arith_isShift.calls a0 false _ A8.out).mono ?_); rintro e w' ⟨rfl, ⟨nd, rfl⟩⟩))
    go_ret2
    exact ⟨by first | rfl | (simp [errW_none, errW_some] <;> rfl) | (simp [*, errW_none, errW_some] <;> rfl), by repeat (with_reducible first | exact HB.out | apply below_alloc | apply pw_below_drewN | apply below_drew1)⟩
  ·rw [if_neg c7] at H
   have c7b0 : (t418 == 0) = false := beq_eq_false_iff_ne.mpr c7
   have c7b1 : (t418 != 0) = true := bne_iff_ne.mpr c7
   simp only [Option.some.injEq, Prod.mk.injEq] at H
   obtain ⟨rfl, rfl⟩ := H
   go_enter Tryd.func32, Tryd.ntmps32
   go_wp2_with (first | ((with_reducible refine gate_callee (f := 16) rfl ?_); refine goesL_ (some 11) rfl rfl Tryd.func16 (by kernel_rfl) rfl #[.int .i64 a0] rfl (by (try simp only [List.map_toArray, List.map_cons, List.map_nil]); first | done | rfl | (simp only [List.length_drop, List.length_take]; rfl)) ?_; (with_reducible refine (arith_Binary.calls a0 true _ A4.out).mono ?_); rintro e w' ⟨rfl, ⟨nd, rfl⟩⟩; refine ⟨_, rfl, ?_⟩) | ((with_reducible refine gate_callee (f := 52) rfl ?_); refine goesL_ (some 20) rfl rfl Tryd.func52 (by kernel_rfl) rfl #[.int .i64 a1, .int .i64 a2] rfl (by (try simp only [List.map_toArray, List.map_cons, List.map_nil]); first | done | rfl | (simp only [List.length_drop, List.length_take]; rfl)) ?_; (with_reducible refine (kind_Usual.calls a1 a2 t417 t418 _ A6.out).mono ?_); rintro e w13 ⟨rfl, hb⟩; refine ⟨_, rfl, ?_⟩; have n0_ := Aside0.mk (below_step (by repeat (with_reducible first | exact HB.out | apply below_alloc | apply pw_below_drewN | apply below_drew1)) hb); clear HB; have HB := n0_; clear n0_; (try clear hb); (try clear hb2); (try clear hk); (try clear hi)))
   go_ret2
   exact ⟨by first | rfl | (simp [errW_none, errW_some] <;> rfl) | (simp [*, errW_none, errW_some] <;> rfl), by repeat (with_reducible first | exact HB.out | apply below_alloc | apply pw_below_drewN | apply below_drew1)⟩
 ·replace c5 := Bool.eq_false_iff.mpr c5
  subst c5
  have H1 : ((kind_Promoted.f a1).bind fun bt415 => (some (bt415.1, bt415.2))) = some (r1, r2) := by rw [if_neg (show ¬ (false = true) by decide)] at H; exact H
  clear H
  have H := H1
  clear H1
  replace H := Option.bind_eq_some_iff.mp H
  obtain ⟨⟨t415, t416⟩, A140, H⟩ := H
  replace H : (some (t415, t416)) = some (r1, r2) := H
  have A14 := Aside0.mk A140
  clear A140
  simp only [Option.some.injEq, Prod.mk.injEq] at H
  obtain ⟨rfl, rfl⟩ := H
  go_enter Tryd.func32, Tryd.ntmps32
  go_wp2_with (first | ((with_reducible refine gate_callee (f := 16) rfl ?_); refine goesL_ (some 11) rfl rfl Tryd.func16 (by kernel_rfl) rfl #[.int .i64 a0] rfl (by (try simp only [List.map_toArray, List.map_cons, List.map_nil]); first | done | rfl | (simp only [List.length_drop, List.length_take]; rfl)) ?_; (with_reducible refine (arith_Binary.calls a0 false _ A4.out).mono ?_); rintro e w' ⟨rfl, ⟨nd, rfl⟩⟩; refine ⟨_, rfl, ?_⟩) | ((with_reducible refine gate_callee (f := 51) rfl ?_); refine goesL_ (some 14) rfl rfl Tryd.func51 (by kernel_rfl) rfl #[.int .i64 a1] rfl (by (try simp only [List.map_toArray, List.map_cons, List.map_nil]); first | done | rfl | (simp only [List.length_drop, List.length_take]; rfl)) ?_; (with_reducible refine (kind_Promoted.calls a1 t415 t416 _ A14.out).mono ?_); rintro e w' ⟨rfl, ⟨nd, rfl⟩⟩; refine ⟨_, rfl, ?_⟩))
  go_ret2
  exact ⟨by first | rfl | (simp [errW_none, errW_some] <;> rfl) | (simp [*, errW_none, errW_some] <;> rfl), by repeat (with_reducible first | exact HB.out | apply below_alloc | apply pw_below_drewN | apply below_drew1)⟩
end Go.Proofs.YtgdkkcdmflopjaaDoor.PA
