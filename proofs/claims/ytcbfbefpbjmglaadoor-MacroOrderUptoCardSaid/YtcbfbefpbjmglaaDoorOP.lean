import Derived.Test.YtcbfbefpbjmglaaDoorDF
namespace Go.Proofs.YtcbfbefpbjmglaaDoor.Mac
open Go.RowKit Go.Proofs.MapFun Go.Proofs.YtcbfbefpbjmglaaDoor.PA Go.Proofs.YtcbfbefpbjmglaaDoorT Go.Proofs.YtcbfbefpbjmglaaDoorW.PrintWords Go.Proofs.YtcbfbefpbjmglaaDoorW.PrintLast Go.Proofs.YtcbfbefpbjmglaaDoorW.PrintMore
set_option linter.unusedVariables false
set_option linter.unusedSimpArgs false
def toksO (s : ByteArray) : List S48 := (lexP [(1, s.data.toList)]).1.map toT
def macO (s : ByteArray) : Option MacP := parseP (toksO s)
def macZ (s : ByteArray) : MacP := (macO s).getD ⟨⟨#[]⟩, false, [], false, []⟩
def macE (s : ByteArray) : Int := if (macO s).isSome then 0 else 30
def macsO (l : List ByteArray) : List MacP := l.filterMap macO
theorem toksO_dom (s : ByteArray) (h : s.size ≤ 1048576) : domL (toksO s) = true := domL_lex s h
theorem lexed_o (s : ByteArray) (h : s.size ≤ 1048576) : burinlaw03_lexed.f s = some (toksO s) := lexed_f s h
theorem parse_o (s : ByteArray) (h : s.size ≤ 1048576) : macro_Parse.f (toksO s) = some ((macZ s).nm, (macZ s).fn, (macZ s).params, (macZ s).more, (macZ s).body, macE s) := by
 unfold macro_Parse.f
 rw [if_pos (toksO_dom s h)]
 unfold macZ macE macO
 cases parseP (toksO s) <;> rfl
theorem zero_wrong : rightP ⟨#[]⟩ false [] false [] = false := by decide +kernel
theorem macZ_right (s : ByteArray) : rightP (macZ s).nm (macZ s).fn (macZ s).params (macZ s).more (macZ s).body = (macO s).isSome := by
 unfold macZ
 cases h : macO s with
 | none => exact zero_wrong
 | some m => exact parseP_right h
theorem macZ_dom (s : ByteArray) (h : s.size ≤ 1048576) : DomM (macZ s).nm (macZ s).params (macZ s).body := by
 unfold macZ
 cases hm : macO s with
 | none => exact ⟨by decide, by decide, by decide, by simp, by simp⟩
 | some m => exact parseP_dom (toksO_dom s h) hm
theorem macsO_take (l : List ByteArray) (k : Nat) (hk : k < l.length) : macsO (l.take (k + 1)) = macsO (l.take k) ++ (macO l[k]).toList := by
 unfold macsO
 rw [List.take_succ_eq_append_getElem hk, List.filterMap_append]
 cases h : macO l[k] <;> simp [List.filterMap_cons, h]
theorem macsO_len (l : List ByteArray) : (macsO l).length ≤ l.length := List.length_filterMap_le _ _
theorem macsO_rev (l : List ByteArray) : macsO l.reverse = (macsO l).reverse := by
 unfold macsO
 rw [List.filterMap_reverse]
theorem macsO_sub (l : List ByteArray) (k : Nat) : (macsO (l.take k)).Sublist (macsO l) := List.Sublist.filterMap _ (List.take_sublist k l)
theorem nodup_take {l : List ByteArray} (h : ((macsO l).map nmB).Nodup) (k : Nat) : ((macsO (l.take k)).map nmB).Nodup := List.Nodup.sublist ((macsO_sub l k).map nmB) h
theorem nodup_rev {l : List ByteArray} (h : ((macsO l).map nmB).Nodup) : ((macsO l.reverse).map nmB).Nodup := by
 rw [macsO_rev, List.map_reverse]
 exact List.pairwise_reverse.2 (List.Pairwise.imp (fun h => Ne.symm h) h)
theorem macsO_good (l : List ByteArray) (h : ∀ s ∈ l, s.size ≤ 1048576) : ∀ m ∈ macsO l, DomM m.nm m.params m.body ∧ rightP m.nm m.fn m.params m.more m.body = true := by
 intro m hm
 obtain ⟨s, h1, h2⟩ := List.mem_filterMap.1 hm
 exact ⟨parseP_dom (toksO_dom s (h s h1)) h2, parseP_right h2⟩
theorem look_take (l : List ByteArray) (k : Nat) (hk : k < l.length) (hnd : ((macsO l).map nmB).Nodup) : ((macO l[k]).isSome = true → look (macsO (l.take k)) (macZ l[k]).nm.data.toList = none) ∧
  look (macsO (l.take (k + 1))) = (if (macO l[k]).isSome then (fun y => if y = (macZ l[k]).nm.data.toList then some (macZ l[k]) else look (macsO (l.take k)) y) else look (macsO (l.take k))) ∧
  (macsO (l.take (k + 1))).length = (if (macO l[k]).isSome then (macsO (l.take k)).length + 1 else (macsO (l.take k)).length) := by
 have h1 := macsO_take l k hk
 have h2 := nodup_take hnd (k + 1)
 rw [h1] at h2 ⊢
 unfold macZ
 cases hm : macO l[k] with
 | none => simp
 | some m =>
  rw [hm] at h2
  simp only [Option.toList_some, List.map_append, List.map_cons, List.map_nil] at h2
  have hn : look (macsO (l.take k)) (nmB m) = none := by
   rw [look_none]
   intro m' hm' e
   rw [List.nodup_append] at h2
   exact h2.2.2 _ (List.mem_map_of_mem hm') _ (List.mem_singleton.2 rfl) e
  refine ⟨fun _ => hn, ?_, by simp⟩
  simp only [Option.isSome_some, if_true, Option.toList_some, Option.getD_some]
  exact (look_snoc _ m hn).symm
def StepM (mb : Nat) (w w' : World) : Prop := ∃ w1, Below w.heap.size w w1 ∧ (w1 = w' ∨ w1.mapTurned w' mb)
theorem StepM.below {mb B : Nat} {w0 w w' : World} (h : StepM mb w w') (h0 : Below B w0 w) (hB : B ≤ mb) (hBs : B ≤ w.heap.size) : Below B w0 w' := by
 obtain ⟨w1, h1, h2⟩ := h
 have h3 : Below B w0 w1 := h0.trans (h1.mono hBs)
 rcases h2 with rfl | h2
 ·exact h3
 ·exact below_turned h3 h2 hB
theorem StepM.strs {mb : Nat} {w w' : World} {A : Option Addr} {n : Nat} {l : List ByteArray} (h : StepM mb w w') (hC : Kd.C Kd.string w A n l) : Kd.C Kd.string w' A n l := by
 obtain ⟨w1, h1, h2⟩ := h
 have h3 := Kd.C_below hC h1
 rcases h2 with rfl | h2
 ·exact h3
 ·exact Cs_turned h3 h2
theorem StepM.toks {mb : Nat} {w w' : World} {A : Option Addr} {n : Nat} {l : List S48} (h : StepM mb w w') (hC : Kd.C k48 w A n l) : Kd.C k48 w' A n l := by
 obtain ⟨w1, h1, h2⟩ := h
 have h3 := Kd.C_below hC h1
 rcases h2 with rfl | h2
 ·exact h3
 ·exact Ck_turned h3 h2
theorem StepM.tab {mb p mb' n : Nat} {w w' : World} {T : List UInt8 → Option MacP} (h : StepM mb w w') (hT : TabR w p mb' n T) (hne : mb' ≠ mb) : TabR w' p mb' n T := by
 obtain ⟨w1, h1, h2⟩ := h
 have h3 := hT.below h1
 rcases h2 with rfl | h2
 ·exact h3
 ·exact h3.turnedO h2 hne
theorem StepM.block {mb i : Nat} {w w' : World} {cs : Array Value} {ty : TypeId} {fr : Nat × Nat} (h : StepM mb w w') (hb : w.heap[i]? = some (.cells cs ty fr)) : w'.heap[i]? = some (.cells cs ty fr) := by
 obtain ⟨w1, h1, h2⟩ := h
 have h3 : w1.heap[i]? = some (.cells cs ty fr) := (h1.block _ (blk_lt hb)).trans hb
 rcases h2 with rfl | h2
 ·exact h3
 ·exact turned_other h2 h3
theorem tab_step {mb : Nat} {w w' : World} (h : Tab w) (hs : StepM mb w w') : Tab w' := by
 obtain ⟨w1, h1, h2⟩ := hs
 have h3 := h.grow h1
 rcases h2 with rfl | h2
 ·exact h3
 ·obtain ⟨⟨t, fr, e⟩, m, e2⟩ := h3
  exact ⟨⟨t, fr, turned_other h2 e⟩, m, cell_turned h2 e2⟩
theorem define_any (p mb n : Nat) (T : List UInt8 → Option MacP) (nm : ByteArray) (fn more : Bool) (Ap Ab : Option Addr) (cp cb : Nat) (ps : List ByteArray) (body : List S48) (b : Bool) (w : World) (hT : Tab w) (hd : DomM nm ps body) (h : TabR w p mb n T) (hr : rightP nm fn ps more body = b) (hnew : b = true → T nm.data.toList = none) (hn : n < 1000)
  (hP : Kd.C Kd.string w Ap ps.length ps) (hpc : ps.length ≤ cp) (hB : Kd.C k48 w Ab body.length body) (hbc : body.length ≤ cb) :
  Calls Tryd.prog 22 #[.pointer (some ⟨p, 0, none⟩), .agg #[.string nm, .bool fn, .slice Ap ps.length cp, .bool more, .slice Ab body.length cb]] w fun e w' => ∃ c : Int, e = .returned (.int .i64 c) ∧ TabR w' p mb (if b then n + 1 else n) (if b then (fun y => if y = nm.data.toList then some ⟨nm, fn, ps, more, body⟩ else T y) else T) ∧ StepM mb w w' := by
 cases b with
 | true =>
  refine (define_new p mb n T nm fn more Ap Ab cp cb ps body w hT hd h hr (hnew rfl) hn hP hpc hB hbc).mono ?_
  rintro e w' ⟨rfl, h1, w1, h2, h3⟩
  exact ⟨0, rfl, h1, w1, h2, Or.inr h3⟩
 | false =>
  refine (define_wrong p nm fn more Ap Ab cp cb ps body w hT hd hr hP hpc hB hbc).mono ?_
  rintro e w' ⟨rfl, h1⟩
  exact ⟨2, rfl, h.below h1, w', h1, Or.inl rfl⟩
theorem names_s (p mb n : Nat) (ms : List MacP) (SS : List ByteArray) (w : World) (h : TabR w p mb n (look ms)) (hnd : (ms.map nmB).Nodup) (hn : n ≤ 1000) (hS : sortedN ms = SS) :
  Calls Tryd.prog 24 #[.pointer (some ⟨p, 0, none⟩)] w fun e w' => ∃ A c, e = .returned (.slice A SS.length c) ∧ Kd.C Kd.string w' A SS.length SS ∧ SS.length ≤ c ∧ Below w.heap.size w w' := by
 subst hS
 refine (namesR_c p mb n ms w h hnd hn).mono ?_
 rintro e w' ⟨A, c, rfl, hR, hb⟩
 have h2 := Kd.R_reads' hR
 exact ⟨A, c, rfl, h2.2.2, h2.2.1, hb⟩
theorem requal_self (m : MacP) (hd : DomM m.nm m.params m.body) (hr : rightP m.nm m.fn m.params m.more m.body = true) : burinref03_Equal.f 3000000 m.nm m.fn m.params m.more m.body m.nm m.fn m.params m.more m.body = some true := by
 obtain ⟨d1, d2, d3, _⟩ := hd
 obtain ⟨_, h16, _⟩ := rightP_parts hr
 rw [requal_f _ _ _ _ _ _ _ _ _ _ _ (by omega) d3 (by omega), toksEq_refl, strsEq_refl]; simp
end Go.Proofs.YtcbfbefpbjmglaaDoor.Mac
namespace Go.Proofs.YtcbfbefpbjmglaaDoor.Mac
open Go.RowKit Go.Proofs.MapFun Go.Proofs.YtcbfbefpbjmglaaDoor.PA Go.Proofs.YtcbfbefpbjmglaaDoorT Go.Proofs.YtcbfbefpbjmglaaDoorW.PrintWords Go.Proofs.YtcbfbefpbjmglaaDoorW.PrintLast Go.Proofs.YtcbfbefpbjmglaaDoorW.PrintMore
set_option linter.unusedVariables false
set_option linter.unusedSimpArgs false
attribute [local go_sem] Oper.semAt_some max2_int min2_int max_two min_two
theorem C_at {w : World} {A : Option Addr} {l : List ByteArray} (h : Kd.C Kd.string w A l.length l) (k : Nat) (hk : k < l.length) : ∃ ad, A = some ad ∧ w.cell? (ad.add k) = some (.string l[k]) := by
 obtain ⟨ad, e, hx⟩ := Kd.at_string h (k : Int) (by omega) (by omega)
 refine ⟨ad, e, ?_⟩
 have h2 : rdOf ByteArray.empty l (k : Int) = l[k] := by
  unfold rdOf
  simp [hk]
 rw [h2] at hx
 simpa using hx
theorem C_take {w : World} {A : Option Addr} {l : List ByteArray} (h : Kd.C Kd.string w A l.length l) (m : Nat) : Kd.C Kd.string w A (l.take m).length (l.take m) := by
 have h0 := h.2.1
 refine ⟨rfl, by rw [List.length_take]; omega, fun hn => ?_⟩
 rw [List.length_take] at hn
 obtain ⟨ad, e, hc⟩ := h.2.2 (by omega)
 refine ⟨ad, e, fun j p hj => hc j p ?_⟩
 rw [List.getElem?_take] at hj
 split at hj
 ·exact hj
 ·cases hj
def Ord2 (w : World) (L NS : List ByteArray) (NA : Option Addr) (p mb q mq : Nat) (i : Value) (W : World) : Prop :=
 ∃ k : Nat, k ≤ L.length ∧ i = .int .i64 k ∧ Below w.heap.size w W ∧ Kd.C Kd.string W NA NS.length NS ∧ TabR W p mb (macsO (L.take k)).length (look (macsO (L.take k))) ∧ TabR W q mq (macsO (L.reverse.take k)).length (look (macsO (L.reverse.take k)))
def Ord1 (W3 : World) (L : List ByteArray) (names i : Value) (W : World) : Prop :=
 ∃ k : Nat, k ≤ L.length ∧ i = .int .i64 k ∧ Kd.string.R 9 W W3.heap.size (fun _ => True) names ((macsO (L.take k)).map MacP.nm) ∧ ((macsO (L.take k)).map nmB).Nodup ∧ Below W3.heap.size W3 W
set_option maxRecDepth 100000 in
set_option maxHeartbeats 2000000 in
theorem order_c (l : List ByteArray) (A : Option Addr) (c : Nat) (w : World) (hT : Tab w) (hC : Kd.C Kd.string w A l.length l) (hc : l.length ≤ c) (hs : ∀ s ∈ l, s.size ≤ 1048576) (hl : l.length ≤ 1048576) :
  Calls Tryd.prog 7 #[.slice A l.length c] w fun e w' => e = .returned (.bool true) ∧ Below w.heap.size w w' := by
 obtain ⟨L, hL⟩ : ∃ L, l.take 30 = L := ⟨_, rfl⟩
 have hLn : L.length = min l.length 30 := by rw [← hL, List.length_take]; omega
 have HX := Lib.hid (And.intro hT (And.intro (hL ▸ C_take hC 30) (And.intro (fun s (h : s ∈ L) => hs s (List.mem_of_mem_take (hL ▸ h : s ∈ l.take 30))) hLn)))
 clear hT hC hs hL hLn
 have ST1 : True := trivial
 go_enter Tryd.func7, Tryd.ntmps7
 go_upto_region 2 with (first
  | (have g_ := ST1; clear g_ ST1; go_at_call 9; refine (shown_c _ HX.out.1).mono ?_; rintro e W1 ⟨rfl, hb1⟩; have H1 := Lib.hid hb1; clear hb1))
 go_cut [0] (fun s wc => s = .slice A L.length c ∧ wc = W1)
 case first =>
  rcases Nat.lt_or_ge 30 l.length with h30 | h30
  ·go_wp2
   go_meet
   case rel =>
    have e : L.length = 30 := by have := HX.out.2.2.2; omega
    exact ⟨by rw [e], rfl⟩
  ·go_wp2
   go_meet
   case rel =>
    have e : L.length = l.length := by have := HX.out.2.2.2; omega
    exact ⟨by rw [e], rfl⟩
 case rest =>
  obtain ⟨rfl, rfl⟩ := hcut
  have ST2 : True := trivial
  go_upto_region 6 with (first
   | (have g_ := ST2; clear g_ ST2; go_at_call 21; refine (new_c _).mono ?_; rintro e W2 ⟨p, mb, rfl, hTab2, hmb, hb2⟩; have H2 := Lib.hid (And.intro hTab2 (And.intro hmb hb2)); clear hTab2 hmb hb2; have ST3 : True := trivial)
   | (have g_ := ST3; clear g_ ST3; go_at_call 21; refine (new_c _).mono ?_; rintro e W3 ⟨q, mq, rfl, hTab3, hmq, hb3⟩; have H3 := Lib.hid (And.intro hTab3 (And.intro hmq hb3)); clear hTab3 hmq hb3))
  have hbw : Below w.heap.size w W3 := (H1.out.trans (H2.out.2.2.mono H1.out.size)).trans (H3.out.2.2.mono (Nat.le_trans H1.out.size H2.out.2.2.size))
  have hLs : L.length ≤ 30 := by have := HX.out.2.2.2; omega
  have HB := Lib.hid (And.intro hbw (And.intro (Kd.C_below HX.out.2.1 hbw) (And.intro (HX.out.1.grow hbw) hLs)))
  clear hbw hLs
  go_wp2
  go_loopw [6, 7] (fun names i W => Ord1 W3 L names i W) (fun _ i _ => L.length - (RowKit.intOf i).toNat)
  case atStart => exact ⟨0, Nat.zero_le _, rfl, Kd.R_nil _ _ _ _ _, List.nodup_nil, Below.refl _ _⟩
  case round =>
   obtain ⟨k, hk, rfl, hR, hnd, hbr⟩ := hrel
   have HW := Lib.hid (show wrap64 ((k : Int) + 1) = ((k + 1 : Nat) : Int) by have := HB.out.2.2.2; unfold wrap64; omega)
   obtain ⟨NA, nc, rfl⟩ := Kd.R_slice hR
   rw [List.length_map] at hR
   by_cases hlt : k < L.length
   ·obtain ⟨ad, rfl, hcell⟩ := C_at (Kd.C_below HB.out.2.1 hbr) k hlt
    have hsz := HX.out.2.2.1 L[k] (List.getElem_mem hlt)
    have hlex := lexed_o L[k] hsz
    have hpar := parse_o L[k] hsz
    have htk := macsO_take L k hlt
    have HP := Lib.hid (And.intro hlex (And.intro hpar (And.intro htk (And.intro hR (And.intro hnd hbr)))))
    clear hlex hpar htk hR hnd hbr hsz
    have ST4 : True := trivial
    cases hm : macO L[k] with
    | none =>
     have he : macE L[k] = 30 := by unfold macE; rw [hm]; rfl
     have hpar := HP.out.2.1
     rw [he] at hpar
     have HM := Lib.hid (And.intro hm hpar)
     clear hm he hpar
     generalize hsv : L[k] = sv at hcell
     have hsv := Lib.hid hsv
     go_wp2_with (first
      | (have g_ := ST4; clear g_ ST4; go_at_call 20; refine (burinlaw03_lexed.calls sv (toksO sv) _ (HB.out.2.2.1.grow HP.out.2.2.2.2.2) (hsv.out ▸ HP.out.1)).mono ?_; rintro e W5 ⟨v5, rfl, hR5, hb5⟩; obtain ⟨A5, c5, rfl⟩ := Kd.R_slice hR5; have H5 := Lib.hid (And.intro (Kd.R_reads' hR5) hb5); clear hR5 hb5; have ST5 : True := trivial)
      | (have g_ := ST5; clear g_ ST5; go_at_call 11; refine (macro_Parse.calls A5 c5 (toksO sv) _ _ _ _ _ _ _ H5.out.1.2.2 H5.out.1.2.1 (HB.out.2.2.1.grow (HP.out.2.2.2.2.2.trans (H5.out.2.mono HP.out.2.2.2.2.2.size))) (hsv.out ▸ HM.out.2)).mono ?_; rintro e W6 ⟨v6, v7, rfl, hR6, hR7, hb6⟩; obtain ⟨A6, c6, rfl⟩ := Kd.R_slice hR6; obtain ⟨A7, c7, rfl⟩ := Kd.R_slice hR7; have H6 := Lib.hid (H5.out.2.trans (hb6.mono H5.out.2.size)); clear hR6 hR7 hb6))
     have hb7 := H6.out.alloc H6.out.size (.cells #[.string (macZ sv).nm, .bool (macZ sv).fn, .slice A6 (macZ sv).params.length c6, .bool (macZ sv).more, .slice A7 (macZ sv).body.length c7] 32)
     have htk := HP.out.2.2.1
     rw [HM.out.1, Option.toList_none, List.append_nil] at htk
     refine ⟨⟨k + 1, hlt, by rw [HW.out], ?_, ?_, HP.out.2.2.2.2.2.trans (hb7.mono HP.out.2.2.2.2.2.size)⟩, by rw [HW.out]; simp [RowKit.intOf]; omega⟩
     ·rw [htk]; exact Kd.R_below HP.out.2.2.2.1 hb7
     ·rw [htk]; exact HP.out.2.2.2.2.1
    | some m =>
     obtain ⟨nm, fn, ps, more, body⟩ := m
     have he : macE L[k] = 0 := by unfold macE; rw [hm]; rfl
     have hz : macZ L[k] = ⟨nm, fn, ps, more, body⟩ := by unfold macZ; rw [hm]; rfl
     have hpar := HP.out.2.1
     rw [he, hz] at hpar
     have HM := Lib.hid (And.intro hm hpar)
     clear hm he hpar hz
     generalize hsv : L[k] = sv at hcell
     have hsv := Lib.hid hsv
     go_upto_region 11 with (first
      | (have g_ := ST4; clear g_ ST4; go_at_call 20; refine (burinlaw03_lexed.calls sv (toksO sv) _ (HB.out.2.2.1.grow HP.out.2.2.2.2.2) (hsv.out ▸ HP.out.1)).mono ?_; rintro e W5 ⟨v5, rfl, hR5, hb5⟩; obtain ⟨A5, c5, rfl⟩ := Kd.R_slice hR5; have H5 := Lib.hid (And.intro (Kd.R_reads' hR5) hb5); clear hR5 hb5; have ST5 : True := trivial)
      | (have g_ := ST5; clear g_ ST5; go_at_call 11; refine (macro_Parse.calls A5 c5 (toksO sv) _ _ _ _ _ _ _ H5.out.1.2.2 H5.out.1.2.1 (HB.out.2.2.1.grow (HP.out.2.2.2.2.2.trans (H5.out.2.mono HP.out.2.2.2.2.2.size))) (hsv.out ▸ HM.out.2)).mono ?_; rintro e W6 ⟨v6, v7, rfl, hR6, hR7, hb6⟩; obtain ⟨A6, c6, rfl⟩ := Kd.R_slice hR6; obtain ⟨A7, c7, rfl⟩ := Kd.R_slice hR7; have H6 := Lib.hid (And.intro (Kd.R_reads' hR6) (And.intro (Kd.R_reads' hR7) (H5.out.2.trans (hb6.mono H5.out.2.size)))); clear hR6 hR7 hb6))
     obtain ⟨B7, hB7⟩ : ∃ B, W6.heap.size = B := ⟨_, rfl⟩
     obtain ⟨W7, hW7⟩ : ∃ W', W6.alloc (.cells #[.string nm, .bool fn, .slice A6 ps.length c6, .bool more, .slice A7 body.length c7] 32) = W' := ⟨_, rfl⟩
     have q7 : W7.heap[B7]? = some (.cells #[.string nm, .bool fn, .slice A6 ps.length c6, .bool more, .slice A7 body.length c7] 32 (0, 0)) := by rw [← hW7, ← hB7]; exact blk_new W6 _
     have hb7 : Below wr.heap.size wr W7 := by rw [← hW7]; exact H6.out.2.2.alloc H6.out.2.2.size _
     have hR7 := Kd.R_below HP.out.2.2.2.1 hb7
     obtain ⟨NS, hNS⟩ : ∃ NS, (macsO (L.take k)).map MacP.nm = NS := ⟨_, rfl⟩
     have hl7 : (macsO (L.take k)).length = NS.length := by rw [← hNS, List.length_map]
     have hl30 : NS.length ≤ 30 := by
      rw [← hl7]
      have h1 := macsO_len (L.take k)
      rw [List.length_take] at h1
      have := HB.out.2.2.2
      omega
     rw [hNS, hl7] at hR7
     rw [hW7]
     try rw [hB7]
     try rw [hl7]
     have b0 := blk_cell q7 0
     have HN := Lib.hid (And.intro hR7 (And.intro hb7 (And.intro hNS (And.intro hl7 hl30))))
     clear hR7 hb7 hNS hl7 hW7 hl30
     go_wp2
     clear q7 hcell
     go_loopw [10] (fun j W => ∃ q1 d : Nat, q1 ≤ NS.length ∧ j = .int .i64 q1 ∧ W = W7.drewN d ∧ ∀ i (h : i < NS.length), i < q1 → NS[i].toList ≠ nm.toList) (fun j _ => NS.length - (RowKit.intOf j).toNat)
     case atStart => exact ⟨0, 0, Nat.zero_le _, rfl, rfl, fun _ _ h => absurd h (Nat.not_lt_zero _)⟩
     case round =>
      obtain ⟨q1, d, hq1, rfl, rfl, hall⟩ := hrel
      have HA := Lib.hid hall
      clear hall
      by_cases hlt1 : q1 < NS.length
      ·obtain ⟨ad1, rfl, hcell1⟩ := C_at (Kd.R_reads' HN.out.1).2.2 q1 hlt1
       have HW1 := Lib.hid (show wrap64 ((q1 : Int) + 1) = ((q1 + 1 : Nat) : Int) by have := HN.out.2.2.2.2; unfold wrap64; omega)
       generalize hs1 : NS[q1] = s1 at hcell1
       have HS1 := Lib.hid hs1
       clear hs1
       by_cases heq : s1.toList = nm.toList
       ·have heq1 : (s1.toList == nm.toList) = true := beq_iff_eq.mpr heq
        clear heq
        go_wp2
        repeat (go_quiet (fail); try go_wp2)
        go_ret
        exact ⟨rfl, pw_below_drewN (pw_below_drewN (HB.out.1.trans ((HP.out.2.2.2.2.2.trans (HN.out.2.1.mono HP.out.2.2.2.2.2.size)).mono HB.out.1.size)) _) _⟩
       ·have heq1 : (s1.toList == nm.toList) = false := beq_eq_false_iff_ne.mpr heq
        have HQ := Lib.hid heq
        clear heq
        go_wp2
        repeat (go_quiet (fail); try go_wp2)
        go_roundw
        case rel =>
         refine ⟨q1 + 1, _, hlt1, by rw [HW1.out], rfl, fun i hi h1 => ?_⟩
         rcases Nat.lt_succ_iff_lt_or_eq.1 h1 with h1 | rfl
         ·exact HA.out i hi h1
         ·rw [HS1.out]; exact HQ.out
        case measure => rw [HW1.out]; simp [RowKit.intOf]; omega
      ·have hq2 : q1 = NS.length := by omega
       subst hq2
       clear hq1 hlt1
       have HR := Lib.hid (Kd.R_drewN HN.out.1 d)
       go_wp2_with ((with_reducible refine gate_builtin (b := .append) (xs := #[.tmp 60, .tmp 63]) rfl ?_); at_builtin; refine Kd.R_append Kd.string (w0 := W3) W3.heap.size rfl (.tmp 60) (.tmp 63) 30 9 (.string ⟨#[]⟩) 16 rfl Tryd.underlying30 info9 rfl (by decide) (by omega) (.slice NA NS.length nc) NS nm [.string nm] (fun _ => True) (fun _ => False) rfl rfl ?aP (fun _ hk => hk.elim) ?aF ?aO ?aB ?aS ?aL ?_; (case aP => exact rfl); (case aF => exact (fun _ _ => trivial)); (case aO => exact HR.out); (case aB => exact pw_below_drewN (HP.out.2.2.2.2.2.trans (HN.out.2.1.mono HP.out.2.2.2.2.2.size)) _); (case aS => exact (pw_below_drewN (HP.out.2.2.2.2.2.trans (HN.out.2.1.mono HP.out.2.2.2.2.2.size)) _).size); (case aL => have := HN.out.2.2.2.2; omega); intro v8 w8 ho8 hb8 hg8 hat8; have H8 := Lib.hid (And.intro ho8 hb8); clear ho8 hb8 hg8 hat8)
       have htk := HP.out.2.2.1
       rw [HM.out.1, Option.toList_some] at htk
       refine ⟨⟨k + 1, hlt, by rw [HW.out], ?_, ?_, H8.out.2⟩, by rw [HW.out]; simp [RowKit.intOf]; omega⟩
       ·rw [htk, List.map_append, HN.out.2.2.1]
        exact H8.out.1
       ·rw [htk, List.map_append, List.nodup_append]
        refine ⟨HP.out.2.2.2.2.1, by simp, fun a ha b hb e => ?_⟩
        obtain ⟨m1, hm1, rfl⟩ := List.mem_map.1 ha
        obtain ⟨m2, hm2, rfl⟩ := List.mem_map.1 hb
        obtain rfl := List.mem_singleton.1 hm2
        have h1 : m1.nm ∈ NS := by rw [← HN.out.2.2.1]; exact List.mem_map_of_mem hm1
        obtain ⟨j, hj, h2⟩ := List.getElem_of_mem h1
        refine HA.out j hj hj ?_
        rw [h2, ByteArray.toList_eq, ByteArray.toList_eq]
        exact e
   ·have hkl : k = L.length := by omega
    subst hkl
    rw [List.take_length] at hR hnd
    obtain ⟨NS, hNS⟩ : ∃ NS, (macsO L).map MacP.nm = NS := ⟨_, rfl⟩
    have hl7 : ((macsO (L.take L.length)).map MacP.nm).length = NS.length := by rw [← hNS, List.take_length]
    have hl8 : (macsO L).length = NS.length := by rw [← hNS, List.length_map]
    rw [hNS, hl8] at hR
    rw [hl7]
    have hbw : Below w.heap.size w wr := HB.out.1.trans (hbr.mono HB.out.1.size)
    have hne : mq ≠ mb := by
     obtain ⟨f, hf, _⟩ := H2.out.1.hm
     have := hf.lt
     have := H3.out.2.1
     omega
    have hmb : w.heap.size ≤ mb ∧ w.heap.size ≤ mq := by
     have h1 := H1.out.size
     have h2 := H2.out.2.2.size
     have h3 := H2.out.2.1
     have h4 := H3.out.2.1
     omega
    have hNl : NS.length ≤ 30 := by
     rw [← hl8]
     have := macsO_len L
     have := HB.out.2.2.2
     omega
    have HN := Lib.hid (And.intro (Kd.R_reads' hR).2.2 (And.intro hNS (And.intro hl8 (And.intro hnd (And.intro hbw (And.intro hmb (And.intro hne hNl)))))))
    have HT2 := Lib.hid (And.intro ((H2.out.1.below H3.out.2.2).below hbr) (H3.out.1.below hbr))
    clear hR hNS hnd hbw hmb hne hk hlt HW hl7 hl8 hbr hNl
    go_wp2
    go_loopw [11] (fun i W => Ord2 w L NS NA p mb q mq i W) (fun i _ => L.length - (RowKit.intOf i).toNat)
    case atStart => exact ⟨0, Nat.zero_le _, rfl, HN.out.2.2.2.2.1, HN.out.1, HT2.out.1, HT2.out.2⟩
    case round =>
     clear HT2
     obtain ⟨k, hk, rfl, hbw, hCN, hTa, hTb⟩ := hrel
     by_cases hlt : k < L.length
     ·have hCL := Kd.C_below HX.out.2.1 hbw
      have hj : L.length - 1 - k < L.length := by omega
      obtain ⟨ad, rfl, hcell⟩ := C_at hCL k hlt
      obtain ⟨ad', e', hcell'⟩ := C_at hCL (L.length - 1 - k) hj
      cases e'
      have hs1 := HX.out.2.2.1 L[k] (List.getElem_mem hlt)
      have hs2 := HX.out.2.2.1 L[L.length - 1 - k] (List.getElem_mem hj)
      have K1 := look_take L k hlt HN.out.2.2.2.1
      have hrl : k < L.reverse.length := by rw [List.length_reverse]; exact hlt
      have K2 := look_take L.reverse k hrl (nodup_rev HN.out.2.2.2.1)
      rw [show L.reverse[k] = L[L.length - 1 - k] by simp] at K2
      have hn1 : (macsO (L.take k)).length < 1000 := by
       have h1 := macsO_len (L.take k)
       rw [List.length_take] at h1
       have := HB.out.2.2.2
       omega
      have hn2 : (macsO (L.reverse.take k)).length < 1000 := by
       have h1 := macsO_len (L.reverse.take k)
       rw [List.length_take] at h1
       have := HB.out.2.2.2
       omega
      have HW := Lib.hid (show wrap64 ((k : Int) + 1) = ((k + 1 : Nat) : Int) by have := HB.out.2.2.2; unfold wrap64; omega)
      generalize L[k] = s1 at hcell K1 hs1
      generalize L[L.length - 1 - k] = s2 at hcell' K2 hs2
      have hixx : wrap64 (wrap64 ((L.length : Int) - 1) - (k : Int)) = ((L.length - 1 - k : Nat) : Int) := by have := HB.out.2.2.2; unfold wrap64; omega
      generalize L.length - 1 - k = j at hcell' hixx hj
      have HJ := Lib.hid (And.intro hixx hj)
      clear hixx hj
      have hTw := HX.out.1.grow hbw
      have HS := Lib.hid (And.intro hs1 (And.intro hs2 (And.intro K1 (And.intro K2 (And.intro hn1 (And.intro hn2 (And.intro hbw (And.intro hCN (And.intro hTa (And.intro hTb hTw))))))))))
      clear hs1 hs2 K1 K2 hn1 hn2 hbw hCN hTa hTb hTw hrl hCL
      have ST5 : True := trivial
      go_upto_region 21 with (first
       | (have g_ := ST5; clear g_ ST5; go_at_call 20; refine (burinlaw03_lexed.calls s1 (toksO s1) _ HS.out.2.2.2.2.2.2.2.2.2.2 (lexed_o s1 HS.out.1)).mono ?_; rintro e W5 ⟨v5, rfl, hR5, hb5⟩; obtain ⟨A5, c5, rfl⟩ := Kd.R_slice hR5; have H5 := Lib.hid (And.intro (Kd.R_reads' hR5) hb5); clear hR5 hb5; have ST6 : True := trivial)
       | (have g_ := ST6; clear g_ ST6; go_at_call 11; refine (macro_Parse.calls A5 c5 (toksO s1) _ _ _ _ _ _ _ H5.out.1.2.2 H5.out.1.2.1 (HS.out.2.2.2.2.2.2.2.2.2.2.grow H5.out.2) (parse_o s1 HS.out.1)).mono ?_; rintro e W6 ⟨v6, v7, rfl, hR6, hR7, hb6⟩; obtain ⟨A6, c6, rfl⟩ := Kd.R_slice hR6; obtain ⟨A7, c7, rfl⟩ := Kd.R_slice hR7; have H6 := Lib.hid (And.intro (Kd.R_reads' hR6) (And.intro (Kd.R_reads' hR7) (H5.out.2.trans (hb6.mono H5.out.2.size)))); clear hR6 hR7 hb6))
      obtain ⟨B7, hB7⟩ : ∃ B, W6.heap.size = B := ⟨_, rfl⟩
      obtain ⟨W7, hW7⟩ : ∃ W', W6.alloc (.cells #[.string (macZ s1).nm, .bool (macZ s1).fn, .slice A6 (macZ s1).params.length c6, .bool (macZ s1).more, .slice A7 (macZ s1).body.length c7] 32) = W' := ⟨_, rfl⟩
      have q7 : W7.heap[B7]? = some (.cells #[.string (macZ s1).nm, .bool (macZ s1).fn, .slice A6 (macZ s1).params.length c6, .bool (macZ s1).more, .slice A7 (macZ s1).body.length c7] 32 (0, 0)) := by rw [← hW7, ← hB7]; exact blk_new W6 _
      have hb7 : Below wr.heap.size wr W7 := by rw [← hW7]; exact H6.out.2.2.alloc H6.out.2.2.size _
      have hP7 : Kd.C Kd.string W7 A6 (macZ s1).params.length (macZ s1).params := by rw [← hW7]; exact Kd.C_alloc H6.out.1.2.2 _
      have hB7' : Kd.C k48 W7 A7 (macZ s1).body.length (macZ s1).body := by rw [← hW7]; exact Kd.C_alloc H6.out.2.1.2.2 _
      have hcell2 := (hb7.cell (World.block_lt_of_cell? _ _ hcell')).trans hcell'
      rw [hW7]
      try rw [hB7]
      have HT7 := HS.out.2.2.2.2.2.2.2.2.2.2.grow hb7
      have H7 := Lib.hid (And.intro q7 (And.intro hb7 (And.intro hP7 (And.intro hB7' HT7))))
      clear hW7 q7 hb7 hP7 hB7' HT7 hcell hcell'
      have ST7 : True := trivial
      have hix := HJ.out.1
      have hj := HJ.out.2
      go_upto_region 22 with (first
       | (have g_ := ST7; clear g_ ST7; go_at_call 20; refine (burinlaw03_lexed.calls s2 (toksO s2) _ H7.out.2.2.2.2 (lexed_o s2 HS.out.2.1)).mono ?_; rintro e W8 ⟨v8, rfl, hR8, hb8⟩; obtain ⟨A8, c8, rfl⟩ := Kd.R_slice hR8; have H8 := Lib.hid (And.intro (Kd.R_reads' hR8) hb8); clear hR8 hb8; have ST8 : True := trivial)
       | (have g_ := ST8; clear g_ ST8; go_at_call 11; refine (macro_Parse.calls A8 c8 (toksO s2) _ _ _ _ _ _ _ H8.out.1.2.2 H8.out.1.2.1 (H7.out.2.2.2.2.grow H8.out.2) (parse_o s2 HS.out.2.1)).mono ?_; rintro e W9 ⟨v9, v10, rfl, hR9, hR10, hb9⟩; obtain ⟨A9, c9, rfl⟩ := Kd.R_slice hR9; obtain ⟨A10, c10, rfl⟩ := Kd.R_slice hR10; have H9 := Lib.hid (And.intro (Kd.R_reads' hR9) (And.intro (Kd.R_reads' hR10) (H8.out.2.trans (hb9.mono H8.out.2.size)))); clear hR9 hR10 hb9))
      obtain ⟨B10, hB10⟩ : ∃ B, W9.heap.size = B := ⟨_, rfl⟩
      obtain ⟨W10, hW10⟩ : ∃ W', W9.alloc (.cells #[.string (macZ s2).nm, .bool (macZ s2).fn, .slice A9 (macZ s2).params.length c9, .bool (macZ s2).more, .slice A10 (macZ s2).body.length c10] 32) = W' := ⟨_, rfl⟩
      have q10 : W10.heap[B10]? = some (.cells #[.string (macZ s2).nm, .bool (macZ s2).fn, .slice A9 (macZ s2).params.length c9, .bool (macZ s2).more, .slice A10 (macZ s2).body.length c10] 32 (0, 0)) := by rw [← hW10, ← hB10]; exact blk_new W9 _
      have hb10 : Below W7.heap.size W7 W10 := by rw [← hW10]; exact H9.out.2.2.alloc H9.out.2.2.size _
      have hP10 : Kd.C Kd.string W10 A9 (macZ s2).params.length (macZ s2).params := by rw [← hW10]; exact Kd.C_alloc H9.out.1.2.2 _
      have hB10' : Kd.C k48 W10 A10 (macZ s2).body.length (macZ s2).body := by rw [← hW10]; exact Kd.C_alloc H9.out.2.1.2.2 _
      have q7 := (hb10.block _ (blk_lt H7.out.1)).trans H7.out.1
      have hbr10 : Below wr.heap.size wr W10 := H7.out.2.1.trans (hb10.mono H7.out.2.1.size)
      rw [hW10]
      try rw [hB10]
      have a0 := blk_cell q7 0
      have a1 := blk_cell q7 1
      have a2 := blk_cell q7 2
      have a3 := blk_cell q7 3
      have a4 := blk_cell q7 4
      have H10 := Lib.hid (And.intro q10 (And.intro hbr10 (And.intro hP10 (And.intro hB10' (And.intro (H7.out.2.2.2.2.grow hb10) (And.intro (Kd.C_below H7.out.2.2.1 hb10) (And.intro (Kd.C_below H7.out.2.2.2.1 hb10) (And.intro (HS.out.2.2.2.2.2.2.2.2.1.below hbr10) (HS.out.2.2.2.2.2.2.2.2.2.1.below hbr10)))))))))
      have HD1 := Lib.hid (macZ_dom s1 HS.out.1)
      have HD2 := Lib.hid (macZ_dom s2 HS.out.2.1)
      clear hW10 q10 hbr10 hP10 hB10' hb10 q7 hcell2 hix hj
      have ST9 : True := trivial
      go_wp2_with (first
       | (have g_ := ST9; clear g_ ST9; go_at_call 22; refine (define_any p mb (macsO (L.take k)).length (look (macsO (L.take k))) (macZ s1).nm (macZ s1).fn (macZ s1).more A6 A7 c6 c7 (macZ s1).params (macZ s1).body (macO s1).isSome _ H10.out.2.2.2.2.1 HD1.out H10.out.2.2.2.2.2.2.2.1 (macZ_right s1) HS.out.2.2.1.1 HS.out.2.2.2.2.1 H10.out.2.2.2.2.2.1 H6.out.1.2.1 H10.out.2.2.2.2.2.2.1 H6.out.2.1.2.1).mono ?_; rintro e W11 ⟨e1, rfl, hT11, hS11⟩; clear a0 a1 a2 a3 a4; have qb := hS11.block H10.out.1; have b0 := blk_cell qb 0; have b1 := blk_cell qb 1; have b2 := blk_cell qb 2; have b3 := blk_cell qb 3; have b4 := blk_cell qb 4; have H11 := Lib.hid (And.intro hT11 hS11); clear qb hT11 hS11; have ST10 : True := trivial)
       | (have g_ := ST10; clear g_ ST10; go_at_call 22; refine (define_any q mq (macsO (L.reverse.take k)).length (look (macsO (L.reverse.take k))) (macZ s2).nm (macZ s2).fn (macZ s2).more A9 A10 c9 c10 (macZ s2).params (macZ s2).body (macO s2).isSome _ (tab_step H10.out.2.2.2.2.1 H11.out.2) HD2.out (H11.out.2.tab H10.out.2.2.2.2.2.2.2.2 HN.out.2.2.2.2.2.2.1) (macZ_right s2) HS.out.2.2.2.1.1 HS.out.2.2.2.2.2.1 (H11.out.2.strs H10.out.2.2.1) H9.out.1.2.1 (H11.out.2.toks H10.out.2.2.2.1) H9.out.2.1.2.1).mono ?_; rintro e W12 ⟨e2, rfl, hT12, hS12⟩; have H12 := Lib.hid (And.intro hT12 hS12); clear hT12 hS12 b0 b1 b2 b3 b4))
      have x1 := HS.out.2.2.1.2
      have x2 := HS.out.2.2.2.1.2
      have hb11 : Below w.heap.size w W11 := H11.out.2.below (HS.out.2.2.2.2.2.2.1.trans (H10.out.2.1.mono HS.out.2.2.2.2.2.2.1.size)) HN.out.2.2.2.2.2.1.1 (Nat.le_trans HS.out.2.2.2.2.2.2.1.size H10.out.2.1.size)
      refine ⟨⟨k + 1, hlt, by rw [HW.out], H12.out.2.below hb11 HN.out.2.2.2.2.2.1.2 hb11.size, H12.out.2.strs (H11.out.2.strs (Kd.C_below HS.out.2.2.2.2.2.2.2.1 H10.out.2.1)), ?_, ?_⟩, by rw [HW.out]; simp [RowKit.intOf]; omega⟩
      ·rw [x1.1, x1.2]
       exact H12.out.2.tab H11.out.1 (Ne.symm HN.out.2.2.2.2.2.2.1)
      ·rw [x2.1, x2.2]
       exact H12.out.1
     ·obtain rfl : k = L.length := by omega
      have hperm : (macsO L.reverse).Perm (macsO L) := by rw [macsO_rev]; exact List.reverse_perm _
      have hndr := nodup_rev HN.out.2.2.2.1
      rw [List.take_length] at hTa
      rw [show L.reverse.take L.length = L.reverse from List.take_of_length_le (by rw [List.length_reverse]; exact Nat.le_refl _)] at hTb
      obtain ⟨SS, hSS⟩ : ∃ SS, sortedN (macsO L) = SS := ⟨_, rfl⟩
      have hSr : sortedN (macsO L.reverse) = SS := by rw [sortedN_perm hperm, hSS]
      have hlS : NS.length = SS.length := by rw [← hSS, sortedN_len]; exact HN.out.2.2.1.symm
      have hnA : (macsO L).length ≤ 1000 := by have := HN.out.2.2.1; have := HN.out.2.2.2.2.2.2.2; omega
      have hnB : (macsO L.reverse).length ≤ 1000 := by rw [hperm.length_eq]; exact hnA
      rw [hlS]
      have HS := Lib.hid (And.intro hbw (And.intro hCN (And.intro hTa (And.intro hTb (And.intro hndr (And.intro hSS (And.intro hSr (And.intro hlS (And.intro hnA (And.intro hnB hperm))))))))))
      clear hbw hCN hTa hTb hndr hSS hSr hlS hnA hnB hperm hlt hk
      have ST5 : True := trivial
      go_upto_region 26 with (first
       | (have g_ := ST5; clear g_ ST5; go_at_call 24; refine (names_s p mb (macsO L).length (macsO L) SS _ HS.out.2.2.1 HN.out.2.2.2.1 HS.out.2.2.2.2.2.2.2.2.1 HS.out.2.2.2.2.2.1).mono ?_; rintro e W5 ⟨A5, c5, rfl, hC5, hc5, hb5⟩; have H5 := Lib.hid hb5; clear hC5 hc5 hb5; have ST6 : True := trivial)
       | (have g_ := ST6; clear g_ ST6; go_at_call 24; refine (names_s p mb (macsO L).length (macsO L) SS _ (HS.out.2.2.1.below H5.out) HN.out.2.2.2.1 HS.out.2.2.2.2.2.2.2.2.1 HS.out.2.2.2.2.2.1).mono ?_; rintro e W6 ⟨A6, c6, rfl, hC6, hc6, hb6⟩; have H6 := Lib.hid (And.intro hC6 (And.intro hc6 (H5.out.trans (hb6.mono H5.out.size)))); clear hC6 hc6 hb6; have ST7 : True := trivial)
       | (have g_ := ST7; clear g_ ST7; go_at_call 24; refine (names_s q mq (macsO L.reverse).length (macsO L.reverse) SS _ (HS.out.2.2.2.1.below H6.out.2.2) HS.out.2.2.2.2.1 HS.out.2.2.2.2.2.2.2.2.2.1 HS.out.2.2.2.2.2.2.1).mono ?_; rintro e W7 ⟨A7, c7, rfl, hC7, hc7, hb7⟩; have H7 := Lib.hid (And.intro (Kd.C_below H6.out.1 hb7) (And.intro hC7 (And.intro hc7 (H6.out.2.2.trans (hb7.mono H6.out.2.2.size))))); clear hC7 hc7 hb7; have ST8 : True := trivial)
       | (have g_ := ST8; clear g_ ST8; go_at_call 25; refine (burinref03_SameNames.calls 1000001 A6 c6 SS A7 c7 SS true _ H7.out.1 H6.out.2.1 H7.out.2.1 H7.out.2.2.1 (sameNames_f SS ?sl)).mono ?_; (case sl => have := HS.out.2.2.2.2.2.2.2.1; have := HN.out.2.2.2.2.2.2.2; omega); rintro e W8 ⟨rfl, hb8⟩; have H8 := Lib.hid hb8; clear hb8))
      obtain ⟨n8, h8⟩ := H8.out
      have hb8 : Below wr.heap.size wr W8 := by rw [h8]; exact pw_below_drewN H7.out.2.2.2 n8
      have hTb : TabR W8 q mq (macsO L.reverse).length (look (macsO L)) := by
       have h1 := HS.out.2.2.2.1.below hb8
       rw [look_perm HS.out.2.2.2.2.2.2.2.2.2.2 HS.out.2.2.2.2.1] at h1
       exact h1
      have hsz : ∀ y m, look (macsO L) y = some m → m.params.length ≤ 2000000 ∧ m.body.length ≤ 1000000 := fun y m h => by
       have h1 := (macsO_good L HX.out.2.2.1 m (look_some h).1).1
       exact ⟨h1.2.1, h1.2.2.1⟩
      have H9 := Lib.hid (And.intro (HS.out.1.trans (hb8.mono HS.out.1.size)) (And.intro (Kd.C_below HS.out.2.1 hb8) (And.intro (HS.out.2.2.1.below hb8) (And.intro hTb hsz))))
      clear h8 hb8 hTb hsz H8 H7 H6 H5
      go_wp2
      go_loopw [16] (fun i W => ∃ k : Nat, k ≤ SS.length ∧ i = .int .i64 k ∧ Below W8.heap.size W8 W) (fun i _ => SS.length - (RowKit.intOf i).toNat)
      case atStart => exact ⟨0, Nat.zero_le _, rfl, Below.refl _ _⟩
      case round =>
       obtain ⟨k, hk, rfl, hbr⟩ := hrel
       by_cases hlt : k < SS.length
       ·have hltN : k < NS.length := by rw [HS.out.2.2.2.2.2.2.2.1]; exact hlt
        have hltM : k < (macsO L).length := by rw [HN.out.2.2.1]; exact hltN
        obtain ⟨ad, rfl, hcell⟩ := C_at (Kd.C_below H9.out.2.1 hbr) k hltN
        have hnm : NS[k] = ((macsO L)[k]).nm := by
         have h1 := HN.out.2.1
         subst h1
         simp
        have hmem : (macsO L)[k] ∈ macsO L := List.getElem_mem hltM
        rw [hnm] at hcell
        generalize (macsO L)[k] = m at hcell hmem hnm
        obtain ⟨nm, fn, ps, more, body⟩ := m
        have hgd := macsO_good L HX.out.2.2.1 _ hmem
        have hlk : look (macsO L) nm.data.toList = some ⟨nm, fn, ps, more, body⟩ := look_mem HN.out.2.2.2.1 hmem
        have hmx : nm.size < maxLen := by have : nm.size ≤ 1048576 := hgd.1.1; unfold maxLen; omega
        have HW := Lib.hid (show wrap64 ((k : Int) + 1) = ((k + 1 : Nat) : Int) by have := HN.out.2.2.2.2.2.2.2; unfold wrap64; omega)
        have HM := Lib.hid (And.intro (requal_self _ hgd.1 hgd.2) (And.intro hlk (And.intro hmx hbr)))
        clear hgd hlk hmx hbr hmem hnm hltN hltM
        have hcell : wr.cell? (ad.add k) = some (.string nm) := hcell
        have ST5 : True := trivial
        go_upto_region 30 with (have g_ := ST5; clear g_ ST5; go_at_call 23; refine (getm_c p mb _ (look (macsO L)) nm _ HM.out.2.1 HM.out.2.2.1 _ (H9.out.2.2.1.below HM.out.2.2.2) H9.out.2.2.2.2).mono ?_; rintro e W11 ⟨A5, c5, A6, c6, rfl, hR5, hR6, hb11⟩; have H11 := Lib.hid (And.intro (Kd.R_reads' hR5) (And.intro (Kd.R_reads' hR6) hb11)); clear hR5 hR6 hb11)
        obtain ⟨B12, hB12⟩ : ∃ B, W11.heap.size = B := ⟨_, rfl⟩
        obtain ⟨W12, hW12⟩ : ∃ W', W11.alloc (.cells #[.string nm, .bool fn, .slice A5 ps.length c5, .bool more, .slice A6 body.length c6] 32) = W' := ⟨_, rfl⟩
        have q12 : W12.heap[B12]? = some (.cells #[.string nm, .bool fn, .slice A5 ps.length c5, .bool more, .slice A6 body.length c6] 32 (0, 0)) := by rw [← hW12, ← hB12]; exact blk_new W11 _
        have hb12 : Below wr.heap.size wr W12 := by rw [← hW12]; exact H11.out.2.2.alloc H11.out.2.2.size _
        have hP12 : Kd.C Kd.string W12 A5 ps.length ps := by rw [← hW12]; exact Kd.C_alloc H11.out.1.2.2 _
        have hB12' : Kd.C k48 W12 A6 body.length body := by rw [← hW12]; exact Kd.C_alloc H11.out.2.1.2.2 _
        have hcell2 := (hb12.cell (World.block_lt_of_cell? _ _ hcell)).trans hcell
        rw [hW12]
        try rw [hB12]
        have H12 := Lib.hid (And.intro q12 (And.intro (HM.out.2.2.2.trans (hb12.mono HM.out.2.2.2.size)) (And.intro hP12 hB12')))
        clear hW12 q12 hb12 hP12 hB12' hcell
        have ST6 : True := trivial
        go_upto_region 31 with (have g_ := ST6; clear g_ ST6; go_at_call 23; refine (getm_c q mq _ (look (macsO L)) nm _ HM.out.2.1 HM.out.2.2.1 _ (H9.out.2.2.2.1.below H12.out.2.1) H9.out.2.2.2.2).mono ?_; rintro e W13 ⟨A7, c7, A8, c8, rfl, hR7, hR8, hb13⟩; have H13 := Lib.hid (And.intro (Kd.R_reads' hR7) (And.intro (Kd.R_reads' hR8) hb13)); clear hR7 hR8 hb13)
        obtain ⟨B14, hB14⟩ : ∃ B, W13.heap.size = B := ⟨_, rfl⟩
        obtain ⟨W14, hW14⟩ : ∃ W', W13.alloc (.cells #[.string nm, .bool fn, .slice A7 ps.length c7, .bool more, .slice A8 body.length c8] 32) = W' := ⟨_, rfl⟩
        have q14 : W14.heap[B14]? = some (.cells #[.string nm, .bool fn, .slice A7 ps.length c7, .bool more, .slice A8 body.length c8] 32 (0, 0)) := by rw [← hW14, ← hB14]; exact blk_new W13 _
        have hb14 : Below W12.heap.size W12 W14 := by rw [← hW14]; exact H13.out.2.2.alloc H13.out.2.2.size _
        have hP14 : Kd.C Kd.string W14 A7 ps.length ps := by rw [← hW14]; exact Kd.C_alloc H13.out.1.2.2 _
        have hB14' : Kd.C k48 W14 A8 body.length body := by rw [← hW14]; exact Kd.C_alloc H13.out.2.1.2.2 _
        have q12 := (hb14.block _ (blk_lt H12.out.1)).trans H12.out.1
        rw [hW14]
        try rw [hB14]
        have a0 := blk_cell q12 0
        have a1 := blk_cell q12 1
        have a2 := blk_cell q12 2
        have a3 := blk_cell q12 3
        have a4 := blk_cell q12 4
        have b0 := blk_cell q14 0
        have b1 := blk_cell q14 1
        have b2 := blk_cell q14 2
        have b3 := blk_cell q14 3
        have b4 := blk_cell q14 4
        have H14 := Lib.hid (And.intro (H12.out.2.1.trans (hb14.mono H12.out.2.1.size)) (And.intro hP14 (And.intro hB14' (And.intro (Kd.C_below H12.out.2.2.1 hb14) (Kd.C_below H12.out.2.2.2 hb14)))))
        clear hW14 q14 q12 hb14 hP14 hB14' hcell2
        have ST7 : True := trivial
        go_wp2_with (have g_ := ST7; clear g_ ST7; go_at_call 13; refine (burinref03_Equal.calls 3000000 nm fn A5 c5 ps more A6 c6 body nm fn A7 c7 ps more A8 c8 body _ _ H14.out.2.2.2.1 H11.out.1.2.1 H14.out.2.2.2.2 H11.out.2.1.2.1 H14.out.2.1 H13.out.1.2.1 H14.out.2.2.1 H13.out.2.1.2.1 HM.out.1).mono ?_; rintro e W15 ⟨rfl, hb15⟩; have H15 := Lib.hid (H14.out.1.trans (hb15.mono H14.out.1.size)); clear a0 a1 a2 a3 a4 b0 b1 b2 b3 b4 hb15)
        exact ⟨⟨k + 1, hlt, by rw [HW.out], H15.out⟩, by rw [HW.out]; simp [RowKit.intOf]; omega⟩
       ·have HZ := Lib.hid hbr
        clear hbr
        go_wp2
        go_ret
        exact ⟨rfl, H9.out.1.trans (HZ.out.mono H9.out.1.size)⟩
end Go.Proofs.YtcbfbefpbjmglaaDoor.Mac
