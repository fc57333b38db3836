/- The law LossWhole: a space is dropped. -/
import Derived.Test.YtgdboikoejodpaaWholeP
namespace Go.Proofs.Ytgdboikoejodpaa.WholeD
open Go Go.RowKit Go.Proofs.YtgdboikoejodpaaW.PrintWords Go.Proofs.YtgdboikoejodpaaW.PrintLast Go.Proofs.YtgdboikoejodpaaW.PrintMore Go.Proofs.Ytgdboikoejodpaa.Keep Go.Proofs.Ytgdboikoejodpaa.Led Go.Proofs.Ytgdboikoejodpaa.Rate Go.Proofs.Ytgdboikoejodpaa.Rd Go.Proofs.Ytgdboikoejodpaa.Timer Go.Proofs.Ytgdboikoejodpaa.LedSp Go.Proofs.Ytgdboikoejodpaa.Drop Go.Proofs.Ytgdboikoejodpaa.In Go.Proofs.Ytgdboikoejodpaa.Split Go.Proofs.Ytgdboikoejodpaa.GoneP Go.Proofs.Ytgdboikoejodpaa.Gone Go.Proofs.Ytgdboikoejodpaa.AckP Go.Proofs.Ytgdboikoejodpaa.Ack Go.Proofs.Ytgdboikoejodpaa.Clone Go.Proofs.Ytgdboikoejodpaa.Sent Go.Proofs.Ytgdboikoejodpaa.Inv Go.Proofs.Ytgdboikoejodpaa.Fire Go.Proofs.Ytgdboikoejodpaa.Law Go.Proofs.Ytgdboikoejodpaa.WholeP Go.Proofs.Ytgdboikoejodpaa.WholeO Go.Proofs.Ytgdboikoejodpaa.WholeW Go.Proofs.Ytgdboikoejodpaa.OpenL Go.Proofs.Ytgdboikoejodpaa.Acts
set_option linter.unusedVariables false
open Go.ChangeMaps Go.MapKept Go.WideShapes in
/-- 'clear(m)'. -/
theorem clear_run {W : World} {b n : Nat} {D : DU} (h : Own W b n D) : ∃ W', (∀ ty, (Builtin.clear_ #[51] ty #[.map (some b)]).run Try.prog W = .ok (.tuple #[]) W') ∧ Own W' b 0 (.map []) ∧ W.mapTurned W' b := by
  obtain ⟨es, clock, hb, F, hs, rfl⟩ := h
  refine ⟨setBlock W b (.map #[] clock), fun ty => ?_, ⟨#[], clock, heap_setBlock_same hb _, ⟨by simp, stamped_empty clock, by simp⟩, Nat.zero_le _, rfl⟩, ⟨es, clock, #[], clock, hb, rfl⟩⟩
  simp [Builtin.clear_, run_underlying Try.underlying51, MapKept.run_getObj_map hb, run_setObj_map _ hb, Result.andThen]
  rfl
set_option maxHeartbeats 8000000 in
set_option maxRecDepth 1000000 in
theorem done (w : World) (B : Option Addr) (c : Nat) (l : List A) (p ob nb m0 m1 m2 : Nat) (k i b : Nat) (now : Int)  (n : Nat) (L : Lg) (v : Nat → Value) (x : A) (F : Option Addr) (f : Nat) (BB : Option Addr) (d : Nat) (a : Act) (wr : World) (H : SI w B c l p ob nb m0 m1 m2 k i b now 7 n L v x F f BB d a wr) (K : Act → World → Prop) (Q' : Exit → Act → World → Prop) (hK : Hid (∀ a' w', SO w B c l p ob nb m0 m1 m2 k a' w' → K a' w')) (hX : Hid (∀ a' w', SO w B c l p ob nb m0 m1 m2 k a' w' → Q' (.exit 1) a' w')) :
    Code.wp Try.prog sw (Exit.then K Q') a wr := by
  obtain ⟨u, rfl, hu⟩ := laid a H.size H.defs
  have g0 := (hu 0).trans H.s0
  have g3 := (hu 3).trans H.s3
  have g4 := (hu 4).trans H.s4
  have g5 := (hu 5).trans H.s5
  have g6 := (hu 6).trans H.s6
  have g7 := (hu 7).trans H.s7
  have g9 := (hu 9).trans H.s9
  have g10 := (hu 10).trans H.s10
  have g35 := (hu 35).trans H.s35
  have g36 := (hu 36).trans H.s36
  have g37 := (hu 37).trans H.s37
  have g56 := (hu 56).trans H.s56
  simp only [g0, g3, g4, g5, g6, g7, g9, g10, g35, g36, g37, g56]
  conv => arg 2; whnf
  have HX := Lib.hid H.ba
  have HWW := Lib.hid H.ww
  have HBX := Lib.hid H.bx
  have hi3 := H.i3
  have hk1 := H.k1
  have hnk := H.nk
  have hw0 := H.w0
  have hw1 := H.w1
  have hxn := wf8_bd H.ba.2.2.1
  have hxs := wf16_bd H.ba.2.2.2.2.1
  have hi9 : ((i : Nat) : Int) < 3 := by omega
  clear H hu g0 g3 g4 g5 g6 g7 g9 g10 g35 g36 g37 g56
  have b2 := blk_cell HBX.out 2
  have b4 := blk_cell HBX.out 4
  obtain ⟨L2, hL2⟩ : ∃ t, dropL i L = t := ⟨_, rfl⟩
  have DC := lw_drop HWW.out.x.lw i hi3
  rw [hL2] at DC
  have q2 : ∀ j, (L2.sp j).next = (L.sp j).next := fun j => by
    rw [← hL2]; show ((setSp _ i _).sp j).next = _
    by_cases e : j = i
    · subst e; rw [setSp_same]
    · rw [setSp_other _ _ _ _ e]
  have q3 : (L2.sp i).list = [] := by rw [← hL2]; show ((setSp _ i _).sp i).list = _; rw [setSp_same]
  have q4 : ∀ j, j ≠ i → (L2.sp j).list = (L.sp j).list := fun j e => by rw [← hL2]; show ((setSp _ i _).sp j).list = _; rw [setSp_other _ _ _ _ e]
  have HDC := Lib.hid DC
  have HQ2 := Lib.hid q2
  have HQ3 := Lib.hid q3
  have HQ4 := Lib.hid q4
  clear DC q2 q3 q4 hL2 b2 b4
  go_wp2_with fail
  refine HDC.out.mono ?_
  rintro e w2 ⟨rfl, v', H2, K2⟩
  have HX2 := Lib.hid (HWW.out.x.call H2 (KL.of_kp K2 (.inl rfl)))
  obtain ⟨D, ho, -⟩ := HX2.out.mp i hi3
  obtain ⟨w3, hrun, ho3, ht3⟩ := clear_run ho
  have HX3 := Lib.hid (HX2.out.map i hi3 (kp_turned ht3) (Nat.le_refl k) (ho3.mono (Nat.zero_le k)) MO.nil)
  have oc := o_cell HX2.out.hob i hi3
  clear ho ho3 ht3 H2 K2
  go_wp2_with fail
  have HF := HX3.out.fin (L1 := L) HQ2.out (fun j hj => by
    by_cases e : j = i
    · subst e; rw [setl_same]; exact HQ3.out.symm
    · rw [setl_other _ _ _ _ e]; exact (HQ4.out j e).symm)
  have HN2 : ND k L2 := HWW.out.nd.sub (fun j => if j = i then (L.sp i).list else []) (fun j hj => by
    by_cases e : j = i
    · subst e; rw [if_pos rfl, HQ3.out, List.append_nil]
    · rw [if_neg e, HQ4.out j e]; exact List.Perm.refl _) (fun j _ => HQ2.out j)
  exact hK.out _ _ ⟨rfl, rfl, now, n, L2, _, by omega, by omega, by omega, ⟨HF.mono (by omega) (Nat.le_refl _), HN2.mono (by omega)⟩, rfl, rfl, rfl, rfl, rfl, rfl, rfl, rfl, rfl⟩
end Go.Proofs.Ytgdboikoejodpaa.WholeD

namespace Go.Proofs.Ytgdboikoejodpaa.WholeF
open Go Go.RowKit Go.Proofs.YtgdboikoejodpaaW.PrintWords Go.Proofs.YtgdboikoejodpaaW.PrintLast Go.Proofs.YtgdboikoejodpaaW.PrintMore Go.Proofs.Ytgdboikoejodpaa.Keep Go.Proofs.Ytgdboikoejodpaa.Led Go.Proofs.Ytgdboikoejodpaa.Rate Go.Proofs.Ytgdboikoejodpaa.Rd Go.Proofs.Ytgdboikoejodpaa.Timer Go.Proofs.Ytgdboikoejodpaa.LedSp Go.Proofs.Ytgdboikoejodpaa.Drop Go.Proofs.Ytgdboikoejodpaa.In Go.Proofs.Ytgdboikoejodpaa.Split Go.Proofs.Ytgdboikoejodpaa.GoneP Go.Proofs.Ytgdboikoejodpaa.Gone Go.Proofs.Ytgdboikoejodpaa.AckP Go.Proofs.Ytgdboikoejodpaa.Ack Go.Proofs.Ytgdboikoejodpaa.Clone Go.Proofs.Ytgdboikoejodpaa.Sent Go.Proofs.Ytgdboikoejodpaa.Inv Go.Proofs.Ytgdboikoejodpaa.Fire Go.Proofs.Ytgdboikoejodpaa.Law Go.Proofs.Ytgdboikoejodpaa.WholeP Go.Proofs.Ytgdboikoejodpaa.WholeO Go.Proofs.Ytgdboikoejodpaa.WholeW Go.Proofs.Ytgdboikoejodpaa.OpenL Go.Proofs.Ytgdboikoejodpaa.Acts
set_option linter.unusedVariables false
set_option maxHeartbeats 8000000 in
set_option maxRecDepth 1000000 in
theorem done (w : World) (B : Option Addr) (c : Nat) (l : List A) (p ob nb m0 m1 m2 : Nat) (k i b : Nat) (now : Int)  (n : Nat) (L : Lg) (v : Nat → Value) (x : A) (F : Option Addr) (f : Nat) (BB : Option Addr) (d : Nat) (a : Act) (wr : World) (H : SI w B c l p ob nb m0 m1 m2 k i b now 6 n L v x F f BB d a wr) (K : Act → World → Prop) (Q' : Exit → Act → World → Prop) (hK : Hid (∀ a' w', SO w B c l p ob nb m0 m1 m2 k a' w' → K a' w')) (hX : Hid (∀ a' w', SO w B c l p ob nb m0 m1 m2 k a' w' → Q' (.exit 1) a' w')) :
    Code.wp Try.prog sw (Exit.then K Q') a wr := by
  obtain ⟨u, rfl, hu⟩ := laid a H.size H.defs
  have g0 := (hu 0).trans H.s0
  have g3 := (hu 3).trans H.s3
  have g4 := (hu 4).trans H.s4
  have g5 := (hu 5).trans H.s5
  have g6 := (hu 6).trans H.s6
  have g7 := (hu 7).trans H.s7
  have g9 := (hu 9).trans H.s9
  have g10 := (hu 10).trans H.s10
  have g35 := (hu 35).trans H.s35
  have g36 := (hu 36).trans H.s36
  have g37 := (hu 37).trans H.s37
  have g56 := (hu 56).trans H.s56
  simp only [g0, g3, g4, g5, g6, g7, g9, g10, g35, g36, g37, g56]
  conv => arg 2; whnf
  have HX := Lib.hid H.ba
  have HWW := Lib.hid H.ww
  have HBX := Lib.hid H.bx
  have hi3 := H.i3
  have hk1 := H.k1
  have hnk := H.nk
  have hw0 := H.w0
  have hw1 := H.w1
  have hxn := wf8_bd H.ba.2.2.1
  have hxs := wf16_bd H.ba.2.2.2.2.1
  have hi9 : ((i : Nat) : Int) < 3 := by omega
  clear H hu g0 g3 g4 g5 g6 g7 g9 g10 g35 g36 g37 g56
  have b2 := blk_cell HBX.out 2
  have b4 := blk_cell HBX.out 4
  have hnk5 : n ≤ 500000 := by omega
  obtain ⟨pb, hpb⟩ : ∃ t, (fireL now L).2.2 = t := ⟨_, rfl⟩
  obtain ⟨out, hout⟩ : ∃ t, (fireL now L).2.1 = t := ⟨_, rfl⟩
  obtain ⟨L2, hL2⟩ : ∃ t, (fireL now L).1 = t := ⟨_, rfl⟩
  have FC := lw_fire HWW.out.x.lw hnk5 now ⟨by omega, by omega⟩
  obtain ⟨q2, q3⟩ := fire_part now L
  rw [hpb, hout, hL2] at FC
  rw [hL2] at q2 q3
  rw [hout] at q3
  have HFC := Lib.hid FC
  have hmem : ∀ j, j < 3 → ∀ y ∈ out j ++ (L2.sp j).list, 0 ≤ y.pn ∧ y.pn < 18446744073709551616 := fun j hj y hy => by
    have := HWW.out.x.lw.inv.b.list j hj y ((q3 j).mem_iff.2 hy)
    omega
  have hlen : ∀ j, j < 3 → (out j).length ≤ 1000000 := fun j hj => by
    have h1 := (q3 j).length_eq
    have h2 := HWW.out.x.lw.inv.b.many j hj
    simp only [List.length_append] at h1
    omega
  have HM := Lib.hid hmem
  have HLN := Lib.hid hlen
  have HQ2 := Lib.hid q2
  have HQ3 := Lib.hid q3
  clear FC q2 q3 hmem hlen hpb hout hL2 b2 b4
  go_wp2_with fail
  refine HFC.out.mono ?_
  rintro e w2 ⟨o, v', rfl, H2, RO, K2⟩
  have HX2 := (HWW.out.x.call H2 (KL.of_kp K2 (.inl rfl))).lists (ls' := fun j => out j ++ (L2.sp j).list) (fun j _ => HQ3.out j)
  obtain ⟨A0, c0, e0, C0⟩ := row_slice (RO 0 (by omega))
  obtain ⟨A1, c1, e1, C1⟩ := row_slice (RO 1 (by omega))
  obtain ⟨A2, c2, e2, C2⟩ := row_slice (RO 2 (by omega))
  rw [e0, e1, e2]
  have B3 := (Below.refl w2.heap.size w2).alloc (Nat.le_refl _) (.cells #[.slice A0 (out 0).length c0, .slice A1 (out 1).length c1, .slice A2 (out 2).length c2] 47)
  have HY3 := Lib.hid (heap_alloc_new w2 (.cells #[.slice A0 (out 0).length c0, .slice A1 (out 1).length c1, .slice A2 (out 2).length c2] 47))
  have HX3 := Lib.hid (HX2.go B3)
  have HC0 := Lib.hid (Kd.C_below C0 B3)
  have HC1 := Lib.hid (Kd.C_below C1 B3)
  have HC2 := Lib.hid (Kd.C_below C2 B3)
  clear RO H2 K2 HX2 C0 C1 C2 B3 e0 e1 e2
  go_upto_region 29 with fail
  generalize w2.alloc (.cells #[.slice A0 (out 0).length c0, .slice A1 (out 1).length c1, .slice A2 (out 2).length c2] 47) = w3 at HX3 HY3 HC0 HC1 HC2 ⊢
  have ne : ∀ (j : Nat), j < 3 → ∀ (A : Option Addr) (l : List S) (W : World) (ls : Nat → List S), WX w p ob nb m0 m1 m2 k (n + 1) L2 v' (nxL L) ls W → Kd.C kS W A l.length l → ∀ a, A = some a → 0 < l.length → a.block ≠ mth m0 m1 m2 j := fun j hj A l W ls hx hc => by
    obtain ⟨D, ho, -⟩ := hx.mp j hj
    exact CS_ne hc ho
  have HNE := Lib.hid ne
  have byk : ∀ (j : Nat), j < 3 → ∀ (W W' : World) (ls : Nat → List S) (bx : Nat) (o : Array Value), WX w p ob nb m0 m1 m2 k (n + 1) L2 v' (nxL L) ls W → Kp (mth m0 m1 m2 j) W W' → W.heap[bx]? = some (.cells o 47 (0, 0)) → 0 < o.size → W'.heap[bx]? = some (.cells o 47 (0, 0)) := fun j hj W W' ls bx o hx hk hb h0 => by
    obtain ⟨D, ⟨es, clock, hm, -⟩, -⟩ := hx.mp j hj
    exact hk.blk hb (fun e => by rw [e, hm] at hb; cases hb)
  have HBY := Lib.hid byk
  clear ne byk
  obtain ⟨bx, hbx⟩ : ∃ bx, w2.heap.size = bx := ⟨_, rfl⟩
  simp only [hbx] at HY3 ⊢
  clear hbx
  have y0 := blk_cell HY3.out 0
  have y1 := blk_cell HY3.out 1
  have y2 := blk_cell HY3.out 2
  go_wp2_with fail
  refine wp_loop_rounds 4 ?_
  rw [rounds_succ]
  have OV0 := Lib.hid (HX3.out.over 0 (by omega) A0 c0 (out 0) (L2.sp 0).list rfl HC0.out (HLN.out 0 (by omega)) (fun y hy => HM.out 0 (by omega) y (List.mem_append_left _ hy)))
  go_wp2_with fail
  refine OV0.out.mono ?_
  rintro e w4 ⟨rfl, H4, K4⟩
  have HX4 := Lib.hid H4
  have HC1' := Lib.hid (CS_kp K4 HC1.out (HNE.out 0 (by omega) A1 (out 1) w3 _ HX3.out HC1.out))
  have HC2' := Lib.hid (CS_kp K4 HC2.out (HNE.out 0 (by omega) A2 (out 2) w3 _ HX3.out HC2.out))
  have HY4 := Lib.hid (HBY.out 0 (by omega) w3 w4 _ bx _ HX3.out K4 HY3.out (by simp))
  clear H4 K4 y0 y1 y2 OV0 HC1 HC2
  have y0 := blk_cell HY4.out 0
  have y1 := blk_cell HY4.out 1
  have y2 := blk_cell HY4.out 2
  go_wp2_with fail
  rw [rounds_succ]
  have OV1 := Lib.hid (HX4.out.over 1 (by omega) A1 c1 (out 1) (L2.sp 1).list (setl_other _ _ _ _ (by decide)) HC1'.out (HLN.out 1 (by omega)) (fun y hy => HM.out 1 (by omega) y (List.mem_append_left _ hy)))
  go_wp2_with fail
  refine OV1.out.mono ?_
  rintro e w5 ⟨rfl, H5, K5⟩
  have HX5 := Lib.hid H5
  have HC2'' := Lib.hid (CS_kp K5 HC2'.out (HNE.out 1 (by omega) A2 (out 2) w4 _ HX4.out HC2'.out))
  have HY5 := Lib.hid (HBY.out 1 (by omega) w4 w5 _ bx _ HX4.out K5 HY4.out (by simp))
  clear H5 K5 y0 y1 y2 OV1 HC2'
  have y0 := blk_cell HY5.out 0
  have y1 := blk_cell HY5.out 1
  have y2 := blk_cell HY5.out 2
  go_wp2_with fail
  rw [rounds_succ]
  have OV2 := Lib.hid (HX5.out.over 2 (by omega) A2 c2 (out 2) (L2.sp 2).list ((setl_other _ _ _ _ (by decide)).trans (setl_other _ _ _ _ (by decide))) HC2''.out (HLN.out 2 (by omega)) (fun y hy => HM.out 2 (by omega) y (List.mem_append_left _ hy)))
  go_wp2_with fail
  refine OV2.out.mono ?_
  rintro e w6 ⟨rfl, H6, -⟩
  have HX6 := Lib.hid H6
  clear H6 y0 y1 y2 OV2
  go_wp2_with fail
  rw [rounds_succ]
  go_wp2_with fail
  have HF := HX6.out.fin (L1 := L) HQ2.out (fun j hj => by rcases three hj with rfl | rfl | rfl <;> simp [setl])
  have HN2 : ND k L2 := HWW.out.nd.sub out (fun j _ => HQ3.out j) (fun j _ => HQ2.out j)
  exact hK.out _ _ ⟨rfl, rfl, now, n + 1, L2, _, by omega, by omega, by omega, ⟨HF.mono (by omega) (Nat.le_refl _), HN2.mono (by omega)⟩, rfl, rfl, rfl, rfl, rfl, rfl, rfl, rfl, rfl⟩
end Go.Proofs.Ytgdboikoejodpaa.WholeF

namespace Go.Proofs.Ytgdboikoejodpaa.WholeA
open Go Go.RowKit Go.Proofs.YtgdboikoejodpaaW.PrintWords Go.Proofs.YtgdboikoejodpaaW.PrintLast Go.Proofs.YtgdboikoejodpaaW.PrintMore Go.Proofs.Ytgdboikoejodpaa.Keep Go.Proofs.Ytgdboikoejodpaa.Led Go.Proofs.Ytgdboikoejodpaa.Rate Go.Proofs.Ytgdboikoejodpaa.Rd Go.Proofs.Ytgdboikoejodpaa.Timer Go.Proofs.Ytgdboikoejodpaa.LedSp Go.Proofs.Ytgdboikoejodpaa.Drop Go.Proofs.Ytgdboikoejodpaa.In Go.Proofs.Ytgdboikoejodpaa.Split Go.Proofs.Ytgdboikoejodpaa.GoneP Go.Proofs.Ytgdboikoejodpaa.Gone Go.Proofs.Ytgdboikoejodpaa.AckP Go.Proofs.Ytgdboikoejodpaa.Ack Go.Proofs.Ytgdboikoejodpaa.Clone Go.Proofs.Ytgdboikoejodpaa.Sent Go.Proofs.Ytgdboikoejodpaa.Inv Go.Proofs.Ytgdboikoejodpaa.Fire Go.Proofs.Ytgdboikoejodpaa.Law Go.Proofs.Ytgdboikoejodpaa.WholeP Go.Proofs.Ytgdboikoejodpaa.WholeO Go.Proofs.Ytgdboikoejodpaa.WholeW Go.Proofs.Ytgdboikoejodpaa.OpenL Go.Proofs.Ytgdboikoejodpaa.Acts
set_option linter.unusedVariables false
set_option maxHeartbeats 8000000 in
set_option maxRecDepth 1000000 in
theorem done (w : World) (B : Option Addr) (c : Nat) (l : List A) (p ob nb m0 m1 m2 : Nat) (k i b : Nat) (now : Int)  (n : Nat) (L : Lg) (v : Nat → Value) (x : A) (F : Option Addr) (f : Nat) (BB : Option Addr) (d : Nat) (a : Act) (wr : World) (H : SI w B c l p ob nb m0 m1 m2 k i b now 4 n L v x F f BB d a wr) (K : Act → World → Prop) (Q' : Exit → Act → World → Prop) (hK : Hid (∀ a' w', SO w B c l p ob nb m0 m1 m2 k a' w' → K a' w')) (hX : Hid (∀ a' w', SO w B c l p ob nb m0 m1 m2 k a' w' → Q' (.exit 1) a' w')) :
    Code.wp Try.prog sw (Exit.then K Q') a wr := by
  obtain ⟨u, rfl, hu⟩ := laid a H.size H.defs
  have g0 := (hu 0).trans H.s0
  have g3 := (hu 3).trans H.s3
  have g4 := (hu 4).trans H.s4
  have g5 := (hu 5).trans H.s5
  have g6 := (hu 6).trans H.s6
  have g7 := (hu 7).trans H.s7
  have g9 := (hu 9).trans H.s9
  have g10 := (hu 10).trans H.s10
  have g35 := (hu 35).trans H.s35
  have g36 := (hu 36).trans H.s36
  have g37 := (hu 37).trans H.s37
  have g56 := (hu 56).trans H.s56
  simp only [g0, g3, g4, g5, g6, g7, g9, g10, g35, g36, g37, g56]
  conv => arg 2; whnf
  have HX := Lib.hid H.ba
  have HWW := Lib.hid H.ww
  have HBX := Lib.hid H.bx
  have hi3 := H.i3
  have hk1 := H.k1
  have hnk := H.nk
  have hw0 := H.w0
  have hw1 := H.w1
  have hxn := wf8_bd H.ba.2.2.1
  have hxs := wf16_bd H.ba.2.2.2.2.1
  have hi9 : ((i : Nat) : Int) < 3 := by omega
  clear H hu g0 g3 g4 g5 g6 g7 g9 g10 g35 g36 g37 g56
  have b2 := blk_cell HBX.out 2
  have b4 := blk_cell HBX.out 4
  obtain ⟨N, hN⟩ : ∃ N, nxL L i = N := ⟨_, rfl⟩
  have hnx : 0 ≤ N ∧ N ≤ 4611686018427387904 := by rw [← hN]; exact HWW.out.x.lw.inv.b.next i hi3
  have hNk : N ≤ k := by rw [← hN]; exact HWW.out.nd.nx i hi3
  have cN := n_cell HWW.out.x.hnb i hi3
  rw [hN] at cN
  by_cases hN0 : N = 0
  · subst hN0
    go_wp2_with fail
    exact hX.out _ _ ⟨rfl, rfl, now, n, L, v, by omega, by omega, by omega, ⟨HWW.out.x.mono (by omega) (Nat.le_refl _), HWW.out.nd.mono (by omega)⟩, rfl, rfl, rfl, rfl, rfl, rfl, rfl, rfl, rfl⟩
  · have hN1 : (N == 0) = false := by simp [hN0]
    have w1 : IntKind.u64.wrap (N - 1) = N - 1 := by rw [IntKind.wrap_u64]; omega
    have w2 : IntKind.u64.wrap (x.n % 6) = x.n % 6 := by rw [IntKind.wrap_u64]; omega
    have w3 : IntKind.u64.wrap (x.size % 5) = x.size % 5 := by rw [IntKind.wrap_u64]; omega
    have ht6 : x.n.tmod 6 = x.n % 6 := Int.tmod_eq_emod_of_nonneg hxn.1
    obtain ⟨mv, hmv⟩ : ∃ mv, (if x.n % 6 < N - 1 then x.n % 6 else N - 1) = mv := ⟨_, rfl⟩
    have hmb : 0 ≤ mv ∧ mv ≤ N - 1 := by rw [← hmv]; split <;> omega
    have w4 : IntKind.u64.wrap (N - 1 - mv) = N - 1 - mv := by rw [IntKind.wrap_u64]; omega
    go_upto_region 23 with fail
    refine Flow.wp_region_lit [90, 91, 92, 93, 94, 95, 96, 97, 98, 99, 100, 101, 102, 103, 11] (by kernel_rfl) (fun jj W v => match jj with | 0 => v = .int .i64 (i : Int) | 1 => v = .pointer (some ⟨nb, i, none⟩) | 2 => v = .int .u64 N | 3 => v = .int .u64 (N - 1) | 4 => v = .int .i64 (i : Int) | 5 => v = .pointer (some ⟨nb, i, none⟩) | 6 => v = .int .u64 N | 7 => v = .int .u64 (N - 1) | 8 => v = .pointer (some ⟨b, 2, none⟩) | 9 => v = .int .u8 x.n | 10 => v = .int .u8 (x.n % 6) | 11 => v = .int .u64 (x.n % 6) | 12 => v = .int .u64 mv | 13 => v = .int .u64 (N - 1 - mv) | 14 => v = .int .u64 (N - 1 - mv) | _ => True) (fun W => WX w p ob nb m0 m1 m2 k n L v (nxL L) (lsL L) W ∧ W.heap[b]? = some (aO x F f BB d)) (by kernel_rfl) (by kernel_rfl) (by kernel_rfl) (by kernel_rfl) (⟨HWW.out.x.go (Below.refl _ _).drew, HBX.out⟩) ?_ ?_
    · intro i o ho a W hG hk hdep
      have hi : i < 15 := (Array.getElem?_eq_some_iff.1 ho).1
      rcases (by omega : i = 0 ∨ i = 1 ∨ i = 2 ∨ i = 3 ∨ i = 4 ∨ i = 5 ∨ i = 6 ∨ i = 7 ∨ i = 8 ∨ i = 9 ∨ i = 10 ∨ i = 11 ∨ i = 12 ∨ i = 13 ∨ i = 14) with rfl | rfl | rfl | rfl | rfl | rfl | rfl | rfl | rfl | rfl | rfl | rfl | rfl | rfl | rfl
      · obtain rfl := Option.some.inj ho
        have e10 : a.tmps.getD 10 undef = .int .i64 (i : Int) := hk 10 (by kernel_rfl)
        refine Flow.op_want rfl rfl (fun K hK => ?_)
        clear hdep hk ho
        go_simp
        exact hK _ _ ⟨_, rfl, hG, rfl, fun _ _ h => h⟩
      · obtain rfl := Option.some.inj ho
        have e5 : a.tmps.getD 5 undef = .pointer (some ⟨nb, 0, none⟩) := hk 5 (by kernel_rfl)
        have e90 : a.tmps.getD 90 undef = .int .i64 (i : Int) := hdep 0 90 (by kernel_rfl)
        refine Flow.op_want rfl rfl (fun K hK => ?_)
        clear hdep hk ho
        go_simp
        exact hK _ _ ⟨_, rfl, hG, rfl, fun _ _ h => h⟩
      · obtain rfl := Option.some.inj ho
        have e91 : a.tmps.getD 91 undef = .pointer (some ⟨nb, i, none⟩) := hdep 1 91 (by kernel_rfl)
        have c := n_cell hG.1.hnb i hi3
        rw [hN] at c
        refine Flow.op_want rfl rfl (fun K hK => ?_)
        clear hdep hk ho
        go_simp
        exact hK _ _ ⟨_, rfl, hG, rfl, fun _ _ h => h⟩
      · obtain rfl := Option.some.inj ho
        have e92 : a.tmps.getD 92 undef = .int .u64 N := hdep 2 92 (by kernel_rfl)
        refine Flow.op_want rfl rfl (fun K hK => ?_)
        clear hdep hk ho
        go_simp
        exact hK _ _ ⟨_, rfl, hG, rfl, fun _ _ h => h⟩
      · obtain rfl := Option.some.inj ho
        have e10 : a.tmps.getD 10 undef = .int .i64 (i : Int) := hk 10 (by kernel_rfl)
        refine Flow.op_want rfl rfl (fun K hK => ?_)
        clear hdep hk ho
        go_simp
        exact hK _ _ ⟨_, rfl, hG, rfl, fun _ _ h => h⟩
      · obtain rfl := Option.some.inj ho
        have e5 : a.tmps.getD 5 undef = .pointer (some ⟨nb, 0, none⟩) := hk 5 (by kernel_rfl)
        have e94 : a.tmps.getD 94 undef = .int .i64 (i : Int) := hdep 4 94 (by kernel_rfl)
        refine Flow.op_want rfl rfl (fun K hK => ?_)
        clear hdep hk ho
        go_simp
        exact hK _ _ ⟨_, rfl, hG, rfl, fun _ _ h => h⟩
      · obtain rfl := Option.some.inj ho
        have e95 : a.tmps.getD 95 undef = .pointer (some ⟨nb, i, none⟩) := hdep 5 95 (by kernel_rfl)
        have c := n_cell hG.1.hnb i hi3
        rw [hN] at c
        refine Flow.op_want rfl rfl (fun K hK => ?_)
        clear hdep hk ho
        go_simp
        exact hK _ _ ⟨_, rfl, hG, rfl, fun _ _ h => h⟩
      · obtain rfl := Option.some.inj ho
        have e96 : a.tmps.getD 96 undef = .int .u64 N := hdep 6 96 (by kernel_rfl)
        refine Flow.op_want rfl rfl (fun K hK => ?_)
        clear hdep hk ho
        go_simp
        exact hK _ _ ⟨_, rfl, hG, rfl, fun _ _ h => h⟩
      · obtain rfl := Option.some.inj ho
        have e9 : a.tmps.getD 9 undef = .pointer (some ⟨b, 0, none⟩) := hk 9 (by kernel_rfl)
        refine Flow.op_want rfl rfl (fun K hK => ?_)
        clear hdep hk ho
        go_simp
        exact hK _ _ ⟨_, rfl, hG, rfl, fun _ _ h => h⟩
      · obtain rfl := Option.some.inj ho
        have e98 : a.tmps.getD 98 undef = .pointer (some ⟨b, 2, none⟩) := hdep 8 98 (by kernel_rfl)
        have c := blk_cell hG.2 2
        refine Flow.op_want rfl rfl (fun K hK => ?_)
        clear hdep hk ho
        go_simp
        exact hK _ _ ⟨_, rfl, hG, rfl, fun _ _ h => h⟩
      · obtain rfl := Option.some.inj ho
        have e99 : a.tmps.getD 99 undef = .int .u8 x.n := hdep 9 99 (by kernel_rfl)
        refine Flow.op_want rfl rfl (fun K hK => ?_)
        clear hdep hk ho
        go_simp
        exact hK _ _ ⟨_, rfl, hG, rfl, fun _ _ h => h⟩
      · obtain rfl := Option.some.inj ho
        have e100 : a.tmps.getD 100 undef = .int .u8 (x.n % 6) := hdep 10 100 (by kernel_rfl)
        refine Flow.op_want rfl rfl (fun K hK => ?_)
        clear hdep hk ho
        go_simp
        exact hK _ _ ⟨_, rfl, hG, rfl, fun _ _ h => h⟩
      · obtain rfl := Option.some.inj ho
        have e97 : a.tmps.getD 97 undef = .int .u64 (N - 1) := hdep 7 97 (by kernel_rfl)
        have e101 : a.tmps.getD 101 undef = .int .u64 (x.n % 6) := hdep 11 101 (by kernel_rfl)
        refine Flow.op_want rfl rfl (fun K hK => ?_)
        clear hdep hk ho
        go_simp
        exact hK _ _ ⟨_, rfl, hG, rfl, fun _ _ h => h⟩
      · obtain rfl := Option.some.inj ho
        have e93 : a.tmps.getD 93 undef = .int .u64 (N - 1) := hdep 3 93 (by kernel_rfl)
        have e102 : a.tmps.getD 102 undef = .int .u64 mv := hdep 12 102 (by kernel_rfl)
        refine Flow.op_want rfl rfl (fun K hK => ?_)
        clear hdep hk ho
        go_simp
        exact hK _ _ ⟨_, rfl, hG, rfl, fun _ _ h => h⟩
      · obtain rfl := Option.some.inj ho
        have e103 : a.tmps.getD 103 undef = .int .u64 (N - 1 - mv) := hdep 13 103 (by kernel_rfl)
        refine Flow.op_want rfl rfl (fun K hK => ?_)
        clear hdep hk ho
        go_simp
        exact hK _ _ ⟨_, rfl, hG, rfl, fun _ _ h => h⟩
    · intro us w9 hG9 hval
      have hv14 : us 11 = .int .u64 (N - 1 - mv) := hval 14 _ 11 rfl rfl
      clear hval
      simp only [Flow.lay, List.set_cons_zero, List.set_cons_succ, hv14]
      obtain ⟨HX9, HB9⟩ := hG9
      obtain ⟨hi, hhi⟩ : ∃ hi, N - 1 - mv = hi := ⟨_, rfl⟩
      simp only [hhi]
      have hb : 0 ≤ hi ∧ hi < N := by omega
      clear hhi hmv hmb w1 w2 w4 hv14 b2 b4 cN
      obtain ⟨mm, hmm⟩ : ∃ mm, (if x.size % 5 < hi then x.size % 5 else hi) = mm := ⟨_, rfl⟩
      have hmb : 0 ≤ mm ∧ mm ≤ hi := by rw [← hmm]; split <;> omega
      obtain ⟨lo, hlo⟩ : ∃ lo, hi - mm = lo := ⟨_, rfl⟩
      have hbl : 0 ≤ lo ∧ lo ≤ hi := by omega
      have w5 : IntKind.u64.wrap lo = lo := by rw [IntKind.wrap_u64]; omega
      have b4 := blk_cell HB9 4
      have hnx2 : hi < (L.sp i).next := by have e : (L.sp i).next = N := hN; omega
      obtain ⟨q1, q2, q3, q4⟩ := ack_part i ⟨lo, hi⟩ now L ⟨hbl.2, hnx2⟩
      have HAL := (HWW.out.x.lw.inv.b.list i hi3)
      have HAM := HWW.out.x.lw.inv.b.many i hi3
      have HND := HWW.out.nd
      have B1 := (Below.refl w9.heap.size w9).alloc (Nat.le_refl _) (.cells #[.int .u64 lo, .int .u64 hi] 35)
      have HS1 := heap_alloc_new w9 (.cells #[.int .u64 lo, .int .u64 hi] 35)
      have HX1 := Lib.hid (HX9.go B1)
      have hnk5 : n ≤ 500000 := by omega
      have HAC := lw_one HX1.out.lw hnk5 i hi3 now ⟨by omega, by omega⟩ w9.heap.size 1 ⟨lo, hi⟩ HS1 ⟨by dsimp only; omega, by dsimp only; omega, by dsimp only; omega, by dsimp only; omega⟩
      have HAC := Lib.hid HAC
      obtain ⟨ac, hac⟩ : ∃ t, (ackL i [⟨lo, hi⟩] now L).1 = t := ⟨_, rfl⟩
      obtain ⟨lt, hlt⟩ : ∃ t, (ackL i [⟨lo, hi⟩] now L).2.1 = t := ⟨_, rfl⟩
      obtain ⟨L2, hL2⟩ : ∃ t, (ackL i [⟨lo, hi⟩] now L).2.2.2 = t := ⟨_, rfl⟩
      rw [hac, hlt, hL2] at q3
      rw [hL2] at q2 q4
      rw [q1, hac, hlt, hL2] at HAC
      have hmem : ∀ y ∈ ac ++ (lt ++ (L2.sp i).list), 0 ≤ y.pn ∧ y.pn < 18446744073709551616 := fun y hy => by
        have := HAL y (q3.mem_iff.2 hy)
        omega
      have hlen := q3.length_eq
      simp only [List.length_append] at hlen
      have HM := Lib.hid hmem
      have HQ2 := Lib.hid q2
      have HQ3 := Lib.hid q3
      have HQ4 := Lib.hid q4
      have HHND := Lib.hid HND
      have hl1 : ac.length ≤ 1000000 := by omega
      have hl2 : lt.length ≤ 1000000 := by omega
      clear HX9 HAL HAM HND hmem q1 q2 q3 q4 B1 HS1 hac hlt hL2 hlen
      go_wp2_with fail
      refine HAC.out.mono ?_
      rintro e w2 ⟨va, vl, v2, rfl, H2, RA, RB, K2⟩
      obtain ⟨A1, c1, e1, C1⟩ := row_slice RA
      obtain ⟨A2, c2, e2, C2⟩ := row_slice RB
      subst e1 e2
      have HX2 := HX1.out.call H2 (KL.of_kp K2 (.inl rfl))
      have HX2 := Lib.hid (HX2.lists (ls' := setl (lsL L) i (ac ++ (lt ++ (L2.sp i).list))) (fun j hj => by
        by_cases e : j = i
        · subst e; rw [setl_same]; exact HQ3.out
        · rw [setl_other _ _ _ _ e]))
      have HC1 := Lib.hid C1
      have HC2 := Lib.hid C2
      clear RA RB C1 C2 K2 H2
      have OV1 := Lib.hid (HX2.out.over i hi3 A1 c1 ac (lt ++ (L2.sp i).list) (setl_same _ _ _) HC1.out hl1 (fun y hy => HM.out y (List.mem_append_left _ hy)))
      go_wp2_with fail
      refine OV1.out.mono ?_
      rintro e w3 ⟨rfl, H3, K3⟩
      have HX3 := Lib.hid H3
      have hne2 : ∀ a, A2 = some a → 0 < lt.length → a.block ≠ mth m0 m1 m2 i := by
        obtain ⟨D, ho, -⟩ := HX2.out.mp i hi3
        exact CS_ne HC2.out ho
      have HC3 := Lib.hid (CS_kp K3 HC2.out hne2)
      clear H3 K3 hne2
      have OV2 := Lib.hid (HX3.out.over i hi3 A2 c2 lt (L2.sp i).list (setl_same _ _ _) HC3.out hl2 (fun y hy => HM.out y (List.mem_append_right _ (List.mem_append_left _ hy))))
      go_wp2_with fail
      refine OV2.out.mono ?_
      rintro e w4 ⟨rfl, H4, -⟩
      have HX4 := Lib.hid H4
      clear H4
      go_wp2_with fail
      have HF := HX4.out.fin (L1 := L) HQ2.out (fun j hj => by
        by_cases e : j = i
        · subst e; rw [setl_same]
        · rw [setl_other _ _ _ _ e, setl_other _ _ _ _ e, setl_other _ _ _ _ e]; exact (HQ4.out j e).symm)
      have HN2 : ND k L2 := HHND.out.sub (fun j => if j = i then ac ++ lt else []) (fun j hj => by
        by_cases e : j = i
        · subst e; rw [if_pos rfl, List.append_assoc]; exact HQ3.out
        · rw [if_neg e, HQ4.out j e]; exact List.Perm.refl _) (fun j _ => HQ2.out j)
      exact hK.out _ _ ⟨rfl, rfl, now, n + 1, L2, _, by omega, by omega, by omega, ⟨HF.mono (by omega) (Nat.le_refl _), HN2.mono (by omega)⟩, rfl, rfl, rfl, rfl, rfl, rfl, rfl, rfl, rfl⟩
end Go.Proofs.Ytgdboikoejodpaa.WholeA

namespace Go.Proofs.Ytgdboikoejodpaa.WholeE
open Go Go.RowKit Go.Proofs.YtgdboikoejodpaaW.PrintWords Go.Proofs.YtgdboikoejodpaaW.PrintLast Go.Proofs.YtgdboikoejodpaaW.PrintMore Go.Proofs.Ytgdboikoejodpaa.Keep Go.Proofs.Ytgdboikoejodpaa.Led Go.Proofs.Ytgdboikoejodpaa.Rate Go.Proofs.Ytgdboikoejodpaa.Rd Go.Proofs.Ytgdboikoejodpaa.Timer Go.Proofs.Ytgdboikoejodpaa.LedSp Go.Proofs.Ytgdboikoejodpaa.Drop Go.Proofs.Ytgdboikoejodpaa.In Go.Proofs.Ytgdboikoejodpaa.Split Go.Proofs.Ytgdboikoejodpaa.GoneP Go.Proofs.Ytgdboikoejodpaa.Gone Go.Proofs.Ytgdboikoejodpaa.AckP Go.Proofs.Ytgdboikoejodpaa.Ack Go.Proofs.Ytgdboikoejodpaa.Clone Go.Proofs.Ytgdboikoejodpaa.Sent Go.Proofs.Ytgdboikoejodpaa.Inv Go.Proofs.Ytgdboikoejodpaa.Fire Go.Proofs.Ytgdboikoejodpaa.Law Go.Proofs.Ytgdboikoejodpaa.WholeP Go.Proofs.Ytgdboikoejodpaa.WholeO Go.Proofs.Ytgdboikoejodpaa.WholeW Go.Proofs.Ytgdboikoejodpaa.OpenL Go.Proofs.Ytgdboikoejodpaa.Acts
set_option linter.unusedVariables false
set_option maxHeartbeats 8000000 in
set_option maxRecDepth 1000000 in
theorem done (w : World) (B : Option Addr) (c : Nat) (l : List A) (p ob nb m0 m1 m2 : Nat) (k i b : Nat) (now : Int)  (n : Nat) (L : Lg) (v : Nat → Value) (x : A) (F : Option Addr) (f : Nat) (BB : Option Addr) (d : Nat) (a : Act) (wr : World) (H : SI w B c l p ob nb m0 m1 m2 k i b now 5 n L v x F f BB d a wr) (K : Act → World → Prop) (Q' : Exit → Act → World → Prop) (hK : Hid (∀ a' w', SO w B c l p ob nb m0 m1 m2 k a' w' → K a' w')) (hX : Hid (∀ a' w', SO w B c l p ob nb m0 m1 m2 k a' w' → Q' (.exit 1) a' w')) :
    Code.wp Try.prog sw (Exit.then K Q') a wr := by
  obtain ⟨u, rfl, hu⟩ := laid a H.size H.defs
  have g0 := (hu 0).trans H.s0
  have g3 := (hu 3).trans H.s3
  have g4 := (hu 4).trans H.s4
  have g5 := (hu 5).trans H.s5
  have g6 := (hu 6).trans H.s6
  have g7 := (hu 7).trans H.s7
  have g9 := (hu 9).trans H.s9
  have g10 := (hu 10).trans H.s10
  have g35 := (hu 35).trans H.s35
  have g36 := (hu 36).trans H.s36
  have g37 := (hu 37).trans H.s37
  have g56 := (hu 56).trans H.s56
  simp only [g0, g3, g4, g5, g6, g7, g9, g10, g35, g36, g37, g56]
  conv => arg 2; whnf
  have HX := Lib.hid H.ba
  have HWW := Lib.hid H.ww
  have HBX := Lib.hid H.bx
  have hi3 := H.i3
  have hk1 := H.k1
  have hnk := H.nk
  have hw0 := H.w0
  have hw1 := H.w1
  have hxn := wf8_bd H.ba.2.2.1
  have hxs := wf16_bd H.ba.2.2.2.2.1
  have hi9 : ((i : Nat) : Int) < 3 := by omega
  clear H hu g0 g3 g4 g5 g6 g7 g9 g10 g35 g36 g37 g56
  have b2 := blk_cell HBX.out 2
  have b4 := blk_cell HBX.out 4
  obtain ⟨N, hN⟩ : ∃ N, nxL L i = N := ⟨_, rfl⟩
  have hnx : 0 ≤ N ∧ N ≤ 4611686018427387904 := by rw [← hN]; exact HWW.out.x.lw.inv.b.next i hi3
  have hNk : N ≤ k := by rw [← hN]; exact HWW.out.nd.nx i hi3
  have cN := n_cell HWW.out.x.hnb i hi3
  rw [hN] at cN
  by_cases hN0 : N = 0
  · subst hN0
    go_wp2_with fail
    exact hX.out _ _ ⟨rfl, rfl, now, n, L, v, by omega, by omega, by omega, ⟨HWW.out.x.mono (by omega) (Nat.le_refl _), HWW.out.nd.mono (by omega)⟩, rfl, rfl, rfl, rfl, rfl, rfl, rfl, rfl, rfl⟩
  · have hN1 : (N == 0) = false := by simp [hN0]
    have w1 : IntKind.u64.wrap (N - 1) = N - 1 := by rw [IntKind.wrap_u64]; omega
    have w2 : IntKind.u64.wrap (x.n % 6) = x.n % 6 := by rw [IntKind.wrap_u64]; omega
    have w3 : IntKind.u64.wrap (x.size % 5) = x.size % 5 := by rw [IntKind.wrap_u64]; omega
    have ht6 : x.n.tmod 6 = x.n % 6 := Int.tmod_eq_emod_of_nonneg hxn.1
    obtain ⟨mv, hmv⟩ : ∃ mv, (if x.n % 6 < N - 1 then x.n % 6 else N - 1) = mv := ⟨_, rfl⟩
    have hmb : 0 ≤ mv ∧ mv ≤ N - 1 := by rw [← hmv]; split <;> omega
    have w4 : IntKind.u64.wrap (N - 1 - mv) = N - 1 - mv := by rw [IntKind.wrap_u64]; omega
    go_upto_region 23 with fail
    refine Flow.wp_region_lit [90, 91, 92, 93, 94, 95, 96, 97, 98, 99, 100, 101, 102, 103, 11] (by kernel_rfl) (fun jj W v => match jj with | 0 => v = .int .i64 (i : Int) | 1 => v = .pointer (some ⟨nb, i, none⟩) | 2 => v = .int .u64 N | 3 => v = .int .u64 (N - 1) | 4 => v = .int .i64 (i : Int) | 5 => v = .pointer (some ⟨nb, i, none⟩) | 6 => v = .int .u64 N | 7 => v = .int .u64 (N - 1) | 8 => v = .pointer (some ⟨b, 2, none⟩) | 9 => v = .int .u8 x.n | 10 => v = .int .u8 (x.n % 6) | 11 => v = .int .u64 (x.n % 6) | 12 => v = .int .u64 mv | 13 => v = .int .u64 (N - 1 - mv) | 14 => v = .int .u64 (N - 1 - mv) | _ => True) (fun W => WX w p ob nb m0 m1 m2 k n L v (nxL L) (lsL L) W ∧ W.heap[b]? = some (aO x F f BB d)) (by kernel_rfl) (by kernel_rfl) (by kernel_rfl) (by kernel_rfl) (⟨HWW.out.x.go (Below.refl _ _).drew, HBX.out⟩) ?_ ?_
    · intro i o ho a W hG hk hdep
      have hi : i < 15 := (Array.getElem?_eq_some_iff.1 ho).1
      rcases (by omega : i = 0 ∨ i = 1 ∨ i = 2 ∨ i = 3 ∨ i = 4 ∨ i = 5 ∨ i = 6 ∨ i = 7 ∨ i = 8 ∨ i = 9 ∨ i = 10 ∨ i = 11 ∨ i = 12 ∨ i = 13 ∨ i = 14) with rfl | rfl | rfl | rfl | rfl | rfl | rfl | rfl | rfl | rfl | rfl | rfl | rfl | rfl | rfl
      · obtain rfl := Option.some.inj ho
        have e10 : a.tmps.getD 10 undef = .int .i64 (i : Int) := hk 10 (by kernel_rfl)
        refine Flow.op_want rfl rfl (fun K hK => ?_)
        clear hdep hk ho
        go_simp
        exact hK _ _ ⟨_, rfl, hG, rfl, fun _ _ h => h⟩
      · obtain rfl := Option.some.inj ho
        have e5 : a.tmps.getD 5 undef = .pointer (some ⟨nb, 0, none⟩) := hk 5 (by kernel_rfl)
        have e90 : a.tmps.getD 90 undef = .int .i64 (i : Int) := hdep 0 90 (by kernel_rfl)
        refine Flow.op_want rfl rfl (fun K hK => ?_)
        clear hdep hk ho
        go_simp
        exact hK _ _ ⟨_, rfl, hG, rfl, fun _ _ h => h⟩
      · obtain rfl := Option.some.inj ho
        have e91 : a.tmps.getD 91 undef = .pointer (some ⟨nb, i, none⟩) := hdep 1 91 (by kernel_rfl)
        have c := n_cell hG.1.hnb i hi3
        rw [hN] at c
        refine Flow.op_want rfl rfl (fun K hK => ?_)
        clear hdep hk ho
        go_simp
        exact hK _ _ ⟨_, rfl, hG, rfl, fun _ _ h => h⟩
      · obtain rfl := Option.some.inj ho
        have e92 : a.tmps.getD 92 undef = .int .u64 N := hdep 2 92 (by kernel_rfl)
        refine Flow.op_want rfl rfl (fun K hK => ?_)
        clear hdep hk ho
        go_simp
        exact hK _ _ ⟨_, rfl, hG, rfl, fun _ _ h => h⟩
      · obtain rfl := Option.some.inj ho
        have e10 : a.tmps.getD 10 undef = .int .i64 (i : Int) := hk 10 (by kernel_rfl)
        refine Flow.op_want rfl rfl (fun K hK => ?_)
        clear hdep hk ho
        go_simp
        exact hK _ _ ⟨_, rfl, hG, rfl, fun _ _ h => h⟩
      · obtain rfl := Option.some.inj ho
        have e5 : a.tmps.getD 5 undef = .pointer (some ⟨nb, 0, none⟩) := hk 5 (by kernel_rfl)
        have e94 : a.tmps.getD 94 undef = .int .i64 (i : Int) := hdep 4 94 (by kernel_rfl)
        refine Flow.op_want rfl rfl (fun K hK => ?_)
        clear hdep hk ho
        go_simp
        exact hK _ _ ⟨_, rfl, hG, rfl, fun _ _ h => h⟩
      · obtain rfl := Option.some.inj ho
        have e95 : a.tmps.getD 95 undef = .pointer (some ⟨nb, i, none⟩) := hdep 5 95 (by kernel_rfl)
        have c := n_cell hG.1.hnb i hi3
        rw [hN] at c
        refine Flow.op_want rfl rfl (fun K hK => ?_)
        clear hdep hk ho
        go_simp
        exact hK _ _ ⟨_, rfl, hG, rfl, fun _ _ h => h⟩
      · obtain rfl := Option.some.inj ho
        have e96 : a.tmps.getD 96 undef = .int .u64 N := hdep 6 96 (by kernel_rfl)
        refine Flow.op_want rfl rfl (fun K hK => ?_)
        clear hdep hk ho
        go_simp
        exact hK _ _ ⟨_, rfl, hG, rfl, fun _ _ h => h⟩
      · obtain rfl := Option.some.inj ho
        have e9 : a.tmps.getD 9 undef = .pointer (some ⟨b, 0, none⟩) := hk 9 (by kernel_rfl)
        refine Flow.op_want rfl rfl (fun K hK => ?_)
        clear hdep hk ho
        go_simp
        exact hK _ _ ⟨_, rfl, hG, rfl, fun _ _ h => h⟩
      · obtain rfl := Option.some.inj ho
        have e98 : a.tmps.getD 98 undef = .pointer (some ⟨b, 2, none⟩) := hdep 8 98 (by kernel_rfl)
        have c := blk_cell hG.2 2
        refine Flow.op_want rfl rfl (fun K hK => ?_)
        clear hdep hk ho
        go_simp
        exact hK _ _ ⟨_, rfl, hG, rfl, fun _ _ h => h⟩
      · obtain rfl := Option.some.inj ho
        have e99 : a.tmps.getD 99 undef = .int .u8 x.n := hdep 9 99 (by kernel_rfl)
        refine Flow.op_want rfl rfl (fun K hK => ?_)
        clear hdep hk ho
        go_simp
        exact hK _ _ ⟨_, rfl, hG, rfl, fun _ _ h => h⟩
      · obtain rfl := Option.some.inj ho
        have e100 : a.tmps.getD 100 undef = .int .u8 (x.n % 6) := hdep 10 100 (by kernel_rfl)
        refine Flow.op_want rfl rfl (fun K hK => ?_)
        clear hdep hk ho
        go_simp
        exact hK _ _ ⟨_, rfl, hG, rfl, fun _ _ h => h⟩
      · obtain rfl := Option.some.inj ho
        have e97 : a.tmps.getD 97 undef = .int .u64 (N - 1) := hdep 7 97 (by kernel_rfl)
        have e101 : a.tmps.getD 101 undef = .int .u64 (x.n % 6) := hdep 11 101 (by kernel_rfl)
        refine Flow.op_want rfl rfl (fun K hK => ?_)
        clear hdep hk ho
        go_simp
        exact hK _ _ ⟨_, rfl, hG, rfl, fun _ _ h => h⟩
      · obtain rfl := Option.some.inj ho
        have e93 : a.tmps.getD 93 undef = .int .u64 (N - 1) := hdep 3 93 (by kernel_rfl)
        have e102 : a.tmps.getD 102 undef = .int .u64 mv := hdep 12 102 (by kernel_rfl)
        refine Flow.op_want rfl rfl (fun K hK => ?_)
        clear hdep hk ho
        go_simp
        exact hK _ _ ⟨_, rfl, hG, rfl, fun _ _ h => h⟩
      · obtain rfl := Option.some.inj ho
        have e103 : a.tmps.getD 103 undef = .int .u64 (N - 1 - mv) := hdep 13 103 (by kernel_rfl)
        refine Flow.op_want rfl rfl (fun K hK => ?_)
        clear hdep hk ho
        go_simp
        exact hK _ _ ⟨_, rfl, hG, rfl, fun _ _ h => h⟩
    · intro us w9 hG9 hval
      have hv14 : us 11 = .int .u64 (N - 1 - mv) := hval 14 _ 11 rfl rfl
      clear hval
      simp only [Flow.lay, List.set_cons_zero, List.set_cons_succ, hv14]
      obtain ⟨HX9, HB9⟩ := hG9
      obtain ⟨hi, hhi⟩ : ∃ hi, N - 1 - mv = hi := ⟨_, rfl⟩
      simp only [hhi]
      have hb : 0 ≤ hi ∧ hi < N := by omega
      clear hhi hmv hmb w1 w2 w4 hv14 b2 b4 cN
      obtain ⟨mm, hmm⟩ : ∃ mm, (if x.size % 5 < hi then x.size % 5 else hi) = mm := ⟨_, rfl⟩
      have hmb : 0 ≤ mm ∧ mm ≤ hi := by rw [← hmm]; split <;> omega
      obtain ⟨lo, hlo⟩ : ∃ lo, hi - mm = lo := ⟨_, rfl⟩
      have hbl : 0 ≤ lo ∧ lo ≤ hi := by omega
      have w5 : IntKind.u64.wrap lo = lo := by rw [IntKind.wrap_u64]; omega
      have b4 := blk_cell HB9 4
      have hnx2 : hi < (L.sp i).next := by have e : (L.sp i).next = N := hN; omega
      obtain ⟨q1, q2, q3, q4⟩ := ack_part i ⟨lo, hi⟩ now L ⟨hbl.2, hnx2⟩
      have HAL := (HWW.out.x.lw.inv.b.list i hi3)
      have HAM := HWW.out.x.lw.inv.b.many i hi3
      have HND := HWW.out.nd
      have B1 := (Below.refl w9.heap.size w9).alloc (Nat.le_refl _) (.cells #[.int .u64 lo, .int .u64 hi] 35)
      have HS1 := heap_alloc_new w9 (.cells #[.int .u64 lo, .int .u64 hi] 35)
      have HX1 := Lib.hid (HX9.go B1)
      have hnk5 : n ≤ 500000 := by omega
      have HAC := lw_one HX1.out.lw hnk5 i hi3 now ⟨by omega, by omega⟩ w9.heap.size 1 ⟨lo, hi⟩ HS1 ⟨by dsimp only; omega, by dsimp only; omega, by dsimp only; omega, by dsimp only; omega⟩
      have HAC := Lib.hid HAC
      obtain ⟨ac, hac⟩ : ∃ t, (ackL i [⟨lo, hi⟩] now L).1 = t := ⟨_, rfl⟩
      obtain ⟨lt, hlt⟩ : ∃ t, (ackL i [⟨lo, hi⟩] now L).2.1 = t := ⟨_, rfl⟩
      obtain ⟨L2, hL2⟩ : ∃ t, (ackL i [⟨lo, hi⟩] now L).2.2.2 = t := ⟨_, rfl⟩
      rw [hac, hlt, hL2] at q3
      rw [hL2] at q2 q4
      rw [q1, hac, hlt, hL2] at HAC
      have hmem : ∀ y ∈ ac ++ (lt ++ (L2.sp i).list), 0 ≤ y.pn ∧ y.pn < 18446744073709551616 := fun y hy => by
        have := HAL y (q3.mem_iff.2 hy)
        omega
      have hlen := q3.length_eq
      simp only [List.length_append] at hlen
      have HM := Lib.hid hmem
      have HQ2 := Lib.hid q2
      have HQ3 := Lib.hid q3
      have HQ4 := Lib.hid q4
      have HHND := Lib.hid HND
      have hl1 : ac.length ≤ 1000000 := by omega
      have hl2 : lt.length ≤ 1000000 := by omega
      clear HX9 HAL HAM HND hmem q1 q2 q3 q4 B1 HS1 hac hlt hL2 hlen
      go_wp2_with fail
      refine HAC.out.mono ?_
      rintro e w2 ⟨va, vl, v2, rfl, H2, RA, RB, K2⟩
      obtain ⟨A1, c1, e1, C1⟩ := row_slice RA
      obtain ⟨A2, c2, e2, C2⟩ := row_slice RB
      subst e1 e2
      have HX2 := HX1.out.call H2 (KL.of_kp K2 (.inl rfl))
      have HX2 := Lib.hid (HX2.lists (ls' := setl (lsL L) i (ac ++ (lt ++ (L2.sp i).list))) (fun j hj => by
        by_cases e : j = i
        · subst e; rw [setl_same]; exact HQ3.out
        · rw [setl_other _ _ _ _ e]))
      have HC1 := Lib.hid C1
      have HC2 := Lib.hid C2
      clear RA RB C1 C2 K2 H2
      have OV1 := Lib.hid (HX2.out.over i hi3 A1 c1 ac (lt ++ (L2.sp i).list) (setl_same _ _ _) HC1.out hl1 (fun y hy => HM.out y (List.mem_append_left _ hy)))
      go_wp2_with fail
      refine OV1.out.mono ?_
      rintro e w3 ⟨rfl, H3, K3⟩
      have HX3 := Lib.hid H3
      have hne2 : ∀ a, A2 = some a → 0 < lt.length → a.block ≠ mth m0 m1 m2 i := by
        obtain ⟨D, ho, -⟩ := HX2.out.mp i hi3
        exact CS_ne HC2.out ho
      have HC3 := Lib.hid (CS_kp K3 HC2.out hne2)
      clear H3 K3 hne2
      have OV2 := Lib.hid (HX3.out.over i hi3 A2 c2 lt (L2.sp i).list (setl_same _ _ _) HC3.out hl2 (fun y hy => HM.out y (List.mem_append_right _ (List.mem_append_left _ hy))))
      go_wp2_with fail
      refine OV2.out.mono ?_
      rintro e w4 ⟨rfl, H4, -⟩
      have HX4 := Lib.hid H4
      clear H4
      go_wp2_with fail
      have HF := HX4.out.fin (L1 := L) HQ2.out (fun j hj => by
        by_cases e : j = i
        · subst e; rw [setl_same]
        · rw [setl_other _ _ _ _ e, setl_other _ _ _ _ e, setl_other _ _ _ _ e]; exact (HQ4.out j e).symm)
      have HN2 : ND k L2 := HHND.out.sub (fun j => if j = i then ac ++ lt else []) (fun j hj => by
        by_cases e : j = i
        · subst e; rw [if_pos rfl, List.append_assoc]; exact HQ3.out
        · rw [if_neg e, HQ4.out j e]; exact List.Perm.refl _) (fun j _ => HQ2.out j)
      exact hK.out _ _ ⟨rfl, rfl, now, n + 1, L2, _, by omega, by omega, by omega, ⟨HF.mono (by omega) (Nat.le_refl _), HN2.mono (by omega)⟩, rfl, rfl, rfl, rfl, rfl, rfl, rfl, rfl, rfl⟩
end Go.Proofs.Ytgdboikoejodpaa.WholeE

