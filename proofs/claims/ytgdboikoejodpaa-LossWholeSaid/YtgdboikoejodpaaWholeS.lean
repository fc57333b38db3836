/- The law LossWhole: Sent. -/
import Derived.Test.YtgdboikoejodpaaWholeP
namespace Go.Proofs.Ytgdboikoejodpaa.WholeS
open Go Go.RowKit Go.Proofs.YtgdboikoejodpaaW.PrintWords Go.Proofs.YtgdboikoejodpaaW.PrintLast Go.Proofs.YtgdboikoejodpaaW.PrintMore Go.Proofs.Ytgdboikoejodpaa.Keep Go.Proofs.Ytgdboikoejodpaa.Led Go.Proofs.Ytgdboikoejodpaa.Rate Go.Proofs.Ytgdboikoejodpaa.Rd Go.Proofs.Ytgdboikoejodpaa.Timer Go.Proofs.Ytgdboikoejodpaa.LedSp Go.Proofs.Ytgdboikoejodpaa.Drop Go.Proofs.Ytgdboikoejodpaa.In Go.Proofs.Ytgdboikoejodpaa.Split Go.Proofs.Ytgdboikoejodpaa.GoneP Go.Proofs.Ytgdboikoejodpaa.Gone Go.Proofs.Ytgdboikoejodpaa.AckP Go.Proofs.Ytgdboikoejodpaa.Ack Go.Proofs.Ytgdboikoejodpaa.Clone Go.Proofs.Ytgdboikoejodpaa.Sent Go.Proofs.Ytgdboikoejodpaa.Inv Go.Proofs.Ytgdboikoejodpaa.Fire Go.Proofs.Ytgdboikoejodpaa.Law Go.Proofs.Ytgdboikoejodpaa.WholeP Go.Proofs.Ytgdboikoejodpaa.WholeO Go.Proofs.Ytgdboikoejodpaa.WholeW Go.Proofs.Ytgdboikoejodpaa.OpenL Go.Proofs.Ytgdboikoejodpaa.Acts
set_option linter.unusedVariables false
set_option maxHeartbeats 8000000 in
set_option maxRecDepth 1000000 in
theorem done (w : World) (B : Option Addr) (c : Nat) (l : List A) (p ob nb m0 m1 m2 : Nat) (k i b : Nat) (now : Int) (kd : Int) (hkd : 0 ≤ kd ∧ kd ≤ 3) (n : Nat) (L : Lg) (v : Nat → Value) (x : A) (F : Option Addr) (f : Nat) (BB : Option Addr) (d : Nat) (a : Act) (wr : World) (H : SI w B c l p ob nb m0 m1 m2 k i b now kd n L v x F f BB d a wr) (K : Act → World → Prop) (Q' : Exit → Act → World → Prop) (hK : Hid (∀ a' w', SO w B c l p ob nb m0 m1 m2 k a' w' → K a' w')) (hX : Hid (∀ a' w', SO w B c l p ob nb m0 m1 m2 k a' w' → Q' (.exit 1) a' w')) :
    Code.wp Try.prog sw (Exit.then K Q') a wr := by
  obtain ⟨u, rfl, hu⟩ := laid a H.size H.defs
  have g0 := (hu 0).trans H.s0
  have g3 := (hu 3).trans H.s3
  have g4 := (hu 4).trans H.s4
  have g5 := (hu 5).trans H.s5
  have g6 := (hu 6).trans H.s6
  have g7 := (hu 7).trans H.s7
  have g9 := (hu 9).trans H.s9
  have g10 := (hu 10).trans H.s10
  have g35 := (hu 35).trans H.s35
  have g36 := (hu 36).trans H.s36
  have g37 := (hu 37).trans H.s37
  have g56 := (hu 56).trans H.s56
  simp only [g0, g3, g4, g5, g6, g7, g9, g10, g35, g36, g37, g56]
  conv => arg 2; whnf
  have HX := Lib.hid H.ba
  have HWW := Lib.hid H.ww
  have HBX := Lib.hid H.bx
  have hi3 := H.i3
  have hk1 := H.k1
  have hnk := H.nk
  have hw0 := H.w0
  have hw1 := H.w1
  have hxn := wf8_bd H.ba.2.2.1
  have hxs := wf16_bd H.ba.2.2.2.2.1
  have hi9 : ((i : Nat) : Int) < 3 := by omega
  clear H hu g0 g3 g4 g5 g6 g7 g9 g10 g35 g36 g37 g56
  have b2 := blk_cell HBX.out 2
  have b4 := blk_cell HBX.out 4
  obtain ⟨N, hN⟩ : ∃ N, nxL L i = N := ⟨_, rfl⟩
  have hnx : 0 ≤ N ∧ N ≤ 4611686018427387904 := by rw [← hN]; exact HWW.out.x.lw.inv.b.next i hi3
  have hNk : N ≤ k := by rw [← hN]; exact HWW.out.nd.nx i hi3
  have cN := n_cell HWW.out.x.hnb i hi3
  rw [hN] at cN
  have w3 : IntKind.u64.wrap (x.size % 1201) = x.size % 1201 := by rw [IntKind.wrap_u64]; omega
  have w4 : IntKind.u64.wrap (N + 1) = N + 1 := by rw [IntKind.wrap_u64]; omega
  have ht : x.size.tmod 1201 = x.size % 1201 := Int.tmod_eq_emod_of_nonneg hxs.1
  have hbl := blk_lt HBX.out
  have hnbl := blk_lt HWW.out.x.hnb
  go_upto_region 15 with fail
  go_region
  have B1 := ((Below.refl wr.heap.size wr).alloc (Nat.le_refl _) (.cells #[.int .u64 N, .int .u64 now, .int .u64 (x.size % 1201), .bool true, .slice none 0 0] 30)).drew
  have HY1 : (wr.alloc (.cells #[.int .u64 N, .int .u64 now, .int .u64 (x.size % 1201), .bool true, .slice none 0 0] 30)).drew.heap[wr.heap.size]? = some (.cells #[.int .u64 N, .int .u64 now, .int .u64 (x.size % 1201), .bool true, .slice none 0 0] 30 (0, 0)) := heap_alloc_new wr (.cells #[.int .u64 N, .int .u64 now, .int .u64 (x.size % 1201), .bool true, .slice none 0 0] 30)
  have HX1 := Lib.hid (HWW.out.x.go B1)
  have HY1 := Lib.hid HY1
  have hbo : ¬ own p v wr.heap.size := fun h => by have := (HWW.out.x.lw.led.own_base _ h).2; omega
  clear B1
  generalize (wr.alloc (.cells #[.int .u64 N, .int .u64 now, .int .u64 (x.size % 1201), .bool true, .slice none 0 0] 30)).drew = w1 at HX1 HY1 ⊢
  obtain ⟨bx, hbx⟩ : ∃ bx, wr.heap.size = bx := ⟨_, rfl⟩
  simp only [hbx] at HY1 hbo ⊢
  clear hbx cN b2 b4 ht w3 hbl hnbl
  have k0 := blk_cell HY1.out 0
  have k1 := blk_cell HY1.out 1
  have k2 := blk_cell HY1.out 2
  have k3 := blk_cell HY1.out 3
  have k4 := blk_cell HY1.out 4
  obtain ⟨y, hy⟩ : ∃ y, mk N now (x.size % 1201) = y := ⟨_, rfl⟩
  have yp : y.pn = N := by rw [← hy]; rfl
  have ys : y.size = x.size % 1201 := by rw [← hy]; rfl
  have hnn : (L.sp i).next = N := hN
  have hlen := HWW.out.nd.len i hi3
  have SC := lw_sent HX1.out.lw i hi3 N now (x.size % 1201) ⟨by omega, by omega, by omega, by omega, by omega, by omega⟩ (by omega) (by omega)
  rw [hy] at SC
  have HSC := Lib.hid SC
  clear SC
  go_wp2_with fail
  refine HSC.out.mono ?_
  rintro e w2 ⟨rfl, v', H2, K2⟩
  have K2' : KL (own p v) w1 w2 := ⟨K2.os, K2.tape, K2.output, K2.size, fun j h1 h2 => K2.block j h1 (fun h3 => h2 (by rcases h3 with rfl | h3; exact .inl rfl; exact .inr ⟨i, hi3, h3⟩))⟩
  have HX2 := Lib.hid (HX1.out.call H2 K2')
  have HY2 := Lib.hid (K2'.blk HY1.out hbo)
  clear H2 K2 K2' k0 k1 k2 k3 k4
  obtain ⟨L2, hL2⟩ : ∃ t, sentL i y L = t := ⟨_, rfl⟩
  rw [hL2] at HX2
  have e1 : nxL L2 = setl (nxL L) i (N + 1) := funext fun j => by
    rw [← hL2]
    show ((setSp _ i _).sp j).next = _
    by_cases e : j = i
    · subst e; rw [setSp_same, setl_same]; show y.pn + 1 = _; rw [yp]
    · rw [setSp_other _ _ _ _ e, setl_other _ _ _ _ e]; rfl
  have e2 : lsL L2 = setl (lsL L) i (lsL L i ++ [y]) := funext fun j => by
    rw [← hL2]
    show ((setSp _ i _).sp j).list = _
    by_cases e : j = i
    · subst e; rw [setSp_same, setl_same]; rfl
    · rw [setSp_other _ _ _ _ e, setl_other _ _ _ _ e]; rfl
  have HE1 := Lib.hid e1
  have HE2 := Lib.hid e2
  have hni : y.pn ∉ (lsL L i).map S.pn := by
    intro hm
    obtain ⟨z, hz, ez⟩ := List.mem_map.1 hm
    have := HWW.out.nd.lt i hi3 z hz
    omega
  have HNI := Lib.hid hni
  have HYP := Lib.hid yp
  have HYS := Lib.hid ys
  have HL2 := Lib.hid hL2
  have HHN := Lib.hid hN
  have HHNN := Lib.hid hnn
  clear e1 e2 hni yp ys hL2 hN hy hnn
  go_upto_region 18 with fail
  refine Flow.wp_region_lit_states [71, 72, 73, 74, 75, 76, 77] (by kernel_rfl) (fun jj W v => match jj with | 0 => v = .int .i64 (i : Int) | 1 => v = .pointer (some ⟨ob, i, none⟩) | 2 => v = .map (some (mth m0 m1 m2 i)) | 3 => v = .pointer (some ⟨bx, 0, none⟩) | 4 => v = .int .u64 N | 5 => v = .pointer (some ⟨bx, 2, none⟩) | 6 => v = .int .u64 (x.size % 1201) | 7 => True | _ => True) (fun bd W => WX w p ob nb m0 m1 m2 (if bd 7 then k + 1 else k) n L2 v' (nxL L) (if bd 7 then setl (lsL L) i (lsL L i ++ [y]) else lsL L) W ∧ W.heap[bx]? = some (.cells #[.int .u64 N, .int .u64 now, .int .u64 (x.size % 1201), .bool true, .slice none 0 0] 30 (0, 0))) (by kernel_rfl) (by kernel_rfl) (by kernel_rfl) (by kernel_rfl) (⟨HX2.out.go (Below.refl _ _).drew, HY2.out⟩) ?_ ?_
  · intro i o ho bd a W hbi hG hk hdep hcl
    have hi : i < 8 := (Array.getElem?_eq_some_iff.1 ho).1
    rcases (by omega : i = 0 ∨ i = 1 ∨ i = 2 ∨ i = 3 ∨ i = 4 ∨ i = 5 ∨ i = 6 ∨ i = 7) with rfl | rfl | rfl | rfl | rfl | rfl | rfl | rfl
    · obtain rfl := Option.some.inj ho
      have e10 : a.tmps.getD 10 undef = .int .i64 (i : Int) := hk 10 (by kernel_rfl)
      refine Flow.op_want rfl rfl (fun K hK => ?_)
      clear hdep hk ho hcl
      go_simp
      exact hK _ _ ⟨_, rfl, hG, rfl, fun _ _ _ h => h⟩
    · obtain rfl := Option.some.inj ho
      have e4 : a.tmps.getD 4 undef = .pointer (some ⟨ob, 0, none⟩) := hk 4 (by kernel_rfl)
      have e71 : a.tmps.getD 71 undef = .int .i64 (i : Int) := hdep 0 71 (by kernel_rfl)
      refine Flow.op_want rfl rfl (fun K hK => ?_)
      clear hdep hk ho hcl
      go_simp
      exact hK _ _ ⟨_, rfl, hG, rfl, fun _ _ _ h => h⟩
    · obtain rfl := Option.some.inj ho
      have e72 : a.tmps.getD 72 undef = .pointer (some ⟨ob, i, none⟩) := hdep 1 72 (by kernel_rfl)
      have c := o_cell hG.1.hob i hi3
      refine Flow.op_want rfl rfl (fun K hK => ?_)
      clear hdep hk ho hcl
      go_simp
      exact hK _ _ ⟨_, rfl, hG, rfl, fun _ _ _ h => h⟩
    · obtain rfl := Option.some.inj ho
      have e18 : a.tmps.getD 18 undef = .pointer (some ⟨bx, 0, none⟩) := hk 18 (by kernel_rfl)
      refine Flow.op_want rfl rfl (fun K hK => ?_)
      clear hdep hk ho hcl
      go_simp
      exact hK _ _ ⟨_, rfl, hG, rfl, fun _ _ _ h => h⟩
    · obtain rfl := Option.some.inj ho
      have e74 : a.tmps.getD 74 undef = .pointer (some ⟨bx, 0, none⟩) := hdep 3 74 (by kernel_rfl)
      have c := blk_cell hG.2 0
      refine Flow.op_want rfl rfl (fun K hK => ?_)
      clear hdep hk ho hcl
      go_simp
      exact hK _ _ ⟨_, rfl, hG, rfl, fun _ _ _ h => h⟩
    · obtain rfl := Option.some.inj ho
      have e18 : a.tmps.getD 18 undef = .pointer (some ⟨bx, 0, none⟩) := hk 18 (by kernel_rfl)
      refine Flow.op_want rfl rfl (fun K hK => ?_)
      clear hdep hk ho hcl
      go_simp
      exact hK _ _ ⟨_, rfl, hG, rfl, fun _ _ _ h => h⟩
    · obtain rfl := Option.some.inj ho
      have e76 : a.tmps.getD 76 undef = .pointer (some ⟨bx, 2, none⟩) := hdep 5 76 (by kernel_rfl)
      have c := blk_cell hG.2 2
      refine Flow.op_want rfl rfl (fun K hK => ?_)
      clear hdep hk ho hcl
      go_simp
      exact hK _ _ ⟨_, rfl, hG, rfl, fun _ _ _ h => h⟩
    · obtain rfl := Option.some.inj ho
      have e73 : a.tmps.getD 73 undef = .map (some (mth m0 m1 m2 i)) := hdep 2 73 (by kernel_rfl)
      have e75 : a.tmps.getD 75 undef = .int .u64 N := hdep 4 75 (by kernel_rfl)
      have e77 : a.tmps.getD 77 undef = .int .u64 (x.size % 1201) := hdep 6 77 (by kernel_rfl)
      refine Flow.op_want rfl rfl (fun K hK => ?_)
      have hG2 : WX w p ob nb m0 m1 m2 k n L2 v' (nxL L) (lsL L) W ∧ W.heap[bx]? = some (.cells #[.int .u64 N, .int .u64 now, .int .u64 (x.size % 1201), .bool true, .slice none 0 0] 30 (0, 0)) := by have h0 := hG; rw [hbi] at h0; exact h0
      obtain ⟨D, ho, hm⟩ := hG2.1.mp i hi3
      have hm2 := hm.put y HNI.out
      rw [HYP.out, HYS.out] at hm2
      refine op_put (.tmp 73) (.tmp 75) (.tmp 77) rfl e73 ho (by omega) e75 e77 ⟨by omega, by omega⟩ ⟨by omega, by omega⟩ (fun W2 ho2 ht2 => ?_)
      exact hK _ _ ⟨_, rfl, ⟨hG2.1.map i hi3 (kp_turned ht2) (Nat.le_succ k) ho2 hm2, (kp_turned ht2).blk hG2.2 (fun e => (e ▸ ho).no_cell _ none (blk_cell hG2.2 0))⟩, trivial, fun _ _ _ h => h⟩
  · intro bd us5 w5 hall hG5 hval
    have hb7 : bd 7 = true := hall 7 (by decide)
    simp only [hb7] at hG5
    clear hval hall
    simp only [Flow.lay, List.set_cons_zero, List.set_cons_succ]
    obtain ⟨HX5, HY5⟩ := hG5
    have HX5 := Lib.hid HX5
    clear HY5
    have c5 := n_cell HX5.out.hnb i hi3
    rw [HHN.out] at c5
    have z5 := blk_frozen HX5.out.hnb i
    go_wp2_with fail
    have HX6 := HX5.out.next i hi3 (N + 1)
    rw [← HE1.out, ← HE2.out] at HX6
    have hnd : ND (k + 1) L2 := by
      refine ⟨fun j hj => ?_, fun j hj z hz => ?_, fun j hj => ?_, fun j hj => ?_⟩
      · show ((lsL L2 j).map S.pn).Nodup
        rw [HE2.out]
        by_cases e : j = i
        · subst e
          rw [setl_same, List.map_append, List.nodup_append]
          refine ⟨HWW.out.nd.nd j hj, by simp, ?_⟩
          intro a ha b hb
          simp at hb
          subst hb
          exact fun e => HNI.out (e ▸ ha)
        · rw [setl_other _ _ _ _ e]; exact HWW.out.nd.nd j hj
      · have hz : z ∈ lsL L2 j := hz
        show z.pn < nxL L2 j
        rw [HE2.out] at hz
        rw [HE1.out]
        by_cases e : j = i
        · subst e
          rw [setl_same] at hz ⊢
          rcases List.mem_append.1 hz with hz | hz
          · have := HWW.out.nd.lt j hj z hz
            have h2 := HHNN.out
            omega
          · rw [List.mem_singleton.1 hz, HYP.out]; omega
        · rw [setl_other _ _ _ _ e] at hz ⊢; exact HWW.out.nd.lt j hj z hz
      · show (lsL L2 j).length ≤ k + 1
        rw [HE2.out]
        by_cases e : j = i
        · subst e
          rw [setl_same, List.length_append]
          have := HWW.out.nd.len j hj
          show (lsL L j).length + 1 ≤ k + 1
          exact Nat.add_le_add_right this 1
        · rw [setl_other _ _ _ _ e]; exact Nat.le_trans (HWW.out.nd.len j hj) (by omega)
      · show nxL L2 j ≤ ((k + 1 : Nat) : Int)
        rw [HE1.out]
        by_cases e : j = i
        · subst e; rw [setl_same]; omega
        · rw [setl_other _ _ _ _ e]; have := HWW.out.nd.nx j hj; show (L.sp j).next ≤ _; omega
    exact hK.out _ _ ⟨rfl, rfl, now, n, L2, _, by omega, by omega, by omega, ⟨HX6, hnd⟩, rfl, rfl, rfl, rfl, rfl, rfl, rfl, rfl, rfl⟩
end Go.Proofs.Ytgdboikoejodpaa.WholeS
