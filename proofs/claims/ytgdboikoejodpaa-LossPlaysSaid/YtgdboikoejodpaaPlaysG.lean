/- The law LossPlays: Sent, as it is. -/
import Derived.Test.YtgdboikoejodpaaPlaysS
namespace Go.Proofs.Ytgdboikoejodpaa.PlaysG
open Go Go.RowKit Go.Proofs.YtgdboikoejodpaaW.PrintWords Go.Proofs.YtgdboikoejodpaaW.PrintLast Go.Proofs.YtgdboikoejodpaaW.PrintMore Go.Proofs.Ytgdboikoejodpaa.Keep Go.Proofs.Ytgdboikoejodpaa.Led Go.Proofs.Ytgdboikoejodpaa.Rate Go.Proofs.Ytgdboikoejodpaa.Rd Go.Proofs.Ytgdboikoejodpaa.Timer Go.Proofs.Ytgdboikoejodpaa.LedSp Go.Proofs.Ytgdboikoejodpaa.Drop Go.Proofs.Ytgdboikoejodpaa.In Go.Proofs.Ytgdboikoejodpaa.Split Go.Proofs.Ytgdboikoejodpaa.GoneP Go.Proofs.Ytgdboikoejodpaa.Gone Go.Proofs.Ytgdboikoejodpaa.AckP Go.Proofs.Ytgdboikoejodpaa.Ack Go.Proofs.Ytgdboikoejodpaa.Clone Go.Proofs.Ytgdboikoejodpaa.Sent Go.Proofs.Ytgdboikoejodpaa.Inv Go.Proofs.Ytgdboikoejodpaa.Fire Go.Proofs.Ytgdboikoejodpaa.Law Go.Proofs.Ytgdboikoejodpaa.Ref Go.Proofs.Ytgdboikoejodpaa.RefB Go.Proofs.Ytgdboikoejodpaa.RefLost Go.Proofs.Ytgdboikoejodpaa.RefSent Go.Proofs.Ytgdboikoejodpaa.RefAck Go.Proofs.Ytgdboikoejodpaa.RefFire Go.Proofs.Ytgdboikoejodpaa.OpenL Go.Proofs.Ytgdboikoejodpaa.PlaysP Go.Proofs.Ytgdboikoejodpaa.PlaysW Go.Proofs.Ytgdboikoejodpaa.PlaysQ Go.Proofs.Ytgdboikoejodpaa.Plays0 Go.Proofs.Ytgdboikoejodpaa.PlaysL Go.Proofs.Ytgdboikoejodpaa.PlaysS
set_option linter.unusedVariables false
set_option maxHeartbeats 8000000 in
set_option maxRecDepth 1000000 in
theorem done (w : World) (B : Option Addr) (c : Nat) (l : List A) (p q : Nat) (k i b : Nat) (now : Int) (n : Nat) (L : Lg) (v v' : Nat → Value) (x : A) (F : Option Addr) (f : Nat) (BB : Option Addr) (d : Nat) (a : Act) (wr : World) (H : SI w B c l p q k i b now 8 n L v v' x F f BB d a wr) (K : Act → World → Prop) (Q' : Exit → Act → World → Prop) (hK : Hid (∀ a' w', SO w B c l p q k i a' w' → K a' w')) :
    Code.wp Try.prog sw (Exit.then K Q') a wr := by
  obtain ⟨u, rfl, hu⟩ := laid a H.size H.defs
  have g0 := (hu 0).trans H.s0
  have g3 := (hu 3).trans H.s3
  have g4 := (hu 4).trans H.s4
  have g5 := (hu 5).trans H.s5
  have g7 := (hu 7).trans H.s7
  have g8 := (hu 8).trans H.s8
  have g9 := (hu 9).trans H.s9
  have g46 := (hu 46).trans H.s46
  have g47 := (hu 47).trans H.s47
  have g48 := (hu 48).trans H.s48
  have g87 := (hu 87).trans H.s87
  simp only [g0, g3, g4, g5, g7, g8, g9, g46, g47, g48, g87]
  conv => arg 2; whnf
  have HX := Lib.hid H.ba
  have HPL := Lib.hid H.pl
  have HBX := Lib.hid H.bx
  have HCF := Lib.hid H.cf
  have HCQ := Lib.hid H.cq
  have hi3 := H.i3
  have hk1 := H.k1
  have hnk := H.nk
  have hw0 := H.w0
  have hw1 := H.w1
  have hfr := H.fr
  have hsl := H.sl
  have hbp := H.bp
  have hbq := H.bq
  have hxn := wf8_bd H.ba.2.2.1
  have hxs := wf16_bd H.ba.2.2.2.2.1
  have hxp := wfi_bd H.ba.2.2.2.2.2.2.2.2
  clear H hu g0 g3 g4 g5 g7 g8 g9 g46 g47 g48 g87
  have b2 := blk_cell HBX.out 2
  have b4 := blk_cell HBX.out 4
  have b5 := blk_cell HBX.out 5
  have b6 := blk_cell HBX.out 6
  have b7 := blk_cell HBX.out 7
  have b8 := blk_cell HBX.out 8
  have b9 := blk_cell HBX.out 9
  have b10 := blk_cell HBX.out 10
  have b11 := blk_cell HBX.out 11
  have b12 := blk_cell HBX.out 12
  have hpx := HPL.out.lw.hp
  have hqx := HPL.out.rl.hp
  obtain ⟨y, hy⟩ : ∃ y : S, (⟨x.p.pn, x.p.time, x.p.size, x.p.asks, F, x.p.fr.length, f⟩ : S) = y := ⟨_, rfl⟩
  have hya : argS y = .agg #[.int .u64 x.p.pn, .int .u64 x.p.time, .int .u64 x.p.size, .bool x.p.asks, .slice F x.p.fr.length f] := by rw [← hy]
  have bp1 := wf64_bd HX.out.2.2.2.2.2.2.1.1
  have bp2 := wf64_bd HX.out.2.2.2.2.2.2.1.2.1
  have bp3 := wf64_bd HX.out.2.2.2.2.2.2.1.2.2.1
  have hyf : y.fa = F ∧ y.fn = x.p.fr.length ∧ uk y := by rw [← hy]; exact ⟨rfl, rfl, bp1.1, bp1.2, bp2.1, bp2.2, bp3.1, bp3.2⟩
  have HSF : Hid (SF p q v x.space y x.p.fr b) := Lib.hid ⟨hxp, hyf.2.2, hyf.2.1, by omega, fun a e hn => by
    have e : F = some a := hyf.1.symm.trans e
    have hc := HCF.out
    rw [e] at hc
    have := CR_lt hc hn
    omega, PL.act_p HPL.out HBX.out, hbq⟩
  have HG0 : Hid (SG w p q n L v v' x.space y x.p.fr b (aO x F f BB d) false false wr) := Lib.hid ⟨HBX.out, fun _ => by rw [hyf.1]; exact Kd.C_below HCF.out HPL.out.lw.below, HPL.out⟩
  clear b2 b4 b5 b6 b7 b8 b9 b10 b11 b12 bp1 bp2 bp3 hyf hy
  go_upto_region 44 with fail
  refine Flow.wp_region_lit_states [282, 283, 284, 285, 286, 287, 288, 289, 290, 291, 292, 293, 294] (by kernel_rfl) (fun jj W v => match jj with | 0 => v = .pointer (some ⟨p, 0, none⟩) | 1 => v = .pointer (some ⟨b, 12, none⟩) | 2 => v = .int .i64 x.space | 3 => v = .pointer (some ⟨b, 6, none⟩) | 4 => v = argS y | 5 => v = .int .i64 (sentC x.space y L) | 6 => v = .pointer (some ⟨q, 0, none⟩) | 7 => v = .pointer (some ⟨b, 12, none⟩) | 8 => v = .int .i64 x.space | 9 => v = .pointer (some ⟨b, 6, none⟩) | 10 => v = argS y | 11 => v = .int .i64 (sentC x.space y L) | 12 => v = .bool false | _ => True) (fun bd W => SG w p q n L v v' x.space y x.p.fr b (aO x F f BB d) (bd 5) (bd 11) W) (by kernel_rfl) (by kernel_rfl) (by kernel_rfl) (by kernel_rfl) (HG0.out.drew) ?_ ?_
  · intro i o ho bd a W hbi hG hk hdep hcl
    have hi : i < 13 := (Array.getElem?_eq_some_iff.1 ho).1
    rcases (by omega : i = 0 ∨ i = 1 ∨ i = 2 ∨ i = 3 ∨ i = 4 ∨ i = 5 ∨ i = 6 ∨ i = 7 ∨ i = 8 ∨ i = 9 ∨ i = 10 ∨ i = 11 ∨ i = 12) with rfl | rfl | rfl | rfl | rfl | rfl | rfl | rfl | rfl | rfl | rfl | rfl | rfl
    · obtain rfl := Option.some.inj ho
      have e3 : a.tmps.getD 3 undef = .pointer (some ⟨p, 0, none⟩) := hk 3 (by kernel_rfl)
      refine Flow.op_want rfl rfl (fun K hK => ?_)
      clear hdep hk ho hcl
      go_simp
      exact hK _ _ ⟨_, rfl, hG, rfl, fun _ _ _ h => h⟩
    · obtain rfl := Option.some.inj ho
      have e7 : a.tmps.getD 7 undef = .pointer (some ⟨b, 0, none⟩) := hk 7 (by kernel_rfl)
      refine Flow.op_want rfl rfl (fun K hK => ?_)
      clear hdep hk ho hcl
      go_simp
      exact hK _ _ ⟨_, rfl, hG, rfl, fun _ _ _ h => h⟩
    · obtain rfl := Option.some.inj ho
      have e283 : a.tmps.getD 283 undef = .pointer (some ⟨b, 12, none⟩) := hdep 1 283 (by kernel_rfl)
      have c12 := blk_cell hG.bx 12
      refine Flow.op_want rfl rfl (fun K hK => ?_)
      clear hdep hk ho hcl
      go_simp
      exact hK _ _ ⟨_, rfl, hG, rfl, fun _ _ _ h => h⟩
    · obtain rfl := Option.some.inj ho
      have e7 : a.tmps.getD 7 undef = .pointer (some ⟨b, 0, none⟩) := hk 7 (by kernel_rfl)
      refine Flow.op_want rfl rfl (fun K hK => ?_)
      clear hdep hk ho hcl
      go_simp
      exact hK _ _ ⟨_, rfl, hG, rfl, fun _ _ _ h => h⟩
    · obtain rfl := Option.some.inj ho
      have e285 : a.tmps.getD 285 undef = .pointer (some ⟨b, 6, none⟩) := hdep 3 285 (by kernel_rfl)
      have c6 := blk_cell hG.bx 6
      have c7 := blk_cell hG.bx 7
      have c8 := blk_cell hG.bx 8
      have c9 := blk_cell hG.bx 9
      have c10 := blk_cell hG.bx 10
      refine Flow.op_want rfl rfl (fun K hK => ?_)
      clear hdep hk ho hcl
      go_simp
      exact hK _ _ ⟨_, rfl, hG, hya.symm, fun _ _ _ h => h⟩
    · obtain rfl := Option.some.inj ho
      have e282 : a.tmps.getD 282 undef = .pointer (some ⟨p, 0, none⟩) := hdep 0 282 (by kernel_rfl)
      have e284 : a.tmps.getD 284 undef = .int .i64 x.space := hdep 2 284 (by kernel_rfl)
      have e286 : a.tmps.getD 286 undef = argS y := hdep 4 286 (by kernel_rfl)
      refine Flow.op_want rfl rfl (fun K hK => ?_)
      have hG2 : SG w p q n L v v' x.space y x.p.fr b (aO x F f BB d) false (bd 11) W := by have h0 := hG; simp only [hbi] at h0; exact h0
      clear hdep hk ho hcl
      go_simp
      have HC := SG.prog HSF.out hG2
      rw [hya] at HC
      refine HC.mono ?_
      rintro e W2 ⟨rfl, hG3⟩
      exact hK _ _ ⟨_, rfl, hG3, rfl, fun _ _ _ h => h⟩
    · obtain rfl := Option.some.inj ho
      have e4 : a.tmps.getD 4 undef = .pointer (some ⟨q, 0, none⟩) := hk 4 (by kernel_rfl)
      refine Flow.op_want rfl rfl (fun K hK => ?_)
      clear hdep hk ho hcl
      go_simp
      exact hK _ _ ⟨_, rfl, hG, rfl, fun _ _ _ h => h⟩
    · obtain rfl := Option.some.inj ho
      have e7 : a.tmps.getD 7 undef = .pointer (some ⟨b, 0, none⟩) := hk 7 (by kernel_rfl)
      refine Flow.op_want rfl rfl (fun K hK => ?_)
      clear hdep hk ho hcl
      go_simp
      exact hK _ _ ⟨_, rfl, hG, rfl, fun _ _ _ h => h⟩
    · obtain rfl := Option.some.inj ho
      have e289 : a.tmps.getD 289 undef = .pointer (some ⟨b, 12, none⟩) := hdep 7 289 (by kernel_rfl)
      have c12 := blk_cell hG.bx 12
      refine Flow.op_want rfl rfl (fun K hK => ?_)
      clear hdep hk ho hcl
      go_simp
      exact hK _ _ ⟨_, rfl, hG, rfl, fun _ _ _ h => h⟩
    · obtain rfl := Option.some.inj ho
      have e7 : a.tmps.getD 7 undef = .pointer (some ⟨b, 0, none⟩) := hk 7 (by kernel_rfl)
      refine Flow.op_want rfl rfl (fun K hK => ?_)
      clear hdep hk ho hcl
      go_simp
      exact hK _ _ ⟨_, rfl, hG, rfl, fun _ _ _ h => h⟩
    · obtain rfl := Option.some.inj ho
      have e291 : a.tmps.getD 291 undef = .pointer (some ⟨b, 6, none⟩) := hdep 9 291 (by kernel_rfl)
      have c6 := blk_cell hG.bx 6
      have c7 := blk_cell hG.bx 7
      have c8 := blk_cell hG.bx 8
      have c9 := blk_cell hG.bx 9
      have c10 := blk_cell hG.bx 10
      refine Flow.op_want rfl rfl (fun K hK => ?_)
      clear hdep hk ho hcl
      go_simp
      exact hK _ _ ⟨_, rfl, hG, hya.symm, fun _ _ _ h => h⟩
    · obtain rfl := Option.some.inj ho
      have e288 : a.tmps.getD 288 undef = .pointer (some ⟨q, 0, none⟩) := hdep 6 288 (by kernel_rfl)
      have e290 : a.tmps.getD 290 undef = .int .i64 x.space := hdep 8 290 (by kernel_rfl)
      have e292 : a.tmps.getD 292 undef = argS y := hdep 10 292 (by kernel_rfl)
      refine Flow.op_want rfl rfl (fun K hK => ?_)
      have hG2 : SG w p q n L v v' x.space y x.p.fr b (aO x F f BB d) (bd 5) false W := by have h0 := hG; simp only [hbi] at h0; exact h0
      clear hdep hk ho hcl
      go_simp
      have HC := SG.ref HSF.out HPL.out.lw.inv hG2
      rw [hya] at HC
      refine HC.mono ?_
      rintro e W2 ⟨rfl, hG3⟩
      exact hK _ _ ⟨_, rfl, hG3, rfl, fun _ _ _ h => h⟩
    · obtain rfl := Option.some.inj ho
      have e287 : a.tmps.getD 287 undef = .int .i64 (sentC x.space y L) := hdep 5 287 (by kernel_rfl)
      have e293 : a.tmps.getD 293 undef = .int .i64 (sentC x.space y L) := hdep 11 293 (by kernel_rfl)
      refine Flow.op_want rfl rfl (fun K hK => ?_)
      clear hdep hk ho hcl
      go_simp
      exact hK _ _ ⟨_, rfl, hG, rfl, fun _ _ _ h => h⟩
  · intro bd us w9 hall hG9 hval
    have hb5 : bd 5 = true := hall 5 (by decide)
    have hb11 : bd 11 = true := hall 11 (by decide)
    simp only [hb5, hb11] at hG9
    have hv12 : us 294 = .bool false := hval 12 _ 294 rfl rfl
    clear hval hall
    simp only [Flow.lay, List.set_cons_zero, List.set_cons_succ, hv12]
    obtain ⟨A', c', v2, u2, H2⟩ : ∃ A' c' v2 u2, PL w w9 p q n (sentX x.space y A' c' L) (sentX x.space y A' c' L) v2 u2 := hG9.st
    have H2 := Lib.hid H2
    go_wp2_with fail
    exact hK.out _ _ ⟨rfl, rfl, now, _, _, _, _, by omega, by omega, by omega, H2.out, rfl, rfl, rfl, rfl, rfl, rfl, rfl, rfl⟩
end Go.Proofs.Ytgdboikoejodpaa.PlaysG
