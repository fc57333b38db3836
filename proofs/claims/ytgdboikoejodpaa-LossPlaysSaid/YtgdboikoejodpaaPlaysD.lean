/- The law LossPlays: a space is dropped. -/
import Derived.Test.YtgdboikoejodpaaPlaysP
namespace Go.Proofs.Ytgdboikoejodpaa.PlaysD
open Go Go.RowKit Go.Proofs.YtgdboikoejodpaaW.PrintWords Go.Proofs.YtgdboikoejodpaaW.PrintLast Go.Proofs.YtgdboikoejodpaaW.PrintMore Go.Proofs.Ytgdboikoejodpaa.Keep Go.Proofs.Ytgdboikoejodpaa.Led Go.Proofs.Ytgdboikoejodpaa.Rate Go.Proofs.Ytgdboikoejodpaa.Rd Go.Proofs.Ytgdboikoejodpaa.Timer Go.Proofs.Ytgdboikoejodpaa.LedSp Go.Proofs.Ytgdboikoejodpaa.Drop Go.Proofs.Ytgdboikoejodpaa.In Go.Proofs.Ytgdboikoejodpaa.Split Go.Proofs.Ytgdboikoejodpaa.GoneP Go.Proofs.Ytgdboikoejodpaa.Gone Go.Proofs.Ytgdboikoejodpaa.AckP Go.Proofs.Ytgdboikoejodpaa.Ack Go.Proofs.Ytgdboikoejodpaa.Clone Go.Proofs.Ytgdboikoejodpaa.Sent Go.Proofs.Ytgdboikoejodpaa.Inv Go.Proofs.Ytgdboikoejodpaa.Fire Go.Proofs.Ytgdboikoejodpaa.Law Go.Proofs.Ytgdboikoejodpaa.Ref Go.Proofs.Ytgdboikoejodpaa.RefB Go.Proofs.Ytgdboikoejodpaa.RefLost Go.Proofs.Ytgdboikoejodpaa.RefSent Go.Proofs.Ytgdboikoejodpaa.RefAck Go.Proofs.Ytgdboikoejodpaa.RefFire Go.Proofs.Ytgdboikoejodpaa.OpenL Go.Proofs.Ytgdboikoejodpaa.PlaysP Go.Proofs.Ytgdboikoejodpaa.PlaysW Go.Proofs.Ytgdboikoejodpaa.PlaysQ Go.Proofs.Ytgdboikoejodpaa.Plays0
set_option linter.unusedVariables false
set_option maxHeartbeats 8000000 in
set_option maxRecDepth 1000000 in
theorem done (w : World) (B : Option Addr) (c : Nat) (l : List A) (p q : Nat) (k i b : Nat) (now : Int) (n : Nat) (L : Lg) (v v' : Nat → Value) (x : A) (F : Option Addr) (f : Nat) (BB : Option Addr) (d : Nat) (a : Act) (wr : World) (H : SI w B c l p q k i b now 7 n L v v' x F f BB d a wr) (K : Act → World → Prop) (Q' : Exit → Act → World → Prop) (hK : Hid (∀ a' w', SO w B c l p q k i a' w' → K a' w')) :
    Code.wp Try.prog sw (Exit.then K Q') a wr := by
  obtain ⟨u, rfl, hu⟩ := laid a H.size H.defs
  have g0 := (hu 0).trans H.s0
  have g3 := (hu 3).trans H.s3
  have g4 := (hu 4).trans H.s4
  have g5 := (hu 5).trans H.s5
  have g7 := (hu 7).trans H.s7
  have g8 := (hu 8).trans H.s8
  have g9 := (hu 9).trans H.s9
  have g46 := (hu 46).trans H.s46
  have g47 := (hu 47).trans H.s47
  have g48 := (hu 48).trans H.s48
  have g87 := (hu 87).trans H.s87
  simp only [g0, g3, g4, g5, g7, g8, g9, g46, g47, g48, g87]
  conv => arg 2; whnf
  have HX := Lib.hid H.ba
  have HPL := Lib.hid H.pl
  have HBX := Lib.hid H.bx
  have HCF := Lib.hid H.cf
  have HCQ := Lib.hid H.cq
  have hi3 := H.i3
  have hk1 := H.k1
  have hnk := H.nk
  have hw0 := H.w0
  have hw1 := H.w1
  have hfr := H.fr
  have hsl := H.sl
  have hbp := H.bp
  have hbq := H.bq
  have hxn := wf8_bd H.ba.2.2.1
  have hxs := wf16_bd H.ba.2.2.2.2.1
  have hxp := wfi_bd H.ba.2.2.2.2.2.2.2.2
  clear H hu g0 g3 g4 g5 g7 g8 g9 g46 g47 g48 g87
  have b2 := blk_cell HBX.out 2
  have b4 := blk_cell HBX.out 4
  have b5 := blk_cell HBX.out 5
  have b6 := blk_cell HBX.out 6
  have b7 := blk_cell HBX.out 7
  have b8 := blk_cell HBX.out 8
  have b9 := blk_cell HBX.out 9
  have b10 := blk_cell HBX.out 10
  have b11 := blk_cell HBX.out 11
  have b12 := blk_cell HBX.out 12
  by_cases hn4 : x.n % 4 > 0
  · have hd : decide (x.n % 4 > 0) = true := by simp; omega
    go_wp2_with fail
    refine (p_drop HPL.out _).mono ?_
    rintro e w2 ⟨rfl, v2, H2⟩
    have H2 := Lib.hid H2
    go_wp2_with fail
    refine (r_drop H2.out _).mono ?_
    rintro e w3 ⟨rfl, v3, H3⟩
    have H3 := Lib.hid H3
    go_wp2_with fail
    exact hK.out _ _ ⟨rfl, rfl, now, _, _, _, _, by omega, by omega, by omega, H3.out, rfl, rfl, rfl, rfl, rfl, rfl, rfl, rfl⟩
  · have hd : decide (x.n % 4 > 0) = false := by simp; omega
    go_wp2_with fail
    refine (p_drop HPL.out _).mono ?_
    rintro e w2 ⟨rfl, v2, H2⟩
    have H2 := Lib.hid H2
    go_wp2_with fail
    refine (r_drop H2.out _).mono ?_
    rintro e w3 ⟨rfl, v3, H3⟩
    have H3 := Lib.hid H3
    go_wp2_with fail
    exact hK.out _ _ ⟨rfl, rfl, now, _, _, _, _, by omega, by omega, by omega, H3.out, rfl, rfl, rfl, rfl, rfl, rfl, rfl, rfl⟩
end Go.Proofs.Ytgdboikoejodpaa.PlaysD

namespace Go.Proofs.Ytgdboikoejodpaa.PlaysA
open Go Go.RowKit Go.Proofs.YtgdboikoejodpaaW.PrintWords Go.Proofs.YtgdboikoejodpaaW.PrintLast Go.Proofs.YtgdboikoejodpaaW.PrintMore Go.Proofs.Ytgdboikoejodpaa.Keep Go.Proofs.Ytgdboikoejodpaa.Led Go.Proofs.Ytgdboikoejodpaa.Rate Go.Proofs.Ytgdboikoejodpaa.Rd Go.Proofs.Ytgdboikoejodpaa.Timer Go.Proofs.Ytgdboikoejodpaa.LedSp Go.Proofs.Ytgdboikoejodpaa.Drop Go.Proofs.Ytgdboikoejodpaa.In Go.Proofs.Ytgdboikoejodpaa.Split Go.Proofs.Ytgdboikoejodpaa.GoneP Go.Proofs.Ytgdboikoejodpaa.Gone Go.Proofs.Ytgdboikoejodpaa.AckP Go.Proofs.Ytgdboikoejodpaa.Ack Go.Proofs.Ytgdboikoejodpaa.Clone Go.Proofs.Ytgdboikoejodpaa.Sent Go.Proofs.Ytgdboikoejodpaa.Inv Go.Proofs.Ytgdboikoejodpaa.Fire Go.Proofs.Ytgdboikoejodpaa.Law Go.Proofs.Ytgdboikoejodpaa.Ref Go.Proofs.Ytgdboikoejodpaa.RefB Go.Proofs.Ytgdboikoejodpaa.RefLost Go.Proofs.Ytgdboikoejodpaa.RefSent Go.Proofs.Ytgdboikoejodpaa.RefAck Go.Proofs.Ytgdboikoejodpaa.RefFire Go.Proofs.Ytgdboikoejodpaa.OpenL Go.Proofs.Ytgdboikoejodpaa.PlaysP Go.Proofs.Ytgdboikoejodpaa.PlaysW Go.Proofs.Ytgdboikoejodpaa.PlaysQ Go.Proofs.Ytgdboikoejodpaa.Plays0 Go.Proofs.Ytgdboikoejodpaa.PlaysL
set_option linter.unusedVariables false
set_option maxHeartbeats 8000000 in
set_option maxRecDepth 1000000 in
theorem done (w : World) (B : Option Addr) (c : Nat) (l : List A) (p q : Nat) (k i b : Nat) (now : Int) (n : Nat) (L : Lg) (v v' : Nat → Value) (x : A) (F : Option Addr) (f : Nat) (BB : Option Addr) (d : Nat) (a : Act) (wr : World) (H : SI w B c l p q k i b now 9 n L v v' x F f BB d a wr) (K : Act → World → Prop) (Q' : Exit → Act → World → Prop) (hK : Hid (∀ a' w', SO w B c l p q k i a' w' → K a' w')) :
    Code.wp Try.prog sw (Exit.then K Q') a wr := by
  obtain ⟨u, rfl, hu⟩ := laid a H.size H.defs
  have g0 := (hu 0).trans H.s0
  have g3 := (hu 3).trans H.s3
  have g4 := (hu 4).trans H.s4
  have g5 := (hu 5).trans H.s5
  have g7 := (hu 7).trans H.s7
  have g8 := (hu 8).trans H.s8
  have g9 := (hu 9).trans H.s9
  have g46 := (hu 46).trans H.s46
  have g47 := (hu 47).trans H.s47
  have g48 := (hu 48).trans H.s48
  have g87 := (hu 87).trans H.s87
  simp only [g0, g3, g4, g5, g7, g8, g9, g46, g47, g48, g87]
  conv => arg 2; whnf
  have HX := Lib.hid H.ba
  have HPL := Lib.hid H.pl
  have HBX := Lib.hid H.bx
  have HCF := Lib.hid H.cf
  have HCQ := Lib.hid H.cq
  have hi3 := H.i3
  have hk1 := H.k1
  have hnk := H.nk
  have hw0 := H.w0
  have hw1 := H.w1
  have hfr := H.fr
  have hsl := H.sl
  have hbp := H.bp
  have hbq := H.bq
  have hxn := wf8_bd H.ba.2.2.1
  have hxs := wf16_bd H.ba.2.2.2.2.1
  have hxp := wfi_bd H.ba.2.2.2.2.2.2.2.2
  clear H hu g0 g3 g4 g5 g7 g8 g9 g46 g47 g48 g87
  have b2 := blk_cell HBX.out 2
  have b4 := blk_cell HBX.out 4
  have b5 := blk_cell HBX.out 5
  have b6 := blk_cell HBX.out 6
  have b7 := blk_cell HBX.out 7
  have b8 := blk_cell HBX.out 8
  have b9 := blk_cell HBX.out 9
  have b10 := blk_cell HBX.out 10
  have b11 := blk_cell HBX.out 11
  have b12 := blk_cell HBX.out 12
  have hpx := HPL.out.lw.hp
  have hqx := HPL.out.rl.hp
  have hqz := blk_lt HPL.out.rl.blk
  have hpq := bq_pq HX.out.2.2.2.2.2.2.2.1.2
  have HPQ := Lib.hid hpq
  have HCW := Lib.hid (Kd.C_below HCQ.out HPL.out.lw.below)
  have lb : ∀ a, BB = some a → 0 < x.spans.length → a.block < w.heap.size := fun a e hn => by subst e; exact CQ_lt HCQ.out hn
  have HLB := Lib.hid lb
  clear hpq lb
  go_wp2_with fail
  refine (p_ack HPL.out (by omega) _ now (by omega) BB d x.spans HCW.out HPQ.out (by omega) (fun a e hn => by have := HLB.out a e hn; omega)).mono ?_
  have LEN := ackX_len HPL.out.lw.inv (by omega) x.space now x.spans HPQ.out (by omega)
  obtain ⟨t, ht⟩ : ∃ t, ackX x.space x.spans now L = t := ⟨_, rfl⟩
  rw [ht] at LEN ⊢
  rintro e w2 ⟨va, vl, v2, rfl, H2, RA, RB, K2⟩
  obtain ⟨A1, c1, e1, -⟩ := row_slice RA
  obtain ⟨A2, c2, e2, -⟩ := row_slice RB
  subst e1 e2
  have H2 := Lib.hid H2
  have HRA := Lib.hid RA
  have HRB := Lib.hid RB
  have HCW2 := Lib.hid (Kd.C_below HCQ.out H2.out.lw.below)
  have HBX2 := Lib.hid (K2.blk HBX.out hbp)
  clear RA RB b2 b4 b5 b6 b7 b8 b9 b10 b11 b12
  have b11 := blk_cell HBX2.out 11
  have b12 := blk_cell HBX2.out 12
  go_wp2_with fail
  have RK := r_ack H2.out HPL.out.lw.inv (by omega) x.space now (by omega) BB d x.spans HCW2.out HPQ.out (by omega) (fun a e hn => by have := HLB.out a e hn; omega)
  rw [ht] at RK
  refine RK.mono ?_
  rintro e w3 ⟨va', vl', v3, rfl, H3, RA', RB', K3⟩
  obtain ⟨A3, c3, e3, hE1⟩ := RE_slice RA'
  obtain ⟨A4, c4, e4, hE2⟩ := RE_slice RB'
  subst e3 e4
  have H3 := Lib.hid H3
  have C1 := row_slice' (Kp.R K3 HRA.out hqz)
  have C2 := row_slice' (Kp.R K3 HRB.out hqz)
  have HS1 := Lib.hid (rsame_calls A1 A3 c1 c3 t.1 C1 hE1 (by omega))
  have HS2 := Lib.hid (fun m => rsame_calls (w := w3.drewN m) A2 A4 c2 c4 t.2.1 (Kd.C_below C2 (bdrewN (Below.refl _ _) m)) (Kd.C_below hE2 (bdrewN (Below.refl _ _) m)) (by omega))
  clear C1 C2 hE1 hE2 RA' RB' HRA HRB RK ht
  go_wp2_with fail
  refine HS1.out.mono ?_
  rintro e w4 ⟨rfl, m4, rfl⟩
  go_wp2_with fail
  refine (HS2.out m4).mono ?_
  rintro e w5 ⟨rfl, m5, rfl⟩
  go_wp2_with fail
  exact hK.out _ _ ⟨rfl, rfl, now, _, _, _, _, by omega, by omega, by omega, H3.out.drewN (m4 + m5), rfl, rfl, rfl, rfl, rfl, rfl, rfl, rfl⟩
end Go.Proofs.Ytgdboikoejodpaa.PlaysA

namespace Go.Proofs.Ytgdboikoejodpaa.PlaysF
open Go Go.RowKit Go.Proofs.YtgdboikoejodpaaW.PrintWords Go.Proofs.YtgdboikoejodpaaW.PrintLast Go.Proofs.YtgdboikoejodpaaW.PrintMore Go.Proofs.Ytgdboikoejodpaa.Keep Go.Proofs.Ytgdboikoejodpaa.Led Go.Proofs.Ytgdboikoejodpaa.Rate Go.Proofs.Ytgdboikoejodpaa.Rd Go.Proofs.Ytgdboikoejodpaa.Timer Go.Proofs.Ytgdboikoejodpaa.LedSp Go.Proofs.Ytgdboikoejodpaa.Drop Go.Proofs.Ytgdboikoejodpaa.In Go.Proofs.Ytgdboikoejodpaa.Split Go.Proofs.Ytgdboikoejodpaa.GoneP Go.Proofs.Ytgdboikoejodpaa.Gone Go.Proofs.Ytgdboikoejodpaa.AckP Go.Proofs.Ytgdboikoejodpaa.Ack Go.Proofs.Ytgdboikoejodpaa.Clone Go.Proofs.Ytgdboikoejodpaa.Sent Go.Proofs.Ytgdboikoejodpaa.Inv Go.Proofs.Ytgdboikoejodpaa.Fire Go.Proofs.Ytgdboikoejodpaa.Law Go.Proofs.Ytgdboikoejodpaa.Ref Go.Proofs.Ytgdboikoejodpaa.RefB Go.Proofs.Ytgdboikoejodpaa.RefLost Go.Proofs.Ytgdboikoejodpaa.RefSent Go.Proofs.Ytgdboikoejodpaa.RefAck Go.Proofs.Ytgdboikoejodpaa.RefFire Go.Proofs.Ytgdboikoejodpaa.OpenL Go.Proofs.Ytgdboikoejodpaa.PlaysP Go.Proofs.Ytgdboikoejodpaa.PlaysW Go.Proofs.Ytgdboikoejodpaa.PlaysQ Go.Proofs.Ytgdboikoejodpaa.Plays0 Go.Proofs.Ytgdboikoejodpaa.PlaysL
set_option linter.unusedVariables false
set_option maxHeartbeats 8000000 in
set_option maxRecDepth 1000000 in
theorem done (w : World) (B : Option Addr) (c : Nat) (l : List A) (p q : Nat) (k i b : Nat) (now : Int) (n : Nat) (L : Lg) (v v' : Nat → Value) (x : A) (F : Option Addr) (f : Nat) (BB : Option Addr) (d : Nat) (a : Act) (wr : World) (H : SI w B c l p q k i b now 6 n L v v' x F f BB d a wr) (K : Act → World → Prop) (Q' : Exit → Act → World → Prop) (hK : Hid (∀ a' w', SO w B c l p q k i a' w' → K a' w')) :
    Code.wp Try.prog sw (Exit.then K Q') a wr := by
  obtain ⟨u, rfl, hu⟩ := laid a H.size H.defs
  have g0 := (hu 0).trans H.s0
  have g3 := (hu 3).trans H.s3
  have g4 := (hu 4).trans H.s4
  have g5 := (hu 5).trans H.s5
  have g7 := (hu 7).trans H.s7
  have g8 := (hu 8).trans H.s8
  have g9 := (hu 9).trans H.s9
  have g46 := (hu 46).trans H.s46
  have g47 := (hu 47).trans H.s47
  have g48 := (hu 48).trans H.s48
  have g87 := (hu 87).trans H.s87
  simp only [g0, g3, g4, g5, g7, g8, g9, g46, g47, g48, g87]
  conv => arg 2; whnf
  have HX := Lib.hid H.ba
  have HPL := Lib.hid H.pl
  have HBX := Lib.hid H.bx
  have HCF := Lib.hid H.cf
  have HCQ := Lib.hid H.cq
  have hi3 := H.i3
  have hk1 := H.k1
  have hnk := H.nk
  have hw0 := H.w0
  have hw1 := H.w1
  have hfr := H.fr
  have hsl := H.sl
  have hbp := H.bp
  have hbq := H.bq
  have hxn := wf8_bd H.ba.2.2.1
  have hxs := wf16_bd H.ba.2.2.2.2.1
  have hxp := wfi_bd H.ba.2.2.2.2.2.2.2.2
  clear H hu g0 g3 g4 g5 g7 g8 g9 g46 g47 g48 g87
  have b2 := blk_cell HBX.out 2
  have b4 := blk_cell HBX.out 4
  have b5 := blk_cell HBX.out 5
  have b6 := blk_cell HBX.out 6
  have b7 := blk_cell HBX.out 7
  have b8 := blk_cell HBX.out 8
  have b9 := blk_cell HBX.out 9
  have b10 := blk_cell HBX.out 10
  have b11 := blk_cell HBX.out 11
  have b12 := blk_cell HBX.out 12
  have TB := timer_b HPL.out.lw.inv
  obtain ⟨at1, hat⟩ : ∃ a, (timerL L).1 = a := ⟨_, rfl⟩
  obtain ⟨ok1, hok⟩ : ∃ a, (timerL L).2 = a := ⟨_, rfl⟩
  have TC := rtimer_calls HPL.out.rl HPL.out.lw.inv.b
  rw [hat] at TB TC
  rw [hok] at TC
  have HTC := Lib.hid TC
  have hqz := blk_lt HPL.out.rl.blk
  clear TC hat hok
  go_wp2_with fail
  refine HTC.out.mono ?_
  rintro e w2 ⟨rfl, rfl⟩
  go_upto_region 31 with fail
  go_cut [222] from 216 to 222 (fun y wc => wr = wc ∧ y = .bool (ok1 && decide (x.n % 3 > 0)))
  case first =>
    cases ok1 with
    | false =>
      go_wp2_with fail
      go_meet
      case rel => exact ⟨rfl, rfl⟩
    | true =>
      go_wp2_with fail
      go_meet
      case rel => exact ⟨rfl, by simp⟩
  case rest =>
  obtain ⟨rfl, rfl⟩ := hcut
  go_upto_if 222 with fail
  go_cut [5, 20, 119, 120, 121] from 211 to 225 (fun y y20 y119 y120 y121 wc => wr = wc ∧ ∃ now2 : Int, y = .int .u64 now2 ∧ 1 ≤ now2 ∧ now2 ≤ 5764608622749902080 + 200 * ((k : Int) + 1))
  case first =>
    cases ok1 with
    | false =>
      simp only [Bool.false_and]
      go_wp2_with fail
      all_goals (go_meet; case rel => exact ⟨rfl, now, rfl, by omega, by omega⟩)
    | true =>
      by_cases hn3 : x.n % 3 > 0
      · have hd : decide (x.n % 3 > 0) = true := by simp; omega
        rcases Int.lt_trichotomy now at1 with hnt | hnt | hnt
        · go_wp2_with fail
          all_goals (go_meet; case rel => first | exact ⟨rfl, at1, rfl, by omega, by omega⟩ | exact ⟨rfl, now, rfl, by omega, by omega⟩)
        · go_wp2_with fail
          all_goals (go_meet; case rel => first | exact ⟨rfl, at1, rfl, by omega, by omega⟩ | exact ⟨rfl, now, rfl, by omega, by omega⟩)
        · go_wp2_with fail
          all_goals (go_meet; case rel => first | exact ⟨rfl, at1, rfl, by omega, by omega⟩ | exact ⟨rfl, now, rfl, by omega, by omega⟩)
      · have hd : decide (x.n % 3 > 0) = false := by simp; omega
        go_wp2_with fail
        all_goals (go_meet; case rel => exact ⟨rfl, now, rfl, by omega, by omega⟩)
  case rest =>
    obtain ⟨rfl, now2, rfl, hx1, hx2⟩ := hcut
    clear b2 b4 b5 b6 b7 b8 b9 b10 b11 b12
    go_wp2_with fail
    refine (p_fire HPL.out (by omega) now2 ⟨by omega, by omega⟩).mono ?_
    have LEN := fun j => fireL_len HPL.out.lw.inv now2 (by omega) j
    obtain ⟨t, ht⟩ : ∃ t, fireL now2 L = t := ⟨_, rfl⟩
    rw [ht]
    simp only [ht] at LEN
    obtain ⟨L2, out, pr⟩ := t
    simp only at LEN ⊢
    rintro e w2 ⟨o, v2, rfl, H2, RO, K2⟩
    obtain ⟨A0, c0, e0, -⟩ := row_slice (RO 0 (by omega))
    obtain ⟨A1, c1, e1, -⟩ := row_slice (RO 1 (by omega))
    obtain ⟨A2, c2, e2, -⟩ := row_slice (RO 2 (by omega))
    have R0 := RO 0 (by omega)
    have R1 := RO 1 (by omega)
    have R2 := RO 2 (by omega)
    rw [e0] at R0
    rw [e1] at R1
    rw [e2] at R2
    rw [e0, e1, e2]
    have l0 := LEN 0
    have l1 := LEN 1
    have l2 := LEN 2
    have HW := Lib.hid H2
    have B3 := (Below.refl w2.heap.size w2).alloc (Nat.le_refl _) (.cells #[.slice A0 (out 0).length c0, .slice A1 (out 1).length c1, .slice A2 (out 2).length c2] 47)
    have H3 := Lib.hid (H2.go B3)
    have HY3 := Lib.hid (heap_alloc_new w2 (.cells #[.slice A0 (out 0).length c0, .slice A1 (out 1).length c1, .slice A2 (out 2).length c2] 47))
    have HR0 := Lib.hid (Kd.R_below R0 B3)
    have HR1 := Lib.hid (Kd.R_below R1 B3)
    have HR2 := Lib.hid (Kd.R_below R2 B3)
    have hyq : w2.heap.size ≠ q := by have := K2.size; omega
    clear RO R0 R1 R2 B3 LEN e0 e1 e2
    go_upto_region 34 with fail
    generalize w2.alloc (.cells #[.slice A0 (out 0).length c0, .slice A1 (out 1).length c1, .slice A2 (out 2).length c2] 47) = w3 at H3 HY3 HR0 HR1 HR2 ⊢
    have RF := r_fire H3.out HPL.out.lw.inv (by omega) now2 ⟨by omega, by omega⟩
    rw [ht] at RF
    have HRF := Lib.hid RF
    clear RF
    go_wp2_with fail
    refine HRF.out.mono ?_
    rintro e w4 ⟨o', v4, rfl, H4, RO, K4⟩
    obtain ⟨D0, d0, e0, E0⟩ := RE_slice (RO 0 (by omega))
    obtain ⟨D1, d1, e1, E1⟩ := RE_slice (RO 1 (by omega))
    obtain ⟨D2, d2, e2, E2⟩ := RE_slice (RO 2 (by omega))
    rw [e0, e1, e2]
    have hr0 := row_slice' (Kp.R K4 HR0.out hqz)
    have hr1 := row_slice' (Kp.R K4 HR1.out hqz)
    have hr2 := row_slice' (Kp.R K4 HR2.out hqz)
    have B5 := (Below.refl w4.heap.size w4).alloc (Nat.le_refl _) (.cells #[.slice D0 (out 0).length d0, .slice D1 (out 1).length d1, .slice D2 (out 2).length d2] 47)
    have H5 := Lib.hid (H4.go B5)
    have HY5 := Lib.hid (blk_below (K4.blk HY3.out hyq) B5)
    have HZ5 := Lib.hid (heap_alloc_new w4 (.cells #[.slice D0 (out 0).length d0, .slice D1 (out 1).length d1, .slice D2 (out 2).length d2] 47))
    have S0 := fun m => rsame_calls (w := (w4.alloc (.cells #[.slice D0 (out 0).length d0, .slice D1 (out 1).length d1, .slice D2 (out 2).length d2] 47)).drewN m) A0 D0 c0 d0 (out 0) (Kd.C_below (Kd.C_below hr0 B5) (bdrewN (Below.refl _ _) m)) (Kd.C_below (Kd.C_below E0 B5) (bdrewN (Below.refl _ _) m)) (by omega)
    have S1 := fun m => rsame_calls (w := (w4.alloc (.cells #[.slice D0 (out 0).length d0, .slice D1 (out 1).length d1, .slice D2 (out 2).length d2] 47)).drewN m) A1 D1 c1 d1 (out 1) (Kd.C_below (Kd.C_below hr1 B5) (bdrewN (Below.refl _ _) m)) (Kd.C_below (Kd.C_below E1 B5) (bdrewN (Below.refl _ _) m)) (by omega)
    have S2 := fun m => rsame_calls (w := (w4.alloc (.cells #[.slice D0 (out 0).length d0, .slice D1 (out 1).length d1, .slice D2 (out 2).length d2] 47)).drewN m) A2 D2 c2 d2 (out 2) (Kd.C_below (Kd.C_below hr2 B5) (bdrewN (Below.refl _ _) m)) (Kd.C_below (Kd.C_below E2 B5) (bdrewN (Below.refl _ _) m)) (by omega)
    have HS0 := Lib.hid (S0 0)
    have HS1 := Lib.hid S1
    have HS2 := Lib.hid S2
    rw [World.drewN_zero] at HS0
    clear RO B5 S0 S1 S2 e0 e1 e2 E0 E1 E2 hr0 hr1 hr2
    go_upto_region 35 with fail
    generalize w4.alloc (.cells #[.slice D0 (out 0).length d0, .slice D1 (out 1).length d1, .slice D2 (out 2).length d2] 47) = w5 at H5 HY5 HZ5 HS0 HS1 HS2 ⊢
    have y0 := blk_cell HY5.out 0
    have y1 := blk_cell HY5.out 1
    have y2 := blk_cell HY5.out 2
    have z0 := blk_cell HZ5.out 0
    have z1 := blk_cell HZ5.out 1
    have z2 := blk_cell HZ5.out 2
    have hpp : (pr != pr) = false := by cases pr <;> rfl
    go_wp2_with fail
    refine HS0.out.mono ?_
    rintro e w6 ⟨rfl, m6, rfl⟩
    go_wp2_with fail
    refine (HS1.out m6).mono ?_
    rintro e w7 ⟨rfl, m7, rfl⟩
    go_wp2_with fail
    refine (HS2.out (m6 + m7)).mono ?_
    rintro e w8 ⟨rfl, m8, rfl⟩
    go_wp2_with fail
    exact hK.out _ _ ⟨rfl, rfl, now2, _, _, _, _, by omega, by omega, by omega, H5.out.drewN (m6 + m7 + m8), rfl, rfl, rfl, rfl, rfl, rfl, rfl, rfl⟩
end Go.Proofs.Ytgdboikoejodpaa.PlaysF

