/- The law LossPlays: behind the switch, a round compares what both ledgers say. -/
import Derived.Test.YtgdboikoejodpaaPlaysP
namespace Go.Proofs.Ytgdboikoejodpaa.PlaysT
open Go Go.RowKit Go.Proofs.YtgdboikoejodpaaW.PrintWords Go.Proofs.YtgdboikoejodpaaW.PrintLast Go.Proofs.YtgdboikoejodpaaW.PrintMore Go.Proofs.Ytgdboikoejodpaa.Keep Go.Proofs.Ytgdboikoejodpaa.Led Go.Proofs.Ytgdboikoejodpaa.Rate Go.Proofs.Ytgdboikoejodpaa.Rd Go.Proofs.Ytgdboikoejodpaa.Timer Go.Proofs.Ytgdboikoejodpaa.LedSp Go.Proofs.Ytgdboikoejodpaa.Drop Go.Proofs.Ytgdboikoejodpaa.In Go.Proofs.Ytgdboikoejodpaa.Split Go.Proofs.Ytgdboikoejodpaa.GoneP Go.Proofs.Ytgdboikoejodpaa.Gone Go.Proofs.Ytgdboikoejodpaa.AckP Go.Proofs.Ytgdboikoejodpaa.Ack Go.Proofs.Ytgdboikoejodpaa.Clone Go.Proofs.Ytgdboikoejodpaa.Sent Go.Proofs.Ytgdboikoejodpaa.Inv Go.Proofs.Ytgdboikoejodpaa.Fire Go.Proofs.Ytgdboikoejodpaa.Law Go.Proofs.Ytgdboikoejodpaa.Ref Go.Proofs.Ytgdboikoejodpaa.RefB Go.Proofs.Ytgdboikoejodpaa.RefLost Go.Proofs.Ytgdboikoejodpaa.RefSent Go.Proofs.Ytgdboikoejodpaa.RefAck Go.Proofs.Ytgdboikoejodpaa.RefFire Go.Proofs.Ytgdboikoejodpaa.OpenL Go.Proofs.Ytgdboikoejodpaa.PlaysP Go.Proofs.Ytgdboikoejodpaa.PlaysW Go.Proofs.Ytgdboikoejodpaa.PlaysQ Go.Proofs.Ytgdboikoejodpaa.Plays0 Go.Proofs.Ytgdboikoejodpaa.PlaysL
set_option linter.unusedVariables false
/-- Is block 2 in it? -/
def has2 : Code → Bool
  | .block j c => j == 2 || has2 c
  | .seq a b => has2 a || has2 b
  | .cond _ a b => has2 a || has2 b
  | .loop c => has2 c
  | .scope c => has2 c
  | _ => false
/-- What follows the statement that holds block 2. -/
def tlf : Code → Option Code
  | .block j c => if j = 2 then none else tlf c
  | .seq a b => (tlf b).orElse fun _ => (tlf a).orElse fun _ => if has2 a then some b else none
  | .cond _ a b => (tlf a).orElse fun _ => tlf b
  | .loop c => tlf c
  | .scope c => tlf c
  | _ => none
noncomputable def tl : Code := (tlf body).getD .skip
set_option maxHeartbeats 16000000 in
set_option maxRecDepth 1000000 in
theorem tail (w : World) (B : Option Addr) (c : Nat) (l : List A) (p q : Nat) (k i : Nat) (hi3 : i < 3) (hk1 : k ≤ 100) (a : Act) (wr : World) (H : SO w B c l p q k i a wr) (Q : Exit → Act → World → Prop) (hQ : Hid (∀ a' w', SO w B c l p q k i a' w' → Q .normal a' w')) :
    Code.wp Try.prog tl Q a wr := by
  obtain ⟨u, rfl, hu⟩ := laid a H.size H.defs
  obtain ⟨now, n, L, v, v', hw0, hw1, hnk, HP, s0, s3, s4, s5, s8, s46, s47, s48⟩ := H.rel
  have g0 := (hu 0).trans s0
  have g3 := (hu 3).trans s3
  have g4 := (hu 4).trans s4
  have g5 := (hu 5).trans s5
  have g8 := (hu 8).trans s8
  have g46 := (hu 46).trans s46
  have g47 := (hu 47).trans s47
  have g48 := (hu 48).trans s48
  simp only [g0, g3, g4, g5, g8, g46, g47, g48]
  conv => arg 2; whnf
  have HPL := Lib.hid HP
  clear H HP hu g0 s0 g3 s3 g4 s4 g5 s5 g8 s8 g46 s46 g47 s47 g48 s48
  have hpx := HPL.out.lw.hp
  have hqx := HPL.out.rl.hp
  obtain ⟨t1, ht1⟩ : ∃ t, (timerL L).1 = t := ⟨_, rfl⟩
  obtain ⟨t2, ht2⟩ : ∃ t, (timerL L).2 = t := ⟨_, rfl⟩
  have TP := timer_calls HPL.out.lw.led HPL.out.lw.inv.b
  rw [ht1, ht2] at TP
  have HTP := Lib.hid TP
  clear TP
  go_wp2_with fail
  refine HTP.out.mono ?_
  rintro e w2 ⟨rfl, m2, rfl⟩
  have HPL2 := Lib.hid (HPL.out.drewN m2)
  have TR := rtimer_calls HPL2.out.rl HPL.out.lw.inv.b
  rw [ht1, ht2] at TR
  have HTR := Lib.hid TR
  clear TR
  generalize wr.drewN m2 = w2 at HPL2 HTR ⊢
  go_wp2_with fail
  refine HTR.out.mono ?_
  rintro e w3 ⟨rfl, rfl⟩
  go_wp2_with fail
  refine (lw_state HPL2.out.lw).mono ?_
  rintro e w4 ⟨rfl, m4, rfl⟩
  have HPL4 := Lib.hid (HPL2.out.drewN m4)
  generalize w2.drewN m4 = w4 at HPL4 ⊢
  obtain ⟨W1, hW1⟩ : ∃ x, L.r.window = x := ⟨_, rfl⟩
  obtain ⟨F1, hF1⟩ : ∃ x, L.r.flight = x := ⟨_, rfl⟩
  obtain ⟨M1, hM1⟩ : ∃ x, L.r.smooth = x := ⟨_, rfl⟩
  obtain ⟨V1, hV1⟩ : ∃ x, L.r.vary = x := ⟨_, rfl⟩
  simp only [hW1, hF1, hM1, hV1]
  obtain ⟨R1, hR1⟩ : ∃ x, roomL L.r = x := ⟨_, rfl⟩
  have hRR : R1 = if F1 < W1 then W1 - F1 else 0 := by rw [← hR1]; unfold roomL mn; rw [hW1, hF1]; (repeat' split) <;> omega
  have hbr := HPL.out.lw.inv.b.r
  have hbf := hbr.fl
  have hbw := hbr.wi
  rw [hF1] at hbf
  rw [hW1] at hbw
  clear hbr
  go_upto_region 55 with fail
  refine Flow.wp_region_lit [351, 352, 353, 354, 355, 356, 357] (by kernel_rfl) (fun jj W v => match jj with | 0 => v = .pointer (some ⟨q, 0, none⟩) | 1 => v = .pointer (some ⟨q, 0, none⟩) | 2 => v = .pointer (some ⟨q, 15, none⟩) | 3 => v = .int .u64 W1 | 4 => v = .pointer (some ⟨q, 0, none⟩) | 5 => v = .int .u64 F1 | 6 => v = .bool (decide (F1 < W1)) | _ => True) (fun W => PL w W p q n L L v v') (by kernel_rfl) (by kernel_rfl) (by kernel_rfl) (by kernel_rfl) (HPL4.out.go (Below.refl _ _).drew) ?_ ?_
  · intro i o ho a W hG hk hdep
    have hi : i < 7 := (Array.getElem?_eq_some_iff.1 ho).1
    rcases (by omega : i = 0 ∨ i = 1 ∨ i = 2 ∨ i = 3 ∨ i = 4 ∨ i = 5 ∨ i = 6) with rfl | rfl | rfl | rfl | rfl | rfl | rfl
    · obtain rfl := Option.some.inj ho
      have e4 : a.tmps.getD 4 undef = .pointer (some ⟨q, 0, none⟩) := hk 4 (by kernel_rfl)
      refine Flow.op_want rfl rfl (fun K hK => ?_)
      clear hdep hk ho
      go_simp
      exact hK _ _ ⟨_, rfl, hG, rfl, fun _ _ h => h⟩
    · obtain rfl := Option.some.inj ho
      have e351 : a.tmps.getD 351 undef = .pointer (some ⟨q, 0, none⟩) := hdep 0 351 (by kernel_rfl)
      refine Flow.op_want rfl rfl (fun K hK => ?_)
      clear hdep hk ho
      go_simp
      exact hK _ _ ⟨_, rfl, hG, rfl, fun _ _ h => h⟩
    · obtain rfl := Option.some.inj ho
      have e352 : a.tmps.getD 352 undef = .pointer (some ⟨q, 0, none⟩) := hdep 1 352 (by kernel_rfl)
      refine Flow.op_want rfl rfl (fun K hK => ?_)
      clear hdep hk ho
      go_simp
      exact hK _ _ ⟨_, rfl, hG, rfl, fun _ _ h => h⟩
    · obtain rfl := Option.some.inj ho
      have e353 : a.tmps.getD 353 undef = .pointer (some ⟨q, 15, none⟩) := hdep 2 353 (by kernel_rfl)
      have c := hG.rl.rate.2.2.2.1
      rw [hW1] at c
      refine Flow.op_want rfl rfl (fun K hK => ?_)
      clear hdep hk ho
      go_simp
      exact hK _ _ ⟨_, rfl, hG, rfl, fun _ _ h => h⟩
    · obtain rfl := Option.some.inj ho
      have e4 : a.tmps.getD 4 undef = .pointer (some ⟨q, 0, none⟩) := hk 4 (by kernel_rfl)
      refine Flow.op_want rfl rfl (fun K hK => ?_)
      clear hdep hk ho
      go_simp
      exact hK _ _ ⟨_, rfl, hG, rfl, fun _ _ h => h⟩
    · obtain rfl := Option.some.inj ho
      have e355 : a.tmps.getD 355 undef = .pointer (some ⟨q, 0, none⟩) := hdep 4 355 (by kernel_rfl)
      refine Flow.op_want rfl rfl (fun K hK => ?_)
      clear hdep hk ho
      go_simp
      have HC := rflight_calls hG.rl HPL.out.lw.inv
      rw [hF1] at HC
      refine HC.mono ?_
      rintro e W2 ⟨rfl, rfl⟩
      exact hK _ _ ⟨_, rfl, hG, rfl, fun _ _ h => h⟩
    · obtain rfl := Option.some.inj ho
      have e354 : a.tmps.getD 354 undef = .int .u64 W1 := hdep 3 354 (by kernel_rfl)
      have e356 : a.tmps.getD 356 undef = .int .u64 F1 := hdep 5 356 (by kernel_rfl)
      refine Flow.op_want rfl rfl (fun K hK => ?_)
      clear hdep hk ho
      go_simp
      exact hK _ _ ⟨_, rfl, hG, rfl, fun _ _ h => h⟩
  · intro us w9 hG9 hval
    have hv6 : us 357 = .bool (decide (F1 < W1)) := hval 6 _ 357 rfl rfl
    clear hval
    simp only [Flow.lay, List.set_cons_zero, List.set_cons_succ, hv6]
    go_upto_if 357 with fail
    go_cut [41] from 351 to 364 (fun y wc => y = .int .u64 R1 ∧ PL w wc p q n L L v v')
    case first =>
      by_cases hwf : F1 < W1
      · have hR2 : R1 = W1 - F1 := by rw [hRR, if_pos hwf]
        have hws : IntKind.u64.wrap (W1 - F1) = W1 - F1 := by rw [IntKind.wrap_u64]; omega
        go_upto_region 56 with fail
        refine Flow.wp_region_lit [358, 359, 360, 361, 362, 363, 364, 41] (by kernel_rfl) (fun jj W v => match jj with | 0 => v = .pointer (some ⟨q, 0, none⟩) | 1 => v = .pointer (some ⟨q, 0, none⟩) | 2 => v = .pointer (some ⟨q, 15, none⟩) | 3 => v = .int .u64 W1 | 4 => v = .pointer (some ⟨q, 0, none⟩) | 5 => v = .int .u64 F1 | 6 => v = .int .u64 (W1 - F1) | 7 => v = .int .u64 (W1 - F1) | _ => True) (fun W => PL w W p q n L L v v') (by kernel_rfl) (by kernel_rfl) (by kernel_rfl) (by kernel_rfl) (hG9.go (Below.refl _ _).drew) ?_ ?_
        · intro i o ho a W hG hk hdep
          have hi : i < 8 := (Array.getElem?_eq_some_iff.1 ho).1
          rcases (by omega : i = 0 ∨ i = 1 ∨ i = 2 ∨ i = 3 ∨ i = 4 ∨ i = 5 ∨ i = 6 ∨ i = 7) with rfl | rfl | rfl | rfl | rfl | rfl | rfl | rfl
          · obtain rfl := Option.some.inj ho
            have e4 : a.tmps.getD 4 undef = .pointer (some ⟨q, 0, none⟩) := hk 4 (by kernel_rfl)
            refine Flow.op_want rfl rfl (fun K hK => ?_)
            clear hdep hk ho
            go_simp
            exact hK _ _ ⟨_, rfl, hG, rfl, fun _ _ h => h⟩
          · obtain rfl := Option.some.inj ho
            have e358 : a.tmps.getD 358 undef = .pointer (some ⟨q, 0, none⟩) := hdep 0 358 (by kernel_rfl)
            refine Flow.op_want rfl rfl (fun K hK => ?_)
            clear hdep hk ho
            go_simp
            exact hK _ _ ⟨_, rfl, hG, rfl, fun _ _ h => h⟩
          · obtain rfl := Option.some.inj ho
            have e359 : a.tmps.getD 359 undef = .pointer (some ⟨q, 0, none⟩) := hdep 1 359 (by kernel_rfl)
            refine Flow.op_want rfl rfl (fun K hK => ?_)
            clear hdep hk ho
            go_simp
            exact hK _ _ ⟨_, rfl, hG, rfl, fun _ _ h => h⟩
          · obtain rfl := Option.some.inj ho
            have e360 : a.tmps.getD 360 undef = .pointer (some ⟨q, 15, none⟩) := hdep 2 360 (by kernel_rfl)
            have c := hG.rl.rate.2.2.2.1
            rw [hW1] at c
            refine Flow.op_want rfl rfl (fun K hK => ?_)
            clear hdep hk ho
            go_simp
            exact hK _ _ ⟨_, rfl, hG, rfl, fun _ _ h => h⟩
          · obtain rfl := Option.some.inj ho
            have e4 : a.tmps.getD 4 undef = .pointer (some ⟨q, 0, none⟩) := hk 4 (by kernel_rfl)
            refine Flow.op_want rfl rfl (fun K hK => ?_)
            clear hdep hk ho
            go_simp
            exact hK _ _ ⟨_, rfl, hG, rfl, fun _ _ h => h⟩
          · obtain rfl := Option.some.inj ho
            have e362 : a.tmps.getD 362 undef = .pointer (some ⟨q, 0, none⟩) := hdep 4 362 (by kernel_rfl)
            refine Flow.op_want rfl rfl (fun K hK => ?_)
            clear hdep hk ho
            go_simp
            have HC := rflight_calls hG.rl HPL.out.lw.inv
            rw [hF1] at HC
            refine HC.mono ?_
            rintro e W2 ⟨rfl, rfl⟩
            exact hK _ _ ⟨_, rfl, hG, rfl, fun _ _ h => h⟩
          · obtain rfl := Option.some.inj ho
            have e361 : a.tmps.getD 361 undef = .int .u64 W1 := hdep 3 361 (by kernel_rfl)
            have e363 : a.tmps.getD 363 undef = .int .u64 F1 := hdep 5 363 (by kernel_rfl)
            refine Flow.op_want rfl rfl (fun K hK => ?_)
            clear hdep hk ho
            go_simp
            exact hK _ _ ⟨_, rfl, hG, rfl, fun _ _ h => h⟩
          · obtain rfl := Option.some.inj ho
            have e364 : a.tmps.getD 364 undef = .int .u64 (W1 - F1) := hdep 6 364 (by kernel_rfl)
            refine Flow.op_want rfl rfl (fun K hK => ?_)
            clear hdep hk ho
            go_simp
            exact hK _ _ ⟨_, rfl, hG, rfl, fun _ _ h => h⟩
        · intro us2 w8 hG8 hval
          have hv7 : us2 41 = .int .u64 (W1 - F1) := hval 7 _ 41 rfl rfl
          clear hval
          simp only [Flow.lay, List.set_cons_zero, List.set_cons_succ, hv7]
          go_wp2_with fail
          go_meet
          case rel => exact ⟨by rw [hR2], hG8⟩
      · have hR2 : R1 = 0 := by rw [hRR, if_neg hwf]
        go_wp2_with fail
        go_meet
        case rel => exact ⟨by rw [hR2], hG9⟩
    case rest =>
    obtain ⟨rfl, HP5⟩ := hcut
    have HPL5 := Lib.hid HP5
    clear HP5 hRR hG9
    obtain ⟨ak, hak⟩ : ∃ x, (L.sp i).acked = x := ⟨_, rfl⟩
    obtain ⟨l0, hl0⟩ : ∃ x, (L.sp i).list = x := ⟨_, rfl⟩
    have hmany := HPL.out.lw.inv.b.many i hi3
    rw [hl0] at hmany
    obtain ⟨RB, rd, hvi, -⟩ := RE_slice (HPL5.out.rl.row i hi3)
    rw [hl0] at hvi
    have HVI := Lib.hid hvi
    have ht2 : (t2 != t2) = false := by cases t2 <;> rfl
    have hi9 : ((i : Nat) : Int) < 3 := by omega
    clear hvi
    go_upto_region 57 with fail
    refine Flow.wp_region_lit [365, 366, 367, 368, 369, 370, 371, 372, 373, 374, 375, 376, 377, 378, 379, 380, 381, 382, 383, 384, 385, 386, 387, 388, 389, 390, 391, 392, 393, 394, 395, 396, 397, 398, 399, 400, 401, 402, 403, 404, 405, 406, 407, 408, 409, 410, 411, 412, 413, 414, 415, 416, 417, 418, 419, 420, 421, 422, 423, 424, 425, 426, 427, 428, 429, 430, 431, 432, 433, 434, 435] (by kernel_rfl) (fun jj W v => match jj with | 0 => v = .int .u64 t1 | 1 => v = .int .u64 t1 | 2 => v = .bool false | 3 => v = .bool false | 4 => v = .bool t2 | 5 => v = .bool t2 | 6 => v = .bool false | 7 => v = .bool false | 8 => v = .bool false | 9 => v = .int .u64 W1 | 10 => v = .pointer (some ⟨q, 0, none⟩) | 11 => v = .pointer (some ⟨q, 0, none⟩) | 12 => v = .pointer (some ⟨q, 15, none⟩) | 13 => v = .int .u64 W1 | 14 => v = .bool false | 15 => v = .bool false | 16 => v = .bool false | 17 => v = .int .u64 F1 | 18 => v = .pointer (some ⟨q, 0, none⟩) | 19 => v = .int .u64 F1 | 20 => v = .bool false | 21 => v = .bool false | 22 => v = .bool false | 23 => v = .int .u64 M1 | 24 => v = .pointer (some ⟨q, 0, none⟩) | 25 => v = .pointer (some ⟨q, 0, none⟩) | 26 => v = .pointer (some ⟨q, 12, none⟩) | 27 => v = .int .u64 M1 | 28 => v = .bool false | 29 => v = .bool false | 30 => v = .bool false | 31 => v = .int .u64 V1 | 32 => v = .pointer (some ⟨q, 0, none⟩) | 33 => v = .pointer (some ⟨q, 0, none⟩) | 34 => v = .pointer (some ⟨q, 13, none⟩) | 35 => v = .int .u64 V1 | 36 => v = .bool false | 37 => v = .bool false | 38 => v = .bool false | 39 => v = .pointer (some ⟨p, 0, none⟩) | 40 => v = .int .u64 R1 | 41 => v = .int .u64 R1 | 42 => v = .bool false | 43 => v = .bool false | 44 => v = .bool false | 45 => v = .pointer (some ⟨p, 0, none⟩) | 46 => v = .int .i64 (i : Int) | 47 => v = .int .u64 ak | 48 => v = .pointer (some ⟨q, 0, none⟩) | 49 => v = .int .i64 (i : Int) | 50 => v = .pointer (some ⟨q, 0, none⟩) | 51 => v = .pointer (some ⟨q, 0, none⟩) | 52 => v = .pointer (some ⟨q, i * 4, none⟩) | 53 => v = .pointer (some ⟨q, i * 4 + 2, none⟩) | 54 => v = .int .u64 ak | 55 => v = .bool false | 56 => v = .bool false | 57 => v = .bool false | 58 => v = .pointer (some ⟨p, 0, none⟩) | 59 => v = .int .i64 (i : Int) | 60 => ∃ A c, v = .slice A l0.length c ∧ Kd.C kS W A l0.length l0 | 61 => v = .pointer (some ⟨q, 0, none⟩) | 62 => v = .int .i64 (i : Int) | 63 => v = .pointer (some ⟨q, 0, none⟩) | 64 => v = .pointer (some ⟨q, 0, none⟩) | 65 => v = .pointer (some ⟨q, i * 4, none⟩) | 66 => v = .pointer (some ⟨q, i * 4, none⟩) | 67 => v = .slice RB l0.length rd | 68 => v = .bool true | 69 => v = .bool false | 70 => v = .bool false | _ => True) (fun W => PL w W p q n L L v v') (by kernel_rfl) (by kernel_rfl) (by kernel_rfl) (by kernel_rfl) (HPL5.out.go (Below.refl _ _).drew) ?_ ?_
    · intro i o ho a W hG hk hdep
      have hi : i < 71 := (Array.getElem?_eq_some_iff.1 ho).1
      rcases (by omega : i = 0 ∨ i = 1 ∨ i = 2 ∨ i = 3 ∨ i = 4 ∨ i = 5 ∨ i = 6 ∨ i = 7 ∨ i = 8 ∨ i = 9 ∨ i = 10 ∨ i = 11 ∨ i = 12 ∨ i = 13 ∨ i = 14 ∨ i = 15 ∨ i = 16 ∨ i = 17 ∨ i = 18 ∨ i = 19 ∨ i = 20 ∨ i = 21 ∨ i = 22 ∨ i = 23 ∨ i = 24 ∨ i = 25 ∨ i = 26 ∨ i = 27 ∨ i = 28 ∨ i = 29 ∨ i = 30 ∨ i = 31 ∨ i = 32 ∨ i = 33 ∨ i = 34 ∨ i = 35 ∨ i = 36 ∨ i = 37 ∨ i = 38 ∨ i = 39 ∨ i = 40 ∨ i = 41 ∨ i = 42 ∨ i = 43 ∨ i = 44 ∨ i = 45 ∨ i = 46 ∨ i = 47 ∨ i = 48 ∨ i = 49 ∨ i = 50 ∨ i = 51 ∨ i = 52 ∨ i = 53 ∨ i = 54 ∨ i = 55 ∨ i = 56 ∨ i = 57 ∨ i = 58 ∨ i = 59 ∨ i = 60 ∨ i = 61 ∨ i = 62 ∨ i = 63 ∨ i = 64 ∨ i = 65 ∨ i = 66 ∨ i = 67 ∨ i = 68 ∨ i = 69 ∨ i = 70) with rfl | rfl | rfl | rfl | rfl | rfl | rfl | rfl | rfl | rfl | rfl | rfl | rfl | rfl | rfl | rfl | rfl | rfl | rfl | rfl | rfl | rfl | rfl | rfl | rfl | rfl | rfl | rfl | rfl | rfl | rfl | rfl | rfl | rfl | rfl | rfl | rfl | rfl | rfl | rfl | rfl | rfl | rfl | rfl | rfl | rfl | rfl | rfl | rfl | rfl | rfl | rfl | rfl | rfl | rfl | rfl | rfl | rfl | rfl | rfl | rfl | rfl | rfl | rfl | rfl | rfl | rfl | rfl | rfl | rfl | rfl
      · obtain rfl := Option.some.inj ho
        have e33 : a.tmps.getD 33 undef = .int .u64 t1 := hk 33 (by kernel_rfl)
        refine Flow.op_want rfl rfl (fun K hK => ?_)
        clear hdep hk ho
        go_simp
        exact hK _ _ ⟨_, rfl, hG, rfl, fun _ _ h => h⟩
      · obtain rfl := Option.some.inj ho
        have e35 : a.tmps.getD 35 undef = .int .u64 t1 := hk 35 (by kernel_rfl)
        refine Flow.op_want rfl rfl (fun K hK => ?_)
        clear hdep hk ho
        go_simp
        exact hK _ _ ⟨_, rfl, hG, rfl, fun _ _ h => h⟩
      · obtain rfl := Option.some.inj ho
        have e365 : a.tmps.getD 365 undef = .int .u64 t1 := hdep 0 365 (by kernel_rfl)
        have e366 : a.tmps.getD 366 undef = .int .u64 t1 := hdep 1 366 (by kernel_rfl)
        refine Flow.op_want rfl rfl (fun K hK => ?_)
        clear hdep hk ho
        go_simp
        exact hK _ _ ⟨_, rfl, hG, rfl, fun _ _ h => h⟩
      · obtain rfl := Option.some.inj ho
        have e367 : a.tmps.getD 367 undef = .bool false := hdep 2 367 (by kernel_rfl)
        refine Flow.op_want rfl rfl (fun K hK => ?_)
        clear hdep hk ho
        go_simp
        exact hK _ _ ⟨_, rfl, hG, rfl, fun _ _ h => h⟩
      · obtain rfl := Option.some.inj ho
        have e34 : a.tmps.getD 34 undef = .bool t2 := hk 34 (by kernel_rfl)
        have e368 : a.tmps.getD 368 undef = .bool false := hdep 3 368 (by kernel_rfl)
        refine Flow.op_want rfl (Flow.wanted_of (d := 368) rfl rfl e368) (fun K hK => ?_)
        clear hdep hk ho
        go_simp
        exact hK _ _ ⟨_, rfl, hG, rfl, fun _ _ h => h⟩
      · obtain rfl := Option.some.inj ho
        have e36 : a.tmps.getD 36 undef = .bool t2 := hk 36 (by kernel_rfl)
        have e368 : a.tmps.getD 368 undef = .bool false := hdep 3 368 (by kernel_rfl)
        refine Flow.op_want rfl (Flow.wanted_of (d := 368) rfl rfl e368) (fun K hK => ?_)
        clear hdep hk ho
        go_simp
        exact hK _ _ ⟨_, rfl, hG, rfl, fun _ _ h => h⟩
      · obtain rfl := Option.some.inj ho
        have e368 : a.tmps.getD 368 undef = .bool false := hdep 3 368 (by kernel_rfl)
        have e369 : a.tmps.getD 369 undef = .bool t2 := hdep 4 369 (by kernel_rfl)
        have e370 : a.tmps.getD 370 undef = .bool t2 := hdep 5 370 (by kernel_rfl)
        refine Flow.op_want rfl (Flow.wanted_of (d := 368) rfl rfl e368) (fun K hK => ?_)
        clear hdep hk ho
        go_simp
        exact hK _ _ ⟨_, rfl, hG, rfl, fun _ _ h => h⟩
      · obtain rfl := Option.some.inj ho
        have e368 : a.tmps.getD 368 undef = .bool false := hdep 3 368 (by kernel_rfl)
        have e371 : a.tmps.getD 371 undef = .bool false := hdep 6 371 (by kernel_rfl)
        refine Flow.op_want rfl rfl (fun K hK => ?_)
        clear hdep hk ho
        go_simp
        exact hK _ _ ⟨_, rfl, hG, rfl, fun _ _ h => h⟩
      · obtain rfl := Option.some.inj ho
        have e372 : a.tmps.getD 372 undef = .bool false := hdep 7 372 (by kernel_rfl)
        refine Flow.op_want rfl rfl (fun K hK => ?_)
        clear hdep hk ho
        go_simp
        exact hK _ _ ⟨_, rfl, hG, rfl, fun _ _ h => h⟩
      · obtain rfl := Option.some.inj ho
        have e37 : a.tmps.getD 37 undef = .int .u64 W1 := hk 37 (by kernel_rfl)
        have e373 : a.tmps.getD 373 undef = .bool false := hdep 8 373 (by kernel_rfl)
        refine Flow.op_want rfl (Flow.wanted_of (d := 373) rfl rfl e373) (fun K hK => ?_)
        clear hdep hk ho
        go_simp
        exact hK _ _ ⟨_, rfl, hG, rfl, fun _ _ h => h⟩
      · obtain rfl := Option.some.inj ho
        have e4 : a.tmps.getD 4 undef = .pointer (some ⟨q, 0, none⟩) := hk 4 (by kernel_rfl)
        have e373 : a.tmps.getD 373 undef = .bool false := hdep 8 373 (by kernel_rfl)
        refine Flow.op_want rfl (Flow.wanted_of (d := 373) rfl rfl e373) (fun K hK => ?_)
        clear hdep hk ho
        go_simp
        exact hK _ _ ⟨_, rfl, hG, rfl, fun _ _ h => h⟩
      · obtain rfl := Option.some.inj ho
        have e373 : a.tmps.getD 373 undef = .bool false := hdep 8 373 (by kernel_rfl)
        have e375 : a.tmps.getD 375 undef = .pointer (some ⟨q, 0, none⟩) := hdep 10 375 (by kernel_rfl)
        refine Flow.op_want rfl (Flow.wanted_of (d := 373) rfl rfl e373) (fun K hK => ?_)
        clear hdep hk ho
        go_simp
        exact hK _ _ ⟨_, rfl, hG, rfl, fun _ _ h => h⟩
      · obtain rfl := Option.some.inj ho
        have e373 : a.tmps.getD 373 undef = .bool false := hdep 8 373 (by kernel_rfl)
        have e376 : a.tmps.getD 376 undef = .pointer (some ⟨q, 0, none⟩) := hdep 11 376 (by kernel_rfl)
        refine Flow.op_want rfl (Flow.wanted_of (d := 373) rfl rfl e373) (fun K hK => ?_)
        clear hdep hk ho
        go_simp
        exact hK _ _ ⟨_, rfl, hG, rfl, fun _ _ h => h⟩
      · obtain rfl := Option.some.inj ho
        have e373 : a.tmps.getD 373 undef = .bool false := hdep 8 373 (by kernel_rfl)
        have e377 : a.tmps.getD 377 undef = .pointer (some ⟨q, 15, none⟩) := hdep 12 377 (by kernel_rfl)
        have c := hG.rl.rate.2.2.2.1
        rw [hW1] at c
        refine Flow.op_want rfl (Flow.wanted_of (d := 373) rfl rfl e373) (fun K hK => ?_)
        clear hdep hk ho
        go_simp
        exact hK _ _ ⟨_, rfl, hG, rfl, fun _ _ h => h⟩
      · obtain rfl := Option.some.inj ho
        have e373 : a.tmps.getD 373 undef = .bool false := hdep 8 373 (by kernel_rfl)
        have e374 : a.tmps.getD 374 undef = .int .u64 W1 := hdep 9 374 (by kernel_rfl)
        have e378 : a.tmps.getD 378 undef = .int .u64 W1 := hdep 13 378 (by kernel_rfl)
        refine Flow.op_want rfl (Flow.wanted_of (d := 373) rfl rfl e373) (fun K hK => ?_)
        clear hdep hk ho
        go_simp
        exact hK _ _ ⟨_, rfl, hG, rfl, fun _ _ h => h⟩
      · obtain rfl := Option.some.inj ho
        have e373 : a.tmps.getD 373 undef = .bool false := hdep 8 373 (by kernel_rfl)
        have e379 : a.tmps.getD 379 undef = .bool false := hdep 14 379 (by kernel_rfl)
        refine Flow.op_want rfl rfl (fun K hK => ?_)
        clear hdep hk ho
        go_simp
        exact hK _ _ ⟨_, rfl, hG, rfl, fun _ _ h => h⟩
      · obtain rfl := Option.some.inj ho
        have e380 : a.tmps.getD 380 undef = .bool false := hdep 15 380 (by kernel_rfl)
        refine Flow.op_want rfl rfl (fun K hK => ?_)
        clear hdep hk ho
        go_simp
        exact hK _ _ ⟨_, rfl, hG, rfl, fun _ _ h => h⟩
      · obtain rfl := Option.some.inj ho
        have e38 : a.tmps.getD 38 undef = .int .u64 F1 := hk 38 (by kernel_rfl)
        have e381 : a.tmps.getD 381 undef = .bool false := hdep 16 381 (by kernel_rfl)
        refine Flow.op_want rfl (Flow.wanted_of (d := 381) rfl rfl e381) (fun K hK => ?_)
        clear hdep hk ho
        go_simp
        exact hK _ _ ⟨_, rfl, hG, rfl, fun _ _ h => h⟩
      · obtain rfl := Option.some.inj ho
        have e4 : a.tmps.getD 4 undef = .pointer (some ⟨q, 0, none⟩) := hk 4 (by kernel_rfl)
        have e381 : a.tmps.getD 381 undef = .bool false := hdep 16 381 (by kernel_rfl)
        refine Flow.op_want rfl (Flow.wanted_of (d := 381) rfl rfl e381) (fun K hK => ?_)
        clear hdep hk ho
        go_simp
        exact hK _ _ ⟨_, rfl, hG, rfl, fun _ _ h => h⟩
      · obtain rfl := Option.some.inj ho
        have e381 : a.tmps.getD 381 undef = .bool false := hdep 16 381 (by kernel_rfl)
        have e383 : a.tmps.getD 383 undef = .pointer (some ⟨q, 0, none⟩) := hdep 18 383 (by kernel_rfl)
        refine Flow.op_want rfl (Flow.wanted_of (d := 381) rfl rfl e381) (fun K hK => ?_)
        clear hdep hk ho
        go_simp
        have HC := rflight_calls hG.rl HPL.out.lw.inv
        rw [hF1] at HC
        refine HC.mono ?_
        rintro e W2 ⟨rfl, rfl⟩
        exact hK _ _ ⟨_, rfl, hG, rfl, fun _ _ h => h⟩
      · obtain rfl := Option.some.inj ho
        have e381 : a.tmps.getD 381 undef = .bool false := hdep 16 381 (by kernel_rfl)
        have e382 : a.tmps.getD 382 undef = .int .u64 F1 := hdep 17 382 (by kernel_rfl)
        have e384 : a.tmps.getD 384 undef = .int .u64 F1 := hdep 19 384 (by kernel_rfl)
        refine Flow.op_want rfl (Flow.wanted_of (d := 381) rfl rfl e381) (fun K hK => ?_)
        clear hdep hk ho
        go_simp
        exact hK _ _ ⟨_, rfl, hG, rfl, fun _ _ h => h⟩
      · obtain rfl := Option.some.inj ho
        have e381 : a.tmps.getD 381 undef = .bool false := hdep 16 381 (by kernel_rfl)
        have e385 : a.tmps.getD 385 undef = .bool false := hdep 20 385 (by kernel_rfl)
        refine Flow.op_want rfl rfl (fun K hK => ?_)
        clear hdep hk ho
        go_simp
        exact hK _ _ ⟨_, rfl, hG, rfl, fun _ _ h => h⟩
      · obtain rfl := Option.some.inj ho
        have e386 : a.tmps.getD 386 undef = .bool false := hdep 21 386 (by kernel_rfl)
        refine Flow.op_want rfl rfl (fun K hK => ?_)
        clear hdep hk ho
        go_simp
        exact hK _ _ ⟨_, rfl, hG, rfl, fun _ _ h => h⟩
      · obtain rfl := Option.some.inj ho
        have e39 : a.tmps.getD 39 undef = .int .u64 M1 := hk 39 (by kernel_rfl)
        have e387 : a.tmps.getD 387 undef = .bool false := hdep 22 387 (by kernel_rfl)
        refine Flow.op_want rfl (Flow.wanted_of (d := 387) rfl rfl e387) (fun K hK => ?_)
        clear hdep hk ho
        go_simp
        exact hK _ _ ⟨_, rfl, hG, rfl, fun _ _ h => h⟩
      · obtain rfl := Option.some.inj ho
        have e4 : a.tmps.getD 4 undef = .pointer (some ⟨q, 0, none⟩) := hk 4 (by kernel_rfl)
        have e387 : a.tmps.getD 387 undef = .bool false := hdep 22 387 (by kernel_rfl)
        refine Flow.op_want rfl (Flow.wanted_of (d := 387) rfl rfl e387) (fun K hK => ?_)
        clear hdep hk ho
        go_simp
        exact hK _ _ ⟨_, rfl, hG, rfl, fun _ _ h => h⟩
      · obtain rfl := Option.some.inj ho
        have e387 : a.tmps.getD 387 undef = .bool false := hdep 22 387 (by kernel_rfl)
        have e389 : a.tmps.getD 389 undef = .pointer (some ⟨q, 0, none⟩) := hdep 24 389 (by kernel_rfl)
        refine Flow.op_want rfl (Flow.wanted_of (d := 387) rfl rfl e387) (fun K hK => ?_)
        clear hdep hk ho
        go_simp
        exact hK _ _ ⟨_, rfl, hG, rfl, fun _ _ h => h⟩
      · obtain rfl := Option.some.inj ho
        have e387 : a.tmps.getD 387 undef = .bool false := hdep 22 387 (by kernel_rfl)
        have e390 : a.tmps.getD 390 undef = .pointer (some ⟨q, 0, none⟩) := hdep 25 390 (by kernel_rfl)
        refine Flow.op_want rfl (Flow.wanted_of (d := 387) rfl rfl e387) (fun K hK => ?_)
        clear hdep hk ho
        go_simp
        exact hK _ _ ⟨_, rfl, hG, rfl, fun _ _ h => h⟩
      · obtain rfl := Option.some.inj ho
        have e387 : a.tmps.getD 387 undef = .bool false := hdep 22 387 (by kernel_rfl)
        have e391 : a.tmps.getD 391 undef = .pointer (some ⟨q, 12, none⟩) := hdep 26 391 (by kernel_rfl)
        have c := hG.rl.rate.1
        rw [hM1] at c
        refine Flow.op_want rfl (Flow.wanted_of (d := 387) rfl rfl e387) (fun K hK => ?_)
        clear hdep hk ho
        go_simp
        exact hK _ _ ⟨_, rfl, hG, rfl, fun _ _ h => h⟩
      · obtain rfl := Option.some.inj ho
        have e387 : a.tmps.getD 387 undef = .bool false := hdep 22 387 (by kernel_rfl)
        have e388 : a.tmps.getD 388 undef = .int .u64 M1 := hdep 23 388 (by kernel_rfl)
        have e392 : a.tmps.getD 392 undef = .int .u64 M1 := hdep 27 392 (by kernel_rfl)
        refine Flow.op_want rfl (Flow.wanted_of (d := 387) rfl rfl e387) (fun K hK => ?_)
        clear hdep hk ho
        go_simp
        exact hK _ _ ⟨_, rfl, hG, rfl, fun _ _ h => h⟩
      · obtain rfl := Option.some.inj ho
        have e387 : a.tmps.getD 387 undef = .bool false := hdep 22 387 (by kernel_rfl)
        have e393 : a.tmps.getD 393 undef = .bool false := hdep 28 393 (by kernel_rfl)
        refine Flow.op_want rfl rfl (fun K hK => ?_)
        clear hdep hk ho
        go_simp
        exact hK _ _ ⟨_, rfl, hG, rfl, fun _ _ h => h⟩
      · obtain rfl := Option.some.inj ho
        have e394 : a.tmps.getD 394 undef = .bool false := hdep 29 394 (by kernel_rfl)
        refine Flow.op_want rfl rfl (fun K hK => ?_)
        clear hdep hk ho
        go_simp
        exact hK _ _ ⟨_, rfl, hG, rfl, fun _ _ h => h⟩
      · obtain rfl := Option.some.inj ho
        have e40 : a.tmps.getD 40 undef = .int .u64 V1 := hk 40 (by kernel_rfl)
        have e395 : a.tmps.getD 395 undef = .bool false := hdep 30 395 (by kernel_rfl)
        refine Flow.op_want rfl (Flow.wanted_of (d := 395) rfl rfl e395) (fun K hK => ?_)
        clear hdep hk ho
        go_simp
        exact hK _ _ ⟨_, rfl, hG, rfl, fun _ _ h => h⟩
      · obtain rfl := Option.some.inj ho
        have e4 : a.tmps.getD 4 undef = .pointer (some ⟨q, 0, none⟩) := hk 4 (by kernel_rfl)
        have e395 : a.tmps.getD 395 undef = .bool false := hdep 30 395 (by kernel_rfl)
        refine Flow.op_want rfl (Flow.wanted_of (d := 395) rfl rfl e395) (fun K hK => ?_)
        clear hdep hk ho
        go_simp
        exact hK _ _ ⟨_, rfl, hG, rfl, fun _ _ h => h⟩
      · obtain rfl := Option.some.inj ho
        have e395 : a.tmps.getD 395 undef = .bool false := hdep 30 395 (by kernel_rfl)
        have e397 : a.tmps.getD 397 undef = .pointer (some ⟨q, 0, none⟩) := hdep 32 397 (by kernel_rfl)
        refine Flow.op_want rfl (Flow.wanted_of (d := 395) rfl rfl e395) (fun K hK => ?_)
        clear hdep hk ho
        go_simp
        exact hK _ _ ⟨_, rfl, hG, rfl, fun _ _ h => h⟩
      · obtain rfl := Option.some.inj ho
        have e395 : a.tmps.getD 395 undef = .bool false := hdep 30 395 (by kernel_rfl)
        have e398 : a.tmps.getD 398 undef = .pointer (some ⟨q, 0, none⟩) := hdep 33 398 (by kernel_rfl)
        refine Flow.op_want rfl (Flow.wanted_of (d := 395) rfl rfl e395) (fun K hK => ?_)
        clear hdep hk ho
        go_simp
        exact hK _ _ ⟨_, rfl, hG, rfl, fun _ _ h => h⟩
      · obtain rfl := Option.some.inj ho
        have e395 : a.tmps.getD 395 undef = .bool false := hdep 30 395 (by kernel_rfl)
        have e399 : a.tmps.getD 399 undef = .pointer (some ⟨q, 13, none⟩) := hdep 34 399 (by kernel_rfl)
        have c := hG.rl.rate.2.1
        rw [hV1] at c
        refine Flow.op_want rfl (Flow.wanted_of (d := 395) rfl rfl e395) (fun K hK => ?_)
        clear hdep hk ho
        go_simp
        exact hK _ _ ⟨_, rfl, hG, rfl, fun _ _ h => h⟩
      · obtain rfl := Option.some.inj ho
        have e395 : a.tmps.getD 395 undef = .bool false := hdep 30 395 (by kernel_rfl)
        have e396 : a.tmps.getD 396 undef = .int .u64 V1 := hdep 31 396 (by kernel_rfl)
        have e400 : a.tmps.getD 400 undef = .int .u64 V1 := hdep 35 400 (by kernel_rfl)
        refine Flow.op_want rfl (Flow.wanted_of (d := 395) rfl rfl e395) (fun K hK => ?_)
        clear hdep hk ho
        go_simp
        exact hK _ _ ⟨_, rfl, hG, rfl, fun _ _ h => h⟩
      · obtain rfl := Option.some.inj ho
        have e395 : a.tmps.getD 395 undef = .bool false := hdep 30 395 (by kernel_rfl)
        have e401 : a.tmps.getD 401 undef = .bool false := hdep 36 401 (by kernel_rfl)
        refine Flow.op_want rfl rfl (fun K hK => ?_)
        clear hdep hk ho
        go_simp
        exact hK _ _ ⟨_, rfl, hG, rfl, fun _ _ h => h⟩
      · obtain rfl := Option.some.inj ho
        have e402 : a.tmps.getD 402 undef = .bool false := hdep 37 402 (by kernel_rfl)
        refine Flow.op_want rfl rfl (fun K hK => ?_)
        clear hdep hk ho
        go_simp
        exact hK _ _ ⟨_, rfl, hG, rfl, fun _ _ h => h⟩
      · obtain rfl := Option.some.inj ho
        have e3 : a.tmps.getD 3 undef = .pointer (some ⟨p, 0, none⟩) := hk 3 (by kernel_rfl)
        have e403 : a.tmps.getD 403 undef = .bool false := hdep 38 403 (by kernel_rfl)
        refine Flow.op_want rfl (Flow.wanted_of (d := 403) rfl rfl e403) (fun K hK => ?_)
        clear hdep hk ho
        go_simp
        exact hK _ _ ⟨_, rfl, hG, rfl, fun _ _ h => h⟩
      · obtain rfl := Option.some.inj ho
        have e403 : a.tmps.getD 403 undef = .bool false := hdep 38 403 (by kernel_rfl)
        have e404 : a.tmps.getD 404 undef = .pointer (some ⟨p, 0, none⟩) := hdep 39 404 (by kernel_rfl)
        refine Flow.op_want rfl (Flow.wanted_of (d := 403) rfl rfl e403) (fun K hK => ?_)
        clear hdep hk ho
        go_simp
        have HC := room_calls hG.lw.led HPL.out.lw.inv.b.r
        rw [hR1] at HC
        refine HC.mono ?_
        rintro e W2 ⟨rfl, m, rfl⟩
        refine hK _ _ ⟨_, rfl, hG.drewN m, rfl, ?_⟩
        intro j u
        split <;> intro h <;> first | exact h | (obtain ⟨A, c, e, h1⟩ := h; exact ⟨A, c, e, Kd.C_below h1 (bdrewN (Below.refl _ _) _)⟩)
      · obtain rfl := Option.some.inj ho
        have e41 : a.tmps.getD 41 undef = .int .u64 R1 := hk 41 (by kernel_rfl)
        have e403 : a.tmps.getD 403 undef = .bool false := hdep 38 403 (by kernel_rfl)
        refine Flow.op_want rfl (Flow.wanted_of (d := 403) rfl rfl e403) (fun K hK => ?_)
        clear hdep hk ho
        go_simp
        exact hK _ _ ⟨_, rfl, hG, rfl, fun _ _ h => h⟩
      · obtain rfl := Option.some.inj ho
        have e403 : a.tmps.getD 403 undef = .bool false := hdep 38 403 (by kernel_rfl)
        have e405 : a.tmps.getD 405 undef = .int .u64 R1 := hdep 40 405 (by kernel_rfl)
        have e406 : a.tmps.getD 406 undef = .int .u64 R1 := hdep 41 406 (by kernel_rfl)
        refine Flow.op_want rfl (Flow.wanted_of (d := 403) rfl rfl e403) (fun K hK => ?_)
        clear hdep hk ho
        go_simp
        exact hK _ _ ⟨_, rfl, hG, rfl, fun _ _ h => h⟩
      · obtain rfl := Option.some.inj ho
        have e403 : a.tmps.getD 403 undef = .bool false := hdep 38 403 (by kernel_rfl)
        have e407 : a.tmps.getD 407 undef = .bool false := hdep 42 407 (by kernel_rfl)
        refine Flow.op_want rfl rfl (fun K hK => ?_)
        clear hdep hk ho
        go_simp
        exact hK _ _ ⟨_, rfl, hG, rfl, fun _ _ h => h⟩
      · obtain rfl := Option.some.inj ho
        have e408 : a.tmps.getD 408 undef = .bool false := hdep 43 408 (by kernel_rfl)
        refine Flow.op_want rfl rfl (fun K hK => ?_)
        clear hdep hk ho
        go_simp
        exact hK _ _ ⟨_, rfl, hG, rfl, fun _ _ h => h⟩
      · obtain rfl := Option.some.inj ho
        have e3 : a.tmps.getD 3 undef = .pointer (some ⟨p, 0, none⟩) := hk 3 (by kernel_rfl)
        have e409 : a.tmps.getD 409 undef = .bool false := hdep 44 409 (by kernel_rfl)
        refine Flow.op_want rfl (Flow.wanted_of (d := 409) rfl rfl e409) (fun K hK => ?_)
        clear hdep hk ho
        go_simp
        exact hK _ _ ⟨_, rfl, hG, rfl, fun _ _ h => h⟩
      · obtain rfl := Option.some.inj ho
        have e8 : a.tmps.getD 8 undef = .int .i64 (i : Int) := hk 8 (by kernel_rfl)
        have e409 : a.tmps.getD 409 undef = .bool false := hdep 44 409 (by kernel_rfl)
        refine Flow.op_want rfl (Flow.wanted_of (d := 409) rfl rfl e409) (fun K hK => ?_)
        clear hdep hk ho
        go_simp
        exact hK _ _ ⟨_, rfl, hG, rfl, fun _ _ h => h⟩
      · obtain rfl := Option.some.inj ho
        have e409 : a.tmps.getD 409 undef = .bool false := hdep 44 409 (by kernel_rfl)
        have e410 : a.tmps.getD 410 undef = .pointer (some ⟨p, 0, none⟩) := hdep 45 410 (by kernel_rfl)
        have e411 : a.tmps.getD 411 undef = .int .i64 (i : Int) := hdep 46 411 (by kernel_rfl)
        refine Flow.op_want rfl (Flow.wanted_of (d := 409) rfl rfl e409) (fun K hK => ?_)
        clear hdep hk ho
        go_simp
        have HC := acked_calls hG.lw.led i hi3
        rw [hak] at HC
        refine HC.mono ?_
        rintro e W2 ⟨rfl, rfl⟩
        exact hK _ _ ⟨_, rfl, hG, rfl, fun _ _ h => h⟩
      · obtain rfl := Option.some.inj ho
        have e4 : a.tmps.getD 4 undef = .pointer (some ⟨q, 0, none⟩) := hk 4 (by kernel_rfl)
        have e409 : a.tmps.getD 409 undef = .bool false := hdep 44 409 (by kernel_rfl)
        refine Flow.op_want rfl (Flow.wanted_of (d := 409) rfl rfl e409) (fun K hK => ?_)
        clear hdep hk ho
        go_simp
        exact hK _ _ ⟨_, rfl, hG, rfl, fun _ _ h => h⟩
      · obtain rfl := Option.some.inj ho
        have e8 : a.tmps.getD 8 undef = .int .i64 (i : Int) := hk 8 (by kernel_rfl)
        have e409 : a.tmps.getD 409 undef = .bool false := hdep 44 409 (by kernel_rfl)
        refine Flow.op_want rfl (Flow.wanted_of (d := 409) rfl rfl e409) (fun K hK => ?_)
        clear hdep hk ho
        go_simp
        exact hK _ _ ⟨_, rfl, hG, rfl, fun _ _ h => h⟩
      · obtain rfl := Option.some.inj ho
        have e409 : a.tmps.getD 409 undef = .bool false := hdep 44 409 (by kernel_rfl)
        have e413 : a.tmps.getD 413 undef = .pointer (some ⟨q, 0, none⟩) := hdep 48 413 (by kernel_rfl)
        refine Flow.op_want rfl (Flow.wanted_of (d := 409) rfl rfl e409) (fun K hK => ?_)
        clear hdep hk ho
        go_simp
        exact hK _ _ ⟨_, rfl, hG, rfl, fun _ _ h => h⟩
      · obtain rfl := Option.some.inj ho
        have e409 : a.tmps.getD 409 undef = .bool false := hdep 44 409 (by kernel_rfl)
        have e415 : a.tmps.getD 415 undef = .pointer (some ⟨q, 0, none⟩) := hdep 50 415 (by kernel_rfl)
        refine Flow.op_want rfl (Flow.wanted_of (d := 409) rfl rfl e409) (fun K hK => ?_)
        clear hdep hk ho
        go_simp
        exact hK _ _ ⟨_, rfl, hG, rfl, fun _ _ h => h⟩
      · obtain rfl := Option.some.inj ho
        have e409 : a.tmps.getD 409 undef = .bool false := hdep 44 409 (by kernel_rfl)
        have e414 : a.tmps.getD 414 undef = .int .i64 (i : Int) := hdep 49 414 (by kernel_rfl)
        have e416 : a.tmps.getD 416 undef = .pointer (some ⟨q, 0, none⟩) := hdep 51 416 (by kernel_rfl)
        refine Flow.op_want rfl (Flow.wanted_of (d := 409) rfl rfl e409) (fun K hK => ?_)
        clear hdep hk ho
        go_simp
        exact hK _ _ ⟨_, rfl, hG, rfl, fun _ _ h => h⟩
      · obtain rfl := Option.some.inj ho
        have e409 : a.tmps.getD 409 undef = .bool false := hdep 44 409 (by kernel_rfl)
        have e417 : a.tmps.getD 417 undef = .pointer (some ⟨q, i * 4, none⟩) := hdep 52 417 (by kernel_rfl)
        refine Flow.op_want rfl (Flow.wanted_of (d := 409) rfl rfl e409) (fun K hK => ?_)
        clear hdep hk ho
        go_simp
        exact hK _ _ ⟨_, rfl, hG, rfl, fun _ _ h => h⟩
      · obtain rfl := Option.some.inj ho
        have e409 : a.tmps.getD 409 undef = .bool false := hdep 44 409 (by kernel_rfl)
        have e418 : a.tmps.getD 418 undef = .pointer (some ⟨q, i * 4 + 2, none⟩) := hdep 53 418 (by kernel_rfl)
        have c := (hG.rl.ways i hi3).2.2.1
        rw [hak] at c
        refine Flow.op_want rfl (Flow.wanted_of (d := 409) rfl rfl e409) (fun K hK => ?_)
        clear hdep hk ho
        go_simp
        exact hK _ _ ⟨_, rfl, hG, rfl, fun _ _ h => h⟩
      · obtain rfl := Option.some.inj ho
        have e409 : a.tmps.getD 409 undef = .bool false := hdep 44 409 (by kernel_rfl)
        have e412 : a.tmps.getD 412 undef = .int .u64 ak := hdep 47 412 (by kernel_rfl)
        have e419 : a.tmps.getD 419 undef = .int .u64 ak := hdep 54 419 (by kernel_rfl)
        refine Flow.op_want rfl (Flow.wanted_of (d := 409) rfl rfl e409) (fun K hK => ?_)
        clear hdep hk ho
        go_simp
        exact hK _ _ ⟨_, rfl, hG, rfl, fun _ _ h => h⟩
      · obtain rfl := Option.some.inj ho
        have e409 : a.tmps.getD 409 undef = .bool false := hdep 44 409 (by kernel_rfl)
        have e420 : a.tmps.getD 420 undef = .bool false := hdep 55 420 (by kernel_rfl)
        refine Flow.op_want rfl rfl (fun K hK => ?_)
        clear hdep hk ho
        go_simp
        exact hK _ _ ⟨_, rfl, hG, rfl, fun _ _ h => h⟩
      · obtain rfl := Option.some.inj ho
        have e421 : a.tmps.getD 421 undef = .bool false := hdep 56 421 (by kernel_rfl)
        refine Flow.op_want rfl rfl (fun K hK => ?_)
        clear hdep hk ho
        go_simp
        exact hK _ _ ⟨_, rfl, hG, rfl, fun _ _ h => h⟩
      · obtain rfl := Option.some.inj ho
        have e3 : a.tmps.getD 3 undef = .pointer (some ⟨p, 0, none⟩) := hk 3 (by kernel_rfl)
        have e422 : a.tmps.getD 422 undef = .bool false := hdep 57 422 (by kernel_rfl)
        refine Flow.op_want rfl (Flow.wanted_of (d := 422) rfl rfl e422) (fun K hK => ?_)
        clear hdep hk ho
        go_simp
        exact hK _ _ ⟨_, rfl, hG, rfl, fun _ _ h => h⟩
      · obtain rfl := Option.some.inj ho
        have e8 : a.tmps.getD 8 undef = .int .i64 (i : Int) := hk 8 (by kernel_rfl)
        have e422 : a.tmps.getD 422 undef = .bool false := hdep 57 422 (by kernel_rfl)
        refine Flow.op_want rfl (Flow.wanted_of (d := 422) rfl rfl e422) (fun K hK => ?_)
        clear hdep hk ho
        go_simp
        exact hK _ _ ⟨_, rfl, hG, rfl, fun _ _ h => h⟩
      · obtain rfl := Option.some.inj ho
        have e422 : a.tmps.getD 422 undef = .bool false := hdep 57 422 (by kernel_rfl)
        have e423 : a.tmps.getD 423 undef = .pointer (some ⟨p, 0, none⟩) := hdep 58 423 (by kernel_rfl)
        have e424 : a.tmps.getD 424 undef = .int .i64 (i : Int) := hdep 59 424 (by kernel_rfl)
        refine Flow.op_want rfl (Flow.wanted_of (d := 422) rfl rfl e422) (fun K hK => ?_)
        clear hdep hk ho
        go_simp
        have HC := open_calls hG.lw.led i hi3 (by rw [hl0]; omega)
        rw [hl0] at HC
        refine HC.mono ?_
        rintro e W2 ⟨va, rfl, R, B2⟩
        obtain ⟨A, c, rfl, hC⟩ := row_slice R
        refine hK _ _ ⟨_, rfl, hG.go B2, ⟨A, c, rfl, hC⟩, ?_⟩
        intro j u
        split <;> intro h <;> first | exact h | (obtain ⟨A, c, e, h1⟩ := h; exact ⟨A, c, e, Kd.C_below h1 B2⟩)
      · obtain rfl := Option.some.inj ho
        have e4 : a.tmps.getD 4 undef = .pointer (some ⟨q, 0, none⟩) := hk 4 (by kernel_rfl)
        have e422 : a.tmps.getD 422 undef = .bool false := hdep 57 422 (by kernel_rfl)
        refine Flow.op_want rfl (Flow.wanted_of (d := 422) rfl rfl e422) (fun K hK => ?_)
        clear hdep hk ho
        go_simp
        exact hK _ _ ⟨_, rfl, hG, rfl, fun _ _ h => h⟩
      · obtain rfl := Option.some.inj ho
        have e8 : a.tmps.getD 8 undef = .int .i64 (i : Int) := hk 8 (by kernel_rfl)
        have e422 : a.tmps.getD 422 undef = .bool false := hdep 57 422 (by kernel_rfl)
        refine Flow.op_want rfl (Flow.wanted_of (d := 422) rfl rfl e422) (fun K hK => ?_)
        clear hdep hk ho
        go_simp
        exact hK _ _ ⟨_, rfl, hG, rfl, fun _ _ h => h⟩
      · obtain rfl := Option.some.inj ho
        have e422 : a.tmps.getD 422 undef = .bool false := hdep 57 422 (by kernel_rfl)
        have e426 : a.tmps.getD 426 undef = .pointer (some ⟨q, 0, none⟩) := hdep 61 426 (by kernel_rfl)
        refine Flow.op_want rfl (Flow.wanted_of (d := 422) rfl rfl e422) (fun K hK => ?_)
        clear hdep hk ho
        go_simp
        exact hK _ _ ⟨_, rfl, hG, rfl, fun _ _ h => h⟩
      · obtain rfl := Option.some.inj ho
        have e422 : a.tmps.getD 422 undef = .bool false := hdep 57 422 (by kernel_rfl)
        have e428 : a.tmps.getD 428 undef = .pointer (some ⟨q, 0, none⟩) := hdep 63 428 (by kernel_rfl)
        refine Flow.op_want rfl (Flow.wanted_of (d := 422) rfl rfl e422) (fun K hK => ?_)
        clear hdep hk ho
        go_simp
        exact hK _ _ ⟨_, rfl, hG, rfl, fun _ _ h => h⟩
      · obtain rfl := Option.some.inj ho
        have e422 : a.tmps.getD 422 undef = .bool false := hdep 57 422 (by kernel_rfl)
        have e427 : a.tmps.getD 427 undef = .int .i64 (i : Int) := hdep 62 427 (by kernel_rfl)
        have e429 : a.tmps.getD 429 undef = .pointer (some ⟨q, 0, none⟩) := hdep 64 429 (by kernel_rfl)
        refine Flow.op_want rfl (Flow.wanted_of (d := 422) rfl rfl e422) (fun K hK => ?_)
        clear hdep hk ho
        go_simp
        exact hK _ _ ⟨_, rfl, hG, rfl, fun _ _ h => h⟩
      · obtain rfl := Option.some.inj ho
        have e422 : a.tmps.getD 422 undef = .bool false := hdep 57 422 (by kernel_rfl)
        have e430 : a.tmps.getD 430 undef = .pointer (some ⟨q, i * 4, none⟩) := hdep 65 430 (by kernel_rfl)
        refine Flow.op_want rfl (Flow.wanted_of (d := 422) rfl rfl e422) (fun K hK => ?_)
        clear hdep hk ho
        go_simp
        exact hK _ _ ⟨_, rfl, hG, rfl, fun _ _ h => h⟩
      · obtain rfl := Option.some.inj ho
        have e422 : a.tmps.getD 422 undef = .bool false := hdep 57 422 (by kernel_rfl)
        have e431 : a.tmps.getD 431 undef = .pointer (some ⟨q, i * 4, none⟩) := hdep 66 431 (by kernel_rfl)
        have c := (hG.rl.ways i hi3).1
        rw [HVI.out] at c
        refine Flow.op_want rfl (Flow.wanted_of (d := 422) rfl rfl e422) (fun K hK => ?_)
        clear hdep hk ho
        go_simp
        exact hK _ _ ⟨_, rfl, hG, rfl, fun _ _ h => h⟩
      · obtain rfl := Option.some.inj ho
        have e422 : a.tmps.getD 422 undef = .bool false := hdep 57 422 (by kernel_rfl)
        have e425 : (fun (W : World) (v : Value) => ∃ A c, v = .slice A l0.length c ∧ Kd.C kS W A l0.length l0) W (a.tmps.getD 425 undef) := hdep 60 425 (by kernel_rfl)
        have e432 : a.tmps.getD 432 undef = .slice RB l0.length rd := hdep 67 432 (by kernel_rfl)
        obtain ⟨A, c9, e425, hCA⟩ := e425
        have hE := hG.rl.row i hi3
        rw [HVI.out, hl0] at hE
        have hE := RE_slice' hE
        rw [Array.getD_eq_getD_getElem?] at e425
        refine Flow.op_want rfl (Flow.wanted_of (d := 422) rfl rfl e422) (fun K hK => ?_)
        clear hdep hk ho
        go_simp
        have HC := rsame_calls A RB c9 rd l0 hCA hE (by omega)
        refine HC.mono ?_
        rintro e W2 ⟨rfl, m, rfl⟩
        refine hK _ _ ⟨_, rfl, hG.drewN m, rfl, ?_⟩
        intro j u
        split <;> intro h <;> first | exact h | (obtain ⟨A, c, e, h1⟩ := h; exact ⟨A, c, e, Kd.C_below h1 (bdrewN (Below.refl _ _) _)⟩)
      · obtain rfl := Option.some.inj ho
        have e422 : a.tmps.getD 422 undef = .bool false := hdep 57 422 (by kernel_rfl)
        have e433 : a.tmps.getD 433 undef = .bool true := hdep 68 433 (by kernel_rfl)
        refine Flow.op_want rfl (Flow.wanted_of (d := 422) rfl rfl e422) (fun K hK => ?_)
        clear hdep hk ho
        go_simp
        exact hK _ _ ⟨_, rfl, hG, rfl, fun _ _ h => h⟩
      · obtain rfl := Option.some.inj ho
        have e422 : a.tmps.getD 422 undef = .bool false := hdep 57 422 (by kernel_rfl)
        have e434 : a.tmps.getD 434 undef = .bool false := hdep 69 434 (by kernel_rfl)
        refine Flow.op_want rfl rfl (fun K hK => ?_)
        clear hdep hk ho
        go_simp
        exact hK _ _ ⟨_, rfl, hG, rfl, fun _ _ h => h⟩
    · intro us3 w7 hG7 hval
      have hv70 : us3 435 = .bool false := hval 70 _ 435 rfl rfl
      clear hval
      simp only [Flow.lay, List.set_cons_zero, List.set_cons_succ, hv70]
      go_wp2_with fail
      refine hQ.out _ _ ?_
      exact ⟨rfl, rfl, now, n, L, v, v', hw0, hw1, hnk, hG7, rfl, rfl, rfl, rfl, rfl, rfl, rfl, rfl⟩
end Go.Proofs.Ytgdboikoejodpaa.PlaysT
