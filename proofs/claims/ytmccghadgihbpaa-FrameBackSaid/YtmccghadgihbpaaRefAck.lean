/- skiffref10.Frame of an ACK. -/
import Derived.Test.YtmccghadgihbpaaRefFrame
namespace Go.Proofs.Ytmccghadgihbpaa.RefAck
open Go Go.RowKit Go.Proofs.Ytmccghadgihbpaa.PFrameBack Go.Proofs.YtmccghadgihbpaaW.PrintWords Go.Proofs.YtmccghadgihbpaaW.PrintLast Go.Proofs.YtmccghadgihbpaaW.PrintMore Go.Proofs.Ytmccghadgihbpaa.Keep Go.Proofs.Ytmccghadgihbpaa.Mem Go.Proofs.Ytmccghadgihbpaa.VPut Go.Proofs.Ytmccghadgihbpaa.With Go.Proofs.Ytmccghadgihbpaa.Spans Go.Proofs.Ytmccghadgihbpaa.Encode Go.Proofs.Ytmccghadgihbpaa.MemU Go.Proofs.Ytmccghadgihbpaa.EncAck Go.Proofs.Ytmccghadgihbpaa.RefAll Go.Proofs.Ytmccghadgihbpaa.RefFrame
set_option linter.unusedVariables false
set_option linter.unusedSimpArgs false

set_option maxHeartbeats 8000000 in
set_option maxRecDepth 100000 in
theorem ref_2 {w : World} (f1 f2 f3 f4 : Int) (f5 : Bool) {A6 A7 : Option Addr} {c6 c7 : Nat} {data : List Int} {acks : List S84} (b1 : Encode.bd f1) (b2 : Encode.bd f2) (b3 : Encode.bd f3) (b4 : Encode.bd f4) (hC6 : CB w A6 data) (hc6 : data.length ≤ c6) (hd : data.length ≤ 3000) (hC7 : Kd.C k84 w A7 acks.length acks) (hc7 : acks.length ≤ c7) (hba : bds acks) (hla : acks.length ≤ 1000) :
    Calls Try.prog 39 #[.agg #[.int .u64 2, .int .u64 f1, .int .u64 f2, .int .u64 f3, .int .u64 f4, .bool f5, .slice A6 data.length c6, .slice A7 acks.length c7]] w fun e w' => ∃ v, e = .returned (.tuple #[v, .int .i64 (encF okS ackOf ⟨2, f1, f2, f3, f4, f5, data, acks⟩).2]) ∧ RB w' w.heap.size v (encF okS ackOf ⟨2, f1, f2, f3, f4, f5, data, acks⟩).1 ∧ Below w.heap.size w w' := by
  obtain ⟨t, ht⟩ : ∃ t, encF okS ackOf ⟨2, f1, f2, f3, f4, f5, data, acks⟩ = t := ⟨_, rfl⟩
  rw [ht]
  have HT := Lib.hid ht
  have hk := heap_alloc_new w (.cells #[.int .u64 2, .int .u64 f1, .int .u64 f2, .int .u64 f3, .int .u64 f4, .bool f5, .slice A6 data.length c6, .slice A7 acks.length c7] 58)
  have BL := (Below.refl w.heap.size w).alloc (Nat.le_refl _) (.cells #[.int .u64 2, .int .u64 f1, .int .u64 f2, .int .u64 f3, .int .u64 f4, .bool f5, .slice A6 data.length c6, .slice A7 acks.length c7] 58)
  obtain ⟨w1, hw1⟩ : ∃ w1 : World, w1 = w.alloc (.cells #[.int .u64 2, .int .u64 f1, .int .u64 f2, .int .u64 f3, .int .u64 f4, .bool f5, .slice A6 data.length c6, .slice A7 acks.length c7] 58) := ⟨_, rfl⟩
  rw [← hw1] at hk BL
  have HW1 := Lib.hid hw1
  have HK := Lib.hid hk
  have HBL := Lib.hid BL
  obtain ⟨k0, k1, k2, k3, k4, k5, k6, k7⟩ := cells8 hk
  have HC6 := Lib.hid (Kd.C_below hC6 BL)
  have HC7 := Lib.hid (Kd.C_below hC7 BL)
  have HBA := Lib.hid hba
  have HB1 := Lib.hid b1
  have HB2 := Lib.hid b2
  have HB3 := Lib.hid b3
  have HB4 := Lib.hid b4
  have hlw : IntKind.u64.wrap (data.length : Int) = data.length := by rw [IntKind.wrap_u64]; omega
  clear hw1 hk BL hC6 hC7 ht hba b1 b2 b3 b4
  go_enter Try.func39, Try.ntmps39
  go_upto_region 1 with fail
  rw [← HW1.out]
  clear HW1
  by_cases hlong : (data.length : Int) > 2048
  · go_wp2_with fail
    go_ret2
    have et := HT.out
    unfold encF at et
    rw [if_pos hlong] at et
    subst et
    exact ⟨_, rfl, Kd.R_nil _ _ _ _ _, HBL.out⟩
  · by_cases hn : (data.length : Int) > 0
    · have et := HT.out
      unfold encF at et
      rw [if_neg hlong, if_pos ⟨hn, by simp, by simp, by simp⟩] at et
      subst et
      go_wp2_with fail
      go_ret2
      exact ⟨_, rfl, Kd.R_nil _ _ _ _ _, HBL.out⟩
    · have et := HT.out
      unfold encF at et
      rw [if_neg hlong, if_neg (fun h => hn h.1), if_pos rfl] at et
      have HE := Lib.hid et
      have hrt := right_f HBA.out hla
      clear et
      cases hok : okS acks with
      | false =>
        rw [hok] at hrt
        have HRT := Lib.hid hrt
        have HOK := Lib.hid hok
        clear hrt hok
        go_wp2_with fail
        have hkn := known_calls 2 w1
        rw [show knownB 2 = true from rfl] at hkn
        refine hkn.mono ?_
        clear hkn
        rintro e w2 ⟨rfl, Bx⟩
        have HBx := Lib.hid Bx
        obtain ⟨k0, k1, k2, k3, k4, k5, k6, k7⟩ := cells8 (blk_below HK.out Bx)
        clear Bx
        go_wp2_with (first
          | ((with_reducible refine gate_dst (N := 39) rfl ?_); refine litUL (w0 := w2) w2.heap.size rfl (N := 39) rfl [2] ?hr (Below.refl _ _) (Nat.le_refl _) (by simp) ?_; (case hr => first | (go_simp; done) | (go_simp; rfl)); intro v3 w3 R3 B3; clear k0 k1 k2 k3 k4 k5 k6 k7; obtain ⟨k0, k1, k2, k3, k4, k5, k6, k7⟩ := cells8 (blk_below HK.out (HBx.out.trans (B3.mono HBx.out.size)))))
        refine (skiffref10_Right.calls 2100 A7 c7 acks false _ (Kd.C_below HC7.out (HBx.out.trans (B3.mono HBx.out.size))) hc7 HRT.out).mono ?_
        rintro e w4 ⟨rfl, nd, rfl⟩
        go_wp2_with fail
        go_ret2
        have et := HE.out
        simp only [HOK.out] at et
        rw [if_neg (by simp)] at et
        subst et
        have hB9 := HBL.out.trans ((HBx.out.trans (B3.mono HBx.out.size)).mono HBL.out.size)
        exact ⟨_, rfl, Kd.R_nil _ _ _ _ _, pw_below_drewN hB9 nd⟩
      | true =>
        rw [hok] at hrt
        have HRT := Lib.hid hrt
        have HOK := Lib.hid hok
        clear hrt hok
        go_wp2_with fail
        have hkn := known_calls 2 w1
        rw [show knownB 2 = true from rfl] at hkn
        refine hkn.mono ?_
        clear hkn
        rintro e w2 ⟨rfl, Bx⟩
        have HBx := Lib.hid Bx
        obtain ⟨k0, k1, k2, k3, k4, k5, k6, k7⟩ := cells8 (blk_below HK.out Bx)
        clear Bx
        go_wp2_with (first
          | ((with_reducible refine gate_dst (N := 39) rfl ?_); refine litUL (w0 := w2) w2.heap.size rfl (N := 39) rfl [2] ?hr (Below.refl _ _) (Nat.le_refl _) (by simp) ?_; (case hr => first | (go_simp; done) | (go_simp; rfl)); intro v3 w3 R3 B3; clear k0 k1 k2 k3 k4 k5 k6 k7; obtain ⟨k0, k1, k2, k3, k4, k5, k6, k7⟩ := cells8 (blk_below HK.out (HBx.out.trans (B3.mono HBx.out.size)))))
        refine (skiffref10_Right.calls 2100 A7 c7 acks true _ (Kd.C_below HC7.out (HBx.out.trans (B3.mono HBx.out.size))) hc7 HRT.out).mono ?_
        rintro e w4 ⟨rfl, nd, hw4⟩
        have hB4 : Below w2.heap.size w2 w4 := by subst hw4; exact pw_below_drewN B3 nd
        have hR4 : RU w4 w2.heap.size v3 [2] := by subst hw4; exact Kd.R_drewN R3 nd
        have hk4 := cells8 (blk_below HK.out (HBx.out.trans (hB4.mono HBx.out.size)))
        clear hw4 k0 k1 k2 k3 k4 k5 k6 k7 B3 R3
        obtain ⟨k0, k1, k2, k3, k4, k5, k6, k7⟩ := hk4
        go_upto_region 13 with fail
        have HK2 := Lib.hid (blk_below HK.out HBx.out)
        have HC72 := Lib.hid (Kd.C_below HC7.out HBx.out)
        have hpos : 0 < acks.length ∧ acks.length ≤ 32 ∧ okFrom acks 0 := by have := HOK.out; unfold okS at this; simpa using this
        obtain ⟨p0, p1, p2⟩ := hpos
        have HP2 := Lib.hid p2
        obtain ⟨ad, ead, q0, q1⟩ := at_T84 HC72.out 0 (by omega) (by omega)
        subst ead
        have hd0 := rd_bd HBA.out 0
        have ok0 : (rd_T84 acks 0).f0 ≤ (rd_T84 acks 0).f1 ∧ (rd_T84 acks 0).f1 ≤ 4611686018427387903 := by have := HP2.out 0 p0 (Nat.le_refl _); exact ⟨this.1, this.2.1⟩
        have hlo : 0 ≤ (rd_T84 acks 0).f0 := hd0.1.1
        have hwd : IntKind.u64.wrap ((rd_T84 acks 0).f1 - (rd_T84 acks 0).f0) = (rd_T84 acks 0).f1 - (rd_T84 acks 0).f0 := by rw [IntKind.wrap_u64]; omega
        have hwl : IntKind.u64.wrap ((acks.length : Int) - 1) = (acks.length : Int) - 1 := by rw [IntKind.wrap_u64]; omega
        have hwm : IntKind.i64.wrap ((acks.length : Int) - 1) = (acks.length : Int) - 1 := by rw [IntKind.wrap_i64]; omega
        have HWD := Lib.hid hwd
        have HWL := Lib.hid hwl
        have HWM := Lib.hid hwm
        have HOB := Lib.hid (R_block hR4)
        clear p2 q0 q1 hd0 ok0 hlo hwd hwl hwm k0 k1 k2 k3 k4 k5 k6 k7
        refine Flow.wp_region_lit_late [48, 49, 50, 51, 52, 53, 54, 55, 56, 57, 58, 59, 60, 61, 62, 63, 64, 65, 66, 67, 68, 69, 70, 71, 72, 73, 5] (by kernel_rfl) (fun jj W v => match jj with | 0 => v = v3 | 1 => v = .pointer (some ⟨w.heap.size, 7, none⟩) | 2 => v = .slice (some ad) acks.length c7 | 3 => v = .pointer (some (ad.add 0)) | 4 => v = .pointer (some ⟨(ad.add 0).block, (ad.add 0).off + 1, none⟩) | 5 => v = .int .u64 (rd_T84 acks 0).f1 | 6 => v = .pointer (some ⟨w.heap.size, 3, none⟩) | 7 => v = .int .u64 f3 | 8 => v = .pointer (some ⟨w.heap.size, 7, none⟩) | 9 => v = .slice (some ad) acks.length c7 | 10 => v = .int .i64 acks.length | 11 => v = .int .i64 ((acks.length : Int) - 1) | 12 => v = .int .u64 ((acks.length : Int) - 1) | 13 => v = .pointer (some ⟨w.heap.size, 7, none⟩) | 14 => v = .slice (some ad) acks.length c7 | 15 => v = .pointer (some (ad.add 0)) | 16 => v = .pointer (some ⟨(ad.add 0).block, (ad.add 0).off + 1, none⟩) | 17 => v = .int .u64 (rd_T84 acks 0).f1 | 18 => v = .pointer (some ⟨w.heap.size, 7, none⟩) | 19 => v = .slice (some ad) acks.length c7 | 20 => v = .pointer (some (ad.add 0)) | 21 => v = .pointer (some (ad.add 0)) | 22 => v = .int .u64 (rd_T84 acks 0).f0 | 23 => v = .int .u64 ((rd_T84 acks 0).f1 - (rd_T84 acks 0).f0) | 24 => ∃ b, v = .slice (some ⟨b, 0, none⟩) 4 4 ∧ w4.heap.size ≤ b ∧ W.heap[b]? = some (.cells #[.int .u64 ((rd_T84 acks 0).f1), .int .u64 (f3), .int .u64 ((acks.length : Int) - 1), .int .u64 ((rd_T84 acks 0).f1 - (rd_T84 acks 0).f0)] 22 (0, 0)) | 25 => RU W w2.heap.size v ([2] ++ [(rd_T84 acks 0).f1, f3, (acks.length : Int) - 1, (rd_T84 acks 0).f1 - (rd_T84 acks 0).f0]) | 26 => RU W w2.heap.size v ([2] ++ [(rd_T84 acks 0).f1, f3, (acks.length : Int) - 1, (rd_T84 acks 0).f1 - (rd_T84 acks 0).f0]) | _ => True) (fun W => Below w2.heap.size w2 W ∧ w4.heap.size ≤ W.heap.size) 25 (fun W => RU W w2.heap.size v3 [2]) (by kernel_rfl) (by kernel_rfl) (by kernel_rfl) (by kernel_rfl) (⟨hB4.drew, Nat.le_refl _⟩) (Kd.R_drew hR4) ?_ ?_
        · intro i o ho a W hG hL hk hdep
          have hi : i < 27 := (Array.getElem?_eq_some_iff.1 ho).1
          rcases (by omega : i = 0 ∨ i = 1 ∨ i = 2 ∨ i = 3 ∨ i = 4 ∨ i = 5 ∨ i = 6 ∨ i = 7 ∨ i = 8 ∨ i = 9 ∨ i = 10 ∨ i = 11 ∨ i = 12 ∨ i = 13 ∨ i = 14 ∨ i = 15 ∨ i = 16 ∨ i = 17 ∨ i = 18 ∨ i = 19 ∨ i = 20 ∨ i = 21 ∨ i = 22 ∨ i = 23 ∨ i = 24 ∨ i = 25 ∨ i = 26) with rfl | rfl | rfl | rfl | rfl | rfl | rfl | rfl | rfl | rfl | rfl | rfl | rfl | rfl | rfl | rfl | rfl | rfl | rfl | rfl | rfl | rfl | rfl | rfl | rfl | rfl | rfl
          · obtain rfl := Option.some.inj ho
            have e5 : a.tmps.getD 5 undef = v3 := hk 5 (by kernel_rfl)
            clear hL
            refine Flow.op_want rfl rfl (fun K hK => ?_)
            rw [Array.getD_eq_getD_getElem?] at e5
            clear hdep hk ho
            go_simp
            exact hK _ _ ⟨_, rfl, hG, rfl, fun _ _ _ h => h, fun _ h => h⟩
          · obtain rfl := Option.some.inj ho
            have e1 : a.tmps.getD 1 undef = .pointer (some ⟨w.heap.size, 0, none⟩) := hk 1 (by kernel_rfl)
            clear hL
            refine Flow.op_want rfl rfl (fun K hK => ?_)
            clear hdep hk ho
            go_simp
            exact hK _ _ ⟨_, rfl, hG, rfl, fun _ _ _ h => h, fun _ h => h⟩
          · obtain rfl := Option.some.inj ho
            have e49 : a.tmps.getD 49 undef = .pointer (some ⟨w.heap.size, 7, none⟩) := hdep 1 49 (by kernel_rfl)
            have c := blk_cell (blk_below HK2.out hG.1) 7
            clear hL
            refine Flow.op_want rfl rfl (fun K hK => ?_)
            clear hdep hk ho
            go_simp
            exact hK _ _ ⟨_, rfl, hG, rfl, fun _ _ _ h => h, fun _ h => h⟩
          · obtain rfl := Option.some.inj ho
            have e50 : a.tmps.getD 50 undef = .slice (some ad) acks.length c7 := hdep 2 50 (by kernel_rfl)
            clear hL
            refine Flow.op_want rfl rfl (fun K hK => ?_)
            clear hdep hk ho
            go_simp
            exact hK _ _ ⟨_, rfl, hG, rfl, fun _ _ _ h => h, fun _ h => h⟩
          · obtain rfl := Option.some.inj ho
            have e51 : a.tmps.getD 51 undef = .pointer (some (ad.add 0)) := hdep 3 51 (by kernel_rfl)
            clear hL
            refine Flow.op_want rfl rfl (fun K hK => ?_)
            clear hdep hk ho
            go_simp
            exact hK _ _ ⟨_, rfl, hG, rfl, fun _ _ _ h => h, fun _ h => h⟩
          · obtain rfl := Option.some.inj ho
            have e52 : a.tmps.getD 52 undef = .pointer (some ⟨(ad.add 0).block, (ad.add 0).off + 1, none⟩) := hdep 4 52 (by kernel_rfl)
            obtain ⟨q0, q1⟩ := at0 (Kd.C_below HC72.out hG.1) (by omega)
            clear hL
            refine Flow.op_want rfl rfl (fun K hK => ?_)
            clear hdep hk ho
            go_simp
            exact hK _ _ ⟨_, rfl, hG, rfl, fun _ _ _ h => h, fun _ h => h⟩
          · obtain rfl := Option.some.inj ho
            have e1 : a.tmps.getD 1 undef = .pointer (some ⟨w.heap.size, 0, none⟩) := hk 1 (by kernel_rfl)
            clear hL
            refine Flow.op_want rfl rfl (fun K hK => ?_)
            clear hdep hk ho
            go_simp
            exact hK _ _ ⟨_, rfl, hG, rfl, fun _ _ _ h => h, fun _ h => h⟩
          · obtain rfl := Option.some.inj ho
            have e54 : a.tmps.getD 54 undef = .pointer (some ⟨w.heap.size, 3, none⟩) := hdep 6 54 (by kernel_rfl)
            have c := blk_cell (blk_below HK2.out hG.1) 3
            clear hL
            refine Flow.op_want rfl rfl (fun K hK => ?_)
            clear hdep hk ho
            go_simp
            exact hK _ _ ⟨_, rfl, hG, rfl, fun _ _ _ h => h, fun _ h => h⟩
          · obtain rfl := Option.some.inj ho
            have e1 : a.tmps.getD 1 undef = .pointer (some ⟨w.heap.size, 0, none⟩) := hk 1 (by kernel_rfl)
            clear hL
            refine Flow.op_want rfl rfl (fun K hK => ?_)
            clear hdep hk ho
            go_simp
            exact hK _ _ ⟨_, rfl, hG, rfl, fun _ _ _ h => h, fun _ h => h⟩
          · obtain rfl := Option.some.inj ho
            have e56 : a.tmps.getD 56 undef = .pointer (some ⟨w.heap.size, 7, none⟩) := hdep 8 56 (by kernel_rfl)
            have c := blk_cell (blk_below HK2.out hG.1) 7
            clear hL
            refine Flow.op_want rfl rfl (fun K hK => ?_)
            clear hdep hk ho
            go_simp
            exact hK _ _ ⟨_, rfl, hG, rfl, fun _ _ _ h => h, fun _ h => h⟩
          · obtain rfl := Option.some.inj ho
            have e57 : a.tmps.getD 57 undef = .slice (some ad) acks.length c7 := hdep 9 57 (by kernel_rfl)
            clear hL
            refine Flow.op_want rfl rfl (fun K hK => ?_)
            clear hdep hk ho
            go_simp
            exact hK _ _ ⟨_, rfl, hG, rfl, fun _ _ _ h => h, fun _ h => h⟩
          · obtain rfl := Option.some.inj ho
            have e58 : a.tmps.getD 58 undef = .int .i64 acks.length := hdep 10 58 (by kernel_rfl)
            clear hL
            refine Flow.op_want rfl rfl (fun K hK => ?_)
            clear hdep hk ho
            go_simp
            first | exact hK _ _ ⟨_, rfl, hG, congrArg (Value.int .i64) HWM.out, fun _ _ _ h => h, fun _ h => h⟩ | exact hK _ _ ⟨_, rfl, hG, congrArg (Value.int .i64) (by omega), fun _ _ _ h => h, fun _ h => h⟩
          · obtain rfl := Option.some.inj ho
            have e59 : a.tmps.getD 59 undef = .int .i64 ((acks.length : Int) - 1) := hdep 11 59 (by kernel_rfl)
            clear hL
            refine Flow.op_want rfl rfl (fun K hK => ?_)
            clear hdep hk ho
            go_simp
            first | exact hK _ _ ⟨_, rfl, hG, congrArg (Value.int .u64) HWL.out, fun _ _ _ h => h, fun _ h => h⟩ | exact hK _ _ ⟨_, rfl, hG, congrArg (Value.int .u64) (by omega), fun _ _ _ h => h, fun _ h => h⟩
          · obtain rfl := Option.some.inj ho
            have e1 : a.tmps.getD 1 undef = .pointer (some ⟨w.heap.size, 0, none⟩) := hk 1 (by kernel_rfl)
            clear hL
            refine Flow.op_want rfl rfl (fun K hK => ?_)
            clear hdep hk ho
            go_simp
            exact hK _ _ ⟨_, rfl, hG, rfl, fun _ _ _ h => h, fun _ h => h⟩
          · obtain rfl := Option.some.inj ho
            have e61 : a.tmps.getD 61 undef = .pointer (some ⟨w.heap.size, 7, none⟩) := hdep 13 61 (by kernel_rfl)
            have c := blk_cell (blk_below HK2.out hG.1) 7
            clear hL
            refine Flow.op_want rfl rfl (fun K hK => ?_)
            clear hdep hk ho
            go_simp
            exact hK _ _ ⟨_, rfl, hG, rfl, fun _ _ _ h => h, fun _ h => h⟩
          · obtain rfl := Option.some.inj ho
            have e62 : a.tmps.getD 62 undef = .slice (some ad) acks.length c7 := hdep 14 62 (by kernel_rfl)
            clear hL
            refine Flow.op_want rfl rfl (fun K hK => ?_)
            clear hdep hk ho
            go_simp
            exact hK _ _ ⟨_, rfl, hG, rfl, fun _ _ _ h => h, fun _ h => h⟩
          · obtain rfl := Option.some.inj ho
            have e63 : a.tmps.getD 63 undef = .pointer (some (ad.add 0)) := hdep 15 63 (by kernel_rfl)
            clear hL
            refine Flow.op_want rfl rfl (fun K hK => ?_)
            clear hdep hk ho
            go_simp
            exact hK _ _ ⟨_, rfl, hG, rfl, fun _ _ _ h => h, fun _ h => h⟩
          · obtain rfl := Option.some.inj ho
            have e64 : a.tmps.getD 64 undef = .pointer (some ⟨(ad.add 0).block, (ad.add 0).off + 1, none⟩) := hdep 16 64 (by kernel_rfl)
            obtain ⟨q0, q1⟩ := at0 (Kd.C_below HC72.out hG.1) (by omega)
            clear hL
            refine Flow.op_want rfl rfl (fun K hK => ?_)
            clear hdep hk ho
            go_simp
            exact hK _ _ ⟨_, rfl, hG, rfl, fun _ _ _ h => h, fun _ h => h⟩
          · obtain rfl := Option.some.inj ho
            have e1 : a.tmps.getD 1 undef = .pointer (some ⟨w.heap.size, 0, none⟩) := hk 1 (by kernel_rfl)
            clear hL
            refine Flow.op_want rfl rfl (fun K hK => ?_)
            clear hdep hk ho
            go_simp
            exact hK _ _ ⟨_, rfl, hG, rfl, fun _ _ _ h => h, fun _ h => h⟩
          · obtain rfl := Option.some.inj ho
            have e66 : a.tmps.getD 66 undef = .pointer (some ⟨w.heap.size, 7, none⟩) := hdep 18 66 (by kernel_rfl)
            have c := blk_cell (blk_below HK2.out hG.1) 7
            clear hL
            refine Flow.op_want rfl rfl (fun K hK => ?_)
            clear hdep hk ho
            go_simp
            exact hK _ _ ⟨_, rfl, hG, rfl, fun _ _ _ h => h, fun _ h => h⟩
          · obtain rfl := Option.some.inj ho
            have e67 : a.tmps.getD 67 undef = .slice (some ad) acks.length c7 := hdep 19 67 (by kernel_rfl)
            clear hL
            refine Flow.op_want rfl rfl (fun K hK => ?_)
            clear hdep hk ho
            go_simp
            exact hK _ _ ⟨_, rfl, hG, rfl, fun _ _ _ h => h, fun _ h => h⟩
          · obtain rfl := Option.some.inj ho
            have e68 : a.tmps.getD 68 undef = .pointer (some (ad.add 0)) := hdep 20 68 (by kernel_rfl)
            clear hL
            refine Flow.op_want rfl rfl (fun K hK => ?_)
            clear hdep hk ho
            go_simp
            exact hK _ _ ⟨_, rfl, hG, rfl, fun _ _ _ h => h, fun _ h => h⟩
          · obtain rfl := Option.some.inj ho
            have e69 : a.tmps.getD 69 undef = .pointer (some (ad.add 0)) := hdep 21 69 (by kernel_rfl)
            obtain ⟨q0, q1⟩ := at0 (Kd.C_below HC72.out hG.1) (by omega)
            clear hL
            refine Flow.op_want rfl rfl (fun K hK => ?_)
            clear hdep hk ho
            go_simp
            exact hK _ _ ⟨_, rfl, hG, rfl, fun _ _ _ h => h, fun _ h => h⟩
          · obtain rfl := Option.some.inj ho
            have e65 : a.tmps.getD 65 undef = .int .u64 (rd_T84 acks 0).f1 := hdep 17 65 (by kernel_rfl)
            have e70 : a.tmps.getD 70 undef = .int .u64 (rd_T84 acks 0).f0 := hdep 22 70 (by kernel_rfl)
            clear hL
            refine Flow.op_want rfl rfl (fun K hK => ?_)
            clear hdep hk ho
            go_simp
            first | exact hK _ _ ⟨_, rfl, hG, congrArg (Value.int .u64) HWD.out, fun _ _ _ h => h, fun _ h => h⟩ | exact hK _ _ ⟨_, rfl, hG, congrArg (Value.int .u64) (by omega), fun _ _ _ h => h, fun _ h => h⟩
          · obtain rfl := Option.some.inj ho
            have e53 : a.tmps.getD 53 undef = .int .u64 (rd_T84 acks 0).f1 := hdep 5 53 (by kernel_rfl)
            have e55 : a.tmps.getD 55 undef = .int .u64 f3 := hdep 7 55 (by kernel_rfl)
            have e60 : a.tmps.getD 60 undef = .int .u64 ((acks.length : Int) - 1) := hdep 12 60 (by kernel_rfl)
            have e71 : a.tmps.getD 71 undef = .int .u64 ((rd_T84 acks 0).f1 - (rd_T84 acks 0).f0) := hdep 23 71 (by kernel_rfl)
            rw [Array.getD_eq_getD_getElem?] at e53 e55 e60 e71
            clear hL
            refine Flow.op_want rfl rfl (fun K hK => ?_)
            clear hdep hk ho
            go_simp
            refine hK _ _ ⟨_, rfl, ⟨hG.1.alloc hG.1.size _, Nat.le_trans hG.2 (by simp)⟩, ⟨W.heap.size, rfl, hG.2, heap_alloc_new _ _⟩, ?_, fun _ h => Kd.R_alloc h _⟩
            intro j0 u _
            split <;> intro h <;> first | exact h | exact Kd.R_alloc h _ | (obtain ⟨b, e, h1, h2⟩ := h; exact ⟨b, e, h1, blk_below h2 (below_alloc (Below.refl _ _) _)⟩)
          · obtain rfl := Option.some.inj ho
            have e48 : a.tmps.getD 48 undef = v3 := hdep 0 48 (by kernel_rfl)
            have e72 : (fun (W : World) (v : Value) => ∃ b, v = .slice (some ⟨b, 0, none⟩) 4 4 ∧ w4.heap.size ≤ b ∧ W.heap[b]? = some (.cells #[.int .u64 ((rd_T84 acks 0).f1), .int .u64 (f3), .int .u64 ((acks.length : Int) - 1), .int .u64 ((rd_T84 acks 0).f1 - (rd_T84 acks 0).f0)] 22 (0, 0))) W (a.tmps.getD 72 undef) := hdep 24 72 (by kernel_rfl)
            obtain ⟨b, e72, hb1, hb2⟩ := e72
            refine Flow.op_if rfl (fun K hK => appU (w0 := w2) w2.heap.size rfl (.tmp 48) (.tmp 72) rfl (v := v3) (ys := [(rd_T84 acks 0).f1, f3, (acks.length : Int) - 1, (rd_T84 acks 0).f1 - (rd_T84 acks 0).f0]) (hL rfl) e48 e72 rfl (C_blk [(rd_T84 acks 0).f1, f3, (acks.length : Int) - 1, (rd_T84 acks 0).f1 - (rd_T84 acks 0).f0] (by simp) hb2) hG.1 hG.1.size (by simp only [List.length_append, gapsN_len, List.length_cons, List.length_nil]; omega) ?_)
            intro v1 W1 R1 B1 G1 N1
            refine hK _ _ ⟨v1, rfl, ⟨B1, Nat.le_trans hG.2 G1.size⟩, R1, ?_, fun h => absurd rfl h⟩
            intro j0 u hj
            split <;> intro h <;> first | exact h | (obtain ⟨b, e, h1, h2⟩ := h; exact ⟨b, e, h1, grown_blk G1 h2 (fun e => by have := (HOB.out _ e.symm).2; omega)⟩) | exact absurd rfl hj.1 | exact absurd hj.2 (by rw [show Flow.waits _ 26 25 = true by kernel_rfl]; simp)
          · obtain rfl := Option.some.inj ho
            have e73 : (fun (W : World) (v : Value) => RU W w2.heap.size v ([2] ++ [(rd_T84 acks 0).f1, f3, (acks.length : Int) - 1, (rd_T84 acks 0).f1 - (rd_T84 acks 0).f0])) W (a.tmps.getD 73 undef) := hdep 25 73 (by kernel_rfl)
            clear hL
            refine Flow.op_want rfl rfl (fun K hK => ?_)
            have e73b : RU W w2.heap.size (a.tmps[73]?.getD undef) ([2] ++ [(rd_T84 acks 0).f1, f3, (acks.length : Int) - 1, (rd_T84 acks 0).f1 - (rd_T84 acks 0).f0]) := by rw [← Array.getD_eq_getD_getElem?]; exact e73
            clear hdep hk ho e73
            go_simp
            exact hK _ _ ⟨_, rfl, hG, e73b, fun _ _ _ h => h, fun _ h => h⟩
        · intro us1 w5 hG5 hval
          have R13 : (fun (W : World) (v : Value) => RU W w2.heap.size v ([2] ++ [(rd_T84 acks 0).f1, f3, (acks.length : Int) - 1, (rd_T84 acks 0).f1 - (rd_T84 acks 0).f0])) w5 (us1 5) := hval 26 _ 5 rfl rfl
          clear hval
          simp only [Flow.lay, List.set_cons_zero, List.set_cons_succ]
          have HR5 := Lib.hid R13
          have HG5 := Lib.hid hG5.1
          clear R13 hG5 hB4 hR4 HOB
          generalize us1 5 = v5 at *
          go_wp2_with fail
          go_loopw [5, 6] (fun v5 i wr => ∃ k j : Nat, j = k + 1 ∧ j ≤ acks.length ∧ i = .int .i64 (j : Int) ∧ Hid (RU wr w2.heap.size v5 ([2] ++ ([(rd_T84 acks 0).f1, f3, (acks.length : Int) - 1, (rd_T84 acks 0).f1 - (rd_T84 acks 0).f0] ++ gapsN acks k))) ∧ Hid (Below w2.heap.size w2 wr)) (fun _ i _ => acks.length - (intOf i).toNat)
          case atStart => exact ⟨0, 1, rfl, by omega, rfl, Lib.hid (by have h := HR5.out; rw [← List.append_nil [(rd_T84 acks 0).f1, f3, (acks.length : Int) - 1, (rd_T84 acks 0).f1 - (rd_T84 acks 0).f0]] at h; exact h), HG5⟩
          case round =>
            obtain ⟨k, j, hjk, hjl, rfl, HR, HB⟩ := hrel
            have k7 := blk_cell (blk_below HK2.out HB.out) 7
            by_cases hlt : j < acks.length
            · obtain ⟨sp, hsp⟩ : ∃ sp, rd_T84 acks (j : Int) = sp := ⟨_, rfl⟩
              have hx := HP2.out j hlt (Nat.zero_le _)
              have hy := rd_bd HBA.out (j : Int)
              have hz := rd_bd HBA.out (k : Int)
              unfold okAt at hx
              rw [hsp] at hx hy
              rw [show ((j : Int) - 1) = (k : Int) by omega] at hx
              obtain ⟨x1, x2, x3⟩ := hx
              have x3 := x3 (by omega)
              obtain ⟨⟨y1, y2⟩, y3, y4⟩ := hy
              obtain ⟨⟨z1, z2⟩, z3, z4⟩ := hz
              have hw1 : IntKind.u64.wrap ((rd_T84 acks (k : Int)).f0 - sp.f1) = (rd_T84 acks (k : Int)).f0 - sp.f1 := by rw [IntKind.wrap_u64]; omega
              have hw2 : IntKind.u64.wrap ((rd_T84 acks (k : Int)).f0 - sp.f1 - 2) = (rd_T84 acks (k : Int)).f0 - sp.f1 - 2 := by rw [IntKind.wrap_u64]; omega
              have hw3 : IntKind.u64.wrap (sp.f1 - sp.f0) = sp.f1 - sp.f0 := by rw [IntKind.wrap_u64]; omega
              have hwi : IntKind.i64.wrap ((j : Int) - 1) = (k : Int) := by rw [IntKind.wrap_i64]; omega
              have HSP2 := Lib.hid hsp
              have HW1 := Lib.hid hw1
              have HW2 := Lib.hid hw2
              have HW3 := Lib.hid hw3
              have HWI := Lib.hid hwi
              have HOB := Lib.hid (R_block HR.out)
              have hkj : k + 1 ≤ j := by omega
              have hjk2 : j ≤ k + 1 := by omega
              have HJK := Lib.hid hjk
              clear hsp x1 x2 x3 y1 y2 y3 y4 z1 z2 z3 z4 hw1 hw2 hw3 hwi hjk
              go_upto_region 17 with fail
              have hBr := HB.out
              have hRr := HR.out
              clear k7
              refine Flow.wp_region_lit_late [81, 82, 83, 84, 85, 86, 87, 88, 89, 90, 91, 92, 93, 94, 95, 96, 97, 98, 99, 100, 101, 102, 103, 104, 105, 106, 107, 108, 109, 110, 111, 5] (by kernel_rfl) (fun jj W v => match jj with | 0 => v = u5 | 1 => v = .pointer (some ⟨w.heap.size, 7, none⟩) | 2 => v = .slice (some ad) acks.length c7 | 3 => v = .int .i64 (j : Int) | 4 => v = .int .i64 (k : Int) | 5 => v = .pointer (some (ad.add (k * 2))) | 6 => v = .pointer (some (ad.add (k * 2))) | 7 => v = .int .u64 (rd_T84 acks (k : Int)).f0 | 8 => v = .pointer (some ⟨w.heap.size, 7, none⟩) | 9 => v = .slice (some ad) acks.length c7 | 10 => v = .int .i64 (j : Int) | 11 => v = .pointer (some (ad.add (j * 2))) | 12 => v = .pointer (some ⟨(ad.add (j * 2)).block, (ad.add (j * 2)).off + 1, none⟩) | 13 => v = .int .u64 sp.f1 | 14 => v = .int .u64 ((rd_T84 acks (k : Int)).f0 - sp.f1) | 15 => v = .int .u64 ((rd_T84 acks (k : Int)).f0 - sp.f1 - 2) | 16 => v = .pointer (some ⟨w.heap.size, 7, none⟩) | 17 => v = .slice (some ad) acks.length c7 | 18 => v = .int .i64 (j : Int) | 19 => v = .pointer (some (ad.add (j * 2))) | 20 => v = .pointer (some ⟨(ad.add (j * 2)).block, (ad.add (j * 2)).off + 1, none⟩) | 21 => v = .int .u64 sp.f1 | 22 => v = .pointer (some ⟨w.heap.size, 7, none⟩) | 23 => v = .slice (some ad) acks.length c7 | 24 => v = .int .i64 (j : Int) | 25 => v = .pointer (some (ad.add (j * 2))) | 26 => v = .pointer (some (ad.add (j * 2))) | 27 => v = .int .u64 sp.f0 | 28 => v = .int .u64 (sp.f1 - sp.f0) | 29 => ∃ b, v = .slice (some ⟨b, 0, none⟩) 2 2 ∧ wr.heap.size ≤ b ∧ W.heap[b]? = some (.cells #[.int .u64 ((rd_T84 acks (k : Int)).f0 - sp.f1 - 2), .int .u64 (sp.f1 - sp.f0)] 22 (0, 0)) | 30 => RU W w2.heap.size v (([2] ++ ([(rd_T84 acks 0).f1, f3, (acks.length : Int) - 1, (rd_T84 acks 0).f1 - (rd_T84 acks 0).f0] ++ gapsN acks k)) ++ [(rd_T84 acks (k : Int)).f0 - sp.f1 - 2, sp.f1 - sp.f0]) | 31 => RU W w2.heap.size v (([2] ++ ([(rd_T84 acks 0).f1, f3, (acks.length : Int) - 1, (rd_T84 acks 0).f1 - (rd_T84 acks 0).f0] ++ gapsN acks k)) ++ [(rd_T84 acks (k : Int)).f0 - sp.f1 - 2, sp.f1 - sp.f0]) | _ => True) (fun W => Below w2.heap.size w2 W ∧ wr.heap.size ≤ W.heap.size) 30 (fun W => RU W w2.heap.size u5 ([2] ++ ([(rd_T84 acks 0).f1, f3, (acks.length : Int) - 1, (rd_T84 acks 0).f1 - (rd_T84 acks 0).f0] ++ gapsN acks k))) (by kernel_rfl) (by kernel_rfl) (by kernel_rfl) (by kernel_rfl) (⟨hBr.drew, Nat.le_refl _⟩) (Kd.R_drew hRr) ?_ ?_
              · intro i o ho a W hG hL hk hdep
                have hi : i < 32 := (Array.getElem?_eq_some_iff.1 ho).1
                rcases (by omega : i = 0 ∨ i = 1 ∨ i = 2 ∨ i = 3 ∨ i = 4 ∨ i = 5 ∨ i = 6 ∨ i = 7 ∨ i = 8 ∨ i = 9 ∨ i = 10 ∨ i = 11 ∨ i = 12 ∨ i = 13 ∨ i = 14 ∨ i = 15 ∨ i = 16 ∨ i = 17 ∨ i = 18 ∨ i = 19 ∨ i = 20 ∨ i = 21 ∨ i = 22 ∨ i = 23 ∨ i = 24 ∨ i = 25 ∨ i = 26 ∨ i = 27 ∨ i = 28 ∨ i = 29 ∨ i = 30 ∨ i = 31) with rfl | rfl | rfl | rfl | rfl | rfl | rfl | rfl | rfl | rfl | rfl | rfl | rfl | rfl | rfl | rfl | rfl | rfl | rfl | rfl | rfl | rfl | rfl | rfl | rfl | rfl | rfl | rfl | rfl | rfl | rfl | rfl
                · obtain rfl := Option.some.inj ho
                  have e5 : a.tmps.getD 5 undef = u5 := hk 5 (by kernel_rfl)
                  clear hL
                  refine Flow.op_want rfl rfl (fun K hK => ?_)
                  rw [Array.getD_eq_getD_getElem?] at e5
                  clear hdep hk ho
                  go_simp
                  exact hK _ _ ⟨_, rfl, hG, rfl, fun _ _ _ h => h, fun _ h => h⟩
                · obtain rfl := Option.some.inj ho
                  have e1 : a.tmps.getD 1 undef = .pointer (some ⟨w.heap.size, 0, none⟩) := hk 1 (by kernel_rfl)
                  clear hL
                  refine Flow.op_want rfl rfl (fun K hK => ?_)
                  clear hdep hk ho
                  go_simp
                  exact hK _ _ ⟨_, rfl, hG, rfl, fun _ _ _ h => h, fun _ h => h⟩
                · obtain rfl := Option.some.inj ho
                  have e82 : a.tmps.getD 82 undef = .pointer (some ⟨w.heap.size, 7, none⟩) := hdep 1 82 (by kernel_rfl)
                  have c := blk_cell (blk_below HK2.out hG.1) 7
                  clear hL
                  refine Flow.op_want rfl rfl (fun K hK => ?_)
                  clear hdep hk ho
                  go_simp
                  exact hK _ _ ⟨_, rfl, hG, rfl, fun _ _ _ h => h, fun _ h => h⟩
                · obtain rfl := Option.some.inj ho
                  have e6 : a.tmps.getD 6 undef = .int .i64 (j : Int) := hk 6 (by kernel_rfl)
                  clear hL
                  refine Flow.op_want rfl rfl (fun K hK => ?_)
                  clear hdep hk ho
                  go_simp
                  exact hK _ _ ⟨_, rfl, hG, rfl, fun _ _ _ h => h, fun _ h => h⟩
                · obtain rfl := Option.some.inj ho
                  have e84 : a.tmps.getD 84 undef = .int .i64 (j : Int) := hdep 3 84 (by kernel_rfl)
                  clear hL
                  refine Flow.op_want rfl rfl (fun K hK => ?_)
                  clear hdep hk ho
                  go_simp
                  first | exact hK _ _ ⟨_, rfl, hG, congrArg (Value.int .i64) HWI.out, fun _ _ _ h => h, fun _ h => h⟩ | exact hK _ _ ⟨_, rfl, hG, congrArg (Value.int .i64) (by omega), fun _ _ _ h => h, fun _ h => h⟩
                · obtain rfl := Option.some.inj ho
                  have e83 : a.tmps.getD 83 undef = .slice (some ad) acks.length c7 := hdep 2 83 (by kernel_rfl)
                  have e85 : a.tmps.getD 85 undef = .int .i64 (k : Int) := hdep 4 85 (by kernel_rfl)
                  have hk0 : k < acks.length := by omega
                  clear hL
                  refine Flow.op_want rfl rfl (fun K hK => ?_)
                  clear hdep hk ho
                  go_simp
                  exact hK _ _ ⟨_, rfl, hG, rfl, fun _ _ _ h => h, fun _ h => h⟩
                · obtain rfl := Option.some.inj ho
                  have e86 : a.tmps.getD 86 undef = .pointer (some (ad.add (k * 2))) := hdep 5 86 (by kernel_rfl)
                  clear hL
                  refine Flow.op_want rfl rfl (fun K hK => ?_)
                  clear hdep hk ho
                  go_simp
                  exact hK _ _ ⟨_, rfl, hG, rfl, fun _ _ _ h => h, fun _ h => h⟩
                · obtain rfl := Option.some.inj ho
                  have e87 : a.tmps.getD 87 undef = .pointer (some (ad.add (k * 2))) := hdep 6 87 (by kernel_rfl)
                  obtain ⟨q0, q1⟩ := atk (Kd.C_below HC72.out hG.1) k (by omega)
                  clear hL
                  refine Flow.op_want rfl rfl (fun K hK => ?_)
                  clear hdep hk ho
                  go_simp
                  exact hK _ _ ⟨_, rfl, hG, rfl, fun _ _ _ h => h, fun _ h => h⟩
                · obtain rfl := Option.some.inj ho
                  have e1 : a.tmps.getD 1 undef = .pointer (some ⟨w.heap.size, 0, none⟩) := hk 1 (by kernel_rfl)
                  clear hL
                  refine Flow.op_want rfl rfl (fun K hK => ?_)
                  clear hdep hk ho
                  go_simp
                  exact hK _ _ ⟨_, rfl, hG, rfl, fun _ _ _ h => h, fun _ h => h⟩
                · obtain rfl := Option.some.inj ho
                  have e89 : a.tmps.getD 89 undef = .pointer (some ⟨w.heap.size, 7, none⟩) := hdep 8 89 (by kernel_rfl)
                  have c := blk_cell (blk_below HK2.out hG.1) 7
                  clear hL
                  refine Flow.op_want rfl rfl (fun K hK => ?_)
                  clear hdep hk ho
                  go_simp
                  exact hK _ _ ⟨_, rfl, hG, rfl, fun _ _ _ h => h, fun _ h => h⟩
                · obtain rfl := Option.some.inj ho
                  have e6 : a.tmps.getD 6 undef = .int .i64 (j : Int) := hk 6 (by kernel_rfl)
                  clear hL
                  refine Flow.op_want rfl rfl (fun K hK => ?_)
                  clear hdep hk ho
                  go_simp
                  exact hK _ _ ⟨_, rfl, hG, rfl, fun _ _ _ h => h, fun _ h => h⟩
                · obtain rfl := Option.some.inj ho
                  have e90 : a.tmps.getD 90 undef = .slice (some ad) acks.length c7 := hdep 9 90 (by kernel_rfl)
                  have e91 : a.tmps.getD 91 undef = .int .i64 (j : Int) := hdep 10 91 (by kernel_rfl)
                  clear hL
                  refine Flow.op_want rfl rfl (fun K hK => ?_)
                  clear hdep hk ho
                  go_simp
                  exact hK _ _ ⟨_, rfl, hG, rfl, fun _ _ _ h => h, fun _ h => h⟩
                · obtain rfl := Option.some.inj ho
                  have e92 : a.tmps.getD 92 undef = .pointer (some (ad.add (j * 2))) := hdep 11 92 (by kernel_rfl)
                  clear hL
                  refine Flow.op_want rfl rfl (fun K hK => ?_)
                  clear hdep hk ho
                  go_simp
                  exact hK _ _ ⟨_, rfl, hG, rfl, fun _ _ _ h => h, fun _ h => h⟩
                · obtain rfl := Option.some.inj ho
                  have e93 : a.tmps.getD 93 undef = .pointer (some ⟨(ad.add (j * 2)).block, (ad.add (j * 2)).off + 1, none⟩) := hdep 12 93 (by kernel_rfl)
                  obtain ⟨q0, q1⟩ := atk (Kd.C_below HC72.out hG.1) j (by omega)
                  rw [HSP2.out] at q0 q1
                  clear hL
                  refine Flow.op_want rfl rfl (fun K hK => ?_)
                  clear hdep hk ho
                  go_simp
                  exact hK _ _ ⟨_, rfl, hG, rfl, fun _ _ _ h => h, fun _ h => h⟩
                · obtain rfl := Option.some.inj ho
                  have e88 : a.tmps.getD 88 undef = .int .u64 (rd_T84 acks (k : Int)).f0 := hdep 7 88 (by kernel_rfl)
                  have e94 : a.tmps.getD 94 undef = .int .u64 sp.f1 := hdep 13 94 (by kernel_rfl)
                  clear hL
                  refine Flow.op_want rfl rfl (fun K hK => ?_)
                  clear hdep hk ho
                  go_simp
                  first | exact hK _ _ ⟨_, rfl, hG, congrArg (Value.int .u64) HW1.out, fun _ _ _ h => h, fun _ h => h⟩ | exact hK _ _ ⟨_, rfl, hG, congrArg (Value.int .u64) (by omega), fun _ _ _ h => h, fun _ h => h⟩
                · obtain rfl := Option.some.inj ho
                  have e95 : a.tmps.getD 95 undef = .int .u64 ((rd_T84 acks (k : Int)).f0 - sp.f1) := hdep 14 95 (by kernel_rfl)
                  clear hL
                  refine Flow.op_want rfl rfl (fun K hK => ?_)
                  clear hdep hk ho
                  go_simp
                  first | exact hK _ _ ⟨_, rfl, hG, congrArg (Value.int .u64) HW2.out, fun _ _ _ h => h, fun _ h => h⟩ | exact hK _ _ ⟨_, rfl, hG, congrArg (Value.int .u64) (by omega), fun _ _ _ h => h, fun _ h => h⟩
                · obtain rfl := Option.some.inj ho
                  have e1 : a.tmps.getD 1 undef = .pointer (some ⟨w.heap.size, 0, none⟩) := hk 1 (by kernel_rfl)
                  clear hL
                  refine Flow.op_want rfl rfl (fun K hK => ?_)
                  clear hdep hk ho
                  go_simp
                  exact hK _ _ ⟨_, rfl, hG, rfl, fun _ _ _ h => h, fun _ h => h⟩
                · obtain rfl := Option.some.inj ho
                  have e97 : a.tmps.getD 97 undef = .pointer (some ⟨w.heap.size, 7, none⟩) := hdep 16 97 (by kernel_rfl)
                  have c := blk_cell (blk_below HK2.out hG.1) 7
                  clear hL
                  refine Flow.op_want rfl rfl (fun K hK => ?_)
                  clear hdep hk ho
                  go_simp
                  exact hK _ _ ⟨_, rfl, hG, rfl, fun _ _ _ h => h, fun _ h => h⟩
                · obtain rfl := Option.some.inj ho
                  have e6 : a.tmps.getD 6 undef = .int .i64 (j : Int) := hk 6 (by kernel_rfl)
                  clear hL
                  refine Flow.op_want rfl rfl (fun K hK => ?_)
                  clear hdep hk ho
                  go_simp
                  exact hK _ _ ⟨_, rfl, hG, rfl, fun _ _ _ h => h, fun _ h => h⟩
                · obtain rfl := Option.some.inj ho
                  have e98 : a.tmps.getD 98 undef = .slice (some ad) acks.length c7 := hdep 17 98 (by kernel_rfl)
                  have e99 : a.tmps.getD 99 undef = .int .i64 (j : Int) := hdep 18 99 (by kernel_rfl)
                  clear hL
                  refine Flow.op_want rfl rfl (fun K hK => ?_)
                  clear hdep hk ho
                  go_simp
                  exact hK _ _ ⟨_, rfl, hG, rfl, fun _ _ _ h => h, fun _ h => h⟩
                · obtain rfl := Option.some.inj ho
                  have e100 : a.tmps.getD 100 undef = .pointer (some (ad.add (j * 2))) := hdep 19 100 (by kernel_rfl)
                  clear hL
                  refine Flow.op_want rfl rfl (fun K hK => ?_)
                  clear hdep hk ho
                  go_simp
                  exact hK _ _ ⟨_, rfl, hG, rfl, fun _ _ _ h => h, fun _ h => h⟩
                · obtain rfl := Option.some.inj ho
                  have e101 : a.tmps.getD 101 undef = .pointer (some ⟨(ad.add (j * 2)).block, (ad.add (j * 2)).off + 1, none⟩) := hdep 20 101 (by kernel_rfl)
                  obtain ⟨q0, q1⟩ := atk (Kd.C_below HC72.out hG.1) j (by omega)
                  rw [HSP2.out] at q0 q1
                  clear hL
                  refine Flow.op_want rfl rfl (fun K hK => ?_)
                  clear hdep hk ho
                  go_simp
                  exact hK _ _ ⟨_, rfl, hG, rfl, fun _ _ _ h => h, fun _ h => h⟩
                · obtain rfl := Option.some.inj ho
                  have e1 : a.tmps.getD 1 undef = .pointer (some ⟨w.heap.size, 0, none⟩) := hk 1 (by kernel_rfl)
                  clear hL
                  refine Flow.op_want rfl rfl (fun K hK => ?_)
                  clear hdep hk ho
                  go_simp
                  exact hK _ _ ⟨_, rfl, hG, rfl, fun _ _ _ h => h, fun _ h => h⟩
                · obtain rfl := Option.some.inj ho
                  have e103 : a.tmps.getD 103 undef = .pointer (some ⟨w.heap.size, 7, none⟩) := hdep 22 103 (by kernel_rfl)
                  have c := blk_cell (blk_below HK2.out hG.1) 7
                  clear hL
                  refine Flow.op_want rfl rfl (fun K hK => ?_)
                  clear hdep hk ho
                  go_simp
                  exact hK _ _ ⟨_, rfl, hG, rfl, fun _ _ _ h => h, fun _ h => h⟩
                · obtain rfl := Option.some.inj ho
                  have e6 : a.tmps.getD 6 undef = .int .i64 (j : Int) := hk 6 (by kernel_rfl)
                  clear hL
                  refine Flow.op_want rfl rfl (fun K hK => ?_)
                  clear hdep hk ho
                  go_simp
                  exact hK _ _ ⟨_, rfl, hG, rfl, fun _ _ _ h => h, fun _ h => h⟩
                · obtain rfl := Option.some.inj ho
                  have e104 : a.tmps.getD 104 undef = .slice (some ad) acks.length c7 := hdep 23 104 (by kernel_rfl)
                  have e105 : a.tmps.getD 105 undef = .int .i64 (j : Int) := hdep 24 105 (by kernel_rfl)
                  clear hL
                  refine Flow.op_want rfl rfl (fun K hK => ?_)
                  clear hdep hk ho
                  go_simp
                  exact hK _ _ ⟨_, rfl, hG, rfl, fun _ _ _ h => h, fun _ h => h⟩
                · obtain rfl := Option.some.inj ho
                  have e106 : a.tmps.getD 106 undef = .pointer (some (ad.add (j * 2))) := hdep 25 106 (by kernel_rfl)
                  clear hL
                  refine Flow.op_want rfl rfl (fun K hK => ?_)
                  clear hdep hk ho
                  go_simp
                  exact hK _ _ ⟨_, rfl, hG, rfl, fun _ _ _ h => h, fun _ h => h⟩
                · obtain rfl := Option.some.inj ho
                  have e107 : a.tmps.getD 107 undef = .pointer (some (ad.add (j * 2))) := hdep 26 107 (by kernel_rfl)
                  obtain ⟨q0, q1⟩ := atk (Kd.C_below HC72.out hG.1) j (by omega)
                  rw [HSP2.out] at q0 q1
                  clear hL
                  refine Flow.op_want rfl rfl (fun K hK => ?_)
                  clear hdep hk ho
                  go_simp
                  exact hK _ _ ⟨_, rfl, hG, rfl, fun _ _ _ h => h, fun _ h => h⟩
                · obtain rfl := Option.some.inj ho
                  have e102 : a.tmps.getD 102 undef = .int .u64 sp.f1 := hdep 21 102 (by kernel_rfl)
                  have e108 : a.tmps.getD 108 undef = .int .u64 sp.f0 := hdep 27 108 (by kernel_rfl)
                  clear hL
                  refine Flow.op_want rfl rfl (fun K hK => ?_)
                  clear hdep hk ho
                  go_simp
                  first | exact hK _ _ ⟨_, rfl, hG, congrArg (Value.int .u64) HW3.out, fun _ _ _ h => h, fun _ h => h⟩ | exact hK _ _ ⟨_, rfl, hG, congrArg (Value.int .u64) (by omega), fun _ _ _ h => h, fun _ h => h⟩
                · obtain rfl := Option.some.inj ho
                  have e96 : a.tmps.getD 96 undef = .int .u64 ((rd_T84 acks (k : Int)).f0 - sp.f1 - 2) := hdep 15 96 (by kernel_rfl)
                  have e109 : a.tmps.getD 109 undef = .int .u64 (sp.f1 - sp.f0) := hdep 28 109 (by kernel_rfl)
                  rw [Array.getD_eq_getD_getElem?] at e96 e109
                  clear hL
                  refine Flow.op_want rfl rfl (fun K hK => ?_)
                  clear hdep hk ho
                  go_simp
                  refine hK _ _ ⟨_, rfl, ⟨hG.1.alloc hG.1.size _, Nat.le_trans hG.2 (by simp)⟩, ⟨W.heap.size, rfl, hG.2, heap_alloc_new _ _⟩, ?_, fun _ h => Kd.R_alloc h _⟩
                  intro j0 u _
                  split <;> intro h <;> first | exact h | exact Kd.R_alloc h _ | (obtain ⟨b, e, h1, h2⟩ := h; exact ⟨b, e, h1, blk_below h2 (below_alloc (Below.refl _ _) _)⟩)
                · obtain rfl := Option.some.inj ho
                  have e81 : a.tmps.getD 81 undef = u5 := hdep 0 81 (by kernel_rfl)
                  have e110 : (fun (W : World) (v : Value) => ∃ b, v = .slice (some ⟨b, 0, none⟩) 2 2 ∧ wr.heap.size ≤ b ∧ W.heap[b]? = some (.cells #[.int .u64 ((rd_T84 acks (k : Int)).f0 - sp.f1 - 2), .int .u64 (sp.f1 - sp.f0)] 22 (0, 0))) W (a.tmps.getD 110 undef) := hdep 29 110 (by kernel_rfl)
                  obtain ⟨b, e110, hb1, hb2⟩ := e110
                  refine Flow.op_if rfl (fun K hK => appU (w0 := w2) w2.heap.size rfl (.tmp 81) (.tmp 110) rfl (v := u5) (ys := [(rd_T84 acks (k : Int)).f0 - sp.f1 - 2, sp.f1 - sp.f0]) (hL rfl) e81 e110 rfl (C_blk [(rd_T84 acks (k : Int)).f0 - sp.f1 - 2, sp.f1 - sp.f0] (by simp) hb2) hG.1 hG.1.size (by simp only [List.length_append, gapsN_len, List.length_cons, List.length_nil]; omega) ?_)
                  intro v1 W1 R1 B1 G1 N1
                  refine hK _ _ ⟨v1, rfl, ⟨B1, Nat.le_trans hG.2 G1.size⟩, R1, ?_, fun h => absurd rfl h⟩
                  intro j0 u hj
                  split <;> intro h <;> first | exact h | (obtain ⟨b, e, h1, h2⟩ := h; exact ⟨b, e, h1, grown_blk G1 h2 (fun e => by have := (HOB.out _ e.symm).2; omega)⟩) | exact absurd rfl hj.1 | exact absurd hj.2 (by rw [show Flow.waits _ 31 30 = true by kernel_rfl]; simp)
                · obtain rfl := Option.some.inj ho
                  have e111 : (fun (W : World) (v : Value) => RU W w2.heap.size v (([2] ++ ([(rd_T84 acks 0).f1, f3, (acks.length : Int) - 1, (rd_T84 acks 0).f1 - (rd_T84 acks 0).f0] ++ gapsN acks k)) ++ [(rd_T84 acks (k : Int)).f0 - sp.f1 - 2, sp.f1 - sp.f0])) W (a.tmps.getD 111 undef) := hdep 30 111 (by kernel_rfl)
                  clear hL
                  refine Flow.op_want rfl rfl (fun K hK => ?_)
                  have e111b : RU W w2.heap.size (a.tmps[111]?.getD undef) (([2] ++ ([(rd_T84 acks 0).f1, f3, (acks.length : Int) - 1, (rd_T84 acks 0).f1 - (rd_T84 acks 0).f0] ++ gapsN acks k)) ++ [(rd_T84 acks (k : Int)).f0 - sp.f1 - 2, sp.f1 - sp.f0]) := by rw [← Array.getD_eq_getD_getElem?]; exact e111
                  clear hdep hk ho e111
                  go_simp
                  exact hK _ _ ⟨_, rfl, hG, e111b, fun _ _ _ h => h, fun _ h => h⟩
              · intro us2 w10 hG10 hval
                have R17 : (fun (W : World) (v : Value) => RU W w2.heap.size v (([2] ++ ([(rd_T84 acks 0).f1, f3, (acks.length : Int) - 1, (rd_T84 acks 0).f1 - (rd_T84 acks 0).f0] ++ gapsN acks k)) ++ [(rd_T84 acks (k : Int)).f0 - sp.f1 - 2, sp.f1 - sp.f0])) w10 (us2 5) := hval 31 _ 5 rfl rfl
                clear hval
                simp only [Flow.lay, List.set_cons_zero, List.set_cons_succ]
                have HR17 := Lib.hid R17
                have HG17 := Lib.hid hG10.1
                clear R17 hG10 hBr hRr
                generalize us2 5 = v17 at *
                have hrel : RU w10 w2.heap.size v17 ([2] ++ ([(rd_T84 acks 0).f1, f3, (acks.length : Int) - 1, (rd_T84 acks 0).f1 - (rd_T84 acks 0).f0] ++ gapsN acks (k + 1))) := by
                  have h := HR17.out
                  have e : ((k + 1 : Nat) : Int) = (j : Int) := by omega
                  simp only [gapsN]
                  rw [e, HSP2.out]
                  rw [List.append_assoc, List.append_assoc] at h
                  exact h
                have HREL := Lib.hid hrel
                clear hrel
                go_wp2_with fail
                go_roundw
                case rel => exact ⟨k + 1, j + 1, by rw [HJK.out], by omega, by go_num, HREL, HG17⟩
                case measure => simp [intOf]; omega
            · have hkn : acks.length = k + 1 := by omega
              have HKN := Lib.hid hkn
              have hkb : k ≤ 32 := by omega
              clear hkn hjk
              go_wp2_with fail
              clear k7
              have hl9 : ackNums f3 acks = [2] ++ ([(rd_T84 acks 0).f1, f3, (acks.length : Int) - 1, (rd_T84 acks 0).f1 - (rd_T84 acks 0).f0] ++ gapsN acks k) := by unfold ackNums; rw [show acks.length - 1 = k by have := HKN.out; omega]; rfl
              have hw9 : ∀ n ∈ [2] ++ ([(rd_T84 acks 0).f1, f3, (acks.length : Int) - 1, (rd_T84 acks 0).f1 - (rd_T84 acks 0).f0] ++ gapsN acks k), 0 ≤ n ∧ n < 18446744073709551616 := by
                intro n hn
                rw [← List.append_assoc] at hn
                rcases List.mem_append.1 hn with hn | hn
                · have h0 := rd_bd HBA.out 0
                  have h1 := HP2.out 0 p0 (Nat.le_refl _)
                  have h2 := h1.1
                  have h3 := HB3.out
                  obtain ⟨⟨a1, a2⟩, a3, a4⟩ := h0
                  obtain ⟨h3, h5⟩ := h3
                  rw [show ((0 : Nat) : Int) = 0 from rfl] at h2
                  simp only [List.cons_append, List.nil_append, List.mem_cons, List.not_mem_nil, or_false] at hn
                  rcases hn with rfl | rfl | rfl | rfl | rfl <;> omega
                · have := gapsN_bd HBA.out HP2.out k (by have := HKN.out; omega) n hn
                  omega
              have hlen9 : ([2] ++ ([(rd_T84 acks 0).f1, f3, (acks.length : Int) - 1, (rd_T84 acks 0).f1 - (rd_T84 acks 0).f0] ++ gapsN acks k)).length ≤ 100 := by simp only [List.length_append, gapsN_len, List.length_cons, List.length_nil]; omega
              have HL9 := Lib.hid hl9
              clear hl9
              generalize [2] ++ ([(rd_T84 acks 0).f1, f3, (acks.length : Int) - 1, (rd_T84 acks 0).f1 - (rd_T84 acks 0).f0] ++ gapsN acks k) = nums at *
              have Bw := HB.out
              obtain ⟨A9, c9, e9, hc9, hC9, -⟩ := RU.read HR.out
              subst e9
              have hB9 := HBL.out.trans ((HBx.out.trans (Bw.mono HBx.out.size)).mono HBL.out.size)
              have HB9 := Lib.hid hB9
              have HK9 := Lib.hid (blk_below HK.out (HBx.out.trans (Bw.mono HBx.out.size)))
              have HC69 := Lib.hid (Kd.C_below HC6.out (HBx.out.trans (Bw.mono HBx.out.size)))
              obtain ⟨o, ho⟩ : ∃ o, vput [] nums = o := ⟨_, rfl⟩
              cases o with
              | none =>
                have hp := putNone (l := nums) hC9 hc9 hw9 (by omega) ho
                have HP := Lib.hid hp
                have HO := Lib.hid ho
                clear hp ho hw9 hC9 Bw hB9
                refine HP.out.mono ?_
                rintro e w5 ⟨v5, rfl, B5⟩
                go_wp2_with fail
                go_ret2
                have et := HE.out
                simp only [HOK.out, if_true, ackOf, HL9.out] at et
                simp [withR, HO.out] at et
                subst et
                exact ⟨_, rfl, Kd.R_nil _ _ _ _ _, HB9.out.trans (B5.mono HB9.out.size)⟩
              | some o =>
                have hol : o.length ≤ 0 + 8 * nums.length := vput_len ho
                have hp := putSome (l := nums) hC9 hc9 hw9 (by omega) ho
                have HP := Lib.hid hp
                have HO := Lib.hid ho
                clear hp ho hw9 hC9 Bw hB9
                refine HP.out.mono ?_
                rintro e w5 ⟨v5, rfl, R5, B5⟩
                have k6 := blk_cell (blk_below HK9.out B5) 6
                go_wp2_with (first
                  | ((with_reducible refine gate_builtin (b := .append) (xs := #[.tmp 201, .tmp 203]) rfl ?_); refine appB (w0 := _) _ rfl (.tmp 201) (.tmp 203) rfl (A := A6) (ys := data) R5 rfl rfl rfl (Kd.C_below HC69.out B5) B5 B5.size (by omega) ?_; intro v6 w6 R6 B6 G6 N6; clear G6 N6 k6))
                go_ret2
                have et := HE.out
                simp only [HOK.out, if_true, ackOf, HL9.out] at et
                simp [withR, HO.out] at et
                subst et
                exact ⟨_, rfl, Kd.R_lower R6 HB9.out.size, HB9.out.trans (B6.mono HB9.out.size)⟩

end Go.Proofs.Ytmccghadgihbpaa.RefAck
