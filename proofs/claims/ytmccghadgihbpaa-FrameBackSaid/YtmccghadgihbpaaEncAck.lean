/- frame.Encode: what it makes of an ACK. -/
import Derived.Test.YtmccghadgihbpaaWith
import Derived.Test.YtmccghadgihbpaaSpans
import Derived.Test.YtmccghadgihbpaaMemU
import Derived.Test.YtmccghadgihbpaaEncode
import Derived.Deep.Cut
import Derived.Deep.LoopGhost
namespace Go.Proofs.Ytmccghadgihbpaa.EncAck
open Go Go.RowKit Go.Proofs.Ytmccghadgihbpaa.PFrameBack Go.Proofs.YtmccghadgihbpaaW.PrintWords Go.Proofs.YtmccghadgihbpaaW.PrintLast Go.Proofs.YtmccghadgihbpaaW.PrintMore Go.Proofs.Ytmccghadgihbpaa.Keep Go.Proofs.Ytmccghadgihbpaa.Mem Go.Proofs.Ytmccghadgihbpaa.VPut Go.Proofs.Ytmccghadgihbpaa.With Go.Proofs.Ytmccghadgihbpaa.Spans Go.Proofs.Ytmccghadgihbpaa.Encode Go.Proofs.Ytmccghadgihbpaa.MemU
set_option linter.unusedVariables false

theorem info84 : (Try.prog.info? 84).map (fun i => (i.zero, i.size, i.bytes)) = some (some (.agg #[.int .u64 0, .int .u64 0]), 2, 16) := by kernel_rfl

def ackOf (x : S58) : List Int := ackNums x.f3 x.f7

theorem rd_drop (xs : List S84) (m k : Nat) : rd_T84 (xs.drop m) (k : Int) = rd_T84 xs ((m + k : Nat) : Int) := by
  unfold rd_T84
  rw [List.getD_eq_getElem?_getD, List.getD_eq_getElem?_getD, List.getElem?_drop, show (k : Int).toNat = k by omega, show ((m + k : Nat) : Int).toNat = m + k by omega]

/-- The cells of the span at place k. -/
theorem atk {w : World} {ad : Addr} {n : Nat} {xs : List S84} (h : Kd.C k84 w (some ad) n xs) (k : Nat) (hn : k < n) : w.cell? (ad.add (k * 2)) = some (.int .u64 (rd_T84 xs (k : Int)).f0) ∧ w.cell? ⟨(ad.add (k * 2)).block, (ad.add (k * 2)).off + 1, none⟩ = some (.int .u64 (rd_T84 xs (k : Int)).f1) := by
  obtain ⟨ad', ea', q0, q1⟩ := at_T84 h (k : Int) (by omega) (by omega)
  obtain rfl := Option.some.inj ea'
  exact ⟨q0, q1⟩

/-- 'l[1:]' of spans. -/
theorem cut84 {w : World} {A : Option Addr} {c : Nat} {xs : List S84} {m : Nat} (hm : m ≤ xs.length) (hc : xs.length ≤ c) (hC : Kd.C k84 w A xs.length xs) :
    ∃ A' : Option Addr, (∀ W : World, (Instr.slice 56 (.slice A xs.length c) (some (.int .i64 (m : Int))) none none).run Try.prog W = .ok (.slice A' (xs.drop m).length (c - m)) W) ∧ Kd.C k84 w A' (xs.drop m).length (xs.drop m) := by
  obtain ⟨i0, hi, hzz⟩ := Option.map_eq_some_iff.1 info84
  simp only [Prod.mk.injEq] at hzz
  refine ⟨if c = m then A else A.map (·.add (m * 2)), fun W => ?_, Kd.C_drop hC hm hc⟩
  have hel : Program.elem Try.prog 56 = 84 := by simp [Program.elem, Try.underlying56]
  have hu : Try.prog.underlying 56 = some (.slice (Program.elem Try.prog 56)) := by rw [hel]; exact Try.underlying56
  rw [run_slice_l W 56 A xs.length c hu .i64 (m : Int) (Int.natCast_nonneg _) (by omega), hel]
  simp [sizeOf, typeInfo, hi, hzz.2.1, sliced, Result.andThen]

theorem at0 {w : World} {ad : Addr} {n : Nat} {xs : List S84} (h : Kd.C k84 w (some ad) n xs) (hn : 0 < n) : w.cell? ad = some (.int .u64 (rd_T84 xs 0).f0) ∧ w.cell? ⟨ad.block, ad.off + 1, none⟩ = some (.int .u64 (rd_T84 xs 0).f1) := by
  obtain ⟨ad', ea', q0, q1⟩ := at_T84 h 0 (by omega) (by omega)
  obtain rfl := Option.some.inj ea'
  have e : ad.add (Int.toNat 0 * 2) = ad := Addr.add_zero' ad
  rw [e] at q0 q1
  exact ⟨q0, q1⟩

set_option maxHeartbeats 4000000 in
set_option maxRecDepth 100000 in
theorem ack_calls {w : World} (f1 f2 f3 f4 : Int) (f5 : Bool) {A6 A7 : Option Addr} {c6 c7 : Nat} {data : List Int} {acks : List S84} (b3 : Spans.bd f3) (hC6 : CB w A6 data) (hc6 : data.length ≤ c6) (hd : data.length ≤ 3000) (hC7 : Kd.C k84 w A7 acks.length acks) (hc7 : acks.length ≤ c7) (hba : bds acks) (hla : acks.length ≤ 1000) :
    Calls Try.prog 38 #[.agg #[.int .u64 2, .int .u64 f1, .int .u64 f2, .int .u64 f3, .int .u64 f4, .bool f5, .slice A6 data.length c6, .slice A7 acks.length c7]] w fun e w' => ∃ v, e = .returned (.tuple #[v, .int .i64 (encF okS ackOf ⟨2, f1, f2, f3, f4, f5, data, acks⟩).2]) ∧ RB w' w.heap.size v (encF okS ackOf ⟨2, f1, f2, f3, f4, f5, data, acks⟩).1 ∧ Below w.heap.size w w' := by
  obtain ⟨t, ht⟩ : ∃ t, encF okS ackOf ⟨2, f1, f2, f3, f4, f5, data, acks⟩ = t := ⟨_, rfl⟩
  rw [ht]
  have HT := Lib.hid ht
  have hk := heap_alloc_new w (.cells #[.int .u64 2, .int .u64 f1, .int .u64 f2, .int .u64 f3, .int .u64 f4, .bool f5, .slice A6 data.length c6, .slice A7 acks.length c7] 58)
  have BL := (Below.refl w.heap.size w).alloc (Nat.le_refl _) (.cells #[.int .u64 2, .int .u64 f1, .int .u64 f2, .int .u64 f3, .int .u64 f4, .bool f5, .slice A6 data.length c6, .slice A7 acks.length c7] 58)
  obtain ⟨w1, hw1⟩ : ∃ w1 : World, w1 = w.alloc (.cells #[.int .u64 2, .int .u64 f1, .int .u64 f2, .int .u64 f3, .int .u64 f4, .bool f5, .slice A6 data.length c6, .slice A7 acks.length c7] 58) := ⟨_, rfl⟩
  rw [← hw1] at hk BL
  have HW1 := Lib.hid hw1
  have HK := Lib.hid hk
  have HBL := Lib.hid BL
  obtain ⟨k0, k1, k2, k3, k4, k5, k6, k7⟩ := cells8 hk
  have HC6 := Lib.hid (Kd.C_below hC6 BL)
  have HC7 := Lib.hid (Kd.C_below hC7 BL)
  have HBA := Lib.hid hba
  have HB3 := Lib.hid b3
  have hlw : IntKind.u64.wrap (data.length : Int) = data.length := by rw [IntKind.wrap_u64]; omega
  clear hw1 hk BL hC6 hC7 ht hba b3
  go_enter Try.func38, Try.ntmps38
  go_upto_region 1 with fail
  rw [← HW1.out]
  clear HW1
  by_cases hlong : (data.length : Int) > 2048
  · go_wp2_with fail
    go_ret2
    have et := HT.out
    unfold encF at et
    rw [if_pos hlong] at et
    subst et
    exact ⟨_, rfl, Kd.R_nil _ _ _ _ _, HBL.out⟩
  · by_cases hform : (data.length : Int) > 0
    · have et := HT.out
      unfold encF at et
      rw [if_neg hlong, if_pos ⟨hform, by simp, by simp, by simp⟩] at et
      subst et
      go_wp2_with fail
      go_ret2
      exact ⟨_, rfl, Kd.R_nil _ _ _ _ _, HBL.out⟩
    · have et := HT.out
      unfold encF at et
      rw [if_neg hlong, if_neg (fun h => hform h.1), if_pos rfl] at et
      have HE := Lib.hid et
      have hspo := spans_f HBA.out hla
      cases hok : okS acks with
      | false =>
        rw [hok] at hspo
        have HSP := Lib.hid hspo
        have HOK := Lib.hid hok
        clear et hspo hok
        go_wp2_with fail
        refine (frame_spans.calls 1001 A7 c7 acks false _ HC7.out hc7 HSP.out).mono ?_
        rintro e w2 ⟨rfl, B2⟩
        go_wp2_with fail
        go_ret2
        have et := HE.out
        simp only [HOK.out] at et
        rw [if_neg (by decide)] at et
        subst et
        exact ⟨_, rfl, Kd.R_nil _ _ _ _ _, HBL.out.trans (B2.mono HBL.out.size)⟩
      | true =>
        rw [hok] at hspo
        have HSP := Lib.hid hspo
        have HOK := Lib.hid hok
        clear et hspo hok
        go_wp2_with fail
        refine (frame_spans.calls 1001 A7 c7 acks true _ HC7.out hc7 HSP.out).mono ?_
        rintro e w2 ⟨rfl, B2⟩
        go_upto_region 15 with fail
        have HB2 := Lib.hid B2
        have HK2 := Lib.hid (blk_below HK.out B2)
        have HC72 := Lib.hid (Kd.C_below HC7.out B2)
        have hpos : 0 < acks.length ∧ acks.length ≤ 32 ∧ okFrom acks 0 := by have := HOK.out; unfold okS at this; simpa using this
        obtain ⟨p0, p1, p2⟩ := hpos
        have HP2 := Lib.hid p2
        obtain ⟨ad, ead, q0, q1⟩ := at_T84 HC72.out 0 (by omega) (by omega)
        subst ead
        have hd0 := rd_bd HBA.out 0
        have ok0 : (rd_T84 acks 0).f0 ≤ (rd_T84 acks 0).f1 ∧ (rd_T84 acks 0).f1 ≤ 4611686018427387903 := by have := HP2.out 0 p0 (Nat.le_refl _); exact ⟨this.1, this.2.1⟩
        have hlo : 0 ≤ (rd_T84 acks 0).f0 := hd0.1.1
        have hwd : IntKind.u64.wrap ((rd_T84 acks 0).f1 - (rd_T84 acks 0).f0) = (rd_T84 acks 0).f1 - (rd_T84 acks 0).f0 := by rw [IntKind.wrap_u64]; omega
        have hwl : IntKind.u64.wrap ((acks.length : Int) - 1) = (acks.length : Int) - 1 := by rw [IntKind.wrap_u64]; omega
        have hwm : IntKind.i64.wrap ((acks.length : Int) - 1) = (acks.length : Int) - 1 := by rw [IntKind.wrap_i64]; omega
        have HWD := Lib.hid hwd
        have HWL := Lib.hid hwl
        have HWM := Lib.hid hwm
        clear B2 p2 q0 q1 hd0 ok0 hlo hwd hwl hwm k0 k1 k2 k3 k4 k5 k6 k7
        refine Flow.wp_region_lit [55, 56, 57, 58, 59, 60, 61, 62, 63, 64, 65, 66, 67, 68, 69, 70, 71, 72, 73, 74, 75, 76, 77, 78, 79, 80, 6] (by kernel_rfl) (fun j W v => match j with | 0 => v = .pointer (some ⟨w.heap.size, 0, none⟩) | 1 => v = .int .u64 2 | 2 => v = .pointer (some ⟨w.heap.size, 7, none⟩) | 3 => v = .slice (some ad) acks.length c7 | 4 => v = .pointer (some (ad.add 0)) | 5 => v = .pointer (some ⟨(ad.add 0).block, (ad.add 0).off + 1, none⟩) | 6 => v = .int .u64 (rd_T84 acks 0).f1 | 7 => v = .pointer (some ⟨w.heap.size, 3, none⟩) | 8 => v = .int .u64 f3 | 9 => v = .pointer (some ⟨w.heap.size, 7, none⟩) | 10 => v = .slice (some ad) acks.length c7 | 11 => v = .int .i64 acks.length | 12 => v = .int .i64 ((acks.length : Int) - 1) | 13 => v = .int .u64 ((acks.length : Int) - 1) | 14 => v = .pointer (some ⟨w.heap.size, 7, none⟩) | 15 => v = .slice (some ad) acks.length c7 | 16 => v = .pointer (some (ad.add 0)) | 17 => v = .pointer (some ⟨(ad.add 0).block, (ad.add 0).off + 1, none⟩) | 18 => v = .int .u64 (rd_T84 acks 0).f1 | 19 => v = .pointer (some ⟨w.heap.size, 7, none⟩) | 20 => v = .slice (some ad) acks.length c7 | 21 => v = .pointer (some (ad.add 0)) | 22 => v = .pointer (some (ad.add 0)) | 23 => v = .int .u64 (rd_T84 acks 0).f0 | 24 => v = .int .u64 ((rd_T84 acks 0).f1 - (rd_T84 acks 0).f0) | 25 => RU W w2.heap.size v [2, (rd_T84 acks 0).f1, f3, (acks.length : Int) - 1, (rd_T84 acks 0).f1 - (rd_T84 acks 0).f0] | 26 => RU W w2.heap.size v [2, (rd_T84 acks 0).f1, f3, (acks.length : Int) - 1, (rd_T84 acks 0).f1 - (rd_T84 acks 0).f0] | _ => True) (fun W => Below w2.heap.size w2 W) (by kernel_rfl) (by kernel_rfl) (by kernel_rfl) (by kernel_rfl) (below_drew (Below.refl _ _)) ?_ ?_
        · intro i o ho a W hG hk hdep
          have hi : i < 27 := (Array.getElem?_eq_some_iff.1 ho).1
          rcases (by omega : i = 0 ∨ i = 1 ∨ i = 2 ∨ i = 3 ∨ i = 4 ∨ i = 5 ∨ i = 6 ∨ i = 7 ∨ i = 8 ∨ i = 9 ∨ i = 10 ∨ i = 11 ∨ i = 12 ∨ i = 13 ∨ i = 14 ∨ i = 15 ∨ i = 16 ∨ i = 17 ∨ i = 18 ∨ i = 19 ∨ i = 20 ∨ i = 21 ∨ i = 22 ∨ i = 23 ∨ i = 24 ∨ i = 25 ∨ i = 26) with rfl | rfl | rfl | rfl | rfl | rfl | rfl | rfl | rfl | rfl | rfl | rfl | rfl | rfl | rfl | rfl | rfl | rfl | rfl | rfl | rfl | rfl | rfl | rfl | rfl | rfl | rfl
          · obtain rfl := Option.some.inj ho
            have e1 : a.tmps.getD 1 undef = .pointer (some ⟨w.heap.size, 0, none⟩) := hk 1 (by kernel_rfl)
            refine Flow.op_want rfl rfl (fun K hK => ?_)
            clear hdep hk ho
            go_simp
            exact hK _ _ ⟨_, rfl, hG, rfl, fun _ _ h => h⟩
          · obtain rfl := Option.some.inj ho
            have e55 : a.tmps.getD 55 undef = .pointer (some ⟨w.heap.size, 0, none⟩) := hdep 0 55 (by kernel_rfl)
            have c := blk_cell (blk_below HK2.out hG) 0
            refine Flow.op_want rfl rfl (fun K hK => ?_)
            clear hdep hk ho
            go_simp
            exact hK _ _ ⟨_, rfl, hG, rfl, fun _ _ h => h⟩
          · obtain rfl := Option.some.inj ho
            have e1 : a.tmps.getD 1 undef = .pointer (some ⟨w.heap.size, 0, none⟩) := hk 1 (by kernel_rfl)
            refine Flow.op_want rfl rfl (fun K hK => ?_)
            clear hdep hk ho
            go_simp
            exact hK _ _ ⟨_, rfl, hG, rfl, fun _ _ h => h⟩
          · obtain rfl := Option.some.inj ho
            have e57 : a.tmps.getD 57 undef = .pointer (some ⟨w.heap.size, 7, none⟩) := hdep 2 57 (by kernel_rfl)
            have c := blk_cell (blk_below HK2.out hG) 7
            refine Flow.op_want rfl rfl (fun K hK => ?_)
            clear hdep hk ho
            go_simp
            exact hK _ _ ⟨_, rfl, hG, rfl, fun _ _ h => h⟩
          · obtain rfl := Option.some.inj ho
            have e58 : a.tmps.getD 58 undef = .slice (some ad) acks.length c7 := hdep 3 58 (by kernel_rfl)
            refine Flow.op_want rfl rfl (fun K hK => ?_)
            clear hdep hk ho
            go_simp
            exact hK _ _ ⟨_, rfl, hG, rfl, fun _ _ h => h⟩
          · obtain rfl := Option.some.inj ho
            have e59 : a.tmps.getD 59 undef = .pointer (some (ad.add 0)) := hdep 4 59 (by kernel_rfl)
            refine Flow.op_want rfl rfl (fun K hK => ?_)
            clear hdep hk ho
            go_simp
            exact hK _ _ ⟨_, rfl, hG, rfl, fun _ _ h => h⟩
          · obtain rfl := Option.some.inj ho
            have e60 : a.tmps.getD 60 undef = .pointer (some ⟨(ad.add 0).block, (ad.add 0).off + 1, none⟩) := hdep 5 60 (by kernel_rfl)
            obtain ⟨q0, q1⟩ := at0 (Kd.C_below HC72.out hG) (by omega)
            refine Flow.op_want rfl rfl (fun K hK => ?_)
            clear hdep hk ho
            go_simp
            exact hK _ _ ⟨_, rfl, hG, rfl, fun _ _ h => h⟩
          · obtain rfl := Option.some.inj ho
            have e1 : a.tmps.getD 1 undef = .pointer (some ⟨w.heap.size, 0, none⟩) := hk 1 (by kernel_rfl)
            refine Flow.op_want rfl rfl (fun K hK => ?_)
            clear hdep hk ho
            go_simp
            exact hK _ _ ⟨_, rfl, hG, rfl, fun _ _ h => h⟩
          · obtain rfl := Option.some.inj ho
            have e62 : a.tmps.getD 62 undef = .pointer (some ⟨w.heap.size, 3, none⟩) := hdep 7 62 (by kernel_rfl)
            have c := blk_cell (blk_below HK2.out hG) 3
            refine Flow.op_want rfl rfl (fun K hK => ?_)
            clear hdep hk ho
            go_simp
            exact hK _ _ ⟨_, rfl, hG, rfl, fun _ _ h => h⟩
          · obtain rfl := Option.some.inj ho
            have e1 : a.tmps.getD 1 undef = .pointer (some ⟨w.heap.size, 0, none⟩) := hk 1 (by kernel_rfl)
            refine Flow.op_want rfl rfl (fun K hK => ?_)
            clear hdep hk ho
            go_simp
            exact hK _ _ ⟨_, rfl, hG, rfl, fun _ _ h => h⟩
          · obtain rfl := Option.some.inj ho
            have e64 : a.tmps.getD 64 undef = .pointer (some ⟨w.heap.size, 7, none⟩) := hdep 9 64 (by kernel_rfl)
            have c := blk_cell (blk_below HK2.out hG) 7
            refine Flow.op_want rfl rfl (fun K hK => ?_)
            clear hdep hk ho
            go_simp
            exact hK _ _ ⟨_, rfl, hG, rfl, fun _ _ h => h⟩
          · obtain rfl := Option.some.inj ho
            have e65 : a.tmps.getD 65 undef = .slice (some ad) acks.length c7 := hdep 10 65 (by kernel_rfl)
            refine Flow.op_want rfl rfl (fun K hK => ?_)
            clear hdep hk ho
            go_simp
            exact hK _ _ ⟨_, rfl, hG, rfl, fun _ _ h => h⟩
          · obtain rfl := Option.some.inj ho
            have e66 : a.tmps.getD 66 undef = .int .i64 acks.length := hdep 11 66 (by kernel_rfl)
            refine Flow.op_want rfl rfl (fun K hK => ?_)
            clear hdep hk ho
            go_simp
            exact hK _ _ ⟨_, rfl, hG, congrArg (Value.int .i64) HWM.out, fun _ _ h => h⟩
          · obtain rfl := Option.some.inj ho
            have e67 : a.tmps.getD 67 undef = .int .i64 ((acks.length : Int) - 1) := hdep 12 67 (by kernel_rfl)
            refine Flow.op_want rfl rfl (fun K hK => ?_)
            clear hdep hk ho
            go_simp
            exact hK _ _ ⟨_, rfl, hG, congrArg (Value.int .u64) HWL.out, fun _ _ h => h⟩
          · obtain rfl := Option.some.inj ho
            have e1 : a.tmps.getD 1 undef = .pointer (some ⟨w.heap.size, 0, none⟩) := hk 1 (by kernel_rfl)
            refine Flow.op_want rfl rfl (fun K hK => ?_)
            clear hdep hk ho
            go_simp
            exact hK _ _ ⟨_, rfl, hG, rfl, fun _ _ h => h⟩
          · obtain rfl := Option.some.inj ho
            have e69 : a.tmps.getD 69 undef = .pointer (some ⟨w.heap.size, 7, none⟩) := hdep 14 69 (by kernel_rfl)
            have c := blk_cell (blk_below HK2.out hG) 7
            refine Flow.op_want rfl rfl (fun K hK => ?_)
            clear hdep hk ho
            go_simp
            exact hK _ _ ⟨_, rfl, hG, rfl, fun _ _ h => h⟩
          · obtain rfl := Option.some.inj ho
            have e70 : a.tmps.getD 70 undef = .slice (some ad) acks.length c7 := hdep 15 70 (by kernel_rfl)
            refine Flow.op_want rfl rfl (fun K hK => ?_)
            clear hdep hk ho
            go_simp
            exact hK _ _ ⟨_, rfl, hG, rfl, fun _ _ h => h⟩
          · obtain rfl := Option.some.inj ho
            have e71 : a.tmps.getD 71 undef = .pointer (some (ad.add 0)) := hdep 16 71 (by kernel_rfl)
            refine Flow.op_want rfl rfl (fun K hK => ?_)
            clear hdep hk ho
            go_simp
            exact hK _ _ ⟨_, rfl, hG, rfl, fun _ _ h => h⟩
          · obtain rfl := Option.some.inj ho
            have e72 : a.tmps.getD 72 undef = .pointer (some ⟨(ad.add 0).block, (ad.add 0).off + 1, none⟩) := hdep 17 72 (by kernel_rfl)
            obtain ⟨q0, q1⟩ := at0 (Kd.C_below HC72.out hG) (by omega)
            refine Flow.op_want rfl rfl (fun K hK => ?_)
            clear hdep hk ho
            go_simp
            exact hK _ _ ⟨_, rfl, hG, rfl, fun _ _ h => h⟩
          · obtain rfl := Option.some.inj ho
            have e1 : a.tmps.getD 1 undef = .pointer (some ⟨w.heap.size, 0, none⟩) := hk 1 (by kernel_rfl)
            refine Flow.op_want rfl rfl (fun K hK => ?_)
            clear hdep hk ho
            go_simp
            exact hK _ _ ⟨_, rfl, hG, rfl, fun _ _ h => h⟩
          · obtain rfl := Option.some.inj ho
            have e74 : a.tmps.getD 74 undef = .pointer (some ⟨w.heap.size, 7, none⟩) := hdep 19 74 (by kernel_rfl)
            have c := blk_cell (blk_below HK2.out hG) 7
            refine Flow.op_want rfl rfl (fun K hK => ?_)
            clear hdep hk ho
            go_simp
            exact hK _ _ ⟨_, rfl, hG, rfl, fun _ _ h => h⟩
          · obtain rfl := Option.some.inj ho
            have e75 : a.tmps.getD 75 undef = .slice (some ad) acks.length c7 := hdep 20 75 (by kernel_rfl)
            refine Flow.op_want rfl rfl (fun K hK => ?_)
            clear hdep hk ho
            go_simp
            exact hK _ _ ⟨_, rfl, hG, rfl, fun _ _ h => h⟩
          · obtain rfl := Option.some.inj ho
            have e76 : a.tmps.getD 76 undef = .pointer (some (ad.add 0)) := hdep 21 76 (by kernel_rfl)
            refine Flow.op_want rfl rfl (fun K hK => ?_)
            clear hdep hk ho
            go_simp
            exact hK _ _ ⟨_, rfl, hG, rfl, fun _ _ h => h⟩
          · obtain rfl := Option.some.inj ho
            have e77 : a.tmps.getD 77 undef = .pointer (some (ad.add 0)) := hdep 22 77 (by kernel_rfl)
            obtain ⟨q0, q1⟩ := at0 (Kd.C_below HC72.out hG) (by omega)
            refine Flow.op_want rfl rfl (fun K hK => ?_)
            clear hdep hk ho
            go_simp
            exact hK _ _ ⟨_, rfl, hG, rfl, fun _ _ h => h⟩
          · obtain rfl := Option.some.inj ho
            have e73 : a.tmps.getD 73 undef = .int .u64 (rd_T84 acks 0).f1 := hdep 18 73 (by kernel_rfl)
            have e78 : a.tmps.getD 78 undef = .int .u64 (rd_T84 acks 0).f0 := hdep 23 78 (by kernel_rfl)
            refine Flow.op_want rfl rfl (fun K hK => ?_)
            clear hdep hk ho
            go_simp
            exact hK _ _ ⟨_, rfl, hG, congrArg (Value.int .u64) HWD.out, fun _ _ h => h⟩
          · obtain rfl := Option.some.inj ho
            have e56 : a.tmps.getD 56 undef = .int .u64 2 := hdep 1 56 (by kernel_rfl)
            have e61 : a.tmps.getD 61 undef = .int .u64 (rd_T84 acks 0).f1 := hdep 6 61 (by kernel_rfl)
            have e63 : a.tmps.getD 63 undef = .int .u64 f3 := hdep 8 63 (by kernel_rfl)
            have e68 : a.tmps.getD 68 undef = .int .u64 ((acks.length : Int) - 1) := hdep 13 68 (by kernel_rfl)
            have e79 : a.tmps.getD 79 undef = .int .u64 ((rd_T84 acks 0).f1 - (rd_T84 acks 0).f0) := hdep 24 79 (by kernel_rfl)
            rw [Array.getD_eq_getD_getElem?] at e56 e61 e63 e68 e79
            refine Flow.op_if rfl (fun K hK => litU (w0 := w2) w2.heap.size rfl (N := 80) rfl [2, (rd_T84 acks 0).f1, f3, (acks.length : Int) - 1, (rd_T84 acks 0).f1 - (rd_T84 acks 0).f0] ?_ hG hG.size (by simp) ?_)
            · clear hdep hk ho
              go_simp
              try rfl
            · intro v1 W1 R1 B1 G1
              refine hK _ _ ⟨v1, rfl, B1, R1, ?_⟩
              intro j u
              split <;> intro h <;> first | exact h | exact Kd.R_below h (below_of_grown G1)
          · obtain rfl := Option.some.inj ho
            have e80 : (fun (W : World) (v : Value) => RU W w2.heap.size v [2, (rd_T84 acks 0).f1, f3, (acks.length : Int) - 1, (rd_T84 acks 0).f1 - (rd_T84 acks 0).f0]) W (a.tmps.getD 80 undef) := hdep 25 80 (by kernel_rfl)
            refine Flow.op_want rfl rfl (fun K hK => ?_)
            have e80b : RU W w2.heap.size (a.tmps[80]?.getD undef) [2, (rd_T84 acks 0).f1, f3, (acks.length : Int) - 1, (rd_T84 acks 0).f1 - (rd_T84 acks 0).f0] := by rw [← Array.getD_eq_getD_getElem?]; exact e80
            clear hdep hk ho e80
            go_simp
            exact hK _ _ ⟨_, rfl, hG, e80b, fun _ _ h => h⟩
        · intro us w9 hG9 hval
          have R6 : (fun (W : World) (v : Value) => RU W w2.heap.size v [2, (rd_T84 acks 0).f1, f3, (acks.length : Int) - 1, (rd_T84 acks 0).f1 - (rd_T84 acks 0).f0]) w9 (us 6) := hval 26 _ 6 rfl rfl
          clear hval
          simp only [Flow.lay, List.set_cons_zero, List.set_cons_succ]
          have HR6 := Lib.hid R6
          have HG9 := Lib.hid hG9
          have HK9 := Lib.hid (blk_below HK2.out hG9)
          obtain ⟨n1, hn1⟩ : ∃ n1, acks.length = n1 + 1 := ⟨acks.length - 1, by omega⟩
          obtain ⟨A8, hct, hC8⟩ := cut84 (m := 1) (by omega) hc7 HC72.out
          have tl : (acks.drop 1).length = n1 := by simp; omega
          rw [tl] at hct hC8
          have hct : ∀ W : World, (Instr.slice 56 (.slice (some ad) acks.length c7) (some (.int .i64 1)) none none).run Try.prog W = .ok (.slice A8 n1 (c7 - 1)) W := hct
          have HC8 := Lib.hid hC8
          have HN1 := Lib.hid hn1
          have hn32 : n1 < 32 := by omega
          have hfb : w.heap.size < w2.heap.size := Nat.lt_of_lt_of_le (blk_lt HK.out) HB2.out.size
          have k7 := blk_cell HK9.out 7
          have Hct := Lib.hid hct
          clear hC8 tl hG9 R6 hn1 p0 p1 hla
          generalize us 6 = v6 at *
          go_wp2_with fail
          clear k7 hct
          go_loopw [6, 85] (fun v6 i wr => ∃ k : Nat, k ≤ n1 ∧ i = .int .i64 k ∧ Hid (RU wr w2.heap.size v6 ([2, (rd_T84 acks 0).f1, f3, (acks.length : Int) - 1, (rd_T84 acks 0).f1 - (rd_T84 acks 0).f0] ++ gapsN acks k)) ∧ Hid (Below w2.heap.size w2 wr)) (fun _ i _ => n1 - (intOf i).toNat)
          case atStart => exact ⟨0, Nat.zero_le _, rfl, Lib.hid (by simpa [gapsN] using HR6.out), HG9⟩
          case round =>
            obtain ⟨k, hk, rfl, HR, HB⟩ := hrel
            by_cases hlt : k < n1
            · have hC8 := Kd.C_below HC8.out HB.out
              obtain ⟨ad8, rfl, -, -⟩ := at_T84 hC8 (k : Int) (by omega) (by omega)
              obtain ⟨q0, q1⟩ := atk hC8 k hlt
              rw [rd_drop, show 1 + k = k + 1 by omega] at q0 q1
              obtain ⟨sp, hsp⟩ : ∃ sp, rd_T84 acks ((k + 1 : Nat) : Int) = sp := ⟨_, rfl⟩
              rw [hsp] at q0 q1
              have hka : k + 1 < acks.length := by have := HN1.out; omega
              have hx := HP2.out (k + 1) hka (Nat.zero_le _)
              have hy := rd_bd HBA.out ((k + 1 : Nat) : Int)
              have hz := rd_bd HBA.out (k : Int)
              unfold okAt at hx
              rw [hsp] at hx hy
              rw [show (((k + 1 : Nat) : Int) - 1) = (k : Int) by omega] at hx
              obtain ⟨x1, x2, x3⟩ := hx
              have x3 := x3 (by omega)
              obtain ⟨⟨y1, y2⟩, y3, y4⟩ := hy
              obtain ⟨⟨z1, z2⟩, z3, z4⟩ := hz
              have hw1 : IntKind.u64.wrap ((rd_T84 acks (k : Int)).f0 - sp.f1) = (rd_T84 acks (k : Int)).f0 - sp.f1 := by rw [IntKind.wrap_u64]; omega
              have hw2 : IntKind.u64.wrap ((rd_T84 acks (k : Int)).f0 - sp.f1 - 2) = (rd_T84 acks (k : Int)).f0 - sp.f1 - 2 := by rw [IntKind.wrap_u64]; omega
              have hw3 : IntKind.u64.wrap (sp.f1 - sp.f0) = sp.f1 - sp.f0 := by rw [IntKind.wrap_u64]; omega
              have HSPK := Lib.hid hsp
              have HW1 := Lib.hid hw1
              have HW2 := Lib.hid hw2
              have HW3 := Lib.hid hw3
              have hob := R_block HR.out
              have hne : some wr.heap.size ≠ u6.ownBlock := fun e => by have := (hob _ e.symm).2; omega
              have HNE := Lib.hid hne
              have HOB := Lib.hid hob
              clear hC8 hsp x1 x2 x3 y1 y2 y3 y4 z1 z2 z3 z4 hw1 hw2 hw3 hne hob
              go_upto_region 19 with fail
              clear q0 q1
              have hwB := HB.out.alloc HB.out.size (.cells #[.int .u64 sp.f0, .int .u64 sp.f1] 84)
              have hwK := heap_alloc_new wr (.cells #[.int .u64 sp.f0, .int .u64 sp.f1] 84)
              have hwS : wr.heap.size < (wr.alloc (.cells #[.int .u64 sp.f0, .int .u64 sp.f1] 84)).heap.size := by simp
              have hwR := Kd.R_alloc HR.out (.cells #[.int .u64 sp.f0, .int .u64 sp.f1] 84)
              generalize wr.alloc (.cells #[.int .u64 sp.f0, .int .u64 sp.f1] 84) = w4 at *
              refine Flow.wp_region_lit_late [90, 91, 92, 93, 94, 95, 96, 97, 98, 99, 100, 101, 102, 103, 104, 105, 106, 107, 6] (by kernel_rfl) (fun j W v => match j with | 0 => v = u6 | 1 => v = .pointer (some ⟨w.heap.size, 7, none⟩) | 2 => v = .slice (some ad) acks.length c7 | 3 => v = .int .i64 (k : Int) | 4 => v = .pointer (some (ad.add (k * 2))) | 5 => v = .pointer (some (ad.add (k * 2))) | 6 => v = .int .u64 (rd_T84 acks (k : Int)).f0 | 7 => v = .pointer (some ⟨wr.heap.size, 1, none⟩) | 8 => v = .int .u64 sp.f1 | 9 => v = .int .u64 ((rd_T84 acks (k : Int)).f0 - sp.f1) | 10 => v = .int .u64 ((rd_T84 acks (k : Int)).f0 - sp.f1 - 2) | 11 => v = .pointer (some ⟨wr.heap.size, 1, none⟩) | 12 => v = .int .u64 sp.f1 | 13 => v = .pointer (some ⟨wr.heap.size, 0, none⟩) | 14 => v = .int .u64 sp.f0 | 15 => v = .int .u64 (sp.f1 - sp.f0) | 16 => ∃ b, v = .slice (some ⟨b, 0, none⟩) 2 2 ∧ w4.heap.size ≤ b ∧ W.heap[b]? = some (.cells #[.int .u64 ((rd_T84 acks (k : Int)).f0 - sp.f1 - 2), .int .u64 (sp.f1 - sp.f0)] 22 (0, 0)) | 17 => RU W w2.heap.size v (([2, (rd_T84 acks 0).f1, f3, (acks.length : Int) - 1, (rd_T84 acks 0).f1 - (rd_T84 acks 0).f0] ++ gapsN acks k) ++ [(rd_T84 acks (k : Int)).f0 - sp.f1 - 2, sp.f1 - sp.f0]) | 18 => RU W w2.heap.size v (([2, (rd_T84 acks 0).f1, f3, (acks.length : Int) - 1, (rd_T84 acks 0).f1 - (rd_T84 acks 0).f0] ++ gapsN acks k) ++ [(rd_T84 acks (k : Int)).f0 - sp.f1 - 2, sp.f1 - sp.f0]) | _ => True) (fun W => Below w2.heap.size w2 W ∧ W.heap[wr.heap.size]? = some (.cells #[.int .u64 sp.f0, .int .u64 sp.f1] 84 (0, 0)) ∧ w4.heap.size ≤ W.heap.size) 17 (fun W => RU W w2.heap.size u6 ([2, (rd_T84 acks 0).f1, f3, (acks.length : Int) - 1, (rd_T84 acks 0).f1 - (rd_T84 acks 0).f0] ++ gapsN acks k)) (by kernel_rfl) (by kernel_rfl) (by kernel_rfl) (by kernel_rfl) (⟨hwB.drew, hwK, Nat.le_refl _⟩) (Kd.R_drew hwR) ?_ ?_
              · intro i o ho a W hG hL hk hdep
                have hi : i < 19 := (Array.getElem?_eq_some_iff.1 ho).1
                rcases (by omega : i = 0 ∨ i = 1 ∨ i = 2 ∨ i = 3 ∨ i = 4 ∨ i = 5 ∨ i = 6 ∨ i = 7 ∨ i = 8 ∨ i = 9 ∨ i = 10 ∨ i = 11 ∨ i = 12 ∨ i = 13 ∨ i = 14 ∨ i = 15 ∨ i = 16 ∨ i = 17 ∨ i = 18) with rfl | rfl | rfl | rfl | rfl | rfl | rfl | rfl | rfl | rfl | rfl | rfl | rfl | rfl | rfl | rfl | rfl | rfl | rfl
                · obtain rfl := Option.some.inj ho
                  have e6 : a.tmps.getD 6 undef = u6 := hk 6 (by kernel_rfl)
                  clear hL
                  refine Flow.op_want rfl rfl (fun K hK => ?_)
                  rw [Array.getD_eq_getD_getElem?] at e6
                  clear hdep hk ho
                  go_simp
                  exact hK _ _ ⟨_, rfl, hG, rfl, fun _ _ _ h => h, fun _ h => h⟩
                · obtain rfl := Option.some.inj ho
                  have e1 : a.tmps.getD 1 undef = .pointer (some ⟨w.heap.size, 0, none⟩) := hk 1 (by kernel_rfl)
                  clear hL
                  refine Flow.op_want rfl rfl (fun K hK => ?_)
                  clear hdep hk ho
                  go_simp
                  exact hK _ _ ⟨_, rfl, hG, rfl, fun _ _ _ h => h, fun _ h => h⟩
                · obtain rfl := Option.some.inj ho
                  have e91 : a.tmps.getD 91 undef = .pointer (some ⟨w.heap.size, 7, none⟩) := hdep 1 91 (by kernel_rfl)
                  have c := blk_cell (blk_below HK2.out hG.1) 7
                  clear hL
                  refine Flow.op_want rfl rfl (fun K hK => ?_)
                  clear hdep hk ho
                  go_simp
                  exact hK _ _ ⟨_, rfl, hG, rfl, fun _ _ _ h => h, fun _ h => h⟩
                · obtain rfl := Option.some.inj ho
                  have e7 : a.tmps.getD 7 undef = .int .i64 (k : Int) := hk 7 (by kernel_rfl)
                  clear hL
                  refine Flow.op_want rfl rfl (fun K hK => ?_)
                  clear hdep hk ho
                  go_simp
                  exact hK _ _ ⟨_, rfl, hG, rfl, fun _ _ _ h => h, fun _ h => h⟩
                · obtain rfl := Option.some.inj ho
                  have e92 : a.tmps.getD 92 undef = .slice (some ad) acks.length c7 := hdep 2 92 (by kernel_rfl)
                  have e93 : a.tmps.getD 93 undef = .int .i64 (k : Int) := hdep 3 93 (by kernel_rfl)
                  have hk0 : k < acks.length := by omega
                  clear hL
                  refine Flow.op_want rfl rfl (fun K hK => ?_)
                  clear hdep hk ho
                  go_simp
                  exact hK _ _ ⟨_, rfl, hG, rfl, fun _ _ _ h => h, fun _ h => h⟩
                · obtain rfl := Option.some.inj ho
                  have e94 : a.tmps.getD 94 undef = .pointer (some (ad.add (k * 2))) := hdep 4 94 (by kernel_rfl)
                  clear hL
                  refine Flow.op_want rfl rfl (fun K hK => ?_)
                  clear hdep hk ho
                  go_simp
                  exact hK _ _ ⟨_, rfl, hG, rfl, fun _ _ _ h => h, fun _ h => h⟩
                · obtain rfl := Option.some.inj ho
                  have e95 : a.tmps.getD 95 undef = .pointer (some (ad.add (k * 2))) := hdep 5 95 (by kernel_rfl)
                  obtain ⟨q0, q1⟩ := atk (Kd.C_below HC72.out hG.1) k (by omega)
                  clear hL
                  refine Flow.op_want rfl rfl (fun K hK => ?_)
                  clear hdep hk ho
                  go_simp
                  exact hK _ _ ⟨_, rfl, hG, rfl, fun _ _ _ h => h, fun _ h => h⟩
                · obtain rfl := Option.some.inj ho
                  have e8 : a.tmps.getD 8 undef = .pointer (some ⟨wr.heap.size, 0, none⟩) := hk 8 (by kernel_rfl)
                  clear hL
                  refine Flow.op_want rfl rfl (fun K hK => ?_)
                  clear hdep hk ho
                  go_simp
                  exact hK _ _ ⟨_, rfl, hG, rfl, fun _ _ _ h => h, fun _ h => h⟩
                · obtain rfl := Option.some.inj ho
                  have e97 : a.tmps.getD 97 undef = .pointer (some ⟨wr.heap.size, 1, none⟩) := hdep 7 97 (by kernel_rfl)
                  have c := blk_cell hG.2.1 1
                  clear hL
                  refine Flow.op_want rfl rfl (fun K hK => ?_)
                  clear hdep hk ho
                  go_simp
                  exact hK _ _ ⟨_, rfl, hG, rfl, fun _ _ _ h => h, fun _ h => h⟩
                · obtain rfl := Option.some.inj ho
                  have e96 : a.tmps.getD 96 undef = .int .u64 (rd_T84 acks (k : Int)).f0 := hdep 6 96 (by kernel_rfl)
                  have e98 : a.tmps.getD 98 undef = .int .u64 sp.f1 := hdep 8 98 (by kernel_rfl)
                  clear hL
                  refine Flow.op_want rfl rfl (fun K hK => ?_)
                  clear hdep hk ho
                  go_simp
                  exact hK _ _ ⟨_, rfl, hG, congrArg (Value.int .u64) HW1.out, fun _ _ _ h => h, fun _ h => h⟩
                · obtain rfl := Option.some.inj ho
                  have e99 : a.tmps.getD 99 undef = .int .u64 ((rd_T84 acks (k : Int)).f0 - sp.f1) := hdep 9 99 (by kernel_rfl)
                  clear hL
                  refine Flow.op_want rfl rfl (fun K hK => ?_)
                  clear hdep hk ho
                  go_simp
                  exact hK _ _ ⟨_, rfl, hG, congrArg (Value.int .u64) HW2.out, fun _ _ _ h => h, fun _ h => h⟩
                · obtain rfl := Option.some.inj ho
                  have e8 : a.tmps.getD 8 undef = .pointer (some ⟨wr.heap.size, 0, none⟩) := hk 8 (by kernel_rfl)
                  clear hL
                  refine Flow.op_want rfl rfl (fun K hK => ?_)
                  clear hdep hk ho
                  go_simp
                  exact hK _ _ ⟨_, rfl, hG, rfl, fun _ _ _ h => h, fun _ h => h⟩
                · obtain rfl := Option.some.inj ho
                  have e101 : a.tmps.getD 101 undef = .pointer (some ⟨wr.heap.size, 1, none⟩) := hdep 11 101 (by kernel_rfl)
                  have c := blk_cell hG.2.1 1
                  clear hL
                  refine Flow.op_want rfl rfl (fun K hK => ?_)
                  clear hdep hk ho
                  go_simp
                  exact hK _ _ ⟨_, rfl, hG, rfl, fun _ _ _ h => h, fun _ h => h⟩
                · obtain rfl := Option.some.inj ho
                  have e8 : a.tmps.getD 8 undef = .pointer (some ⟨wr.heap.size, 0, none⟩) := hk 8 (by kernel_rfl)
                  clear hL
                  refine Flow.op_want rfl rfl (fun K hK => ?_)
                  clear hdep hk ho
                  go_simp
                  exact hK _ _ ⟨_, rfl, hG, rfl, fun _ _ _ h => h, fun _ h => h⟩
                · obtain rfl := Option.some.inj ho
                  have e103 : a.tmps.getD 103 undef = .pointer (some ⟨wr.heap.size, 0, none⟩) := hdep 13 103 (by kernel_rfl)
                  have c := blk_cell hG.2.1 0
                  clear hL
                  refine Flow.op_want rfl rfl (fun K hK => ?_)
                  clear hdep hk ho
                  go_simp
                  exact hK _ _ ⟨_, rfl, hG, rfl, fun _ _ _ h => h, fun _ h => h⟩
                · obtain rfl := Option.some.inj ho
                  have e102 : a.tmps.getD 102 undef = .int .u64 sp.f1 := hdep 12 102 (by kernel_rfl)
                  have e104 : a.tmps.getD 104 undef = .int .u64 sp.f0 := hdep 14 104 (by kernel_rfl)
                  clear hL
                  refine Flow.op_want rfl rfl (fun K hK => ?_)
                  clear hdep hk ho
                  go_simp
                  exact hK _ _ ⟨_, rfl, hG, congrArg (Value.int .u64) HW3.out, fun _ _ _ h => h, fun _ h => h⟩
                · obtain rfl := Option.some.inj ho
                  have e100 : a.tmps.getD 100 undef = .int .u64 ((rd_T84 acks (k : Int)).f0 - sp.f1 - 2) := hdep 10 100 (by kernel_rfl)
                  have e105 : a.tmps.getD 105 undef = .int .u64 (sp.f1 - sp.f0) := hdep 15 105 (by kernel_rfl)
                  rw [Array.getD_eq_getD_getElem?] at e100 e105
                  clear hL
                  refine Flow.op_want rfl rfl (fun K hK => ?_)
                  clear hdep hk ho
                  go_simp
                  refine hK _ _ ⟨_, rfl, ⟨hG.1.alloc hG.1.size _, blk_below hG.2.1 (below_alloc (Below.refl _ _) _), Nat.le_trans hG.2.2 (by simp)⟩, ⟨W.heap.size, rfl, hG.2.2, heap_alloc_new _ _⟩, ?_, fun _ h => Kd.R_alloc h _⟩
                  intro j u _
                  split <;> intro h <;> first | exact h | exact Kd.R_alloc h _ | (obtain ⟨b, e, h1, h2⟩ := h; exact ⟨b, e, h1, blk_below h2 (below_alloc (Below.refl _ _) _)⟩)
                · obtain rfl := Option.some.inj ho
                  have e90 : a.tmps.getD 90 undef = u6 := hdep 0 90 (by kernel_rfl)
                  have e106 : (fun (W : World) (v : Value) => ∃ b, v = .slice (some ⟨b, 0, none⟩) 2 2 ∧ w4.heap.size ≤ b ∧ W.heap[b]? = some (.cells #[.int .u64 ((rd_T84 acks (k : Int)).f0 - sp.f1 - 2), .int .u64 (sp.f1 - sp.f0)] 22 (0, 0))) W (a.tmps.getD 106 undef) := hdep 16 106 (by kernel_rfl)
                  obtain ⟨b, e106, hb1, hb2⟩ := e106
                  refine Flow.op_if rfl (fun K hK => appU (w0 := w2) w2.heap.size rfl (.tmp 90) (.tmp 106) rfl (v := u6) (ys := [(rd_T84 acks (k : Int)).f0 - sp.f1 - 2, sp.f1 - sp.f0]) (hL rfl) e90 e106 rfl (C_blk [(rd_T84 acks (k : Int)).f0 - sp.f1 - 2, sp.f1 - sp.f0] (by simp) hb2) hG.1 hG.1.size (by rw [List.length_append, gapsN_len]; simp; omega) ?_)
                  intro v1 W1 R1 B1 G1 N1
                  refine hK _ _ ⟨v1, rfl, ⟨B1, grown_blk G1 hG.2.1 HNE.out, Nat.le_trans hG.2.2 G1.size⟩, R1, ?_, fun h => absurd rfl h⟩
                  intro j u hj
                  split <;> intro h <;> first | exact h | (obtain ⟨b, e, h1, h2⟩ := h; exact ⟨b, e, h1, grown_blk G1 h2 (fun e => by have := (HOB.out _ e.symm).2; omega)⟩) | exact absurd rfl hj.1 | exact absurd hj.2 (by rw [show Flow.waits _ 18 17 = true by kernel_rfl]; simp)
                · obtain rfl := Option.some.inj ho
                  have e107 : (fun (W : World) (v : Value) => RU W w2.heap.size v (([2, (rd_T84 acks 0).f1, f3, (acks.length : Int) - 1, (rd_T84 acks 0).f1 - (rd_T84 acks 0).f0] ++ gapsN acks k) ++ [(rd_T84 acks (k : Int)).f0 - sp.f1 - 2, sp.f1 - sp.f0])) W (a.tmps.getD 107 undef) := hdep 17 107 (by kernel_rfl)
                  clear hL
                  refine Flow.op_want rfl rfl (fun K hK => ?_)
                  have e107b : RU W w2.heap.size (a.tmps[107]?.getD undef) (([2, (rd_T84 acks 0).f1, f3, (acks.length : Int) - 1, (rd_T84 acks 0).f1 - (rd_T84 acks 0).f0] ++ gapsN acks k) ++ [(rd_T84 acks (k : Int)).f0 - sp.f1 - 2, sp.f1 - sp.f0]) := by rw [← Array.getD_eq_getD_getElem?]; exact e107
                  clear hdep hk ho e107
                  go_simp
                  exact hK _ _ ⟨_, rfl, hG, e107b, fun _ _ _ h => h, fun _ h => h⟩
              · intro us2 w10 hG10 hval
                have R19 : (fun (W : World) (v : Value) => RU W w2.heap.size v (([2, (rd_T84 acks 0).f1, f3, (acks.length : Int) - 1, (rd_T84 acks 0).f1 - (rd_T84 acks 0).f0] ++ gapsN acks k) ++ [(rd_T84 acks (k : Int)).f0 - sp.f1 - 2, sp.f1 - sp.f0])) w10 (us2 6) := hval 18 _ 6 rfl rfl
                clear hval
                simp only [Flow.lay, List.set_cons_zero, List.set_cons_succ]
                have HR19 := Lib.hid R19
                have HG19 := Lib.hid hG10.1
                clear R19 hG10
                generalize us2 6 = v19 at *
                go_wp2_with fail
                go_roundw
                case rel => exact ⟨k + 1, by omega, by go_num, Lib.hid (by have h := HR19.out; rw [List.append_assoc] at h; simp only [gapsN]; rw [HSPK.out]; exact h), HG19⟩
                case measure => simp [intOf]; omega
            · have hkn : k = n1 := by omega
              subst hkn
              go_wp2_with fail
              obtain ⟨A9, c9, e9, hc9, hC9, -⟩ := RU.read HR.out
              subst e9
              have hl9 : ackNums f3 acks = [2, (rd_T84 acks 0).f1, f3, (acks.length : Int) - 1, (rd_T84 acks 0).f1 - (rd_T84 acks 0).f0] ++ gapsN acks k := by unfold ackNums; rw [show acks.length - 1 = k by have := HN1.out; omega]
              have hB9 := HB2.out.trans (HB.out.mono HB2.out.size)
              refine (with_calls (l := [2, (rd_T84 acks 0).f1, f3, (acks.length : Int) - 1, (rd_T84 acks 0).f1 - (rd_T84 acks 0).f0] ++ gapsN acks k) (blk_below HK.out hB9) (Kd.C_below HC6.out hB9) hc6 hC9 hc9 ?_ ?_ (by omega)).mono ?_
              · intro n hn
                rcases List.mem_append.1 hn with hn | hn
                · have h0 := rd_bd HBA.out 0
                  have h1 := HP2.out 0 (by have := HN1.out; omega) (Nat.le_refl _)
                  have h2 := h1.1
                  have h3 := HB3.out
                  have h4 := HN1.out
                  obtain ⟨⟨a1, a2⟩, a3, a4⟩ := h0
                  obtain ⟨h3, h5⟩ := h3
                  rw [show ((0 : Nat) : Int) = 0 from rfl] at h2
                  simp only [List.mem_cons, List.not_mem_nil, or_false] at hn
                  rcases hn with rfl | rfl | rfl | rfl | rfl <;> omega
                · have := gapsN_bd HBA.out HP2.out k (by have := HN1.out; omega) n hn
                  omega
              · rw [List.length_append, gapsN_len]; simp; omega
              rintro e w5 ⟨v, rfl, R5, B5⟩
              go_wp2_with fail
              go_ret2
              have et := HE.out
              simp only [HOK.out, if_true, ackOf, hl9] at et
              subst et
              have hB99 := HBL.out.trans (hB9.mono HBL.out.size)
              exact ⟨_, rfl, Kd.R_lower R5 hB99.size, hB99.trans (B5.mono hB99.size)⟩
end Go.Proofs.Ytmccghadgihbpaa.EncAck

