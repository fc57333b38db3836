/- Frames as bytes: frame.Encode and skiffref10.Frame answer alike, for any frame. -/
import Derived.Test.YtmccghadgihbpaaRefAck
namespace Go.Proofs.Ytmccghadgihbpaa.Frames
open Go Go.RowKit Go.Proofs.Ytmccghadgihbpaa.PFrameBack Go.Proofs.YtmccghadgihbpaaW.PrintWords Go.Proofs.YtmccghadgihbpaaW.PrintLast Go.Proofs.YtmccghadgihbpaaW.PrintMore Go.Proofs.Ytmccghadgihbpaa.Keep Go.Proofs.Ytmccghadgihbpaa.Mem Go.Proofs.Ytmccghadgihbpaa.VPut Go.Proofs.Ytmccghadgihbpaa.With Go.Proofs.Ytmccghadgihbpaa.Spans Go.Proofs.Ytmccghadgihbpaa.Encode Go.Proofs.Ytmccghadgihbpaa.MemU Go.Proofs.Ytmccghadgihbpaa.EncAck Go.Proofs.Ytmccghadgihbpaa.RefAll Go.Proofs.Ytmccghadgihbpaa.RefFrame Go.Proofs.Ytmccghadgihbpaa.RefAck
set_option linter.unusedVariables false

set_option maxHeartbeats 8000000 in
set_option maxRecDepth 100000 in
theorem ref_unknown {w : World} (f0 f1 f2 f3 f4 : Int) (hkn : knownB f0 = false) (f5 : Bool) {A6 A7 : Option Addr} {c6 c7 : Nat} {data : List Int} {acks : List S84} (b1 : Encode.bd f1) (b2 : Encode.bd f2) (b3 : Encode.bd f3) (b4 : Encode.bd f4) (hC6 : CB w A6 data) (hc6 : data.length ≤ c6) (hd : data.length ≤ 3000) (hC7 : Kd.C k84 w A7 acks.length acks) (hc7 : acks.length ≤ c7) (hba : bds acks) (hla : acks.length ≤ 1000) :
    Calls Try.prog 39 #[.agg #[.int .u64 f0, .int .u64 f1, .int .u64 f2, .int .u64 f3, .int .u64 f4, .bool f5, .slice A6 data.length c6, .slice A7 acks.length c7]] w fun e w' => ∃ v, e = .returned (.tuple #[v, .int .i64 (encF okS ackOf ⟨f0, f1, f2, f3, f4, f5, data, acks⟩).2]) ∧ RB w' w.heap.size v (encF okS ackOf ⟨f0, f1, f2, f3, f4, f5, data, acks⟩).1 ∧ Below w.heap.size w w' := by
  obtain ⟨t, ht⟩ : ∃ t, encF okS ackOf ⟨f0, f1, f2, f3, f4, f5, data, acks⟩ = t := ⟨_, rfl⟩
  rw [ht]
  have HT := Lib.hid ht
  have hk := heap_alloc_new w (.cells #[.int .u64 f0, .int .u64 f1, .int .u64 f2, .int .u64 f3, .int .u64 f4, .bool f5, .slice A6 data.length c6, .slice A7 acks.length c7] 58)
  have BL := (Below.refl w.heap.size w).alloc (Nat.le_refl _) (.cells #[.int .u64 f0, .int .u64 f1, .int .u64 f2, .int .u64 f3, .int .u64 f4, .bool f5, .slice A6 data.length c6, .slice A7 acks.length c7] 58)
  obtain ⟨w1, hw1⟩ : ∃ w1 : World, w1 = w.alloc (.cells #[.int .u64 f0, .int .u64 f1, .int .u64 f2, .int .u64 f3, .int .u64 f4, .bool f5, .slice A6 data.length c6, .slice A7 acks.length c7] 58) := ⟨_, rfl⟩
  rw [← hw1] at hk BL
  have HW1 := Lib.hid hw1
  have HK := Lib.hid hk
  have HBL := Lib.hid BL
  obtain ⟨k0, k1, k2, k3, k4, k5, k6, k7⟩ := cells8 hk
  have HC6 := Lib.hid (Kd.C_below hC6 BL)
  have HC7 := Lib.hid (Kd.C_below hC7 BL)
  have HBA := Lib.hid hba
  have HB1 := Lib.hid b1
  have HB2 := Lib.hid b2
  have HB3 := Lib.hid b3
  have HB4 := Lib.hid b4
  have hlw : IntKind.u64.wrap (data.length : Int) = data.length := by rw [IntKind.wrap_u64]; omega
  clear hw1 hk BL hC6 hC7 ht hba b1 b2 b3 b4
  have hkn2 := known_calls f0 w1
  rw [hkn] at hkn2
  have HKN := Lib.hid hkn2
  have hkk := hkn
  simp only [knownB, Bool.or_eq_false_iff, beq_eq_false_iff_ne] at hkk
  have HKK := Lib.hid hkk
  have n6 : (f0 != 6) = true := by simp [hkk]
  have n8 : (f0 != 8) = true := by simp [hkk]
  have n28 : (f0 != 28) = true := by simp [hkk]
  clear hkn hkn2 hkk
  go_enter Try.func39, Try.ntmps39
  go_upto_region 1 with fail
  rw [← HW1.out]
  clear HW1
  by_cases hlong : (data.length : Int) > 2048
  · go_wp2_with fail
    go_ret2
    have et := HT.out
    unfold encF at et
    rw [if_pos hlong] at et
    subst et
    exact ⟨_, rfl, Kd.R_nil _ _ _ _ _, HBL.out⟩
  · by_cases hn : (data.length : Int) > 0
    · have et := HT.out
      obtain ⟨⟨⟨⟨⟨⟨⟨⟨⟨⟨⟨z0, z1⟩, z2⟩, z4⟩, z5⟩, z6⟩, z8⟩, z16⟩, z17⟩, z18⟩, z28⟩, z30⟩ := HKK.out
      unfold encF at et
      rw [if_neg hlong, if_pos ⟨hn, z6, z8, z28⟩] at et
      subst et
      clear z0 z1 z2 z4 z5 z6 z8 z16 z17 z18 z28 z30
      go_wp2_with fail
      go_ret2
      exact ⟨_, rfl, Kd.R_nil _ _ _ _ _, HBL.out⟩
    · go_wp2_with fail
      refine HKN.out.mono ?_
      rintro e w2 ⟨rfl, B2⟩
      go_wp2_with fail
      go_ret2
      have et := HT.out
      obtain ⟨⟨⟨⟨⟨⟨⟨⟨⟨⟨⟨z0, z1⟩, z2⟩, z4⟩, z5⟩, z6⟩, z8⟩, z16⟩, z17⟩, z18⟩, z28⟩, z30⟩ := HKK.out
      unfold encF at et
      rw [if_neg (show ¬ ((data.length : Int) > 2048) by omega), if_neg (fun h => absurd h.1 (show ¬ ((data.length : Int) > 0) by omega))] at et
      simp [numsOf, z0, z1, z2, z4, z5, z6, z8, z16, z17, z18, z28, z30] at et
      subst et
      exact ⟨_, rfl, Kd.R_nil _ _ _ _ _, HBL.out.trans (B2.mono HBL.out.size)⟩

theorem ref_any {w : World} (f0 f1 f2 f3 f4 : Int) (f5 : Bool) {A6 A7 : Option Addr} {c6 c7 : Nat} {data : List Int} {acks : List S84} (b0 : Encode.bd f0) (b1 : Encode.bd f1) (b2 : Encode.bd f2) (b3 : Encode.bd f3) (b4 : Encode.bd f4) (hC6 : CB w A6 data) (hc6 : data.length ≤ c6) (hd : data.length ≤ 3000) (hC7 : Kd.C k84 w A7 acks.length acks) (hc7 : acks.length ≤ c7) (hba : bds acks) (hla : acks.length ≤ 1000) :
    Calls Try.prog 39 #[.agg #[.int .u64 f0, .int .u64 f1, .int .u64 f2, .int .u64 f3, .int .u64 f4, .bool f5, .slice A6 data.length c6, .slice A7 acks.length c7]] w fun e w' => ∃ v, e = .returned (.tuple #[v, .int .i64 (encF okS ackOf ⟨f0, f1, f2, f3, f4, f5, data, acks⟩).2]) ∧ RB w' w.heap.size v (encF okS ackOf ⟨f0, f1, f2, f3, f4, f5, data, acks⟩).1 ∧ Below w.heap.size w w' := by
  by_cases hk : knownB f0 = false
  · exact ref_unknown f0 f1 f2 f3 f4 hk f5 b1 b2 b3 b4 hC6 hc6 hd hC7 hc7 hba hla
  by_cases h2 : f0 = 2
  · subst h2
    exact RefAck.ref_2 f1 f2 f3 f4 f5 b1 b2 b3 b4 hC6 hc6 hd hC7 hc7 hba hla
  by_cases h0 : f0 = 0
  · subst h0
    exact ref_0 f1 f2 f3 f4 f5 b1 b2 b3 b4 hC6 hc6 hd hC7 hc7 hba hla
  by_cases h1 : f0 = 1
  · subst h1
    exact ref_1 f1 f2 f3 f4 f5 b1 b2 b3 b4 hC6 hc6 hd hC7 hc7 hba hla
  by_cases h4 : f0 = 4
  · subst h4
    exact ref_4 f1 f2 f3 f4 f5 b1 b2 b3 b4 hC6 hc6 hd hC7 hc7 hba hla
  by_cases h5 : f0 = 5
  · subst h5
    exact ref_5 f1 f2 f3 f4 f5 b1 b2 b3 b4 hC6 hc6 hd hC7 hc7 hba hla
  by_cases h6 : f0 = 6
  · subst h6
    exact ref_6 f1 f2 f3 f4 f5 b1 b2 b3 b4 hC6 hc6 hd hC7 hc7 hba hla
  by_cases h8 : f0 = 8
  · subst h8
    exact ref_8 f1 f2 f3 f4 f5 b1 b2 b3 b4 hC6 hc6 hd hC7 hc7 hba hla
  by_cases h16 : f0 = 16
  · subst h16
    exact ref_16 f1 f2 f3 f4 f5 b1 b2 b3 b4 hC6 hc6 hd hC7 hc7 hba hla
  by_cases h17 : f0 = 17
  · subst h17
    exact ref_17 f1 f2 f3 f4 f5 b1 b2 b3 b4 hC6 hc6 hd hC7 hc7 hba hla
  by_cases h18 : f0 = 18
  · subst h18
    exact ref_18 f1 f2 f3 f4 f5 b1 b2 b3 b4 hC6 hc6 hd hC7 hc7 hba hla
  by_cases h28 : f0 = 28
  · subst h28
    exact ref_28 f1 f2 f3 f4 f5 b1 b2 b3 b4 hC6 hc6 hd hC7 hc7 hba hla
  by_cases h30 : f0 = 30
  · subst h30
    exact ref_30 f1 f2 f3 f4 f5 b1 b2 b3 b4 hC6 hc6 hd hC7 hc7 hba hla
  exact absurd (by simp [knownB, h0, h1, h2, h4, h5, h6, h8, h16, h17, h18, h28, h30]) hk

theorem enc_any {w : World} (f0 f1 f2 f3 f4 : Int) (f5 : Bool) {A6 A7 : Option Addr} {c6 c7 : Nat} {data : List Int} {acks : List S84} (b0 : Encode.bd f0) (b1 : Encode.bd f1) (b2 : Encode.bd f2) (b3 : Encode.bd f3) (b4 : Encode.bd f4) (hC6 : CB w A6 data) (hc6 : data.length ≤ c6) (hd : data.length ≤ 3000) (hC7 : Kd.C k84 w A7 acks.length acks) (hc7 : acks.length ≤ c7) (hba : bds acks) (hla : acks.length ≤ 1000) :
    Calls Try.prog 38 #[.agg #[.int .u64 f0, .int .u64 f1, .int .u64 f2, .int .u64 f3, .int .u64 f4, .bool f5, .slice A6 data.length c6, .slice A7 acks.length c7]] w fun e w' => ∃ v, e = .returned (.tuple #[v, .int .i64 (encF okS ackOf ⟨f0, f1, f2, f3, f4, f5, data, acks⟩).2]) ∧ RB w' w.heap.size v (encF okS ackOf ⟨f0, f1, f2, f3, f4, f5, data, acks⟩).1 ∧ Below w.heap.size w w' := by
  by_cases h2 : f0 = 2
  · subst h2
    exact ack_calls f1 f2 f3 f4 f5 b3 hC6 hc6 hd hC7 hc7 hba hla
  · exact enc_calls f0 f1 f2 f3 f4 f5 b0 b1 b2 b3 b4 hC6 hc6 hd okS ackOf h2
end Go.Proofs.Ytmccghadgihbpaa.Frames
