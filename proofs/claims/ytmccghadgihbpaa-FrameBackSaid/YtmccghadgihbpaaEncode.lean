/- frame.Encode: what it makes of any frame. -/
import Derived.Test.YtmccghadgihbpaaWith
import Derived.Test.YtmccghadgihbpaaPFrameBackx2
import Derived.Deep.Cut
import Derived.BigRegion
namespace Go.Proofs.Ytmccghadgihbpaa.Encode
open Go Go.RowKit Go.Proofs.Ytmccghadgihbpaa.PFrameBack Go.Proofs.YtmccghadgihbpaaW.PrintWords Go.Proofs.YtmccghadgihbpaaW.PrintLast Go.Proofs.YtmccghadgihbpaaW.PrintMore Go.Proofs.Ytmccghadgihbpaa.Keep Go.Proofs.Ytmccghadgihbpaa.Mem Go.Proofs.Ytmccghadgihbpaa.VPut Go.Proofs.Ytmccghadgihbpaa.With
set_option linter.unusedVariables false

def bd (n : Int) : Prop := 0 ≤ n ∧ n < 18446744073709551616

/-- What a frame of any kind but ACK has as numbers; none: it is refused. -/
def numsOf (x : S58) : Option (List Int) :=
  if x.f0 = 0 ∨ x.f0 = 1 ∨ x.f0 = 30 then some [x.f0]
  else if x.f0 = 4 then some [x.f0, x.f1, x.f4, x.f3]
  else if x.f0 = 5 then some [x.f0, x.f1, x.f4]
  else if x.f0 = 6 then some [x.f0, x.f2, x.f6.length]
  else if x.f0 = 8 then (if x.f2 > 0 then some [14 + (if x.f5 then 1 else 0), x.f1, x.f2, x.f6.length] else some [10 + (if x.f5 then 1 else 0), x.f1, x.f6.length])
  else if x.f0 = 16 ∨ x.f0 = 18 then some [x.f0, x.f3]
  else if x.f0 = 17 then some [x.f0, x.f1, x.f3]
  else if x.f0 = 28 then some [x.f0, x.f4, x.f6.length]
  else none

theorem cells8 {w : World} {b : Nat} {c0 c1 c2 c3 c4 c5 c6 c7 : Value} {T : TypeId} (h : w.heap[b]? = some (.cells #[c0, c1, c2, c3, c4, c5, c6, c7] T (0, 0))) :
    w.cell? ⟨b, 0, none⟩ = some c0 ∧ w.cell? ⟨b, 1, none⟩ = some c1 ∧ w.cell? ⟨b, 2, none⟩ = some c2 ∧ w.cell? ⟨b, 3, none⟩ = some c3 ∧ w.cell? ⟨b, 4, none⟩ = some c4 ∧ w.cell? ⟨b, 5, none⟩ = some c5 ∧ w.cell? ⟨b, 6, none⟩ = some c6 ∧ w.cell? ⟨b, 7, none⟩ = some c7 :=
  ⟨blk_cell h 0, blk_cell h 1, blk_cell h 2, blk_cell h 3, blk_cell h 4, blk_cell h 5, blk_cell h 6, blk_cell h 7⟩

/-- What Encode answers. -/
def encF (ok : List S84 → Bool) (ackNums : S58 → List Int) (x : S58) : List Int × Int :=
  if (x.f6.length : Int) > 2048 then ([], 8)
  else if (x.f6.length : Int) > 0 ∧ x.f0 ≠ 6 ∧ x.f0 ≠ 8 ∧ x.f0 ≠ 28 then ([], 5)
  else if x.f0 = 2 then (if ok x.f7 then withR x.f6 (ackNums x) else ([], 5))
  else if (x.f0 = 6 ∨ x.f0 = 8) ∧ x.f2 > 4611686018427387903 - (x.f6.length : Int) then ([], 2)
  else match numsOf x with | some l => withR x.f6 l | none => ([], 6)

theorem lit_calls {w : World} {fb : Nat} {v0 v1 v2 v3 v4 v5 v7 : Value} {A6 : Option Addr} {c6 : Nat} {data l : List Int} (hb : w.heap[fb]? = some (.cells #[v0, v1, v2, v3, v4, v5, .slice A6 data.length c6, v7] 58 (0, 0)))
    (hC6 : CB w A6 data) (hc6 : data.length ≤ c6) (hw : ∀ n ∈ l, bd n) (hl : l.length ≤ 1000000) (hd : data.length ≤ 1000000) :
    Calls Try.prog 49 #[.slice (some ⟨w.heap.size, 0, none⟩) l.length l.length, .pointer (some ⟨fb, 0, none⟩)] (w.alloc (.cells (l.map (Value.int .u64)).toArray 22)) fun e w' => ∃ v, e = .returned (.tuple #[v, .int .i64 (withR data l).2]) ∧ RB w' w.heap.size v (withR data l).1 ∧ Below w.heap.size w w' := by
  have BL := (Below.refl w.heap.size w).alloc (Nat.le_refl _) (.cells (l.map (Value.int .u64)).toArray 22)
  have h := with_calls (l := l) (blk_below hb BL) (Kd.C_below hC6 BL) hc6 (C_lit .u64 w 22 l (by omega)) (Nat.le_refl _) hw hl hd
  refine h.mono ?_
  rintro e w' ⟨v, rfl, R, B⟩
  exact ⟨v, rfl, Kd.R_lower R BL.size, BL.trans (B.mono BL.size)⟩

set_option maxHeartbeats 4000000 in
set_option maxRecDepth 100000 in
theorem enc_calls {w : World} (f0 f1 f2 f3 f4 : Int) (f5 : Bool) {A6 A7 : Option Addr} {c6 c7 : Nat} {data : List Int} {acks : List S84} (b0 : bd f0) (b1 : bd f1) (b2 : bd f2) (b3 : bd f3) (b4 : bd f4) (hC6 : CB w A6 data) (hc6 : data.length ≤ c6) (hd : data.length ≤ 3000) (ok : List S84 → Bool) (ackNums : S58 → List Int) (hk2 : f0 ≠ 2) :
    Calls Try.prog 38 #[.agg #[.int .u64 f0, .int .u64 f1, .int .u64 f2, .int .u64 f3, .int .u64 f4, .bool f5, .slice A6 data.length c6, .slice A7 acks.length c7]] w fun e w' => ∃ v, e = .returned (.tuple #[v, .int .i64 (encF ok ackNums ⟨f0, f1, f2, f3, f4, f5, data, acks⟩).2]) ∧ RB w' w.heap.size v (encF ok ackNums ⟨f0, f1, f2, f3, f4, f5, data, acks⟩).1 ∧ Below w.heap.size w w' := by
  obtain ⟨t, ht⟩ : ∃ t, encF ok ackNums ⟨f0, f1, f2, f3, f4, f5, data, acks⟩ = t := ⟨_, rfl⟩
  rw [ht]
  have HT := Lib.hid ht
  have hk := heap_alloc_new w (.cells #[.int .u64 f0, .int .u64 f1, .int .u64 f2, .int .u64 f3, .int .u64 f4, .bool f5, .slice A6 data.length c6, .slice A7 acks.length c7] 58)
  have BL := (Below.refl w.heap.size w).alloc (Nat.le_refl _) (.cells #[.int .u64 f0, .int .u64 f1, .int .u64 f2, .int .u64 f3, .int .u64 f4, .bool f5, .slice A6 data.length c6, .slice A7 acks.length c7] 58)
  obtain ⟨w1, hw1⟩ : ∃ w1 : World, w1 = w.alloc (.cells #[.int .u64 f0, .int .u64 f1, .int .u64 f2, .int .u64 f3, .int .u64 f4, .bool f5, .slice A6 data.length c6, .slice A7 acks.length c7] 58) := ⟨_, rfl⟩
  rw [← hw1] at hk BL
  have HW1 := Lib.hid hw1
  have HK := Lib.hid hk
  have HBL := Lib.hid BL
  obtain ⟨k0, k1, k2, k3, k4, k5, k6, k7⟩ := cells8 hk
  have HC6 := Lib.hid (Kd.C_below hC6 BL)
  have HB1 := Lib.hid b1
  have HB2 := Lib.hid b2
  have HB3 := Lib.hid b3
  have HB4 := Lib.hid b4
  have HB0 := Lib.hid b0
  have HK2 := Lib.hid hk2
  have hlw : IntKind.u64.wrap (data.length : Int) = data.length := by rw [IntKind.wrap_u64]; omega
  clear hw1 hk BL hC6 ht b0 b1 b2 b3 b4 hk2
  go_enter Try.func38, Try.ntmps38
  go_upto_region 1 with fail
  rw [← HW1.out]
  clear HW1
  by_cases hlong : (data.length : Int) > 2048
  · go_wp2_with fail
    go_ret2
    have et := HT.out
    unfold encF at et
    rw [if_pos hlong] at et
    subst et
    exact ⟨_, rfl, Kd.R_nil _ _ _ _ _, HBL.out⟩
  · by_cases hform : (data.length : Int) > 0 ∧ f0 ≠ 6 ∧ f0 ≠ 8 ∧ f0 ≠ 28
    · have HF := Lib.hid hform
      have et := HT.out
      unfold encF at et
      rw [if_neg hlong, if_pos hform] at et
      subst et
      obtain ⟨h1, h2, h3, h4⟩ := hform
      have g2 : (f0 != 6) = true := by simp [h2]
      have g3 : (f0 != 8) = true := by simp [h3]
      have g4 : (f0 != 28) = true := by simp [h4]
      go_wp2_with fail
      go_ret2
      exact ⟨_, rfl, Kd.R_nil _ _ _ _ _, HBL.out⟩
    · have et := HT.out
      unfold encF at et
      rw [if_neg hlong, if_neg hform, if_neg HK2.out] at et
      have HE := Lib.hid et
      have HF := Lib.hid hform
      clear et hform
      --KINDS
      by_cases h0 : f0 = 0
      · subst h0
        have hn : ¬ ((data.length : Int) > 0) := fun h => HF.out ⟨h, by decide, by decide, by decide⟩
        go_wp2_with fail
        refine (lit_calls (l := [0]) HK.out HC6.out hc6 (by intro n hn; simp only [List.mem_cons, List.not_mem_nil, or_false] at hn; have q1 := HB1.out; have q2 := HB2.out; have q3 := HB3.out; have q4 := HB4.out; unfold bd at *; omega) (by simp) (by omega)).mono ?_
        rintro e w2 ⟨v, rfl, R2, B2⟩
        go_wp2_with fail
        go_ret2
        have et := HE.out
        simp [numsOf] at et
        subst et
        exact ⟨_, rfl, Kd.R_lower R2 HBL.out.size, HBL.out.trans (B2.mono HBL.out.size)⟩
      by_cases h1 : f0 = 1
      · subst h1
        have hn : ¬ ((data.length : Int) > 0) := fun h => HF.out ⟨h, by decide, by decide, by decide⟩
        go_wp2_with fail
        refine (lit_calls (l := [1]) HK.out HC6.out hc6 (by intro n hn; simp only [List.mem_cons, List.not_mem_nil, or_false] at hn; have q1 := HB1.out; have q2 := HB2.out; have q3 := HB3.out; have q4 := HB4.out; unfold bd at *; omega) (by simp) (by omega)).mono ?_
        rintro e w2 ⟨v, rfl, R2, B2⟩
        go_wp2_with fail
        go_ret2
        have et := HE.out
        simp [numsOf] at et
        subst et
        exact ⟨_, rfl, Kd.R_lower R2 HBL.out.size, HBL.out.trans (B2.mono HBL.out.size)⟩
      by_cases h30 : f0 = 30
      · subst h30
        have hn : ¬ ((data.length : Int) > 0) := fun h => HF.out ⟨h, by decide, by decide, by decide⟩
        go_wp2_with fail
        refine (lit_calls (l := [30]) HK.out HC6.out hc6 (by intro n hn; simp only [List.mem_cons, List.not_mem_nil, or_false] at hn; have q1 := HB1.out; have q2 := HB2.out; have q3 := HB3.out; have q4 := HB4.out; unfold bd at *; omega) (by simp) (by omega)).mono ?_
        rintro e w2 ⟨v, rfl, R2, B2⟩
        go_wp2_with fail
        go_ret2
        have et := HE.out
        simp [numsOf] at et
        subst et
        exact ⟨_, rfl, Kd.R_lower R2 HBL.out.size, HBL.out.trans (B2.mono HBL.out.size)⟩
      by_cases h4 : f0 = 4
      · subst h4
        have hn : ¬ ((data.length : Int) > 0) := fun h => HF.out ⟨h, by decide, by decide, by decide⟩
        go_wp2_with fail
        refine (lit_calls (l := [4, f1, f4, f3]) HK.out HC6.out hc6 (by intro n hn; simp only [List.mem_cons, List.not_mem_nil, or_false] at hn; have q1 := HB1.out; have q2 := HB2.out; have q3 := HB3.out; have q4 := HB4.out; unfold bd at *; omega) (by simp) (by omega)).mono ?_
        rintro e w2 ⟨v, rfl, R2, B2⟩
        go_wp2_with fail
        go_ret2
        have et := HE.out
        simp [numsOf] at et
        subst et
        exact ⟨_, rfl, Kd.R_lower R2 HBL.out.size, HBL.out.trans (B2.mono HBL.out.size)⟩
      by_cases h5 : f0 = 5
      · subst h5
        have hn : ¬ ((data.length : Int) > 0) := fun h => HF.out ⟨h, by decide, by decide, by decide⟩
        go_wp2_with fail
        refine (lit_calls (l := [5, f1, f4]) HK.out HC6.out hc6 (by intro n hn; simp only [List.mem_cons, List.not_mem_nil, or_false] at hn; have q1 := HB1.out; have q2 := HB2.out; have q3 := HB3.out; have q4 := HB4.out; unfold bd at *; omega) (by simp) (by omega)).mono ?_
        rintro e w2 ⟨v, rfl, R2, B2⟩
        go_wp2_with fail
        go_ret2
        have et := HE.out
        simp [numsOf] at et
        subst et
        exact ⟨_, rfl, Kd.R_lower R2 HBL.out.size, HBL.out.trans (B2.mono HBL.out.size)⟩
      by_cases h16 : f0 = 16
      · subst h16
        have hn : ¬ ((data.length : Int) > 0) := fun h => HF.out ⟨h, by decide, by decide, by decide⟩
        go_wp2_with fail
        refine (lit_calls (l := [16, f3]) HK.out HC6.out hc6 (by intro n hn; simp only [List.mem_cons, List.not_mem_nil, or_false] at hn; have q1 := HB1.out; have q2 := HB2.out; have q3 := HB3.out; have q4 := HB4.out; unfold bd at *; omega) (by simp) (by omega)).mono ?_
        rintro e w2 ⟨v, rfl, R2, B2⟩
        go_wp2_with fail
        go_ret2
        have et := HE.out
        simp [numsOf] at et
        subst et
        exact ⟨_, rfl, Kd.R_lower R2 HBL.out.size, HBL.out.trans (B2.mono HBL.out.size)⟩
      by_cases h18 : f0 = 18
      · subst h18
        have hn : ¬ ((data.length : Int) > 0) := fun h => HF.out ⟨h, by decide, by decide, by decide⟩
        go_wp2_with fail
        refine (lit_calls (l := [18, f3]) HK.out HC6.out hc6 (by intro n hn; simp only [List.mem_cons, List.not_mem_nil, or_false] at hn; have q1 := HB1.out; have q2 := HB2.out; have q3 := HB3.out; have q4 := HB4.out; unfold bd at *; omega) (by simp) (by omega)).mono ?_
        rintro e w2 ⟨v, rfl, R2, B2⟩
        go_wp2_with fail
        go_ret2
        have et := HE.out
        simp [numsOf] at et
        subst et
        exact ⟨_, rfl, Kd.R_lower R2 HBL.out.size, HBL.out.trans (B2.mono HBL.out.size)⟩
      by_cases h17 : f0 = 17
      · subst h17
        have hn : ¬ ((data.length : Int) > 0) := fun h => HF.out ⟨h, by decide, by decide, by decide⟩
        go_wp2_with fail
        refine (lit_calls (l := [17, f1, f3]) HK.out HC6.out hc6 (by intro n hn; simp only [List.mem_cons, List.not_mem_nil, or_false] at hn; have q1 := HB1.out; have q2 := HB2.out; have q3 := HB3.out; have q4 := HB4.out; unfold bd at *; omega) (by simp) (by omega)).mono ?_
        rintro e w2 ⟨v, rfl, R2, B2⟩
        go_wp2_with fail
        go_ret2
        have et := HE.out
        simp [numsOf] at et
        subst et
        exact ⟨_, rfl, Kd.R_lower R2 HBL.out.size, HBL.out.trans (B2.mono HBL.out.size)⟩
      by_cases h28 : f0 = 28
      · subst h28
        by_cases hn : (data.length : Int) > 0
        · go_wp2_with fail
          refine (lit_calls (l := [28, f4, (data.length : Int)]) HK.out HC6.out hc6 (by intro n hn; simp only [List.mem_cons, List.not_mem_nil, or_false] at hn; have q1 := HB1.out; have q2 := HB2.out; have q3 := HB3.out; have q4 := HB4.out; unfold bd at *; omega) (by simp) (by omega)).mono ?_
          rintro e w2 ⟨v, rfl, R2, B2⟩
          go_wp2_with fail
          go_ret2
          have et := HE.out
          simp [numsOf] at et
          subst et
          exact ⟨_, rfl, Kd.R_lower R2 HBL.out.size, HBL.out.trans (B2.mono HBL.out.size)⟩
        · go_wp2_with fail
          refine (lit_calls (l := [28, f4, (data.length : Int)]) HK.out HC6.out hc6 (by intro n hn; simp only [List.mem_cons, List.not_mem_nil, or_false] at hn; have q1 := HB1.out; have q2 := HB2.out; have q3 := HB3.out; have q4 := HB4.out; unfold bd at *; omega) (by simp) (by omega)).mono ?_
          rintro e w2 ⟨v, rfl, R2, B2⟩
          go_wp2_with fail
          go_ret2
          have et := HE.out
          simp [numsOf] at et
          subst et
          exact ⟨_, rfl, Kd.R_lower R2 HBL.out.size, HBL.out.trans (B2.mono HBL.out.size)⟩
      by_cases h6 : f0 = 6
      · subst h6
        have hws : IntKind.u64.wrap (4611686018427387903 - (data.length : Int)) = 4611686018427387903 - (data.length : Int) := by rw [IntKind.wrap_u64]; omega
        by_cases hn : (data.length : Int) > 0
        · by_cases hr : f2 > 4611686018427387903 - (data.length : Int)
          · go_wp2_with fail
            go_ret2
            have et := HE.out
            rw [if_pos ⟨by simp, hr⟩] at et
            subst et
            exact ⟨_, rfl, Kd.R_nil _ _ _ _ _, HBL.out⟩
          · have hnr : ¬ (f2 > 4611686018427387903 - (data.length : Int)) := hr
            go_wp2_with fail
            refine (lit_calls (l := [6, f2, (data.length : Int)]) HK.out HC6.out hc6 (by intro n hn; simp only [List.mem_cons, List.not_mem_nil, or_false] at hn; have q1 := HB1.out; have q2 := HB2.out; have q3 := HB3.out; have q4 := HB4.out; unfold bd at *; omega) (by simp) (by omega)).mono ?_
            rintro e w2 ⟨v, rfl, R2, B2⟩
            go_wp2_with fail
            go_ret2
            have et := HE.out
            rw [if_neg (fun h => absurd h.2 (by omega))] at et
            simp [numsOf] at et
            subst et
            exact ⟨_, rfl, Kd.R_lower R2 HBL.out.size, HBL.out.trans (B2.mono HBL.out.size)⟩
        · by_cases hr : f2 > 4611686018427387903 - (data.length : Int)
          · go_wp2_with fail
            go_ret2
            have et := HE.out
            rw [if_pos ⟨by simp, hr⟩] at et
            subst et
            exact ⟨_, rfl, Kd.R_nil _ _ _ _ _, HBL.out⟩
          · have hnr : ¬ (f2 > 4611686018427387903 - (data.length : Int)) := hr
            go_wp2_with fail
            refine (lit_calls (l := [6, f2, (data.length : Int)]) HK.out HC6.out hc6 (by intro n hn; simp only [List.mem_cons, List.not_mem_nil, or_false] at hn; have q1 := HB1.out; have q2 := HB2.out; have q3 := HB3.out; have q4 := HB4.out; unfold bd at *; omega) (by simp) (by omega)).mono ?_
            rintro e w2 ⟨v, rfl, R2, B2⟩
            go_wp2_with fail
            go_ret2
            have et := HE.out
            rw [if_neg (fun h => absurd h.2 (by omega))] at et
            simp [numsOf] at et
            subst et
            exact ⟨_, rfl, Kd.R_lower R2 HBL.out.size, HBL.out.trans (B2.mono HBL.out.size)⟩
      by_cases h8 : f0 = 8
      · subst h8
        have hws : IntKind.u64.wrap (4611686018427387903 - (data.length : Int)) = 4611686018427387903 - (data.length : Int) := by rw [IntKind.wrap_u64]; omega
        by_cases hn : (data.length : Int) > 0
        · by_cases hr : f2 > 4611686018427387903 - (data.length : Int)
          · go_wp2_with fail
            go_ret2
            have et := HE.out
            rw [if_pos ⟨by simp, hr⟩] at et
            subst et
            exact ⟨_, rfl, Kd.R_nil _ _ _ _ _, HBL.out⟩
          · have hnr : ¬ (f2 > 4611686018427387903 - (data.length : Int)) := hr
            cases f5 <;> by_cases hoff : f2 > 0
            · go_wp2_with fail
              refine (lit_calls (l := [14, f1, f2, (data.length : Int)]) HK.out HC6.out hc6 (by intro n hn; simp only [List.mem_cons, List.not_mem_nil, or_false] at hn; have q1 := HB1.out; have q2 := HB2.out; have q3 := HB3.out; have q4 := HB4.out; unfold bd at *; omega) (by simp) (by omega)).mono ?_
              rintro e w2 ⟨v, rfl, R2, B2⟩
              go_wp2_with fail
              go_ret2
              have et := HE.out
              rw [if_neg (fun h => absurd h.2 (by omega))] at et
              simp [numsOf, (show 0 < f2 by omega)] at et
              subst et
              exact ⟨_, rfl, Kd.R_lower R2 HBL.out.size, HBL.out.trans (B2.mono HBL.out.size)⟩
            · go_wp2_with fail
              refine (lit_calls (l := [10, f1, (data.length : Int)]) HK.out HC6.out hc6 (by intro n hn; simp only [List.mem_cons, List.not_mem_nil, or_false] at hn; have q1 := HB1.out; have q2 := HB2.out; have q3 := HB3.out; have q4 := HB4.out; unfold bd at *; omega) (by simp) (by omega)).mono ?_
              rintro e w2 ⟨v, rfl, R2, B2⟩
              go_wp2_with fail
              go_ret2
              have et := HE.out
              rw [if_neg (fun h => absurd h.2 (by omega))] at et
              simp [numsOf, (show ¬ (0 < f2) by omega)] at et
              subst et
              exact ⟨_, rfl, Kd.R_lower R2 HBL.out.size, HBL.out.trans (B2.mono HBL.out.size)⟩
            · go_wp2_with fail
              refine (lit_calls (l := [15, f1, f2, (data.length : Int)]) HK.out HC6.out hc6 (by intro n hn; simp only [List.mem_cons, List.not_mem_nil, or_false] at hn; have q1 := HB1.out; have q2 := HB2.out; have q3 := HB3.out; have q4 := HB4.out; unfold bd at *; omega) (by simp) (by omega)).mono ?_
              rintro e w2 ⟨v, rfl, R2, B2⟩
              go_wp2_with fail
              go_ret2
              have et := HE.out
              rw [if_neg (fun h => absurd h.2 (by omega))] at et
              simp [numsOf, (show 0 < f2 by omega)] at et
              subst et
              exact ⟨_, rfl, Kd.R_lower R2 HBL.out.size, HBL.out.trans (B2.mono HBL.out.size)⟩
            · go_wp2_with fail
              refine (lit_calls (l := [11, f1, (data.length : Int)]) HK.out HC6.out hc6 (by intro n hn; simp only [List.mem_cons, List.not_mem_nil, or_false] at hn; have q1 := HB1.out; have q2 := HB2.out; have q3 := HB3.out; have q4 := HB4.out; unfold bd at *; omega) (by simp) (by omega)).mono ?_
              rintro e w2 ⟨v, rfl, R2, B2⟩
              go_wp2_with fail
              go_ret2
              have et := HE.out
              rw [if_neg (fun h => absurd h.2 (by omega))] at et
              simp [numsOf, (show ¬ (0 < f2) by omega)] at et
              subst et
              exact ⟨_, rfl, Kd.R_lower R2 HBL.out.size, HBL.out.trans (B2.mono HBL.out.size)⟩
        · by_cases hr : f2 > 4611686018427387903 - (data.length : Int)
          · go_wp2_with fail
            go_ret2
            have et := HE.out
            rw [if_pos ⟨by simp, hr⟩] at et
            subst et
            exact ⟨_, rfl, Kd.R_nil _ _ _ _ _, HBL.out⟩
          · have hnr : ¬ (f2 > 4611686018427387903 - (data.length : Int)) := hr
            cases f5 <;> by_cases hoff : f2 > 0
            · go_wp2_with fail
              refine (lit_calls (l := [14, f1, f2, (data.length : Int)]) HK.out HC6.out hc6 (by intro n hn; simp only [List.mem_cons, List.not_mem_nil, or_false] at hn; have q1 := HB1.out; have q2 := HB2.out; have q3 := HB3.out; have q4 := HB4.out; unfold bd at *; omega) (by simp) (by omega)).mono ?_
              rintro e w2 ⟨v, rfl, R2, B2⟩
              go_wp2_with fail
              go_ret2
              have et := HE.out
              rw [if_neg (fun h => absurd h.2 (by omega))] at et
              simp [numsOf, (show 0 < f2 by omega)] at et
              subst et
              exact ⟨_, rfl, Kd.R_lower R2 HBL.out.size, HBL.out.trans (B2.mono HBL.out.size)⟩
            · go_wp2_with fail
              refine (lit_calls (l := [10, f1, (data.length : Int)]) HK.out HC6.out hc6 (by intro n hn; simp only [List.mem_cons, List.not_mem_nil, or_false] at hn; have q1 := HB1.out; have q2 := HB2.out; have q3 := HB3.out; have q4 := HB4.out; unfold bd at *; omega) (by simp) (by omega)).mono ?_
              rintro e w2 ⟨v, rfl, R2, B2⟩
              go_wp2_with fail
              go_ret2
              have et := HE.out
              rw [if_neg (fun h => absurd h.2 (by omega))] at et
              simp [numsOf, (show ¬ (0 < f2) by omega)] at et
              subst et
              exact ⟨_, rfl, Kd.R_lower R2 HBL.out.size, HBL.out.trans (B2.mono HBL.out.size)⟩
            · go_wp2_with fail
              refine (lit_calls (l := [15, f1, f2, (data.length : Int)]) HK.out HC6.out hc6 (by intro n hn; simp only [List.mem_cons, List.not_mem_nil, or_false] at hn; have q1 := HB1.out; have q2 := HB2.out; have q3 := HB3.out; have q4 := HB4.out; unfold bd at *; omega) (by simp) (by omega)).mono ?_
              rintro e w2 ⟨v, rfl, R2, B2⟩
              go_wp2_with fail
              go_ret2
              have et := HE.out
              rw [if_neg (fun h => absurd h.2 (by omega))] at et
              simp [numsOf, (show 0 < f2 by omega)] at et
              subst et
              exact ⟨_, rfl, Kd.R_lower R2 HBL.out.size, HBL.out.trans (B2.mono HBL.out.size)⟩
            · go_wp2_with fail
              refine (lit_calls (l := [11, f1, (data.length : Int)]) HK.out HC6.out hc6 (by intro n hn; simp only [List.mem_cons, List.not_mem_nil, or_false] at hn; have q1 := HB1.out; have q2 := HB2.out; have q3 := HB3.out; have q4 := HB4.out; unfold bd at *; omega) (by simp) (by omega)).mono ?_
              rintro e w2 ⟨v, rfl, R2, B2⟩
              go_wp2_with fail
              go_ret2
              have et := HE.out
              rw [if_neg (fun h => absurd h.2 (by omega))] at et
              simp [numsOf, (show ¬ (0 < f2) by omega)] at et
              subst et
              exact ⟨_, rfl, Kd.R_lower R2 HBL.out.size, HBL.out.trans (B2.mono HBL.out.size)⟩
      have hn : ¬ ((data.length : Int) > 0) := fun h => HF.out ⟨h, h6, h8, h28⟩
      have g0 : (f0 == 0) = false := by simp [h0]
      have g1 : (f0 == 1) = false := by simp [h1]
      have g30 : (f0 == 30) = false := by simp [h30]
      have g4 : (f0 == 4) = false := by simp [h4]
      have g5 : (f0 == 5) = false := by simp [h5]
      have g16 : (f0 == 16) = false := by simp [h16]
      have g18 : (f0 == 18) = false := by simp [h18]
      have g17 : (f0 == 17) = false := by simp [h17]
      have g28 : (f0 == 28) = false := by simp [h28]
      have g6 : (f0 == 6) = false := by simp [h6]
      have g8 : (f0 == 8) = false := by simp [h8]
      have g2 : (f0 == 2) = false := by simp [HK2.out]
      go_wp2_with fail
      go_ret2
      have et := HE.out
      simp [numsOf, h0, h1, h30, h4, h5, h16, h18, h17, h28, h6, h8] at et
      subst et
      exact ⟨_, rfl, Kd.R_nil _ _ _ _ _, HBL.out⟩
end Go.Proofs.Ytmccghadgihbpaa.Encode
