/- The walk of the law FrameEncodes: any frame as bytes, whether it asks. -/
import Derived.Test.YtmccghadgihbpaaAwake11
import Derived.Test.YtmccghadgihbpaaPFrameBackx2
namespace Go.Proofs.Ytmccghadgihbpaa.FrameEncodesWalk
open Go Go.RowKit Go.Proofs.Ytmccghadgihbpaa.PFrameBack Go.Proofs.YtmccghadgihbpaaW.PrintWords Go.Proofs.YtmccghadgihbpaaW.PrintLast Go.Proofs.YtmccghadgihbpaaW.PrintMore Go.Proofs.Ytmccghadgihbpaa.Keep Go.Proofs.Ytmccghadgihbpaa.Mem Go.Proofs.Ytmccghadgihbpaa.VPut Go.Proofs.Ytmccghadgihbpaa.With Go.Proofs.Ytmccghadgihbpaa.Spans Go.Proofs.Ytmccghadgihbpaa.Encode Go.Proofs.Ytmccghadgihbpaa.EncAck Go.Proofs.Ytmccghadgihbpaa.Frames Go.Proofs.Ytmccghadgihbpaa.Awake11
set_option linter.unusedVariables false

def asksB (k : Int) : Bool := if k = 0 then false else if k = 2 then false else k != 28
theorem asks_calls {w : World} {f0 f1 f2 f3 f4 : Int} {f5 : Bool} {A6 A7 : Option Addr} {c6 c7 : Nat} {data : List Int} {acks : List S84} (hC6 : CB w A6 data) (hc6 : data.length ≤ c6) (hC7 : Kd.C k84 w A7 acks.length acks) (hc7 : acks.length ≤ c7) :
    Calls Try.prog 40 #[.agg #[.int .u64 f0, .int .u64 f1, .int .u64 f2, .int .u64 f3, .int .u64 f4, .bool f5, .slice A6 data.length c6, .slice A7 acks.length c7]] w fun e w' => e = .returned (.bool (asksB f0)) ∧ Below w.heap.size w w' :=
  frame_Asks.calls f0 f1 f2 f3 f4 f5 A6 c6 data A7 c7 acks (asksB f0) w hC6 hc6 hC7 hc7 (by unfold frame_Asks.f asksB; by_cases h : f0 = 0 <;> by_cases h2 : f0 = 2 <;> simp [h, h2])
theorem refAsks_calls (k : Int) (w : World) : Calls Try.prog 41 #[.int .u64 k] w fun e w' => e = .returned (.bool (asksB k)) ∧ Below w.heap.size w w' := by
  refine (skiffref10_Asks.calls k (asksB k) w (by unfold skiffref10_Asks.f asksB; by_cases h : k = 0 <;> by_cases h2 : k = 2 <;> simp [h, h2])).mono ?_
  rintro e w' ⟨rfl, n, rfl⟩
  exact ⟨rfl, pw_below_drewN (Below.refl _ _) n⟩

/-- Too great to be gone to. -/
def greatF (s : S58) : Bool := decide (s.f6.length > 3000 ∨ s.f7.length > 100)
def greatB (l : List S58) : Bool := l.any greatF || decide (l.length > 100)

theorem great_l0 (l : List S58) (hl : l.length ≤ 9223372036854775807) : ∀ (m k i : Nat), l.length - i = m → i ≤ l.length → m < k →
    skifflaw11_great.l0 k l l (l.length : Int) i = some ((l.drop i).any greatF || decide (l.length > 100)) := by
  intro m
  induction m with
  | zero =>
    intro k i hm hi hk
    obtain ⟨k, rfl⟩ : ∃ q, k = q + 1 := ⟨k - 1, by omega⟩
    simp only [skifflaw11_great.l0]
    rw [if_neg (by omega), List.drop_eq_nil_of_le (by omega)]
    simp only [List.any_nil, Bool.false_or]
    congr 1
    exact decide_eq_decide.2 (by omega)
  | succ m ih =>
    intro k i hm hi hk
    obtain ⟨k, rfl⟩ : ∃ q, k = q + 1 := ⟨k - 1, by omega⟩
    have hlt : i < l.length := by omega
    have e1 : wrap64 ((i : Int) + 1) = ((i + 1 : Nat) : Int) := by unfold wrap64; omega
    have ed : l.drop i = l[i] :: l.drop (i + 1) := List.drop_eq_getElem_cons hlt
    have er : rd_T58 l (i : Int) = l[i] := by unfold rd_T58; simp [List.getD_eq_getElem?_getD, List.getElem?_eq_getElem hlt]
    simp only [skifflaw11_great.l0]
    rw [if_pos (by omega), if_pos (by omega), if_pos (by omega), e1, er, ed, List.any_cons]
    have rec_ := ih k (i + 1) (by omega) (by omega) (by omega)
    rw [rec_]
    by_cases h1 : (l[i].f6.length : Int) > 3000
    · have : greatF l[i] = true := by unfold greatF; simp; omega
      rw [if_pos h1, this]; simp
    · rw [if_neg h1]
      by_cases h2 : (l[i].f7.length : Int) > 100
      · have : greatF l[i] = true := by unfold greatF; simp; omega
        rw [if_pos h2, this]; simp
      · have : greatF l[i] = false := by unfold greatF; simp; omega
        rw [if_neg h2, this]; simp

theorem great_calls {w : World} {A : Option Addr} {c : Nat} {l : List S58} (hC : Kd.C k58 w A l.length l) (hc : l.length ≤ c) : Calls Try.prog 37 #[.slice A l.length c] w fun e w' => e = .returned (.bool (greatB l)) ∧ Below w.heap.size w w' := by
  have hl : l.length ≤ 9223372036854775807 := by have := hC.1; have := hC.2.1; omega
  have h := great_l0 l hl l.length (l.length + 1) 0 (by omega) (by omega) (by omega)
  refine skifflaw11_great.calls (l.length + 1) A c l (greatB l) w hC hc ?_
  unfold skifflaw11_great.f
  exact h

/-- One frame, laid in a block. -/
theorem C_one58 {w : World} {b : Nat} {e : TypeId} (x : S58) {A6 A7 : Option Addr} {c6 c7 : Nat} (h : w.heap[b]? = some (.cells #[.int .u64 x.f0, .int .u64 x.f1, .int .u64 x.f2, .int .u64 x.f3, .int .u64 x.f4, .bool x.f5, .slice A6 x.f6.length c6, .slice A7 x.f7.length c7] e (0, 0)))
    (l6 : x.f6.length ≤ c6) (g6 : (Kd.int .u8).C w A6 x.f6.length x.f6) (l7 : x.f7.length ≤ c7) (g7 : k84.C w A7 x.f7.length x.f7) : Kd.C k58 w (some ⟨b, 0, none⟩) 1 [x] := by
  refine ⟨rfl, by omega, fun _ => ⟨_, rfl, fun j p hj => ?_⟩⟩
  cases j with
  | succ j => simp at hj
  | zero =>
    have hp : x = p := by simpa using hj
    subst hp
    refine ⟨_, rfl, k58_mk w x l6 g6 l7 g7, fun i u hu => ?_⟩
    rw [Nat.zero_mul, Nat.zero_add, add_plain, Go.Joins.cell_of_block h]
    simpa using hu

set_option maxHeartbeats 4000000 in
set_option maxRecDepth 100000 in
theorem walk {w : World} (f0 f1 f2 f3 f4 : Int) (f5 : Bool) {A6 A7 : Option Addr} {c6 c7 : Nat} {data : List Int} {acks : List S84} (b0 : Encode.bd f0) (b1 : Encode.bd f1) (b2 : Encode.bd f2) (b3 : Encode.bd f3) (b4 : Encode.bd f4) (hC6 : CB w A6 data) (hc6 : data.length ≤ c6) (hC7 : Kd.C k84 w A7 acks.length acks) (hc7 : acks.length ≤ c7) (hba : bds acks) :
    Calls Try.prog 11 #[.agg #[.int .u64 f0, .int .u64 f1, .int .u64 f2, .int .u64 f3, .int .u64 f4, .bool f5, .slice A6 data.length c6, .slice A7 acks.length c7]] w fun e w' => e = .returned (.bool true) ∧ Below w.heap.size w w' := by
  have hk := heap_alloc_new w (.cells #[.int .u64 f0, .int .u64 f1, .int .u64 f2, .int .u64 f3, .int .u64 f4, .bool f5, .slice A6 data.length c6, .slice A7 acks.length c7] 58)
  have BL := (Below.refl w.heap.size w).alloc (Nat.le_refl _) (.cells #[.int .u64 f0, .int .u64 f1, .int .u64 f2, .int .u64 f3, .int .u64 f4, .bool f5, .slice A6 data.length c6, .slice A7 acks.length c7] 58)
  obtain ⟨w1, hw1⟩ : ∃ w1 : World, w1 = w.alloc (.cells #[.int .u64 f0, .int .u64 f1, .int .u64 f2, .int .u64 f3, .int .u64 f4, .bool f5, .slice A6 data.length c6, .slice A7 acks.length c7] 58) := ⟨_, rfl⟩
  rw [← hw1] at hk BL
  have HW1 := Lib.hid hw1
  have HK := Lib.hid hk
  have HBL := Lib.hid BL
  have HC6 := Lib.hid (Kd.C_below hC6 BL)
  have HC7 := Lib.hid (Kd.C_below hC7 BL)
  have HBA := Lib.hid hba
  clear hw1 hk BL hC6 hC7 hba
  go_enter Try.func11, Try.ntmps11
  go_upto_region 1 with fail
  rw [← HW1.out]
  clear HW1
  go_wp2_with fail
  refine (awake w1).mono ?_
  rintro e w2 ⟨rfl, B2⟩
  have HK2 := Lib.hid (blk_below HK.out B2)
  have HC62 := Lib.hid (Kd.C_below HC6.out B2)
  have HC72 := Lib.hid (Kd.C_below HC7.out B2)
  have HB2 := Lib.hid (HBL.out.trans (B2.mono HBL.out.size))
  clear B2
  obtain ⟨k0, k1, k2, k3, k4, k5, k6, k7⟩ := cells8 HK2.out
  go_wp2_with fail
  have hk3 := heap_alloc_new w2 (.cells #[.int .u64 f0, .int .u64 f1, .int .u64 f2, .int .u64 f3, .int .u64 f4, .bool f5, .slice A6 data.length c6, .slice A7 acks.length c7] 58)
  have BL3 := (Below.refl w2.heap.size w2).alloc (Nat.le_refl _) (.cells #[.int .u64 f0, .int .u64 f1, .int .u64 f2, .int .u64 f3, .int .u64 f4, .bool f5, .slice A6 data.length c6, .slice A7 acks.length c7] 58)
  have GC := great_calls (c := 1) (C_one58 ⟨f0, f1, f2, f3, f4, f5, data, acks⟩ hk3 hc6 (Kd.C_below HC62.out BL3) hc7 (Kd.C_below HC72.out BL3)) (Nat.le_refl _)
  have hgr : greatB [⟨f0, f1, f2, f3, f4, f5, data, acks⟩] = decide (data.length > 3000 ∨ acks.length > 100) := by simp [greatB, greatF]
  rw [hgr] at GC
  by_cases hg : data.length > 3000 ∨ acks.length > 100
  · rw [decide_eq_true hg] at GC
    have HGC := Lib.hid GC
    have HBL3 := Lib.hid BL3
    clear hk3 BL3 GC hgr hg k0 k1 k2 k3 k4 k5 k6 k7
    refine HGC.out.mono ?_
    rintro e w3 ⟨rfl, B3⟩
    go_wp2_with fail
    go_ret
    exact ⟨rfl, HB2.out.trans ((HBL3.out.trans (B3.mono HBL3.out.size)).mono HB2.out.size)⟩
  · rw [decide_eq_false hg] at GC
    have HGC := Lib.hid GC
    have hd1 : data.length ≤ 3000 := by omega
    have hd2 : acks.length ≤ 1000 := by omega
    have HBL3 := Lib.hid BL3
    clear hk3 BL3 GC hgr hg k0 k1 k2 k3 k4 k5 k6 k7
    refine HGC.out.mono ?_
    rintro e w3 ⟨rfl, B3⟩
    have B23 := HBL3.out.trans (B3.mono HBL3.out.size)
    have HK3 := Lib.hid (blk_below HK2.out B23)
    have HC63 := Lib.hid (Kd.C_below HC62.out B23)
    have HC73 := Lib.hid (Kd.C_below HC72.out B23)
    have HB3 := Lib.hid (HB2.out.trans (B23.mono HB2.out.size))
    clear B3 B23 HBL3 HGC
    obtain ⟨k0, k1, k2, k3, k4, k5, k6, k7⟩ := cells8 HK3.out
    have EN := enc_any f0 f1 f2 f3 f4 f5 b0 b1 b2 b3 b4 HC63.out hc6 hd1 HC73.out hc7 HBA.out hd2
    obtain ⟨r, hr⟩ : ∃ r, encF okS ackOf ⟨f0, f1, f2, f3, f4, f5, data, acks⟩ = r := ⟨_, rfl⟩
    obtain ⟨l3, r2⟩ := r
    have HR := Lib.hid hr
    rw [hr] at EN
    have HEN := Lib.hid EN
    clear hr EN
    go_wp2_with fail
    refine HEN.out.mono ?_
    rintro e w4 ⟨v3, rfl, R4, B4⟩
    obtain ⟨A3, c3, rfl, hc3, hC3, -⟩ := RB.read R4
    have HK4 := Lib.hid (blk_below HK3.out B4)
    have HC64 := Lib.hid (Kd.C_below HC63.out B4)
    have HC74 := Lib.hid (Kd.C_below HC73.out B4)
    have HB4 := Lib.hid (HB3.out.trans (B4.mono HB3.out.size))
    have HC34 := Lib.hid hC3
    clear HEN B4 R4 hC3 k0 k1 k2 k3 k4 k5 k6 k7
    obtain ⟨k0, k1, k2, k3, k4, k5, k6, k7⟩ := cells8 HK4.out
    have RF := ref_any f0 f1 f2 f3 f4 f5 b0 b1 b2 b3 b4 HC64.out hc6 hd1 HC74.out hc7 HBA.out hd2
    rw [HR.out] at RF
    have HRF := Lib.hid RF
    clear RF
    go_wp2_with fail
    refine HRF.out.mono ?_
    rintro e w5 ⟨v5, rfl, R5, B5⟩
    obtain ⟨A5, c5, rfl, hc5, hC5, -⟩ := RB.read R5
    have HK5 := Lib.hid (blk_below HK4.out B5)
    have HC65 := Lib.hid (Kd.C_below HC64.out B5)
    have HC75 := Lib.hid (Kd.C_below HC74.out B5)
    have HB5 := Lib.hid (HB4.out.trans (B5.mono HB4.out.size))
    have HC3 := Lib.hid (Kd.C_below HC34.out B5)
    have HC5 := Lib.hid hC5
    clear HRF B5 R5 hC5 k0 k1 k2 k3 k4 k5 k6 k7
    go_upto_region 7 with fail
    refine Flow.wp_region_lit [22, 23, 24, 25, 26, 27, 28, 29, 30, 31, 32, 33, 34, 35, 36, 37, 38, 39, 2] (by kernel_rfl) (fun jj W v => match jj with | 0 => v = .int .i64 r2 | 1 => v = .int .i64 r2 | 2 => v = .bool true | 3 => v = .bool true | 4 => v = .slice A3 l3.length c3 | 5 => v = .string (strOfNums l3) | 6 => v = .slice A5 l3.length c5 | 7 => v = .string (strOfNums l3) | 8 => v = .bool true | 9 => v = .bool true | 10 => v = .bool true | 11 => v = .agg #[.int .u64 f0, .int .u64 f1, .int .u64 f2, .int .u64 f3, .int .u64 f4, .bool f5, .slice A6 data.length c6, .slice A7 acks.length c7] | 12 => v = .bool (asksB f0) | 13 => v = .pointer (some ⟨w.heap.size, 0, none⟩) | 14 => v = .int .u64 f0 | 15 => v = .bool (asksB f0) | 16 => v = .bool true | 17 => v = .bool true | 18 => v = .bool true | _ => True) (fun W => Below w5.heap.size w5 W) (by kernel_rfl) (by kernel_rfl) (by kernel_rfl) (by kernel_rfl) (below_drew (Below.refl _ _)) ?_ ?_
    · intro i o ho a W hG hk hdep
      have hi : i < 19 := (Array.getElem?_eq_some_iff.1 ho).1
      rcases (by omega : i = 0 ∨ i = 1 ∨ i = 2 ∨ i = 3 ∨ i = 4 ∨ i = 5 ∨ i = 6 ∨ i = 7 ∨ i = 8 ∨ i = 9 ∨ i = 10 ∨ i = 11 ∨ i = 12 ∨ i = 13 ∨ i = 14 ∨ i = 15 ∨ i = 16 ∨ i = 17 ∨ i = 18) with rfl | rfl | rfl | rfl | rfl | rfl | rfl | rfl | rfl | rfl | rfl | rfl | rfl | rfl | rfl | rfl | rfl | rfl | rfl
      · obtain rfl := Option.some.inj ho
        have e4 : a.tmps.getD 4 undef = .int .i64 r2 := hk 4 (by kernel_rfl)
        refine Flow.op_want rfl rfl (fun K hK => ?_)
        clear hdep hk ho
        go_simp
        exact hK _ _ ⟨_, rfl, hG, rfl, fun _ _ h => h⟩
      · obtain rfl := Option.some.inj ho
        have e6 : a.tmps.getD 6 undef = .int .i64 r2 := hk 6 (by kernel_rfl)
        refine Flow.op_want rfl rfl (fun K hK => ?_)
        clear hdep hk ho
        go_simp
        exact hK _ _ ⟨_, rfl, hG, rfl, fun _ _ h => h⟩
      · obtain rfl := Option.some.inj ho
        have e22 : a.tmps.getD 22 undef = .int .i64 r2 := hdep 0 22 (by kernel_rfl)
        have e23 : a.tmps.getD 23 undef = .int .i64 r2 := hdep 1 23 (by kernel_rfl)
        refine Flow.op_want rfl rfl (fun K hK => ?_)
        clear hdep hk ho
        go_simp
        exact hK _ _ ⟨_, rfl, hG, rfl, fun _ _ h => h⟩
      · obtain rfl := Option.some.inj ho
        have e24 : a.tmps.getD 24 undef = .bool true := hdep 2 24 (by kernel_rfl)
        refine Flow.op_want rfl rfl (fun K hK => ?_)
        clear hdep hk ho
        go_simp
        exact hK _ _ ⟨_, rfl, hG, rfl, fun _ _ h => h⟩
      · obtain rfl := Option.some.inj ho
        have e3 : a.tmps.getD 3 undef = .slice A3 l3.length c3 := hk 3 (by kernel_rfl)
        have e25 : a.tmps.getD 25 undef = .bool true := hdep 3 25 (by kernel_rfl)
        refine Flow.op_want rfl (Flow.wanted_of (d := 25) rfl rfl e25) (fun K hK => ?_)
        clear hdep hk ho
        go_simp
        exact hK _ _ ⟨_, rfl, hG, rfl, fun _ _ h => h⟩
      · obtain rfl := Option.some.inj ho
        have e25 : a.tmps.getD 25 undef = .bool true := hdep 3 25 (by kernel_rfl)
        have e26 : a.tmps.getD 26 undef = .slice A3 l3.length c3 := hdep 4 26 (by kernel_rfl)
        have hs := Kd.C_string Try.underlying30 Try.underlying5 Try.underlying9 (c := c3) (Kd.C_below HC3.out hG)
        refine Flow.op_want rfl (Flow.wanted_of (d := 25) rfl rfl e25) (fun K hK => ?_)
        clear hdep hk ho
        go_simp
        exact hK _ _ ⟨_, rfl, hG, rfl, fun _ _ h => h⟩
      · obtain rfl := Option.some.inj ho
        have e5 : a.tmps.getD 5 undef = .slice A5 l3.length c5 := hk 5 (by kernel_rfl)
        have e25 : a.tmps.getD 25 undef = .bool true := hdep 3 25 (by kernel_rfl)
        refine Flow.op_want rfl (Flow.wanted_of (d := 25) rfl rfl e25) (fun K hK => ?_)
        clear hdep hk ho
        go_simp
        exact hK _ _ ⟨_, rfl, hG, rfl, fun _ _ h => h⟩
      · obtain rfl := Option.some.inj ho
        have e25 : a.tmps.getD 25 undef = .bool true := hdep 3 25 (by kernel_rfl)
        have e28 : a.tmps.getD 28 undef = .slice A5 l3.length c5 := hdep 6 28 (by kernel_rfl)
        have hs := Kd.C_string Try.underlying30 Try.underlying5 Try.underlying9 (c := c5) (Kd.C_below HC5.out hG)
        refine Flow.op_want rfl (Flow.wanted_of (d := 25) rfl rfl e25) (fun K hK => ?_)
        clear hdep hk ho
        go_simp
        exact hK _ _ ⟨_, rfl, hG, rfl, fun _ _ h => h⟩
      · obtain rfl := Option.some.inj ho
        have e25 : a.tmps.getD 25 undef = .bool true := hdep 3 25 (by kernel_rfl)
        have e27 : a.tmps.getD 27 undef = .string (strOfNums l3) := hdep 5 27 (by kernel_rfl)
        have e29 : a.tmps.getD 29 undef = .string (strOfNums l3) := hdep 7 29 (by kernel_rfl)
        refine Flow.op_want rfl (Flow.wanted_of (d := 25) rfl rfl e25) (fun K hK => ?_)
        clear hdep hk ho
        go_simp
        exact hK _ _ ⟨_, rfl, hG, rfl, fun _ _ h => h⟩
      · obtain rfl := Option.some.inj ho
        have e25 : a.tmps.getD 25 undef = .bool true := hdep 3 25 (by kernel_rfl)
        have e30 : a.tmps.getD 30 undef = .bool true := hdep 8 30 (by kernel_rfl)
        refine Flow.op_want rfl rfl (fun K hK => ?_)
        clear hdep hk ho
        go_simp
        exact hK _ _ ⟨_, rfl, hG, rfl, fun _ _ h => h⟩
      · obtain rfl := Option.some.inj ho
        have e31 : a.tmps.getD 31 undef = .bool true := hdep 9 31 (by kernel_rfl)
        refine Flow.op_want rfl rfl (fun K hK => ?_)
        clear hdep hk ho
        go_simp
        exact hK _ _ ⟨_, rfl, hG, rfl, fun _ _ h => h⟩
      · obtain rfl := Option.some.inj ho
        have e1 : a.tmps.getD 1 undef = .pointer (some ⟨w.heap.size, 0, none⟩) := hk 1 (by kernel_rfl)
        have e32 : a.tmps.getD 32 undef = .bool true := hdep 10 32 (by kernel_rfl)
        obtain ⟨k0, k1, k2, k3, k4, k5, k6, k7⟩ := cells8 (blk_below HK5.out hG)
        refine Flow.op_want rfl (Flow.wanted_of (d := 32) rfl rfl e32) (fun K hK => ?_)
        clear hdep hk ho
        go_simp
        exact hK _ _ ⟨_, rfl, hG, rfl, fun _ _ h => h⟩
      · obtain rfl := Option.some.inj ho
        have e32 : a.tmps.getD 32 undef = .bool true := hdep 10 32 (by kernel_rfl)
        have e33 : a.tmps.getD 33 undef = .agg #[.int .u64 f0, .int .u64 f1, .int .u64 f2, .int .u64 f3, .int .u64 f4, .bool f5, .slice A6 data.length c6, .slice A7 acks.length c7] := hdep 11 33 (by kernel_rfl)
        refine Flow.op_want rfl (Flow.wanted_of (d := 32) rfl rfl e32) (fun K hK => ?_)
        clear hdep hk ho
        go_simp
        refine (asks_calls (Kd.C_below HC65.out hG) hc6 (Kd.C_below HC75.out hG) hc7).mono ?_
        rintro e W2 ⟨rfl, BB⟩
        exact hK _ _ ⟨_, rfl, hG.trans (BB.mono hG.size), rfl, fun _ _ h => h⟩
      · obtain rfl := Option.some.inj ho
        have e1 : a.tmps.getD 1 undef = .pointer (some ⟨w.heap.size, 0, none⟩) := hk 1 (by kernel_rfl)
        have e32 : a.tmps.getD 32 undef = .bool true := hdep 10 32 (by kernel_rfl)
        refine Flow.op_want rfl (Flow.wanted_of (d := 32) rfl rfl e32) (fun K hK => ?_)
        clear hdep hk ho
        go_simp
        exact hK _ _ ⟨_, rfl, hG, rfl, fun _ _ h => h⟩
      · obtain rfl := Option.some.inj ho
        have e32 : a.tmps.getD 32 undef = .bool true := hdep 10 32 (by kernel_rfl)
        have e35 : a.tmps.getD 35 undef = .pointer (some ⟨w.heap.size, 0, none⟩) := hdep 13 35 (by kernel_rfl)
        have c := blk_cell (blk_below HK5.out hG) 0
        refine Flow.op_want rfl (Flow.wanted_of (d := 32) rfl rfl e32) (fun K hK => ?_)
        clear hdep hk ho
        go_simp
        exact hK _ _ ⟨_, rfl, hG, rfl, fun _ _ h => h⟩
      · obtain rfl := Option.some.inj ho
        have e32 : a.tmps.getD 32 undef = .bool true := hdep 10 32 (by kernel_rfl)
        have e36 : a.tmps.getD 36 undef = .int .u64 f0 := hdep 14 36 (by kernel_rfl)
        refine Flow.op_want rfl (Flow.wanted_of (d := 32) rfl rfl e32) (fun K hK => ?_)
        clear hdep hk ho
        go_simp
        refine (refAsks_calls _ _).mono ?_
        rintro e W2 ⟨rfl, BB⟩
        exact hK _ _ ⟨_, rfl, hG.trans (BB.mono hG.size), rfl, fun _ _ h => h⟩
      · obtain rfl := Option.some.inj ho
        have e32 : a.tmps.getD 32 undef = .bool true := hdep 10 32 (by kernel_rfl)
        have e34 : a.tmps.getD 34 undef = .bool (asksB f0) := hdep 12 34 (by kernel_rfl)
        have e37 : a.tmps.getD 37 undef = .bool (asksB f0) := hdep 15 37 (by kernel_rfl)
        refine Flow.op_want rfl (Flow.wanted_of (d := 32) rfl rfl e32) (fun K hK => ?_)
        clear hdep hk ho
        go_simp
        exact hK _ _ ⟨_, rfl, hG, rfl, fun _ _ h => h⟩
      · obtain rfl := Option.some.inj ho
        have e32 : a.tmps.getD 32 undef = .bool true := hdep 10 32 (by kernel_rfl)
        have e38 : a.tmps.getD 38 undef = .bool true := hdep 16 38 (by kernel_rfl)
        refine Flow.op_want rfl rfl (fun K hK => ?_)
        clear hdep hk ho
        go_simp
        exact hK _ _ ⟨_, rfl, hG, rfl, fun _ _ h => h⟩
      · obtain rfl := Option.some.inj ho
        have e39 : a.tmps.getD 39 undef = .bool true := hdep 17 39 (by kernel_rfl)
        refine Flow.op_want rfl rfl (fun K hK => ?_)
        clear hdep hk ho
        go_simp
        exact hK _ _ ⟨_, rfl, hG, rfl, fun _ _ h => h⟩
    · intro us w9 hG9 hval
      have e2 : us 2 = .bool true := hval 18 _ 2 rfl rfl
      clear hval
      simp only [Flow.lay, List.set_cons_zero, List.set_cons_succ, e2]
      go_wp2_with fail
      go_ret
      exact ⟨rfl, HB5.out.trans (hG9.mono HB5.out.size)⟩

theorem law {w : World} {x : S58} {cs : List Value} (hK : k58.K w x cs) (hw0 : (Lit.int .u64 x.f0).wf = true) (hw1 : (Lit.int .u64 x.f1).wf = true) (hw2 : (Lit.int .u64 x.f2).wf = true) (hw3 : (Lit.int .u64 x.f3).wf = true) (hw4 : (Lit.int .u64 x.f4).wf = true) (hba : bds x.f7) :
    Calls Try.prog 11 #[.agg cs.toArray] w fun e w' => e = .returned (.bool true) ∧ Below w.heap.size w w' := by
  obtain ⟨A6, c6, A7, c7, rfl, l6, g6, l7, g7⟩ := k58_open hK
  have W : ∀ n : Int, (Lit.int .u64 n).wf = true → Encode.bd n := by
    intro n h
    simp [Lit.wf, IntKind.min, IntKind.max, IntKind.bits, IntKind.signed] at h
    unfold Encode.bd
    omega
  exact walk x.f0 x.f1 x.f2 x.f3 x.f4 x.f5 (W _ hw0) (W _ hw1) (W _ hw2) (W _ hw3) (W _ hw4) g6 l6 g7 l7 hba
end Go.Proofs.Ytmccghadgihbpaa.FrameEncodesWalk

